/-
  Texts laid together, part 5 of 6: laws of a walk over data, contracts of functions, each whole by itself.
-/
import Derived.Test.YthmnhfabkllgpaaDoorMgd
import Derived.KernelRfl
import Derived.WalkKit
import Derived.OwnWalk
import Derived.Test.YthmnhfabkllgpaaDoorMga
import Derived.Shelf.Spec.SlicesInsert
import Derived.Lib.AppendZerosOnto
import Derived.Laws.CopyRow
namespace Go.Proofs.YthmnhfabkllgpaaDoor
open Go.RowKit
set_option linter.unusedVariables false
set_option linter.unusedSimpArgs false
set_option maxRecDepth 20000
theorem bucketK_in {k : Bytes} (h : keyB k = true) : 0 ≤ bucketK k ∧ bucketK k < 16 := by
  rw [bucketK, h]; simp only [if_true]; omega
def bk (k : Bytes) : Nat := (bucketK k).toNat
theorem bk_lt {k : Bytes} (h : keyB k = true) : bk k < 16 := by have := bucketK_in h; unfold bk; omega
def getT (t : Tr) (k : Bytes) : Option Item := if keyB k && mayT t then getK (t.leaf (bk k)) k else none
def chgT (t : Tr) (b : Nat) (ver : Int) (r : List Item × Nat) : Tr × Nat := if r.2 = 0 then ((t.setL b r.1).setV b ver, 0) else (Tr.zero, r.2)
def putT (t : Tr) (x : Item) : Tr × Nat := if !itemB x || !mayT t then (Tr.zero, 1) else if x.ver < t.ver (bk x.key) then (Tr.zero, 18) else chgT t (bk x.key) x.ver (putK (t.leaf (bk x.key)) x)
def delT (t : Tr) (k : Bytes) (ver : Int) : Tr × Nat := if !mayT t || decide (ver < 0) || decide (2147483647 < ver) then (Tr.zero, 1) else if (getT t k).isSome = false then (Tr.zero, 6) else if ver < t.ver (bk k) then (Tr.zero, 18) else chgT t (bk k) ver (delK (t.leaf (bk k)) k)
theorem chk_one (x : Item) : (chk [x]).1 = if itemB x then 0 else 1 := by
  unfold chk
  simp only [List.length_cons, List.length_nil, chkFrom]
  by_cases h : itemB x = true <;> simp [h]
def xC (x : Item) : List AV := x.cells.map fun u => V u
theorem itC_def (x : Item) : xC x = [V (.string ⟨x.key.toArray⟩), V (.int .i64 x.kind), V (.int .i64 x.i), V (.string ⟨x.s.toArray⟩), V (.int .i64 x.ver)] := _root_.id rfl
attribute [local go_sem ↓] str_size pk_tt pk_ff hold_one hold_two gO_some gA_tt gA_tf gA_ft gA_ff cA_true cA_false yP_n yP_r yK_n yK_r yQ_n yQ_r yC_nil yC_tmp yC_cell yo_nil yo_cons yo_none yo_guard yo_guardN ys_move ys_assign ys_pick ys_bin ys_un ys_build ys_buildSlice ys_load ys_nilCheck ys_conv ys_extract ys_fieldAddr ys_field ys_indexAddr ys_index ys_slice ys_len ys_alloc ys_box ys_store ys_call ys_append ys_makeFunc ys_callv yd_nil yd_alloc yd_store yd_move yg_move yd_assign yg_assign yd_pick yg_pick yd_bin yg_bin yd_un yg_un yd_build yg_build yd_buildSlice yg_buildSlice yd_load yg_load yd_nilCheck yg_nilCheck yd_conv yg_conv yd_extract yg_extract yd_fieldAddr yg_fieldAddr yd_field yg_field yd_indexAddr yg_indexAddr yd_index yg_index yd_slice yg_slice yd_len yg_len yd_call yg_call ixA_eq sl_es sl_row sl_nil ap_eq bs_eq bl_eq cv_eq ixV_agg thenA_n thenA_r thenA_x inB_n inB_r inB_x loop_r loop_x dstAt_zero dstAt_succ retP_n retP_r
attribute [local go_sem] hle_nil hle_cons oO_one oO_two oO_three oO_nil r1_r0 r1_r1 r1_r2 r1_r3 ro_OW roA_OW go_some al_some okX_f okX_t tells regOnly cv_cl cap0_V cap0_OP cap0_ptr ixA_s ixA_p ixA_o szOf_one szOf_two ixV_str ixW_some sl_str slE_some apE_nil apE_row bsE_one flE_some pget_zero pget_succ blE_some fil_nil fil_cons filB_some cvE_some cv_str' str_list str_cut str_data cut_all cut_to s_eql s_neq s_add s_lss s_geq s_leq s_gtr lt1 set_some set_none get_cons ev_tmp ev_const ev_func ev_global glob_cons cv_int cv_bool cv_str cv_slice cv_ptr cv_agg one_int one_bool one_str one_slice one_ptr b_add b_sub b_mul b_quo b_rem b_and b_or b_xor b_andNot b_shl b_shr b_eql b_neq b_lss b_leq b_gtr b_geq b_str b_beq b_bne u_not u_neg g_tt g_tf g_ft g_ff c_true c_false ex_tu nth_zero nth_succ nthO_zero nthO_succ l_ptr l_ptrV l_ptrS l_op cP_one pP_one oc_one oc_agg st_op f_ptr f_op fv_agg co_agg co_V co_slice co_OW co_OP co_ptr sure_V sure_slice sure_OW sure_OP sure_ptr sure_agg sc_nil sc_cons ixS ixSW ixSN bsV_nil bsV_cons el_slice el_row el_nil len_str len_slice len_row len_nil asI_none asI_some nil_op nil_ptr ro_int ro_bool ro_str ro_nils ro_slice ro_ptr ro_OP ro_OW ro_agg ro_tu roA_agg roA_V roA_slice roA_OW roA_OP roA_ptr r1_int r1_bool r1_str r1_nils r1_slice r1_ptr r1_OP resA_one resA_two resA_three noT_V noT_agg noT_slice noT_OW noT_OP noT_ptr noT_nil argsT_nil argsT_cons allC_nil allC_cons allC_append hle_nil hle_cons le_nil le_cons tT_V tT_SL tT_ptr tT_OW tT_OP tT_agg tT_TU tA_V tA_SL tA_ptr tA_OW tA_OP tA_agg t1_V t1_SL t1_ptr t1_OW t1_OP tO_mk get_cons beq_self_eq_true Nat.zero_lt_succ Nat.lt_add_one true_or or_true Bool.or_self Nat.zero_add Nat.add_zero Nat.mul_one Int.toNat_natCast Int.natCast_zero Int.natCast_add Int.cast_ofNat_Int or_false false_or or_true true_or Nat.sub_zero Int.natCast_nonneg Int.toNat_zero Bool.true_and Bool.and_true Bool.false_and Bool.and_false Bool.true_or Bool.or_true Bool.false_or Bool.or_false Bool.not_true Bool.not_false Bool.not_not true_and and_true false_and and_false not_true_eq_false not_false_eq_true eq_self decide_true decide_false ne_eq implies_true forall_const true_implies false_implies Bool.true_eq_false Bool.false_eq_true List.map_cons List.map_nil List.all_cons List.all_nil List.length_cons List.length_nil List.length_map List.length_append List.nil_append List.cons_append List.set_cons_zero List.set_cons_succ List.set_nil List.drop_zero List.drop_succ_cons List.drop_nil List.take_zero List.take_succ_cons List.take_nil Option.map_some Option.map_none Option.isSome_some tk_2 tk_3 tk_9 tk_22 tk_23 tk_26 tk_28 tk_30 tk_81 tf_26_0 tf_26_1 tf_28_0 tf_28_1 tf_28_2 tf_30_0 tf_30_1 tf_30_2 tf_54_0 tf_54_1 tf_54_2 tf_54_3 ts_9 ts_22 ts_23 ts_24 ts_49 ts_79 ts_94 ta_9 ta_22 ta_23 ta_24 ta_49 ta_94 tp_26 tp_28 tp_30 tq_22 tq_49 tq_79 ti_3 ti_5 ti_81 tz_28 tz_30 tv_2 tv_3 tu_4 tv_4 tv_5 tu_9 tv_9 tv_33 tv_81 iA_def fl_it allC_it foldA_all lt_it lt_fold lA_def leC_lt1 tC_len zC_len tC_sure tC_lt1 tC_ltA zC_ltA zC_lt1 tC_ro zC_sure zC_ro tC_take zC_take tC_take16 sc_tt sc_zt sc_tz sc_zz add16 tz_T tA_def
set_option maxHeartbeats 400000 in
theorem get_d {G : Gl} (hG : SigG G) (t : Tr) (k : Bytes) (hl : ∀ i, (t.leaf i).length ≤ 1000000) : ACp Tryd.prog G 21 [tA t, sA k] (TU [iA ((getT t k).getD Item.zero), bA (getT t k).isSome]) := by
  have hl' : ∀ i, (t.leaf i).length ≤ 34359738368 := fun i => Nat.le_trans (hl i) (by decide)
  cases hk : keyB k with
  | false =>
    have e : getT t k = none := by rw [getT, hk]; rfl
    refine acp_of_wpC (c := _) Tryd.func21 rfl (by kernel_rfl) [.cell 4 30, .tmp 5] rfl _ Tryd.ntmps21 (Nat.le_of_ble_eq_true rfl) rfl ?_
    repeat' (first | (refine call_pure (cl_keyis _ hG) rfl ?_) | (with_reducible refine aq ?_) | (with_reducible refine yr (by kernel_rfl) (Nat.le_of_ble_eq_true rfl) ?_) | (with_reducible refine yx MIX (by kernel_rfl) (by kernel_rfl) (by kernel_rfl) (Nat.le_of_ble_eq_true rfl) ?_) | (with_reducible refine yc ?_) | (with_reducible refine yseq ?_) | (with_reducible refine awp_block ?_) | (with_reducible refine awp_ret ?_) | (with_reducible refine awp_exit ?_) | (with_reducible refine awp_skip ?_) | (with_reducible refine yr1 (by kernel_rfl) (Nat.le_of_ble_eq_true rfl) ?_) | (with_reducible refine yx1 MIX (by kernel_rfl) (by kernel_rfl) (by kernel_rfl) (Nat.le_of_ble_eq_true rfl) ?_) | (simp only [go_sem, ↓reduceIte, Nat.reduceEqDiff, Nat.reduceAdd, Nat.reduceSub, Nat.reduceMul, Nat.reduceLeDiff, Nat.reduceLT, Int.reduceEq, Int.reduceNe, Int.reduceLT, Int.reduceLE, Int.reduceAdd, Int.reduceSub, Int.reduceMul, Int.reduceNeg, Int.reduceToNat, reduceCtorEq, hk]) | ((with_reducible refine cA_t (by first | with_reducible assumption | (simp only [decide_eq_true_eq, decide_eq_false_iff_not]; first | with_reducible assumption | omega)) (fun h => ?_)) <;> (try rewrite [h]) <;> clear h) | ((with_reducible refine cA_f (by first | with_reducible assumption | (simp only [decide_eq_true_eq, decide_eq_false_iff_not]; first | with_reducible assumption | omega)) (fun h => ?_)) <;> (try rewrite [h]) <;> clear h) | ((with_reducible refine gA_t (by first | with_reducible assumption | (simp only [decide_eq_true_eq, decide_eq_false_iff_not]; first | with_reducible assumption | omega)) (fun h => ?_)) <;> (try rewrite [h]) <;> clear h) | ((with_reducible refine gA_f (by first | with_reducible assumption | (simp only [decide_eq_true_eq, decide_eq_false_iff_not]; first | with_reducible assumption | omega)) (fun h => ?_)) <;> (try rewrite [h]) <;> clear h) | ((with_reducible refine pk_t (by first | with_reducible assumption | (simp only [decide_eq_true_eq, decide_eq_false_iff_not]; first | with_reducible assumption | omega)) (fun h => ?_)) <;> (try rewrite [h]) <;> clear h) | ((with_reducible refine pk_f (by first | with_reducible assumption | (simp only [decide_eq_true_eq, decide_eq_false_iff_not]; first | with_reducible assumption | omega)) (fun h => ?_)) <;> (try rewrite [h]) <;> clear h) | (with_reducible refine pk_if ?_) | ((with_reducible refine cA_split (fun h => ?_) (fun h => ?_)) <;> (try rewrite [h]) <;> (try simp (disch := omega) only [w_i64, w_u64, tdiv_pos, tmod_pos, nth_map, foldA_len, nth_le, nth_tl, nth_tv, set_tl, set_tv] at h) <;> (try simp only [decide_eq_true_eq, decide_eq_false_iff_not, Bool.not_eq_true, Bool.not_eq_false, Bool.not_eq_true', Bool.not_eq_false', not_true_eq_false, not_false_eq_true] at h) <;> (try (exfalso; omega))) | ((with_reducible refine gA_split (fun h => ?_) (fun h => ?_)) <;> (try rewrite [h]) <;> (try simp (disch := omega) only [w_i64, w_u64, tdiv_pos, tmod_pos, nth_map, foldA_len, nth_le, nth_tl, nth_tv, set_tl, set_tv] at h) <;> (try simp only [decide_eq_true_eq, decide_eq_false_iff_not, Bool.not_eq_true, Bool.not_eq_false, Bool.not_eq_true', Bool.not_eq_false', not_true_eq_false, not_false_eq_true] at h) <;> (try (exfalso; omega))) | (simp (disch := omega) only [w_i64, w_u64, tdiv_pos, tmod_pos, nth_map, foldA_len, nth_le, nth_tl, nth_tv, set_tl, set_tv]) | (with_reducible refine And.intro (by first | with_reducible assumption | rfl | omega) ?_) | (with_reducible refine And.intro ?_ ?_))
    rw [e]; rfl
  | true =>
    have hb := bucketK_in hk
    cases hm : mayT t with
    | false =>
      have e : getT t k = none := by rw [getT, hm, Bool.and_false]; rfl
      refine acp_of_wpC (c := _) Tryd.func21 rfl (by kernel_rfl) [.cell 4 30, .tmp 5] rfl _ Tryd.ntmps21 (Nat.le_of_ble_eq_true rfl) rfl ?_
      repeat' (first | (refine call_pure (cl_keyis _ hG) rfl ?_) | (refine call_pure (may_d hG _ hl') (by (simp (disch := omega) only [go_sem, ↓reduceIte, Nat.reduceEqDiff, Nat.reduceAdd, Nat.reduceSub, Nat.reduceMul, Nat.reduceLeDiff, Nat.reduceLT, Int.reduceEq, Int.reduceNe, Int.reduceLT, Int.reduceLE, Int.reduceAdd, Int.reduceSub, Int.reduceMul, Int.reduceNeg, Int.reduceToNat, reduceCtorEq, w_i64, w_u64, tdiv_pos, tmod_pos, nth_map, foldA_len, nth_le, nth_tl, nth_tv, set_tl, set_tv])) ?_) | (with_reducible refine aq ?_) | (with_reducible refine yr (by kernel_rfl) (Nat.le_of_ble_eq_true rfl) ?_) | (with_reducible refine yx MIX (by kernel_rfl) (by kernel_rfl) (by kernel_rfl) (Nat.le_of_ble_eq_true rfl) ?_) | (with_reducible refine yc ?_) | (with_reducible refine yseq ?_) | (with_reducible refine awp_block ?_) | (with_reducible refine awp_ret ?_) | (with_reducible refine awp_exit ?_) | (with_reducible refine awp_skip ?_) | (with_reducible refine yr1 (by kernel_rfl) (Nat.le_of_ble_eq_true rfl) ?_) | (with_reducible refine yx1 MIX (by kernel_rfl) (by kernel_rfl) (by kernel_rfl) (Nat.le_of_ble_eq_true rfl) ?_) | (simp only [go_sem, ↓reduceIte, Nat.reduceEqDiff, Nat.reduceAdd, Nat.reduceSub, Nat.reduceMul, Nat.reduceLeDiff, Nat.reduceLT, Int.reduceEq, Int.reduceNe, Int.reduceLT, Int.reduceLE, Int.reduceAdd, Int.reduceSub, Int.reduceMul, Int.reduceNeg, Int.reduceToNat, reduceCtorEq, hk, hm]) | ((with_reducible refine cA_t (by first | with_reducible assumption | (simp only [decide_eq_true_eq, decide_eq_false_iff_not]; first | with_reducible assumption | omega)) (fun h => ?_)) <;> (try rewrite [h]) <;> clear h) | ((with_reducible refine cA_f (by first | with_reducible assumption | (simp only [decide_eq_true_eq, decide_eq_false_iff_not]; first | with_reducible assumption | omega)) (fun h => ?_)) <;> (try rewrite [h]) <;> clear h) | ((with_reducible refine gA_t (by first | with_reducible assumption | (simp only [decide_eq_true_eq, decide_eq_false_iff_not]; first | with_reducible assumption | omega)) (fun h => ?_)) <;> (try rewrite [h]) <;> clear h) | ((with_reducible refine gA_f (by first | with_reducible assumption | (simp only [decide_eq_true_eq, decide_eq_false_iff_not]; first | with_reducible assumption | omega)) (fun h => ?_)) <;> (try rewrite [h]) <;> clear h) | ((with_reducible refine pk_t (by first | with_reducible assumption | (simp only [decide_eq_true_eq, decide_eq_false_iff_not]; first | with_reducible assumption | omega)) (fun h => ?_)) <;> (try rewrite [h]) <;> clear h) | ((with_reducible refine pk_f (by first | with_reducible assumption | (simp only [decide_eq_true_eq, decide_eq_false_iff_not]; first | with_reducible assumption | omega)) (fun h => ?_)) <;> (try rewrite [h]) <;> clear h) | (with_reducible refine pk_if ?_) | ((with_reducible refine cA_split (fun h => ?_) (fun h => ?_)) <;> (try rewrite [h]) <;> (try simp (disch := omega) only [w_i64, w_u64, tdiv_pos, tmod_pos, nth_map, foldA_len, nth_le, nth_tl, nth_tv, set_tl, set_tv] at h) <;> (try simp only [decide_eq_true_eq, decide_eq_false_iff_not, Bool.not_eq_true, Bool.not_eq_false, Bool.not_eq_true', Bool.not_eq_false', not_true_eq_false, not_false_eq_true] at h) <;> (try (exfalso; omega))) | ((with_reducible refine gA_split (fun h => ?_) (fun h => ?_)) <;> (try rewrite [h]) <;> (try simp (disch := omega) only [w_i64, w_u64, tdiv_pos, tmod_pos, nth_map, foldA_len, nth_le, nth_tl, nth_tv, set_tl, set_tv] at h) <;> (try simp only [decide_eq_true_eq, decide_eq_false_iff_not, Bool.not_eq_true, Bool.not_eq_false, Bool.not_eq_true', Bool.not_eq_false', not_true_eq_false, not_false_eq_true] at h) <;> (try (exfalso; omega))) | (simp (disch := omega) only [w_i64, w_u64, tdiv_pos, tmod_pos, nth_map, foldA_len, nth_le, nth_tl, nth_tv, set_tl, set_tv]) | (with_reducible refine And.intro (by first | with_reducible assumption | rfl | omega) ?_) | (with_reducible refine And.intro ?_ ?_))
      rw [e]; rfl
    | true =>
      have e : getT t k = getK (t.leaf (bucketK k).toNat) k := by rw [getT, hk, hm]; rfl
      refine acp_of_wpC (c := _) Tryd.func21 rfl (by kernel_rfl) [.cell 4 30, .tmp 5] rfl _ Tryd.ntmps21 (Nat.le_of_ble_eq_true rfl) rfl ?_
      repeat' (first | (refine call_pure (cl_keyis _ hG) rfl ?_) | (refine call_pure (may_d hG _ hl') (by (simp (disch := omega) only [go_sem, ↓reduceIte, Nat.reduceEqDiff, Nat.reduceAdd, Nat.reduceSub, Nat.reduceMul, Nat.reduceLeDiff, Nat.reduceLT, Int.reduceEq, Int.reduceNe, Int.reduceLT, Int.reduceLE, Int.reduceAdd, Int.reduceSub, Int.reduceMul, Int.reduceNeg, Int.reduceToNat, reduceCtorEq, w_i64, w_u64, tdiv_pos, tmod_pos, nth_map, foldA_len, nth_le, nth_tl, nth_tv, set_tl, set_tv])) ?_) | (refine call_pure (bucket_d hG _) rfl ?_) | (refine call_pure (cl_get _ _ hG (hl' _)) rfl ?_) | (with_reducible refine aq ?_) | (with_reducible refine yr (by kernel_rfl) (Nat.le_of_ble_eq_true rfl) ?_) | (with_reducible refine yx MIX (by kernel_rfl) (by kernel_rfl) (by kernel_rfl) (Nat.le_of_ble_eq_true rfl) ?_) | (with_reducible refine yc ?_) | (with_reducible refine yseq ?_) | (with_reducible refine awp_block ?_) | (with_reducible refine awp_ret ?_) | (with_reducible refine awp_exit ?_) | (with_reducible refine awp_skip ?_) | (with_reducible refine yr1 (by kernel_rfl) (Nat.le_of_ble_eq_true rfl) ?_) | (with_reducible refine yx1 MIX (by kernel_rfl) (by kernel_rfl) (by kernel_rfl) (Nat.le_of_ble_eq_true rfl) ?_) | (simp only [go_sem, ↓reduceIte, Nat.reduceEqDiff, Nat.reduceAdd, Nat.reduceSub, Nat.reduceMul, Nat.reduceLeDiff, Nat.reduceLT, Int.reduceEq, Int.reduceNe, Int.reduceLT, Int.reduceLE, Int.reduceAdd, Int.reduceSub, Int.reduceMul, Int.reduceNeg, Int.reduceToNat, reduceCtorEq, hk, hm]) | ((with_reducible refine cA_t (by first | with_reducible assumption | (simp only [decide_eq_true_eq, decide_eq_false_iff_not]; first | with_reducible assumption | omega)) (fun h => ?_)) <;> (try rewrite [h]) <;> clear h) | ((with_reducible refine cA_f (by first | with_reducible assumption | (simp only [decide_eq_true_eq, decide_eq_false_iff_not]; first | with_reducible assumption | omega)) (fun h => ?_)) <;> (try rewrite [h]) <;> clear h) | ((with_reducible refine gA_t (by first | with_reducible assumption | (simp only [decide_eq_true_eq, decide_eq_false_iff_not]; first | with_reducible assumption | omega)) (fun h => ?_)) <;> (try rewrite [h]) <;> clear h) | ((with_reducible refine gA_f (by first | with_reducible assumption | (simp only [decide_eq_true_eq, decide_eq_false_iff_not]; first | with_reducible assumption | omega)) (fun h => ?_)) <;> (try rewrite [h]) <;> clear h) | ((with_reducible refine pk_t (by first | with_reducible assumption | (simp only [decide_eq_true_eq, decide_eq_false_iff_not]; first | with_reducible assumption | omega)) (fun h => ?_)) <;> (try rewrite [h]) <;> clear h) | ((with_reducible refine pk_f (by first | with_reducible assumption | (simp only [decide_eq_true_eq, decide_eq_false_iff_not]; first | with_reducible assumption | omega)) (fun h => ?_)) <;> (try rewrite [h]) <;> clear h) | (with_reducible refine pk_if ?_) | ((with_reducible refine cA_split (fun h => ?_) (fun h => ?_)) <;> (try rewrite [h]) <;> (try simp (disch := omega) only [w_i64, w_u64, tdiv_pos, tmod_pos, nth_map, foldA_len, nth_le, nth_tl, nth_tv, set_tl, set_tv] at h) <;> (try simp only [decide_eq_true_eq, decide_eq_false_iff_not, Bool.not_eq_true, Bool.not_eq_false, Bool.not_eq_true', Bool.not_eq_false', not_true_eq_false, not_false_eq_true] at h) <;> (try (exfalso; omega))) | ((with_reducible refine gA_split (fun h => ?_) (fun h => ?_)) <;> (try rewrite [h]) <;> (try simp (disch := omega) only [w_i64, w_u64, tdiv_pos, tmod_pos, nth_map, foldA_len, nth_le, nth_tl, nth_tv, set_tl, set_tv] at h) <;> (try simp only [decide_eq_true_eq, decide_eq_false_iff_not, Bool.not_eq_true, Bool.not_eq_false, Bool.not_eq_true', Bool.not_eq_false', not_true_eq_false, not_false_eq_true] at h) <;> (try (exfalso; omega))) | (simp (disch := omega) only [w_i64, w_u64, tdiv_pos, tmod_pos, nth_map, foldA_len, nth_le, nth_tl, nth_tv, set_tl, set_tv]) | (with_reducible refine And.intro (by first | with_reducible assumption | rfl | omega) ?_) | (with_reducible refine And.intro ?_ ?_))
      rw [e]
set_option maxHeartbeats 400000 in
theorem put1_d {G : Gl} (hG : SigG G) (t : Tr) (l : List Item) (x : Item) (ver : Int) (hl : l.length ≤ 1000000) : AC Tryd.prog G 33 [lA l, OP 1 0] [⟨1, 26, 0, tC t⟩, ⟨1, 30, 0, xC x⟩, ⟨1, 26, 0, zC⟩, ⟨1, 26, 0, tC t⟩, ⟨1, 26, 0, zC⟩] (Is (TU [lA (putK l x).1, nA (putK l x).2]) [⟨1, 26, 0, tC t⟩, ⟨1, 30, 0, xC x⟩, ⟨1, 26, 0, zC⟩, ⟨1, 26, 0, tC t⟩, ⟨1, 26, 0, zC⟩]) := by
  refine ac_of_wpK (c := _) Tryd.func33 rfl (by kernel_rfl) [.tmp 3, .tmp 4] rfl _ Tryd.ntmps33 (Nat.le_of_ble_eq_true rfl) ?_ (Nat.le_of_ble_eq_true rfl) ?_ ?_
  · (simp (disch := omega) only [go_sem, ↓reduceIte, Nat.reduceEqDiff, Nat.reduceAdd, Nat.reduceSub, Nat.reduceMul, Nat.reduceLeDiff, Nat.reduceLT, Int.reduceEq, Int.reduceNe, Int.reduceLT, Int.reduceLE, Int.reduceAdd, Int.reduceSub, Int.reduceMul, Int.reduceNeg, Int.reduceToNat, reduceCtorEq, w_i64, w_u64, tdiv_pos, tmod_pos, nth_map, foldA_len, nth_le, nth_tl, nth_tv, set_tl, set_tv, itC_def])
  · (simp (disch := omega) only [go_sem, ↓reduceIte, Nat.reduceEqDiff, Nat.reduceAdd, Nat.reduceSub, Nat.reduceMul, Nat.reduceLeDiff, Nat.reduceLT, Int.reduceEq, Int.reduceNe, Int.reduceLT, Int.reduceLE, Int.reduceAdd, Int.reduceSub, Int.reduceMul, Int.reduceNeg, Int.reduceToNat, reduceCtorEq, w_i64, w_u64, tdiv_pos, tmod_pos, nth_map, foldA_len, nth_le, nth_tl, nth_tv, set_tl, set_tv])
  repeat' (first | (refine call_pure (cl_put _ x hG hl) rfl ?_) | (with_reducible refine aq ?_) | (with_reducible refine yr (by kernel_rfl) (Nat.le_of_ble_eq_true rfl) ?_) | (with_reducible refine yx MIX (by kernel_rfl) (by kernel_rfl) (by kernel_rfl) (Nat.le_of_ble_eq_true rfl) ?_) | (with_reducible refine yc ?_) | (with_reducible refine yseq ?_) | (with_reducible refine awp_block ?_) | (with_reducible refine awp_ret ?_) | (with_reducible refine awp_exit ?_) | (with_reducible refine awp_skip ?_) | (with_reducible refine yr1 (by kernel_rfl) (Nat.le_of_ble_eq_true rfl) ?_) | (with_reducible refine yx1 MIX (by kernel_rfl) (by kernel_rfl) (by kernel_rfl) (Nat.le_of_ble_eq_true rfl) ?_) | (simp only [go_sem, ↓reduceIte, Nat.reduceEqDiff, Nat.reduceAdd, Nat.reduceSub, Nat.reduceMul, Nat.reduceLeDiff, Nat.reduceLT, Int.reduceEq, Int.reduceNe, Int.reduceLT, Int.reduceLE, Int.reduceAdd, Int.reduceSub, Int.reduceMul, Int.reduceNeg, Int.reduceToNat, reduceCtorEq, itC_def]) | ((with_reducible refine cA_t (by first | with_reducible assumption | (simp only [decide_eq_true_eq, decide_eq_false_iff_not]; first | with_reducible assumption | omega)) (fun h => ?_)) <;> (try rewrite [h]) <;> clear h) | ((with_reducible refine cA_f (by first | with_reducible assumption | (simp only [decide_eq_true_eq, decide_eq_false_iff_not]; first | with_reducible assumption | omega)) (fun h => ?_)) <;> (try rewrite [h]) <;> clear h) | ((with_reducible refine gA_t (by first | with_reducible assumption | (simp only [decide_eq_true_eq, decide_eq_false_iff_not]; first | with_reducible assumption | omega)) (fun h => ?_)) <;> (try rewrite [h]) <;> clear h) | ((with_reducible refine gA_f (by first | with_reducible assumption | (simp only [decide_eq_true_eq, decide_eq_false_iff_not]; first | with_reducible assumption | omega)) (fun h => ?_)) <;> (try rewrite [h]) <;> clear h) | ((with_reducible refine pk_t (by first | with_reducible assumption | (simp only [decide_eq_true_eq, decide_eq_false_iff_not]; first | with_reducible assumption | omega)) (fun h => ?_)) <;> (try rewrite [h]) <;> clear h) | ((with_reducible refine pk_f (by first | with_reducible assumption | (simp only [decide_eq_true_eq, decide_eq_false_iff_not]; first | with_reducible assumption | omega)) (fun h => ?_)) <;> (try rewrite [h]) <;> clear h) | (with_reducible refine pk_if ?_) | ((with_reducible refine cA_split (fun h => ?_) (fun h => ?_)) <;> (try rewrite [h]) <;> (try simp (disch := omega) only [w_i64, w_u64, tdiv_pos, tmod_pos, nth_map, foldA_len, nth_le, nth_tl, nth_tv, set_tl, set_tv] at h) <;> (try simp only [decide_eq_true_eq, decide_eq_false_iff_not, Bool.not_eq_true, Bool.not_eq_false, Bool.not_eq_true', Bool.not_eq_false', not_true_eq_false, not_false_eq_true] at h) <;> (try (exfalso; omega))) | ((with_reducible refine gA_split (fun h => ?_) (fun h => ?_)) <;> (try rewrite [h]) <;> (try simp (disch := omega) only [w_i64, w_u64, tdiv_pos, tmod_pos, nth_map, foldA_len, nth_le, nth_tl, nth_tv, set_tl, set_tv] at h) <;> (try simp only [decide_eq_true_eq, decide_eq_false_iff_not, Bool.not_eq_true, Bool.not_eq_false, Bool.not_eq_true', Bool.not_eq_false', not_true_eq_false, not_false_eq_true] at h) <;> (try (exfalso; omega))) | (simp (disch := omega) only [w_i64, w_u64, tdiv_pos, tmod_pos, nth_map, foldA_len, nth_le, nth_tl, nth_tv, set_tl, set_tv]) | (with_reducible refine And.intro (by first | with_reducible assumption | rfl | omega) ?_) | (with_reducible refine And.intro ?_ ?_))
set_option maxHeartbeats 400000 in
theorem chg1_d {G : Gl} (hG : SigG G) (t : Tr) (x : Item) (B ver : Int) (h0 : 0 ≤ B) (h1 : B < 16) (hl : ∀ i, (t.leaf i).length ≤ 1000000) : AC Tryd.prog G 32 [tA t, nA B, nA ver, CL (.func 33) 0 [OP 1 0]] [⟨1, 26, 0, tC t⟩, ⟨1, 30, 0, xC x⟩, ⟨1, 26, 0, zC⟩]
    (Is (TU [tA (chgT t B.toNat ver (putK (t.leaf B.toNat) x)).1, nA (chgT t B.toNat ver (putK (t.leaf B.toNat) x)).2]) [⟨1, 26, 0, tC t⟩, ⟨1, 30, 0, xC x⟩, ⟨1, 26, 0, zC⟩]) := by
  refine ac_of_wpK (c := _) Tryd.func32 rfl (by kernel_rfl) [.cell 8 26, .tmp 9] rfl _ Tryd.ntmps32 (Nat.le_of_ble_eq_true rfl) ?_ (Nat.le_of_ble_eq_true rfl) ?_ ?_
  · (simp (disch := omega) only [go_sem, ↓reduceIte, Nat.reduceEqDiff, Nat.reduceAdd, Nat.reduceSub, Nat.reduceMul, Nat.reduceLeDiff, Nat.reduceLT, Int.reduceEq, Int.reduceNe, Int.reduceLT, Int.reduceLE, Int.reduceAdd, Int.reduceSub, Int.reduceMul, Int.reduceNeg, Int.reduceToNat, reduceCtorEq, w_i64, w_u64, tdiv_pos, tmod_pos, nth_map, foldA_len, nth_le, nth_tl, nth_tv, set_tl, set_tv, itC_def])
  · (simp (disch := omega) only [go_sem, ↓reduceIte, Nat.reduceEqDiff, Nat.reduceAdd, Nat.reduceSub, Nat.reduceMul, Nat.reduceLeDiff, Nat.reduceLT, Int.reduceEq, Int.reduceNe, Int.reduceLT, Int.reduceLE, Int.reduceAdd, Int.reduceSub, Int.reduceMul, Int.reduceNeg, Int.reduceToNat, reduceCtorEq, w_i64, w_u64, tdiv_pos, tmod_pos, nth_map, foldA_len, nth_le, nth_tl, nth_tv, set_tl, set_tv])
  repeat' (first | (refine call_keep (put1_d hG _ _ x ver (hl _)) ?_) | (with_reducible refine aq ?_) | (with_reducible refine yr (by kernel_rfl) (Nat.le_of_ble_eq_true rfl) ?_) | (with_reducible refine yx MIX (by kernel_rfl) (by kernel_rfl) (by kernel_rfl) (Nat.le_of_ble_eq_true rfl) ?_) | (with_reducible refine yc ?_) | (with_reducible refine yseq ?_) | (with_reducible refine awp_block ?_) | (with_reducible refine awp_ret ?_) | (with_reducible refine awp_exit ?_) | (with_reducible refine awp_skip ?_) | (with_reducible refine yr1 (by kernel_rfl) (Nat.le_of_ble_eq_true rfl) ?_) | (with_reducible refine yx1 MIX (by kernel_rfl) (by kernel_rfl) (by kernel_rfl) (Nat.le_of_ble_eq_true rfl) ?_) | (simp only [go_sem, ↓reduceIte, Nat.reduceEqDiff, Nat.reduceAdd, Nat.reduceSub, Nat.reduceMul, Nat.reduceLeDiff, Nat.reduceLT, Int.reduceEq, Int.reduceNe, Int.reduceLT, Int.reduceLE, Int.reduceAdd, Int.reduceSub, Int.reduceMul, Int.reduceNeg, Int.reduceToNat, reduceCtorEq]) | ((with_reducible refine cA_t (by first | with_reducible assumption | (simp only [decide_eq_true_eq, decide_eq_false_iff_not]; first | with_reducible assumption | omega)) (fun h => ?_)) <;> (try rewrite [h]) <;> clear h) | ((with_reducible refine cA_f (by first | with_reducible assumption | (simp only [decide_eq_true_eq, decide_eq_false_iff_not]; first | with_reducible assumption | omega)) (fun h => ?_)) <;> (try rewrite [h]) <;> clear h) | ((with_reducible refine gA_t (by first | with_reducible assumption | (simp only [decide_eq_true_eq, decide_eq_false_iff_not]; first | with_reducible assumption | omega)) (fun h => ?_)) <;> (try rewrite [h]) <;> clear h) | ((with_reducible refine gA_f (by first | with_reducible assumption | (simp only [decide_eq_true_eq, decide_eq_false_iff_not]; first | with_reducible assumption | omega)) (fun h => ?_)) <;> (try rewrite [h]) <;> clear h) | ((with_reducible refine pk_t (by first | with_reducible assumption | (simp only [decide_eq_true_eq, decide_eq_false_iff_not]; first | with_reducible assumption | omega)) (fun h => ?_)) <;> (try rewrite [h]) <;> clear h) | ((with_reducible refine pk_f (by first | with_reducible assumption | (simp only [decide_eq_true_eq, decide_eq_false_iff_not]; first | with_reducible assumption | omega)) (fun h => ?_)) <;> (try rewrite [h]) <;> clear h) | (with_reducible refine pk_if ?_) | ((with_reducible refine cA_split (fun h => ?_) (fun h => ?_)) <;> (try rewrite [h]) <;> (try simp (disch := omega) only [w_i64, w_u64, tdiv_pos, tmod_pos, nth_map, foldA_len, nth_le, nth_tl, nth_tv, set_tl, set_tv] at h) <;> (try simp only [decide_eq_true_eq, decide_eq_false_iff_not, Bool.not_eq_true, Bool.not_eq_false, Bool.not_eq_true', Bool.not_eq_false', not_true_eq_false, not_false_eq_true] at h) <;> (try (exfalso; omega))) | ((with_reducible refine gA_split (fun h => ?_) (fun h => ?_)) <;> (try rewrite [h]) <;> (try simp (disch := omega) only [w_i64, w_u64, tdiv_pos, tmod_pos, nth_map, foldA_len, nth_le, nth_tl, nth_tv, set_tl, set_tv] at h) <;> (try simp only [decide_eq_true_eq, decide_eq_false_iff_not, Bool.not_eq_true, Bool.not_eq_false, Bool.not_eq_true', Bool.not_eq_false', not_true_eq_false, not_false_eq_true] at h) <;> (try (exfalso; omega))) | (simp (disch := omega) only [w_i64, w_u64, tdiv_pos, tmod_pos, nth_map, foldA_len, nth_le, nth_tl, nth_tv, set_tl, set_tv]) | (with_reducible refine And.intro (by first | with_reducible assumption | rfl | omega) ?_) | (with_reducible refine And.intro ?_ ?_))
  · rw [chgT, if_neg (by omega)]
  · rw [chgT, if_pos (by omega)]; rfl
theorem item_key {x : Item} (h : itemB x = true) : keyB x.key = true := by
  simp only [itemB, Bool.and_eq_true] at h
  exact h.1.1.1.1
set_option maxHeartbeats 400000 in
theorem put_d {G : Gl} (hG : SigG G) (t : Tr) (x : Item) (hl : ∀ i, (t.leaf i).length ≤ 1000000) : ACp Tryd.prog G 9 [tA t, iA x] (TU [tA (putT t x).1, nA (putT t x).2]) := by
  have hl' : ∀ i, (t.leaf i).length ≤ 34359738368 := fun i => Nat.le_trans (hl i) (by decide)
  cases hi : itemB x with
  | false =>
    have e : putT t x = (Tr.zero, 1) := by rw [putT, hi]; rfl
    have ec : (chk [x]).1 = 1 := by rw [chk_one, hi]; rfl
    refine acp_of_wpC (c := _) Tryd.func9 rfl (by kernel_rfl) [.cell 4 26, .tmp 5] rfl _ Tryd.ntmps9 (Nat.le_of_ble_eq_true rfl) rfl ?_
    repeat' (first | (refine call_pure (cl_check [x] hG (Nat.le_of_ble_eq_true rfl)) rfl ?_) | (with_reducible refine aq ?_) | (with_reducible refine yr (by kernel_rfl) (Nat.le_of_ble_eq_true rfl) ?_) | (with_reducible refine yx MIX (by kernel_rfl) (by kernel_rfl) (by kernel_rfl) (Nat.le_of_ble_eq_true rfl) ?_) | (with_reducible refine yc ?_) | (with_reducible refine yseq ?_) | (with_reducible refine awp_block ?_) | (with_reducible refine awp_ret ?_) | (with_reducible refine awp_exit ?_) | (with_reducible refine awp_skip ?_) | (with_reducible refine yr1 (by kernel_rfl) (Nat.le_of_ble_eq_true rfl) ?_) | (with_reducible refine yx1 MIX (by kernel_rfl) (by kernel_rfl) (by kernel_rfl) (Nat.le_of_ble_eq_true rfl) ?_) | (simp only [go_sem, ↓reduceIte, Nat.reduceEqDiff, Nat.reduceAdd, Nat.reduceSub, Nat.reduceMul, Nat.reduceLeDiff, Nat.reduceLT, Int.reduceEq, Int.reduceNe, Int.reduceLT, Int.reduceLE, Int.reduceAdd, Int.reduceSub, Int.reduceMul, Int.reduceNeg, Int.reduceToNat, reduceCtorEq, ec, e]) | ((with_reducible refine cA_t (by first | with_reducible assumption | (simp only [decide_eq_true_eq, decide_eq_false_iff_not]; first | with_reducible assumption | omega)) (fun h => ?_)) <;> (try rewrite [h]) <;> clear h) | ((with_reducible refine cA_f (by first | with_reducible assumption | (simp only [decide_eq_true_eq, decide_eq_false_iff_not]; first | with_reducible assumption | omega)) (fun h => ?_)) <;> (try rewrite [h]) <;> clear h) | ((with_reducible refine gA_t (by first | with_reducible assumption | (simp only [decide_eq_true_eq, decide_eq_false_iff_not]; first | with_reducible assumption | omega)) (fun h => ?_)) <;> (try rewrite [h]) <;> clear h) | ((with_reducible refine gA_f (by first | with_reducible assumption | (simp only [decide_eq_true_eq, decide_eq_false_iff_not]; first | with_reducible assumption | omega)) (fun h => ?_)) <;> (try rewrite [h]) <;> clear h) | ((with_reducible refine pk_t (by first | with_reducible assumption | (simp only [decide_eq_true_eq, decide_eq_false_iff_not]; first | with_reducible assumption | omega)) (fun h => ?_)) <;> (try rewrite [h]) <;> clear h) | ((with_reducible refine pk_f (by first | with_reducible assumption | (simp only [decide_eq_true_eq, decide_eq_false_iff_not]; first | with_reducible assumption | omega)) (fun h => ?_)) <;> (try rewrite [h]) <;> clear h) | (with_reducible refine pk_if ?_) | ((with_reducible refine cA_split (fun h => ?_) (fun h => ?_)) <;> (try rewrite [h]) <;> (try simp (disch := omega) only [w_i64, w_u64, tdiv_pos, tmod_pos, nth_map, foldA_len, nth_le, nth_tl, nth_tv, set_tl, set_tv] at h) <;> (try simp only [decide_eq_true_eq, decide_eq_false_iff_not, Bool.not_eq_true, Bool.not_eq_false, Bool.not_eq_true', Bool.not_eq_false', not_true_eq_false, not_false_eq_true] at h) <;> (try (exfalso; omega))) | ((with_reducible refine gA_split (fun h => ?_) (fun h => ?_)) <;> (try rewrite [h]) <;> (try simp (disch := omega) only [w_i64, w_u64, tdiv_pos, tmod_pos, nth_map, foldA_len, nth_le, nth_tl, nth_tv, set_tl, set_tv] at h) <;> (try simp only [decide_eq_true_eq, decide_eq_false_iff_not, Bool.not_eq_true, Bool.not_eq_false, Bool.not_eq_true', Bool.not_eq_false', not_true_eq_false, not_false_eq_true] at h) <;> (try (exfalso; omega))) | (simp (disch := omega) only [w_i64, w_u64, tdiv_pos, tmod_pos, nth_map, foldA_len, nth_le, nth_tl, nth_tv, set_tl, set_tv]) | (with_reducible refine And.intro (by first | with_reducible assumption | rfl | omega) ?_) | (with_reducible refine And.intro ?_ ?_))
  | true =>
    have hb := bucketK_in (item_key hi)
    have ec : (chk [x]).1 = 0 := by rw [chk_one, hi]; rfl
    cases hm : mayT t with
    | false =>
      have e : putT t x = (Tr.zero, 1) := by rw [putT, hm, Bool.not_false, Bool.or_true]; rfl
      refine acp_of_wpC (c := _) Tryd.func9 rfl (by kernel_rfl) [.cell 4 26, .tmp 5] rfl _ Tryd.ntmps9 (Nat.le_of_ble_eq_true rfl) rfl ?_
      repeat' (first | (refine call_pure (cl_check [x] hG (Nat.le_of_ble_eq_true rfl)) rfl ?_) | (refine call_pure (may_d hG _ hl') (by (simp (disch := omega) only [go_sem, ↓reduceIte, Nat.reduceEqDiff, Nat.reduceAdd, Nat.reduceSub, Nat.reduceMul, Nat.reduceLeDiff, Nat.reduceLT, Int.reduceEq, Int.reduceNe, Int.reduceLT, Int.reduceLE, Int.reduceAdd, Int.reduceSub, Int.reduceMul, Int.reduceNeg, Int.reduceToNat, reduceCtorEq, w_i64, w_u64, tdiv_pos, tmod_pos, nth_map, foldA_len, nth_le, nth_tl, nth_tv, set_tl, set_tv])) ?_) | (with_reducible refine aq ?_) | (with_reducible refine yr (by kernel_rfl) (Nat.le_of_ble_eq_true rfl) ?_) | (with_reducible refine yx MIX (by kernel_rfl) (by kernel_rfl) (by kernel_rfl) (Nat.le_of_ble_eq_true rfl) ?_) | (with_reducible refine yc ?_) | (with_reducible refine yseq ?_) | (with_reducible refine awp_block ?_) | (with_reducible refine awp_ret ?_) | (with_reducible refine awp_exit ?_) | (with_reducible refine awp_skip ?_) | (with_reducible refine yr1 (by kernel_rfl) (Nat.le_of_ble_eq_true rfl) ?_) | (with_reducible refine yx1 MIX (by kernel_rfl) (by kernel_rfl) (by kernel_rfl) (Nat.le_of_ble_eq_true rfl) ?_) | (simp only [go_sem, ↓reduceIte, Nat.reduceEqDiff, Nat.reduceAdd, Nat.reduceSub, Nat.reduceMul, Nat.reduceLeDiff, Nat.reduceLT, Int.reduceEq, Int.reduceNe, Int.reduceLT, Int.reduceLE, Int.reduceAdd, Int.reduceSub, Int.reduceMul, Int.reduceNeg, Int.reduceToNat, reduceCtorEq, ec, e, hm]) | ((with_reducible refine cA_t (by first | with_reducible assumption | (simp only [decide_eq_true_eq, decide_eq_false_iff_not]; first | with_reducible assumption | omega)) (fun h => ?_)) <;> (try rewrite [h]) <;> clear h) | ((with_reducible refine cA_f (by first | with_reducible assumption | (simp only [decide_eq_true_eq, decide_eq_false_iff_not]; first | with_reducible assumption | omega)) (fun h => ?_)) <;> (try rewrite [h]) <;> clear h) | ((with_reducible refine gA_t (by first | with_reducible assumption | (simp only [decide_eq_true_eq, decide_eq_false_iff_not]; first | with_reducible assumption | omega)) (fun h => ?_)) <;> (try rewrite [h]) <;> clear h) | ((with_reducible refine gA_f (by first | with_reducible assumption | (simp only [decide_eq_true_eq, decide_eq_false_iff_not]; first | with_reducible assumption | omega)) (fun h => ?_)) <;> (try rewrite [h]) <;> clear h) | ((with_reducible refine pk_t (by first | with_reducible assumption | (simp only [decide_eq_true_eq, decide_eq_false_iff_not]; first | with_reducible assumption | omega)) (fun h => ?_)) <;> (try rewrite [h]) <;> clear h) | ((with_reducible refine pk_f (by first | with_reducible assumption | (simp only [decide_eq_true_eq, decide_eq_false_iff_not]; first | with_reducible assumption | omega)) (fun h => ?_)) <;> (try rewrite [h]) <;> clear h) | (with_reducible refine pk_if ?_) | ((with_reducible refine cA_split (fun h => ?_) (fun h => ?_)) <;> (try rewrite [h]) <;> (try simp (disch := omega) only [w_i64, w_u64, tdiv_pos, tmod_pos, nth_map, foldA_len, nth_le, nth_tl, nth_tv, set_tl, set_tv] at h) <;> (try simp only [decide_eq_true_eq, decide_eq_false_iff_not, Bool.not_eq_true, Bool.not_eq_false, Bool.not_eq_true', Bool.not_eq_false', not_true_eq_false, not_false_eq_true] at h) <;> (try (exfalso; omega))) | ((with_reducible refine gA_split (fun h => ?_) (fun h => ?_)) <;> (try rewrite [h]) <;> (try simp (disch := omega) only [w_i64, w_u64, tdiv_pos, tmod_pos, nth_map, foldA_len, nth_le, nth_tl, nth_tv, set_tl, set_tv] at h) <;> (try simp only [decide_eq_true_eq, decide_eq_false_iff_not, Bool.not_eq_true, Bool.not_eq_false, Bool.not_eq_true', Bool.not_eq_false', not_true_eq_false, not_false_eq_true] at h) <;> (try (exfalso; omega))) | (simp (disch := omega) only [w_i64, w_u64, tdiv_pos, tmod_pos, nth_map, foldA_len, nth_le, nth_tl, nth_tv, set_tl, set_tv]) | (with_reducible refine And.intro (by first | with_reducible assumption | rfl | omega) ?_) | (with_reducible refine And.intro ?_ ?_))
    | true =>
      have e : putT t x = if x.ver < t.ver (bucketK x.key).toNat then (Tr.zero, 18) else chgT t (bucketK x.key).toNat x.ver (putK (t.leaf (bucketK x.key).toNat) x) := by rw [putT, hi, hm]; rfl
      refine acp_of_wpC (c := _) Tryd.func9 rfl (by kernel_rfl) [.cell 4 26, .tmp 5] rfl _ Tryd.ntmps9 (Nat.le_of_ble_eq_true rfl) rfl ?_
      repeat' (first | (refine call_pure (cl_check [x] hG (Nat.le_of_ble_eq_true rfl)) rfl ?_) | (refine call_pure (may_d hG _ hl') (by (simp (disch := omega) only [go_sem, ↓reduceIte, Nat.reduceEqDiff, Nat.reduceAdd, Nat.reduceSub, Nat.reduceMul, Nat.reduceLeDiff, Nat.reduceLT, Int.reduceEq, Int.reduceNe, Int.reduceLT, Int.reduceLE, Int.reduceAdd, Int.reduceSub, Int.reduceMul, Int.reduceNeg, Int.reduceToNat, reduceCtorEq, w_i64, w_u64, tdiv_pos, tmod_pos, nth_map, foldA_len, nth_le, nth_tl, nth_tv, set_tl, set_tv])) ?_) | (refine call_pure (bucket_d hG _) rfl ?_) | (refine call_keep (chg1_d hG t x _ _ (by omega) (by omega) hl) ?_) | (with_reducible refine aq ?_) | (with_reducible refine yr (by kernel_rfl) (Nat.le_of_ble_eq_true rfl) ?_) | (with_reducible refine yx MIX (by kernel_rfl) (by kernel_rfl) (by kernel_rfl) (Nat.le_of_ble_eq_true rfl) ?_) | (with_reducible refine yc ?_) | (with_reducible refine yseq ?_) | (with_reducible refine awp_block ?_) | (with_reducible refine awp_ret ?_) | (with_reducible refine awp_exit ?_) | (with_reducible refine awp_skip ?_) | (with_reducible refine yr1 (by kernel_rfl) (Nat.le_of_ble_eq_true rfl) ?_) | (with_reducible refine yx1 MIX (by kernel_rfl) (by kernel_rfl) (by kernel_rfl) (Nat.le_of_ble_eq_true rfl) ?_) | (simp only [go_sem, ↓reduceIte, Nat.reduceEqDiff, Nat.reduceAdd, Nat.reduceSub, Nat.reduceMul, Nat.reduceLeDiff, Nat.reduceLT, Int.reduceEq, Int.reduceNe, Int.reduceLT, Int.reduceLE, Int.reduceAdd, Int.reduceSub, Int.reduceMul, Int.reduceNeg, Int.reduceToNat, reduceCtorEq, ec, hm]) | ((with_reducible refine cA_t (by first | with_reducible assumption | (simp only [decide_eq_true_eq, decide_eq_false_iff_not]; first | with_reducible assumption | omega)) (fun h => ?_)) <;> (try rewrite [h]) <;> clear h) | ((with_reducible refine cA_f (by first | with_reducible assumption | (simp only [decide_eq_true_eq, decide_eq_false_iff_not]; first | with_reducible assumption | omega)) (fun h => ?_)) <;> (try rewrite [h]) <;> clear h) | ((with_reducible refine gA_t (by first | with_reducible assumption | (simp only [decide_eq_true_eq, decide_eq_false_iff_not]; first | with_reducible assumption | omega)) (fun h => ?_)) <;> (try rewrite [h]) <;> clear h) | ((with_reducible refine gA_f (by first | with_reducible assumption | (simp only [decide_eq_true_eq, decide_eq_false_iff_not]; first | with_reducible assumption | omega)) (fun h => ?_)) <;> (try rewrite [h]) <;> clear h) | ((with_reducible refine pk_t (by first | with_reducible assumption | (simp only [decide_eq_true_eq, decide_eq_false_iff_not]; first | with_reducible assumption | omega)) (fun h => ?_)) <;> (try rewrite [h]) <;> clear h) | ((with_reducible refine pk_f (by first | with_reducible assumption | (simp only [decide_eq_true_eq, decide_eq_false_iff_not]; first | with_reducible assumption | omega)) (fun h => ?_)) <;> (try rewrite [h]) <;> clear h) | (with_reducible refine pk_if ?_) | ((with_reducible refine cA_split (fun h => ?_) (fun h => ?_)) <;> (try rewrite [h]) <;> (try simp (disch := omega) only [w_i64, w_u64, tdiv_pos, tmod_pos, nth_map, foldA_len, nth_le, nth_tl, nth_tv, set_tl, set_tv] at h) <;> (try simp only [decide_eq_true_eq, decide_eq_false_iff_not, Bool.not_eq_true, Bool.not_eq_false, Bool.not_eq_true', Bool.not_eq_false', not_true_eq_false, not_false_eq_true] at h) <;> (try (exfalso; omega))) | ((with_reducible refine gA_split (fun h => ?_) (fun h => ?_)) <;> (try rewrite [h]) <;> (try simp (disch := omega) only [w_i64, w_u64, tdiv_pos, tmod_pos, nth_map, foldA_len, nth_le, nth_tl, nth_tv, set_tl, set_tv] at h) <;> (try simp only [decide_eq_true_eq, decide_eq_false_iff_not, Bool.not_eq_true, Bool.not_eq_false, Bool.not_eq_true', Bool.not_eq_false', not_true_eq_false, not_false_eq_true] at h) <;> (try (exfalso; omega))) | (simp (disch := omega) only [w_i64, w_u64, tdiv_pos, tmod_pos, nth_map, foldA_len, nth_le, nth_tl, nth_tv, set_tl, set_tv]) | (with_reducible refine And.intro (by first | with_reducible assumption | rfl | omega) ?_) | (with_reducible refine And.intro ?_ ?_))
      · rw [e, if_pos (by omega)]; try rfl
      · rw [e, if_neg (by omega)]; try rfl
end Go.Proofs.YthmnhfabkllgpaaDoor

namespace Go.Proofs.YthmnhfabkllgpaaDoor
open Go.RowKit
set_option linter.unusedVariables false
set_option linter.unusedSimpArgs false
set_option maxRecDepth 20000
theorem getT_key {t : Tr} {k : Bytes} (h : (getT t k).isSome = true) : keyB k = true := by
  cases hk : keyB k with
  | true => rfl
  | false => rw [getT, hk] at h; cases h
attribute [local go_sem ↓] str_size pk_tt pk_ff hold_one hold_two gO_some gA_tt gA_tf gA_ft gA_ff cA_true cA_false yP_n yP_r yK_n yK_r yQ_n yQ_r yC_nil yC_tmp yC_cell yo_nil yo_cons yo_none yo_guard yo_guardN ys_move ys_assign ys_pick ys_bin ys_un ys_build ys_buildSlice ys_load ys_nilCheck ys_conv ys_extract ys_fieldAddr ys_field ys_indexAddr ys_index ys_slice ys_len ys_alloc ys_box ys_store ys_call ys_append ys_makeFunc ys_callv yd_nil yd_alloc yd_store yd_move yg_move yd_assign yg_assign yd_pick yg_pick yd_bin yg_bin yd_un yg_un yd_build yg_build yd_buildSlice yg_buildSlice yd_load yg_load yd_nilCheck yg_nilCheck yd_conv yg_conv yd_extract yg_extract yd_fieldAddr yg_fieldAddr yd_field yg_field yd_indexAddr yg_indexAddr yd_index yg_index yd_slice yg_slice yd_len yg_len yd_call yg_call ixA_eq sl_es sl_row sl_nil ap_eq bs_eq bl_eq cv_eq ixV_agg thenA_n thenA_r thenA_x inB_n inB_r inB_x loop_r loop_x dstAt_zero dstAt_succ retP_n retP_r
attribute [local go_sem] hle_nil hle_cons oO_one oO_two oO_three oO_nil r1_r0 r1_r1 r1_r2 r1_r3 ro_OW roA_OW go_some al_some okX_f okX_t tells regOnly cv_cl cap0_V cap0_OP cap0_ptr ixA_s ixA_p ixA_o szOf_one szOf_two ixV_str ixW_some sl_str slE_some apE_nil apE_row bsE_one flE_some pget_zero pget_succ blE_some fil_nil fil_cons filB_some cvE_some cv_str' str_list str_cut str_data cut_all cut_to s_eql s_neq s_add s_lss s_geq s_leq s_gtr lt1 set_some set_none get_cons ev_tmp ev_const ev_func ev_global glob_cons cv_int cv_bool cv_str cv_slice cv_ptr cv_agg one_int one_bool one_str one_slice one_ptr b_add b_sub b_mul b_quo b_rem b_and b_or b_xor b_andNot b_shl b_shr b_eql b_neq b_lss b_leq b_gtr b_geq b_str b_beq b_bne u_not u_neg g_tt g_tf g_ft g_ff c_true c_false ex_tu nth_zero nth_succ nthO_zero nthO_succ l_ptr l_ptrV l_ptrS l_op cP_one pP_one oc_one oc_agg st_op f_ptr f_op fv_agg co_agg co_V co_slice co_OW co_OP co_ptr sure_V sure_slice sure_OW sure_OP sure_ptr sure_agg sc_nil sc_cons ixS ixSW ixSN bsV_nil bsV_cons el_slice el_row el_nil len_str len_slice len_row len_nil asI_none asI_some nil_op nil_ptr ro_int ro_bool ro_str ro_nils ro_slice ro_ptr ro_OP ro_OW ro_agg ro_tu roA_agg roA_V roA_slice roA_OW roA_OP roA_ptr r1_int r1_bool r1_str r1_nils r1_slice r1_ptr r1_OP resA_one resA_two resA_three noT_V noT_agg noT_slice noT_OW noT_OP noT_ptr noT_nil argsT_nil argsT_cons allC_nil allC_cons allC_append hle_nil hle_cons le_nil le_cons tT_V tT_SL tT_ptr tT_OW tT_OP tT_agg tT_TU tA_V tA_SL tA_ptr tA_OW tA_OP tA_agg t1_V t1_SL t1_ptr t1_OW t1_OP tO_mk get_cons beq_self_eq_true Nat.zero_lt_succ Nat.lt_add_one true_or or_true Bool.or_self Nat.zero_add Nat.add_zero Nat.mul_one Int.toNat_natCast Int.natCast_zero Int.natCast_add Int.cast_ofNat_Int or_false false_or or_true true_or Nat.sub_zero Int.natCast_nonneg Int.toNat_zero Bool.true_and Bool.and_true Bool.false_and Bool.and_false Bool.true_or Bool.or_true Bool.false_or Bool.or_false Bool.not_true Bool.not_false Bool.not_not true_and and_true false_and and_false not_true_eq_false not_false_eq_true eq_self decide_true decide_false ne_eq implies_true forall_const true_implies false_implies Bool.true_eq_false Bool.false_eq_true List.map_cons List.map_nil List.all_cons List.all_nil List.length_cons List.length_nil List.length_map List.length_append List.nil_append List.cons_append List.set_cons_zero List.set_cons_succ List.set_nil List.drop_zero List.drop_succ_cons List.drop_nil List.take_zero List.take_succ_cons List.take_nil Option.map_some Option.map_none Option.isSome_some tk_2 tk_3 tk_9 tk_22 tk_23 tk_26 tk_28 tk_30 tk_81 tf_26_0 tf_26_1 tf_28_0 tf_28_1 tf_28_2 tf_30_0 tf_30_1 tf_30_2 tf_54_0 tf_54_1 tf_54_2 tf_54_3 ts_9 ts_22 ts_23 ts_24 ts_49 ts_79 ts_94 ta_9 ta_22 ta_23 ta_24 ta_49 ta_94 tp_26 tp_28 tp_30 tq_22 tq_49 tq_79 ti_3 ti_5 ti_81 tz_28 tz_30 tv_2 tv_3 tu_4 tv_4 tv_5 tu_9 tv_9 tv_33 tv_81 iA_def fl_it allC_it foldA_all lt_it lt_fold lA_def leC_lt1 tC_len zC_len tC_sure tC_lt1 tC_ltA zC_ltA zC_lt1 tC_ro zC_sure zC_ro tC_take zC_take tC_take16 sc_tt sc_zt sc_tz sc_zz add16 tz_T tA_def
set_option maxHeartbeats 400000 in
theorem del1_d {G : Gl} (hG : SigG G) (t : Tr) (l : List Item) (k : Bytes) (y : Item) (hl : l.length ≤ 1000000) : AC Tryd.prog G 35 [lA l, OP 1 0] [⟨1, 26, 0, tC t⟩, ⟨1, 9, 0, [sA k]⟩, ⟨1, 26, 0, zC⟩, ⟨1, 30, 0, xC y⟩, ⟨1, 26, 0, tC t⟩, ⟨1, 26, 0, zC⟩] (Is (TU [lA (delK l k).1, nA (delK l k).2]) [⟨1, 26, 0, tC t⟩, ⟨1, 9, 0, [sA k]⟩, ⟨1, 26, 0, zC⟩, ⟨1, 30, 0, xC y⟩, ⟨1, 26, 0, tC t⟩, ⟨1, 26, 0, zC⟩]) := by
  refine ac_of_wpK (c := _) Tryd.func35 rfl (by kernel_rfl) [.tmp 3, .tmp 4] rfl _ Tryd.ntmps35 (Nat.le_of_ble_eq_true rfl) ?_ (Nat.le_of_ble_eq_true rfl) ?_ ?_
  · (simp (disch := omega) only [go_sem, ↓reduceIte, Nat.reduceEqDiff, Nat.reduceAdd, Nat.reduceSub, Nat.reduceMul, Nat.reduceLeDiff, Nat.reduceLT, Int.reduceEq, Int.reduceNe, Int.reduceLT, Int.reduceLE, Int.reduceAdd, Int.reduceSub, Int.reduceMul, Int.reduceNeg, Int.reduceToNat, reduceCtorEq, w_i64, w_u64, tdiv_pos, tmod_pos, nth_map, foldA_len, nth_le, nth_tl, nth_tv, set_tl, set_tv, itC_def])
  · (simp (disch := omega) only [go_sem, ↓reduceIte, Nat.reduceEqDiff, Nat.reduceAdd, Nat.reduceSub, Nat.reduceMul, Nat.reduceLeDiff, Nat.reduceLT, Int.reduceEq, Int.reduceNe, Int.reduceLT, Int.reduceLE, Int.reduceAdd, Int.reduceSub, Int.reduceMul, Int.reduceNeg, Int.reduceToNat, reduceCtorEq, w_i64, w_u64, tdiv_pos, tmod_pos, nth_map, foldA_len, nth_le, nth_tl, nth_tv, set_tl, set_tv])
  repeat' (first | (refine call_pure (cl_del _ k hG hl) rfl ?_) | (with_reducible refine aq ?_) | (with_reducible refine yr (by kernel_rfl) (Nat.le_of_ble_eq_true rfl) ?_) | (with_reducible refine yx MIX (by kernel_rfl) (by kernel_rfl) (by kernel_rfl) (Nat.le_of_ble_eq_true rfl) ?_) | (with_reducible refine yc ?_) | (with_reducible refine yseq ?_) | (with_reducible refine awp_block ?_) | (with_reducible refine awp_ret ?_) | (with_reducible refine awp_exit ?_) | (with_reducible refine awp_skip ?_) | (with_reducible refine yr1 (by kernel_rfl) (Nat.le_of_ble_eq_true rfl) ?_) | (with_reducible refine yx1 MIX (by kernel_rfl) (by kernel_rfl) (by kernel_rfl) (Nat.le_of_ble_eq_true rfl) ?_) | (simp only [go_sem, ↓reduceIte, Nat.reduceEqDiff, Nat.reduceAdd, Nat.reduceSub, Nat.reduceMul, Nat.reduceLeDiff, Nat.reduceLT, Int.reduceEq, Int.reduceNe, Int.reduceLT, Int.reduceLE, Int.reduceAdd, Int.reduceSub, Int.reduceMul, Int.reduceNeg, Int.reduceToNat, reduceCtorEq]) | ((with_reducible refine cA_t (by first | with_reducible assumption | (simp only [decide_eq_true_eq, decide_eq_false_iff_not]; first | with_reducible assumption | omega)) (fun h => ?_)) <;> (try rewrite [h]) <;> clear h) | ((with_reducible refine cA_f (by first | with_reducible assumption | (simp only [decide_eq_true_eq, decide_eq_false_iff_not]; first | with_reducible assumption | omega)) (fun h => ?_)) <;> (try rewrite [h]) <;> clear h) | ((with_reducible refine gA_t (by first | with_reducible assumption | (simp only [decide_eq_true_eq, decide_eq_false_iff_not]; first | with_reducible assumption | omega)) (fun h => ?_)) <;> (try rewrite [h]) <;> clear h) | ((with_reducible refine gA_f (by first | with_reducible assumption | (simp only [decide_eq_true_eq, decide_eq_false_iff_not]; first | with_reducible assumption | omega)) (fun h => ?_)) <;> (try rewrite [h]) <;> clear h) | ((with_reducible refine pk_t (by first | with_reducible assumption | (simp only [decide_eq_true_eq, decide_eq_false_iff_not]; first | with_reducible assumption | omega)) (fun h => ?_)) <;> (try rewrite [h]) <;> clear h) | ((with_reducible refine pk_f (by first | with_reducible assumption | (simp only [decide_eq_true_eq, decide_eq_false_iff_not]; first | with_reducible assumption | omega)) (fun h => ?_)) <;> (try rewrite [h]) <;> clear h) | (with_reducible refine pk_if ?_) | ((with_reducible refine cA_split (fun h => ?_) (fun h => ?_)) <;> (try rewrite [h]) <;> (try simp (disch := omega) only [w_i64, w_u64, tdiv_pos, tmod_pos, nth_map, foldA_len, nth_le, nth_tl, nth_tv, set_tl, set_tv] at h) <;> (try simp only [decide_eq_true_eq, decide_eq_false_iff_not, Bool.not_eq_true, Bool.not_eq_false, Bool.not_eq_true', Bool.not_eq_false', not_true_eq_false, not_false_eq_true] at h) <;> (try (exfalso; omega))) | ((with_reducible refine gA_split (fun h => ?_) (fun h => ?_)) <;> (try rewrite [h]) <;> (try simp (disch := omega) only [w_i64, w_u64, tdiv_pos, tmod_pos, nth_map, foldA_len, nth_le, nth_tl, nth_tv, set_tl, set_tv] at h) <;> (try simp only [decide_eq_true_eq, decide_eq_false_iff_not, Bool.not_eq_true, Bool.not_eq_false, Bool.not_eq_true', Bool.not_eq_false', not_true_eq_false, not_false_eq_true] at h) <;> (try (exfalso; omega))) | (simp (disch := omega) only [w_i64, w_u64, tdiv_pos, tmod_pos, nth_map, foldA_len, nth_le, nth_tl, nth_tv, set_tl, set_tv]) | (with_reducible refine And.intro (by first | with_reducible assumption | rfl | omega) ?_) | (with_reducible refine And.intro ?_ ?_))
set_option maxHeartbeats 400000 in
theorem chg2_d {G : Gl} (hG : SigG G) (t : Tr) (k : Bytes) (y : Item) (B ver : Int) (h0 : 0 ≤ B) (h1 : B < 16) (hl : ∀ i, (t.leaf i).length ≤ 1000000) : AC Tryd.prog G 32 [tA t, nA B, nA ver, CL (.func 35) 0 [OP 1 0]] [⟨1, 26, 0, tC t⟩, ⟨1, 9, 0, [sA k]⟩, ⟨1, 26, 0, zC⟩, ⟨1, 30, 0, xC y⟩]
    (Is (TU [tA (chgT t B.toNat ver (delK (t.leaf B.toNat) k)).1, nA (chgT t B.toNat ver (delK (t.leaf B.toNat) k)).2]) [⟨1, 26, 0, tC t⟩, ⟨1, 9, 0, [sA k]⟩, ⟨1, 26, 0, zC⟩, ⟨1, 30, 0, xC y⟩]) := by
  refine ac_of_wpK (c := _) Tryd.func32 rfl (by kernel_rfl) [.cell 8 26, .tmp 9] rfl _ Tryd.ntmps32 (Nat.le_of_ble_eq_true rfl) ?_ (Nat.le_of_ble_eq_true rfl) ?_ ?_
  · (simp (disch := omega) only [go_sem, ↓reduceIte, Nat.reduceEqDiff, Nat.reduceAdd, Nat.reduceSub, Nat.reduceMul, Nat.reduceLeDiff, Nat.reduceLT, Int.reduceEq, Int.reduceNe, Int.reduceLT, Int.reduceLE, Int.reduceAdd, Int.reduceSub, Int.reduceMul, Int.reduceNeg, Int.reduceToNat, reduceCtorEq, w_i64, w_u64, tdiv_pos, tmod_pos, nth_map, foldA_len, nth_le, nth_tl, nth_tv, set_tl, set_tv, itC_def])
  · (simp (disch := omega) only [go_sem, ↓reduceIte, Nat.reduceEqDiff, Nat.reduceAdd, Nat.reduceSub, Nat.reduceMul, Nat.reduceLeDiff, Nat.reduceLT, Int.reduceEq, Int.reduceNe, Int.reduceLT, Int.reduceLE, Int.reduceAdd, Int.reduceSub, Int.reduceMul, Int.reduceNeg, Int.reduceToNat, reduceCtorEq, w_i64, w_u64, tdiv_pos, tmod_pos, nth_map, foldA_len, nth_le, nth_tl, nth_tv, set_tl, set_tv])
  repeat' (first | (refine call_keep (del1_d hG _ _ k y (hl _)) ?_) | (with_reducible refine aq ?_) | (with_reducible refine yr (by kernel_rfl) (Nat.le_of_ble_eq_true rfl) ?_) | (with_reducible refine yx MIX (by kernel_rfl) (by kernel_rfl) (by kernel_rfl) (Nat.le_of_ble_eq_true rfl) ?_) | (with_reducible refine yc ?_) | (with_reducible refine yseq ?_) | (with_reducible refine awp_block ?_) | (with_reducible refine awp_ret ?_) | (with_reducible refine awp_exit ?_) | (with_reducible refine awp_skip ?_) | (with_reducible refine yr1 (by kernel_rfl) (Nat.le_of_ble_eq_true rfl) ?_) | (with_reducible refine yx1 MIX (by kernel_rfl) (by kernel_rfl) (by kernel_rfl) (Nat.le_of_ble_eq_true rfl) ?_) | (simp only [go_sem, ↓reduceIte, Nat.reduceEqDiff, Nat.reduceAdd, Nat.reduceSub, Nat.reduceMul, Nat.reduceLeDiff, Nat.reduceLT, Int.reduceEq, Int.reduceNe, Int.reduceLT, Int.reduceLE, Int.reduceAdd, Int.reduceSub, Int.reduceMul, Int.reduceNeg, Int.reduceToNat, reduceCtorEq]) | ((with_reducible refine cA_t (by first | with_reducible assumption | (simp only [decide_eq_true_eq, decide_eq_false_iff_not]; first | with_reducible assumption | omega)) (fun h => ?_)) <;> (try rewrite [h]) <;> clear h) | ((with_reducible refine cA_f (by first | with_reducible assumption | (simp only [decide_eq_true_eq, decide_eq_false_iff_not]; first | with_reducible assumption | omega)) (fun h => ?_)) <;> (try rewrite [h]) <;> clear h) | ((with_reducible refine gA_t (by first | with_reducible assumption | (simp only [decide_eq_true_eq, decide_eq_false_iff_not]; first | with_reducible assumption | omega)) (fun h => ?_)) <;> (try rewrite [h]) <;> clear h) | ((with_reducible refine gA_f (by first | with_reducible assumption | (simp only [decide_eq_true_eq, decide_eq_false_iff_not]; first | with_reducible assumption | omega)) (fun h => ?_)) <;> (try rewrite [h]) <;> clear h) | ((with_reducible refine pk_t (by first | with_reducible assumption | (simp only [decide_eq_true_eq, decide_eq_false_iff_not]; first | with_reducible assumption | omega)) (fun h => ?_)) <;> (try rewrite [h]) <;> clear h) | ((with_reducible refine pk_f (by first | with_reducible assumption | (simp only [decide_eq_true_eq, decide_eq_false_iff_not]; first | with_reducible assumption | omega)) (fun h => ?_)) <;> (try rewrite [h]) <;> clear h) | (with_reducible refine pk_if ?_) | ((with_reducible refine cA_split (fun h => ?_) (fun h => ?_)) <;> (try rewrite [h]) <;> (try simp (disch := omega) only [w_i64, w_u64, tdiv_pos, tmod_pos, nth_map, foldA_len, nth_le, nth_tl, nth_tv, set_tl, set_tv] at h) <;> (try simp only [decide_eq_true_eq, decide_eq_false_iff_not, Bool.not_eq_true, Bool.not_eq_false, Bool.not_eq_true', Bool.not_eq_false', not_true_eq_false, not_false_eq_true] at h) <;> (try (exfalso; omega))) | ((with_reducible refine gA_split (fun h => ?_) (fun h => ?_)) <;> (try rewrite [h]) <;> (try simp (disch := omega) only [w_i64, w_u64, tdiv_pos, tmod_pos, nth_map, foldA_len, nth_le, nth_tl, nth_tv, set_tl, set_tv] at h) <;> (try simp only [decide_eq_true_eq, decide_eq_false_iff_not, Bool.not_eq_true, Bool.not_eq_false, Bool.not_eq_true', Bool.not_eq_false', not_true_eq_false, not_false_eq_true] at h) <;> (try (exfalso; omega))) | (simp (disch := omega) only [w_i64, w_u64, tdiv_pos, tmod_pos, nth_map, foldA_len, nth_le, nth_tl, nth_tv, set_tl, set_tv]) | (with_reducible refine And.intro (by first | with_reducible assumption | rfl | omega) ?_) | (with_reducible refine And.intro ?_ ?_))
  · rw [chgT, if_neg (by omega)]
  · rw [chgT, if_pos (by omega)]; rfl
set_option maxHeartbeats 400000 in
theorem del_d {G : Gl} (hG : SigG G) (t : Tr) (k : Bytes) (ver : Int) (hl : ∀ i, (t.leaf i).length ≤ 1000000) : ACp Tryd.prog G 10 [tA t, sA k, nA ver] (TU [tA (delT t k ver).1, nA (delT t k ver).2]) := by
  have hl' : ∀ i, (t.leaf i).length ≤ 34359738368 := fun i => Nat.le_trans (hl i) (by decide)
  by_cases hm : mayT t = true ∧ 0 ≤ ver ∧ ver ≤ 2147483647
  · obtain ⟨hm, hv0, hv1⟩ := hm
    cases hk : (getT t k).isSome with
    | false =>
      have e : delT t k ver = (Tr.zero, 6) := by rw [delT, hm, hk, show decide (ver < 0) = false by simp; omega, show decide (2147483647 < ver) = false by simp; omega]; rfl
      refine acp_of_wpC (c := _) Tryd.func10 rfl (by kernel_rfl) [.cell 6 26, .tmp 7] rfl _ Tryd.ntmps10 (Nat.le_of_ble_eq_true rfl) rfl ?_
      repeat' (first | (refine call_pure (may_d hG _ hl') (by (simp (disch := omega) only [go_sem, ↓reduceIte, Nat.reduceEqDiff, Nat.reduceAdd, Nat.reduceSub, Nat.reduceMul, Nat.reduceLeDiff, Nat.reduceLT, Int.reduceEq, Int.reduceNe, Int.reduceLT, Int.reduceLE, Int.reduceAdd, Int.reduceSub, Int.reduceMul, Int.reduceNeg, Int.reduceToNat, reduceCtorEq, w_i64, w_u64, tdiv_pos, tmod_pos, nth_map, foldA_len, nth_le, nth_tl, nth_tv, set_tl, set_tv])) ?_) | (refine call_pure (get_d hG _ _ hl) (by (simp (disch := omega) only [go_sem, ↓reduceIte, Nat.reduceEqDiff, Nat.reduceAdd, Nat.reduceSub, Nat.reduceMul, Nat.reduceLeDiff, Nat.reduceLT, Int.reduceEq, Int.reduceNe, Int.reduceLT, Int.reduceLE, Int.reduceAdd, Int.reduceSub, Int.reduceMul, Int.reduceNeg, Int.reduceToNat, reduceCtorEq, w_i64, w_u64, tdiv_pos, tmod_pos, nth_map, foldA_len, nth_le, nth_tl, nth_tv, set_tl, set_tv])) ?_) | (with_reducible refine aq ?_) | (with_reducible refine yr (by kernel_rfl) (Nat.le_of_ble_eq_true rfl) ?_) | (with_reducible refine yx MIX (by kernel_rfl) (by kernel_rfl) (by kernel_rfl) (Nat.le_of_ble_eq_true rfl) ?_) | (with_reducible refine yc ?_) | (with_reducible refine yseq ?_) | (with_reducible refine awp_block ?_) | (with_reducible refine awp_ret ?_) | (with_reducible refine awp_exit ?_) | (with_reducible refine awp_skip ?_) | (with_reducible refine yr1 (by kernel_rfl) (Nat.le_of_ble_eq_true rfl) ?_) | (with_reducible refine yx1 MIX (by kernel_rfl) (by kernel_rfl) (by kernel_rfl) (Nat.le_of_ble_eq_true rfl) ?_) | (simp only [go_sem, ↓reduceIte, Nat.reduceEqDiff, Nat.reduceAdd, Nat.reduceSub, Nat.reduceMul, Nat.reduceLeDiff, Nat.reduceLT, Int.reduceEq, Int.reduceNe, Int.reduceLT, Int.reduceLE, Int.reduceAdd, Int.reduceSub, Int.reduceMul, Int.reduceNeg, Int.reduceToNat, reduceCtorEq, hm, hk, e]) | ((with_reducible refine cA_t (by first | with_reducible assumption | (simp only [decide_eq_true_eq, decide_eq_false_iff_not]; first | with_reducible assumption | omega)) (fun h => ?_)) <;> (try rewrite [h]) <;> clear h) | ((with_reducible refine cA_f (by first | with_reducible assumption | (simp only [decide_eq_true_eq, decide_eq_false_iff_not]; first | with_reducible assumption | omega)) (fun h => ?_)) <;> (try rewrite [h]) <;> clear h) | ((with_reducible refine gA_t (by first | with_reducible assumption | (simp only [decide_eq_true_eq, decide_eq_false_iff_not]; first | with_reducible assumption | omega)) (fun h => ?_)) <;> (try rewrite [h]) <;> clear h) | ((with_reducible refine gA_f (by first | with_reducible assumption | (simp only [decide_eq_true_eq, decide_eq_false_iff_not]; first | with_reducible assumption | omega)) (fun h => ?_)) <;> (try rewrite [h]) <;> clear h) | ((with_reducible refine pk_t (by first | with_reducible assumption | (simp only [decide_eq_true_eq, decide_eq_false_iff_not]; first | with_reducible assumption | omega)) (fun h => ?_)) <;> (try rewrite [h]) <;> clear h) | ((with_reducible refine pk_f (by first | with_reducible assumption | (simp only [decide_eq_true_eq, decide_eq_false_iff_not]; first | with_reducible assumption | omega)) (fun h => ?_)) <;> (try rewrite [h]) <;> clear h) | (with_reducible refine pk_if ?_) | ((with_reducible refine cA_split (fun h => ?_) (fun h => ?_)) <;> (try rewrite [h]) <;> (try simp (disch := omega) only [w_i64, w_u64, tdiv_pos, tmod_pos, nth_map, foldA_len, nth_le, nth_tl, nth_tv, set_tl, set_tv] at h) <;> (try simp only [decide_eq_true_eq, decide_eq_false_iff_not, Bool.not_eq_true, Bool.not_eq_false, Bool.not_eq_true', Bool.not_eq_false', not_true_eq_false, not_false_eq_true] at h) <;> (try (exfalso; omega))) | ((with_reducible refine gA_split (fun h => ?_) (fun h => ?_)) <;> (try rewrite [h]) <;> (try simp (disch := omega) only [w_i64, w_u64, tdiv_pos, tmod_pos, nth_map, foldA_len, nth_le, nth_tl, nth_tv, set_tl, set_tv] at h) <;> (try simp only [decide_eq_true_eq, decide_eq_false_iff_not, Bool.not_eq_true, Bool.not_eq_false, Bool.not_eq_true', Bool.not_eq_false', not_true_eq_false, not_false_eq_true] at h) <;> (try (exfalso; omega))) | (simp (disch := omega) only [w_i64, w_u64, tdiv_pos, tmod_pos, nth_map, foldA_len, nth_le, nth_tl, nth_tv, set_tl, set_tv]) | (with_reducible refine And.intro (by first | with_reducible assumption | rfl | omega) ?_) | (with_reducible refine And.intro ?_ ?_))
    | true =>
      have hb := bucketK_in (getT_key hk)
      have e : delT t k ver = if ver < t.ver (bucketK k).toNat then (Tr.zero, 18) else chgT t (bucketK k).toNat ver (delK (t.leaf (bucketK k).toNat) k) := by rw [delT, hm, hk, show decide (ver < 0) = false by simp; omega, show decide (2147483647 < ver) = false by simp; omega]; rfl
      refine acp_of_wpC (c := _) Tryd.func10 rfl (by kernel_rfl) [.cell 6 26, .tmp 7] rfl _ Tryd.ntmps10 (Nat.le_of_ble_eq_true rfl) rfl ?_
      repeat' (first | (refine call_pure (may_d hG _ hl') (by (simp (disch := omega) only [go_sem, ↓reduceIte, Nat.reduceEqDiff, Nat.reduceAdd, Nat.reduceSub, Nat.reduceMul, Nat.reduceLeDiff, Nat.reduceLT, Int.reduceEq, Int.reduceNe, Int.reduceLT, Int.reduceLE, Int.reduceAdd, Int.reduceSub, Int.reduceMul, Int.reduceNeg, Int.reduceToNat, reduceCtorEq, w_i64, w_u64, tdiv_pos, tmod_pos, nth_map, foldA_len, nth_le, nth_tl, nth_tv, set_tl, set_tv])) ?_) | (refine call_pure (get_d hG _ _ hl) (by (simp (disch := omega) only [go_sem, ↓reduceIte, Nat.reduceEqDiff, Nat.reduceAdd, Nat.reduceSub, Nat.reduceMul, Nat.reduceLeDiff, Nat.reduceLT, Int.reduceEq, Int.reduceNe, Int.reduceLT, Int.reduceLE, Int.reduceAdd, Int.reduceSub, Int.reduceMul, Int.reduceNeg, Int.reduceToNat, reduceCtorEq, w_i64, w_u64, tdiv_pos, tmod_pos, nth_map, foldA_len, nth_le, nth_tl, nth_tv, set_tl, set_tv])) ?_) | (refine call_pure (bucket_d hG _) rfl ?_) | (refine call_keep (chg2_d hG t k ((getT t k).getD Item.zero) _ _ (by omega) (by omega) hl) ?_) | (with_reducible refine aq ?_) | (with_reducible refine yr (by kernel_rfl) (Nat.le_of_ble_eq_true rfl) ?_) | (with_reducible refine yx MIX (by kernel_rfl) (by kernel_rfl) (by kernel_rfl) (Nat.le_of_ble_eq_true rfl) ?_) | (with_reducible refine yc ?_) | (with_reducible refine yseq ?_) | (with_reducible refine awp_block ?_) | (with_reducible refine awp_ret ?_) | (with_reducible refine awp_exit ?_) | (with_reducible refine awp_skip ?_) | (with_reducible refine yr1 (by kernel_rfl) (Nat.le_of_ble_eq_true rfl) ?_) | (with_reducible refine yx1 MIX (by kernel_rfl) (by kernel_rfl) (by kernel_rfl) (Nat.le_of_ble_eq_true rfl) ?_) | (simp only [go_sem, ↓reduceIte, Nat.reduceEqDiff, Nat.reduceAdd, Nat.reduceSub, Nat.reduceMul, Nat.reduceLeDiff, Nat.reduceLT, Int.reduceEq, Int.reduceNe, Int.reduceLT, Int.reduceLE, Int.reduceAdd, Int.reduceSub, Int.reduceMul, Int.reduceNeg, Int.reduceToNat, reduceCtorEq, hm, hk]) | ((with_reducible refine cA_t (by first | with_reducible assumption | (simp only [decide_eq_true_eq, decide_eq_false_iff_not]; first | with_reducible assumption | omega)) (fun h => ?_)) <;> (try rewrite [h]) <;> clear h) | ((with_reducible refine cA_f (by first | with_reducible assumption | (simp only [decide_eq_true_eq, decide_eq_false_iff_not]; first | with_reducible assumption | omega)) (fun h => ?_)) <;> (try rewrite [h]) <;> clear h) | ((with_reducible refine gA_t (by first | with_reducible assumption | (simp only [decide_eq_true_eq, decide_eq_false_iff_not]; first | with_reducible assumption | omega)) (fun h => ?_)) <;> (try rewrite [h]) <;> clear h) | ((with_reducible refine gA_f (by first | with_reducible assumption | (simp only [decide_eq_true_eq, decide_eq_false_iff_not]; first | with_reducible assumption | omega)) (fun h => ?_)) <;> (try rewrite [h]) <;> clear h) | ((with_reducible refine pk_t (by first | with_reducible assumption | (simp only [decide_eq_true_eq, decide_eq_false_iff_not]; first | with_reducible assumption | omega)) (fun h => ?_)) <;> (try rewrite [h]) <;> clear h) | ((with_reducible refine pk_f (by first | with_reducible assumption | (simp only [decide_eq_true_eq, decide_eq_false_iff_not]; first | with_reducible assumption | omega)) (fun h => ?_)) <;> (try rewrite [h]) <;> clear h) | (with_reducible refine pk_if ?_) | ((with_reducible refine cA_split (fun h => ?_) (fun h => ?_)) <;> (try rewrite [h]) <;> (try simp (disch := omega) only [w_i64, w_u64, tdiv_pos, tmod_pos, nth_map, foldA_len, nth_le, nth_tl, nth_tv, set_tl, set_tv] at h) <;> (try simp only [decide_eq_true_eq, decide_eq_false_iff_not, Bool.not_eq_true, Bool.not_eq_false, Bool.not_eq_true', Bool.not_eq_false', not_true_eq_false, not_false_eq_true] at h) <;> (try (exfalso; omega))) | ((with_reducible refine gA_split (fun h => ?_) (fun h => ?_)) <;> (try rewrite [h]) <;> (try simp (disch := omega) only [w_i64, w_u64, tdiv_pos, tmod_pos, nth_map, foldA_len, nth_le, nth_tl, nth_tv, set_tl, set_tv] at h) <;> (try simp only [decide_eq_true_eq, decide_eq_false_iff_not, Bool.not_eq_true, Bool.not_eq_false, Bool.not_eq_true', Bool.not_eq_false', not_true_eq_false, not_false_eq_true] at h) <;> (try (exfalso; omega))) | (simp (disch := omega) only [w_i64, w_u64, tdiv_pos, tmod_pos, nth_map, foldA_len, nth_le, nth_tl, nth_tv, set_tl, set_tv]) | (with_reducible refine And.intro (by first | with_reducible assumption | rfl | omega) ?_) | (with_reducible refine And.intro ?_ ?_))
      · rw [e, if_pos (by omega)]
        try rfl
      · rw [e, if_neg (by omega)]
        try rfl
  · have e : delT t k ver = (Tr.zero, 1) := by
      rw [delT, if_pos]
      cases h : mayT t with
      | false => rfl
      | true =>
        rw [h] at hm
        simp only [true_and] at hm
        have : ver < 0 ∨ 2147483647 < ver := by omega
        rcases this with h | h <;> simp [h]
    cases h0 : mayT t with
    | false =>
      refine acp_of_wpC (c := _) Tryd.func10 rfl (by kernel_rfl) [.cell 6 26, .tmp 7] rfl _ Tryd.ntmps10 (Nat.le_of_ble_eq_true rfl) rfl ?_
      repeat' (first | (refine call_pure (may_d hG _ hl') (by (simp (disch := omega) only [go_sem, ↓reduceIte, Nat.reduceEqDiff, Nat.reduceAdd, Nat.reduceSub, Nat.reduceMul, Nat.reduceLeDiff, Nat.reduceLT, Int.reduceEq, Int.reduceNe, Int.reduceLT, Int.reduceLE, Int.reduceAdd, Int.reduceSub, Int.reduceMul, Int.reduceNeg, Int.reduceToNat, reduceCtorEq, w_i64, w_u64, tdiv_pos, tmod_pos, nth_map, foldA_len, nth_le, nth_tl, nth_tv, set_tl, set_tv])) ?_) | (with_reducible refine aq ?_) | (with_reducible refine yr (by kernel_rfl) (Nat.le_of_ble_eq_true rfl) ?_) | (with_reducible refine yx MIX (by kernel_rfl) (by kernel_rfl) (by kernel_rfl) (Nat.le_of_ble_eq_true rfl) ?_) | (with_reducible refine yc ?_) | (with_reducible refine yseq ?_) | (with_reducible refine awp_block ?_) | (with_reducible refine awp_ret ?_) | (with_reducible refine awp_exit ?_) | (with_reducible refine awp_skip ?_) | (with_reducible refine yr1 (by kernel_rfl) (Nat.le_of_ble_eq_true rfl) ?_) | (with_reducible refine yx1 MIX (by kernel_rfl) (by kernel_rfl) (by kernel_rfl) (Nat.le_of_ble_eq_true rfl) ?_) | (simp only [go_sem, ↓reduceIte, Nat.reduceEqDiff, Nat.reduceAdd, Nat.reduceSub, Nat.reduceMul, Nat.reduceLeDiff, Nat.reduceLT, Int.reduceEq, Int.reduceNe, Int.reduceLT, Int.reduceLE, Int.reduceAdd, Int.reduceSub, Int.reduceMul, Int.reduceNeg, Int.reduceToNat, reduceCtorEq, h0, e]) | ((with_reducible refine cA_t (by first | with_reducible assumption | (simp only [decide_eq_true_eq, decide_eq_false_iff_not]; first | with_reducible assumption | omega)) (fun h => ?_)) <;> (try rewrite [h]) <;> clear h) | ((with_reducible refine cA_f (by first | with_reducible assumption | (simp only [decide_eq_true_eq, decide_eq_false_iff_not]; first | with_reducible assumption | omega)) (fun h => ?_)) <;> (try rewrite [h]) <;> clear h) | ((with_reducible refine gA_t (by first | with_reducible assumption | (simp only [decide_eq_true_eq, decide_eq_false_iff_not]; first | with_reducible assumption | omega)) (fun h => ?_)) <;> (try rewrite [h]) <;> clear h) | ((with_reducible refine gA_f (by first | with_reducible assumption | (simp only [decide_eq_true_eq, decide_eq_false_iff_not]; first | with_reducible assumption | omega)) (fun h => ?_)) <;> (try rewrite [h]) <;> clear h) | ((with_reducible refine pk_t (by first | with_reducible assumption | (simp only [decide_eq_true_eq, decide_eq_false_iff_not]; first | with_reducible assumption | omega)) (fun h => ?_)) <;> (try rewrite [h]) <;> clear h) | ((with_reducible refine pk_f (by first | with_reducible assumption | (simp only [decide_eq_true_eq, decide_eq_false_iff_not]; first | with_reducible assumption | omega)) (fun h => ?_)) <;> (try rewrite [h]) <;> clear h) | (with_reducible refine pk_if ?_) | ((with_reducible refine cA_split (fun h => ?_) (fun h => ?_)) <;> (try rewrite [h]) <;> (try simp (disch := omega) only [w_i64, w_u64, tdiv_pos, tmod_pos, nth_map, foldA_len, nth_le, nth_tl, nth_tv, set_tl, set_tv] at h) <;> (try simp only [decide_eq_true_eq, decide_eq_false_iff_not, Bool.not_eq_true, Bool.not_eq_false, Bool.not_eq_true', Bool.not_eq_false', not_true_eq_false, not_false_eq_true] at h) <;> (try (exfalso; omega))) | ((with_reducible refine gA_split (fun h => ?_) (fun h => ?_)) <;> (try rewrite [h]) <;> (try simp (disch := omega) only [w_i64, w_u64, tdiv_pos, tmod_pos, nth_map, foldA_len, nth_le, nth_tl, nth_tv, set_tl, set_tv] at h) <;> (try simp only [decide_eq_true_eq, decide_eq_false_iff_not, Bool.not_eq_true, Bool.not_eq_false, Bool.not_eq_true', Bool.not_eq_false', not_true_eq_false, not_false_eq_true] at h) <;> (try (exfalso; omega))) | (simp (disch := omega) only [w_i64, w_u64, tdiv_pos, tmod_pos, nth_map, foldA_len, nth_le, nth_tl, nth_tv, set_tl, set_tv]) | (with_reducible refine And.intro (by first | with_reducible assumption | rfl | omega) ?_) | (with_reducible refine And.intro ?_ ?_))
    | true =>
      simp only [h0, true_and] at hm
      refine acp_of_wpC (c := _) Tryd.func10 rfl (by kernel_rfl) [.cell 6 26, .tmp 7] rfl _ Tryd.ntmps10 (Nat.le_of_ble_eq_true rfl) rfl ?_
      repeat' (first | (refine call_pure (may_d hG _ hl') (by (simp (disch := omega) only [go_sem, ↓reduceIte, Nat.reduceEqDiff, Nat.reduceAdd, Nat.reduceSub, Nat.reduceMul, Nat.reduceLeDiff, Nat.reduceLT, Int.reduceEq, Int.reduceNe, Int.reduceLT, Int.reduceLE, Int.reduceAdd, Int.reduceSub, Int.reduceMul, Int.reduceNeg, Int.reduceToNat, reduceCtorEq, w_i64, w_u64, tdiv_pos, tmod_pos, nth_map, foldA_len, nth_le, nth_tl, nth_tv, set_tl, set_tv])) ?_) | (with_reducible refine aq ?_) | (with_reducible refine yr (by kernel_rfl) (Nat.le_of_ble_eq_true rfl) ?_) | (with_reducible refine yx MIX (by kernel_rfl) (by kernel_rfl) (by kernel_rfl) (Nat.le_of_ble_eq_true rfl) ?_) | (with_reducible refine yc ?_) | (with_reducible refine yseq ?_) | (with_reducible refine awp_block ?_) | (with_reducible refine awp_ret ?_) | (with_reducible refine awp_exit ?_) | (with_reducible refine awp_skip ?_) | (with_reducible refine yr1 (by kernel_rfl) (Nat.le_of_ble_eq_true rfl) ?_) | (with_reducible refine yx1 MIX (by kernel_rfl) (by kernel_rfl) (by kernel_rfl) (Nat.le_of_ble_eq_true rfl) ?_) | (simp only [go_sem, ↓reduceIte, Nat.reduceEqDiff, Nat.reduceAdd, Nat.reduceSub, Nat.reduceMul, Nat.reduceLeDiff, Nat.reduceLT, Int.reduceEq, Int.reduceNe, Int.reduceLT, Int.reduceLE, Int.reduceAdd, Int.reduceSub, Int.reduceMul, Int.reduceNeg, Int.reduceToNat, reduceCtorEq, h0, e]) | ((with_reducible refine cA_t (by first | with_reducible assumption | (simp only [decide_eq_true_eq, decide_eq_false_iff_not]; first | with_reducible assumption | omega)) (fun h => ?_)) <;> (try rewrite [h]) <;> clear h) | ((with_reducible refine cA_f (by first | with_reducible assumption | (simp only [decide_eq_true_eq, decide_eq_false_iff_not]; first | with_reducible assumption | omega)) (fun h => ?_)) <;> (try rewrite [h]) <;> clear h) | ((with_reducible refine gA_t (by first | with_reducible assumption | (simp only [decide_eq_true_eq, decide_eq_false_iff_not]; first | with_reducible assumption | omega)) (fun h => ?_)) <;> (try rewrite [h]) <;> clear h) | ((with_reducible refine gA_f (by first | with_reducible assumption | (simp only [decide_eq_true_eq, decide_eq_false_iff_not]; first | with_reducible assumption | omega)) (fun h => ?_)) <;> (try rewrite [h]) <;> clear h) | ((with_reducible refine pk_t (by first | with_reducible assumption | (simp only [decide_eq_true_eq, decide_eq_false_iff_not]; first | with_reducible assumption | omega)) (fun h => ?_)) <;> (try rewrite [h]) <;> clear h) | ((with_reducible refine pk_f (by first | with_reducible assumption | (simp only [decide_eq_true_eq, decide_eq_false_iff_not]; first | with_reducible assumption | omega)) (fun h => ?_)) <;> (try rewrite [h]) <;> clear h) | (with_reducible refine pk_if ?_) | ((with_reducible refine cA_split (fun h => ?_) (fun h => ?_)) <;> (try rewrite [h]) <;> (try simp (disch := omega) only [w_i64, w_u64, tdiv_pos, tmod_pos, nth_map, foldA_len, nth_le, nth_tl, nth_tv, set_tl, set_tv] at h) <;> (try simp only [decide_eq_true_eq, decide_eq_false_iff_not, Bool.not_eq_true, Bool.not_eq_false, Bool.not_eq_true', Bool.not_eq_false', not_true_eq_false, not_false_eq_true] at h) <;> (try (exfalso; omega))) | ((with_reducible refine gA_split (fun h => ?_) (fun h => ?_)) <;> (try rewrite [h]) <;> (try simp (disch := omega) only [w_i64, w_u64, tdiv_pos, tmod_pos, nth_map, foldA_len, nth_le, nth_tl, nth_tv, set_tl, set_tv] at h) <;> (try simp only [decide_eq_true_eq, decide_eq_false_iff_not, Bool.not_eq_true, Bool.not_eq_false, Bool.not_eq_true', Bool.not_eq_false', not_true_eq_false, not_false_eq_true] at h) <;> (try (exfalso; omega))) | (simp (disch := omega) only [w_i64, w_u64, tdiv_pos, tmod_pos, nth_map, foldA_len, nth_le, nth_tl, nth_tv, set_tl, set_tv]) | (with_reducible refine And.intro (by first | with_reducible assumption | rfl | omega) ?_) | (with_reducible refine And.intro ?_ ?_))
end Go.Proofs.YthmnhfabkllgpaaDoor

namespace Go.Proofs.YthmnhfabkllgpaaDoor
open Go.RowKit
set_option linter.unusedVariables false
set_option linter.unusedSimpArgs false
set_option maxRecDepth 20000
def sumTo (f : Nat → Nat) : Nat → Nat
  | 0 => 0
  | k + 1 => sumTo f k + f k
theorem sumTo_le {f : Nat → Nat} {m : Nat} (h : ∀ i, f i ≤ m) : ∀ k, sumTo f k ≤ k * m
  | 0 => by simp [sumTo]
  | k + 1 => by have := sumTo_le h k; have := h k; rw [sumTo, Nat.succ_mul]; omega
def countT (t : Tr) : Nat := if mayT t then sumTo (fun i => (t.leaf i).length) 16 else 0
def unlikeAt (a b : Tr) (i : Nat) : Bool := decide (¬ a.ver i = b.ver i) || !decide (a.leaf i = b.leaf i)
def unlikeL (a b : Tr) (k : Nat) : List Nat := (List.range k).filter (unlikeAt a b)
def nLs (l : List Nat) : List AV := l.map fun (i : Nat) => nA (i : Int)
theorem eqGuard_it : Tryd.prog.eqGuardType Tryd.prog.depth 30 = false := by kernel_rfl
theorem eqAgg_neq (x y : Item) : eqAgg Tryd.prog 30 .neq x.cells y.cells (!decide (x = y)) := by
  intro ox oy w
  obtain ⟨k1, d1, i1, s1, v1⟩ := x
  obtain ⟨k2, d2, i2, s2, v2⟩ := y
  simp only [Sem.run_bind, run_eqGuard_agg _ _ _ _ _ _ _ eqGuard_it, Result.andThen_ok]
  exact run_neq_item w k1 d1 i1 s1 v1 k2 d2 i2 s2 v2
theorem neq_it {K1 : AV → Prop} (x y : Item) (k : K1 (bA (!decide (x = y)))) : aBin Tryd.prog 30 .neq (iA x) (iA y) K1 := ⟨_, _, _, rfl, rfl, eqAgg_neq x y, k⟩
theorem nLs_len (l : List Nat) : (nLs l).length = l.length := by simp [nLs]
theorem nLs_allC (l : List Nat) : allC 1 (nLs l) = True := allC_mapEq fun x => rfl
theorem nLs_lt (l : List Nat) (m : Nat) : (nLs l).all (ltA m) = true := by
  simp only [nLs, List.all_map, List.all_eq_true, Function.comp_apply]
  exact fun x _ => rfl
theorem unlikeL_le (a b : Tr) (k : Nat) : (unlikeL a b k).length ≤ k := by
  have := List.length_filter_le (unlikeAt a b) (List.range k)
  rwa [List.length_range] at this
theorem unlikeL_succ (a b : Tr) (k : Nat) : unlikeL a b (k + 1) = unlikeL a b k ++ (if unlikeAt a b k then [k] else []) := by
  rw [unlikeL, List.range_succ, List.filter_append]
  simp [unlikeL, List.filter_cons]
attribute [local go_sem ↓] str_size pk_tt pk_ff hold_one hold_two gO_some gA_tt gA_tf gA_ft gA_ff cA_true cA_false yP_n yP_r yK_n yK_r yQ_n yQ_r yC_nil yC_tmp yC_cell yo_nil yo_cons yo_none yo_guard yo_guardN ys_move ys_assign ys_pick ys_bin ys_un ys_build ys_buildSlice ys_load ys_nilCheck ys_conv ys_extract ys_fieldAddr ys_field ys_indexAddr ys_index ys_slice ys_len ys_alloc ys_box ys_store ys_call ys_append ys_makeFunc ys_callv yd_nil yd_alloc yd_store yd_move yg_move yd_assign yg_assign yd_pick yg_pick yd_bin yg_bin yd_un yg_un yd_build yg_build yd_buildSlice yg_buildSlice yd_load yg_load yd_nilCheck yg_nilCheck yd_conv yg_conv yd_extract yg_extract yd_fieldAddr yg_fieldAddr yd_field yg_field yd_indexAddr yg_indexAddr yd_index yg_index yd_slice yg_slice yd_len yg_len yd_call yg_call ixA_eq sl_es sl_row sl_nil ap_eq bs_eq bl_eq cv_eq ixV_agg thenA_n thenA_r thenA_x inB_n inB_r inB_x loop_r loop_x dstAt_zero dstAt_succ retP_n retP_r
attribute [local go_sem] hle_nil hle_cons oO_one oO_two oO_three oO_nil r1_r0 r1_r1 r1_r2 r1_r3 ro_OW roA_OW go_some al_some okX_f okX_t tells regOnly cv_cl cap0_V cap0_OP cap0_ptr ixA_s ixA_p ixA_o szOf_one szOf_two ixV_str ixW_some sl_str slE_some apE_nil apE_row bsE_one flE_some pget_zero pget_succ blE_some fil_nil fil_cons filB_some cvE_some cv_str' str_list str_cut str_data cut_all cut_to s_eql s_neq s_add s_lss s_geq s_leq s_gtr lt1 set_some set_none get_cons ev_tmp ev_const ev_func ev_global glob_cons cv_int cv_bool cv_str cv_slice cv_ptr cv_agg one_int one_bool one_str one_slice one_ptr b_add b_sub b_mul b_quo b_rem b_and b_or b_xor b_andNot b_shl b_shr b_eql b_neq b_lss b_leq b_gtr b_geq b_str b_beq b_bne u_not u_neg g_tt g_tf g_ft g_ff c_true c_false ex_tu nth_zero nth_succ nthO_zero nthO_succ l_ptr l_ptrV l_ptrS l_op cP_one pP_one oc_one oc_agg st_op f_ptr f_op fv_agg co_agg co_V co_slice co_OW co_OP co_ptr sure_V sure_slice sure_OW sure_OP sure_ptr sure_agg sc_nil sc_cons ixS ixSW ixSN bsV_nil bsV_cons el_slice el_row el_nil len_str len_slice len_row len_nil asI_none asI_some nil_op nil_ptr ro_int ro_bool ro_str ro_nils ro_slice ro_ptr ro_OP ro_OW ro_agg ro_tu roA_agg roA_V roA_slice roA_OW roA_OP roA_ptr r1_int r1_bool r1_str r1_nils r1_slice r1_ptr r1_OP resA_one resA_two resA_three noT_V noT_agg noT_slice noT_OW noT_OP noT_ptr noT_nil argsT_nil argsT_cons allC_nil allC_cons allC_append hle_nil hle_cons le_nil le_cons tT_V tT_SL tT_ptr tT_OW tT_OP tT_agg tT_TU tA_V tA_SL tA_ptr tA_OW tA_OP tA_agg t1_V t1_SL t1_ptr t1_OW t1_OP tO_mk get_cons beq_self_eq_true Nat.zero_lt_succ Nat.lt_add_one true_or or_true Bool.or_self Nat.zero_add Nat.add_zero Nat.mul_one Int.toNat_natCast Int.natCast_zero Int.natCast_add Int.cast_ofNat_Int or_false false_or or_true true_or Nat.sub_zero Int.natCast_nonneg Int.toNat_zero Bool.true_and Bool.and_true Bool.false_and Bool.and_false Bool.true_or Bool.or_true Bool.false_or Bool.or_false Bool.not_true Bool.not_false Bool.not_not true_and and_true false_and and_false not_true_eq_false not_false_eq_true eq_self decide_true decide_false ne_eq implies_true forall_const true_implies false_implies Bool.true_eq_false Bool.false_eq_true List.map_cons List.map_nil List.all_cons List.all_nil List.length_cons List.length_nil List.length_map List.length_append List.nil_append List.cons_append List.set_cons_zero List.set_cons_succ List.set_nil List.drop_zero List.drop_succ_cons List.drop_nil List.take_zero List.take_succ_cons List.take_nil Option.map_some Option.map_none Option.isSome_some tk_2 tk_3 tk_9 tk_22 tk_23 tk_26 tk_28 tk_30 tk_81 tf_26_0 tf_26_1 tf_28_0 tf_28_1 tf_28_2 tf_30_0 tf_30_1 tf_30_2 tf_54_0 tf_54_1 tf_54_2 tf_54_3 ts_9 ts_22 ts_23 ts_24 ts_49 ts_79 ts_94 ta_9 ta_22 ta_23 ta_24 ta_49 ta_94 tp_26 tp_28 tp_30 tq_22 tq_49 tq_79 ti_3 ti_5 ti_81 tz_28 tz_30 tv_2 tv_3 tu_4 tv_4 tv_5 tu_9 tv_9 tv_33 tv_81 iA_def fl_it allC_it foldA_all lt_it lt_fold lA_def leC_lt1 tC_len zC_len tC_sure tC_lt1 tC_ltA zC_ltA zC_lt1 tC_ro zC_sure zC_ro tC_take zC_take tC_take16 sc_tt sc_zt sc_tz sc_zz add16 tz_T tA_def
set_option maxHeartbeats 400000 in
theorem count_d {G : Gl} (hG : SigG G) (t : Tr) (hl : ∀ i, (t.leaf i).length ≤ 1000000) : ACp Tryd.prog G 25 [tA t] (nA (countT t)) := by
  have hl' : ∀ i, (t.leaf i).length ≤ 34359738368 := fun i => Nat.le_trans (hl i) (by decide)
  refine acp_of_wpC (c := _) Tryd.func25 rfl (by kernel_rfl) [.tmp 2] rfl _ Tryd.ntmps25 (Nat.le_of_ble_eq_true rfl) rfl ?_
  repeat' (first | (refine call_pure (may_d hG _ hl') (by (simp (disch := omega) only [go_sem, ↓reduceIte, Nat.reduceEqDiff, Nat.reduceAdd, Nat.reduceSub, Nat.reduceMul, Nat.reduceLeDiff, Nat.reduceLT, Int.reduceEq, Int.reduceNe, Int.reduceLT, Int.reduceLE, Int.reduceAdd, Int.reduceSub, Int.reduceMul, Int.reduceNeg, Int.reduceToNat, reduceCtorEq, w_i64, w_u64, tdiv_pos, tmod_pos, nth_map, foldA_len, nth_le, nth_tl, nth_tv, set_tl, set_tv])) ?_) | (with_reducible refine aq ?_) | (with_reducible refine yr (by kernel_rfl) (Nat.le_of_ble_eq_true rfl) ?_) | (with_reducible refine yx MIX (by kernel_rfl) (by kernel_rfl) (by kernel_rfl) (Nat.le_of_ble_eq_true rfl) ?_) | (with_reducible refine yc ?_) | (with_reducible refine yseq ?_) | (with_reducible refine awp_block ?_) | (with_reducible refine awp_ret ?_) | (with_reducible refine awp_exit ?_) | (with_reducible refine awp_skip ?_) | (with_reducible refine yr1 (by kernel_rfl) (Nat.le_of_ble_eq_true rfl) ?_) | (with_reducible refine yx1 MIX (by kernel_rfl) (by kernel_rfl) (by kernel_rfl) (Nat.le_of_ble_eq_true rfl) ?_) | (simp only [go_sem, ↓reduceIte, Nat.reduceEqDiff, Nat.reduceAdd, Nat.reduceSub, Nat.reduceMul, Nat.reduceLeDiff, Nat.reduceLT, Int.reduceEq, Int.reduceNe, Int.reduceLT, Int.reduceLE, Int.reduceAdd, Int.reduceSub, Int.reduceMul, Int.reduceNeg, Int.reduceToNat, reduceCtorEq]) | ((with_reducible refine cA_t (by first | with_reducible assumption | (simp only [decide_eq_true_eq, decide_eq_false_iff_not]; first | with_reducible assumption | omega)) (fun h => ?_)) <;> (try rewrite [h]) <;> clear h) | ((with_reducible refine cA_f (by first | with_reducible assumption | (simp only [decide_eq_true_eq, decide_eq_false_iff_not]; first | with_reducible assumption | omega)) (fun h => ?_)) <;> (try rewrite [h]) <;> clear h) | ((with_reducible refine gA_t (by first | with_reducible assumption | (simp only [decide_eq_true_eq, decide_eq_false_iff_not]; first | with_reducible assumption | omega)) (fun h => ?_)) <;> (try rewrite [h]) <;> clear h) | ((with_reducible refine gA_f (by first | with_reducible assumption | (simp only [decide_eq_true_eq, decide_eq_false_iff_not]; first | with_reducible assumption | omega)) (fun h => ?_)) <;> (try rewrite [h]) <;> clear h) | ((with_reducible refine pk_t (by first | with_reducible assumption | (simp only [decide_eq_true_eq, decide_eq_false_iff_not]; first | with_reducible assumption | omega)) (fun h => ?_)) <;> (try rewrite [h]) <;> clear h) | ((with_reducible refine pk_f (by first | with_reducible assumption | (simp only [decide_eq_true_eq, decide_eq_false_iff_not]; first | with_reducible assumption | omega)) (fun h => ?_)) <;> (try rewrite [h]) <;> clear h) | (with_reducible refine pk_if ?_) | ((with_reducible refine cA_split (fun h => ?_) (fun h => ?_)) <;> (try rewrite [h]) <;> (try simp (disch := omega) only [w_i64, w_u64, tdiv_pos, tmod_pos, nth_map, foldA_len, nth_le, nth_tl, nth_tv, set_tl, set_tv] at h) <;> (try simp only [decide_eq_true_eq, decide_eq_false_iff_not, Bool.not_eq_true, Bool.not_eq_false, Bool.not_eq_true', Bool.not_eq_false', not_true_eq_false, not_false_eq_true] at h) <;> (try (exfalso; omega))) | ((with_reducible refine gA_split (fun h => ?_) (fun h => ?_)) <;> (try rewrite [h]) <;> (try simp (disch := omega) only [w_i64, w_u64, tdiv_pos, tmod_pos, nth_map, foldA_len, nth_le, nth_tl, nth_tv, set_tl, set_tv] at h) <;> (try simp only [decide_eq_true_eq, decide_eq_false_iff_not, Bool.not_eq_true, Bool.not_eq_false, Bool.not_eq_true', Bool.not_eq_false', not_true_eq_false, not_false_eq_true] at h) <;> (try (exfalso; omega))) | (simp (disch := omega) only [w_i64, w_u64, tdiv_pos, tmod_pos, nth_map, foldA_len, nth_le, nth_tl, nth_tv, set_tl, set_tv]) | (with_reducible refine And.intro (by first | with_reducible assumption | rfl | omega) ?_) | (with_reducible refine And.intro ?_ ?_))
  · rw [countT, h]; rfl
  have hm := h
  clear h
  refine awp_loop (ι := {k : Nat // k ≤ 16}) (fun k => ⟨[⟨1, 26, 0, tC t⟩], [(11, V (.int .i64 k.1)), (10, .agg (leC t)), (3, V (.int .i64 (sumTo (fun i => (t.leaf i).length) k.1))), (1, OP 0 0)]⟩) (fun k => 16 - k.1) ⟨0, Nat.zero_le _⟩ ?_ (Nat.zero_le _) ?_
  · (refine le_mk ?_ ?_ ?_ <;> (try simp (disch := omega) only [go_sem, ↓reduceIte, Nat.reduceEqDiff, Nat.reduceAdd, Nat.reduceSub, Nat.reduceMul, Nat.reduceLeDiff, Nat.reduceLT, Int.reduceEq, Int.reduceNe, Int.reduceLT, Int.reduceLE, Int.reduceAdd, Int.reduceSub, Int.reduceMul, Int.reduceNeg, Int.reduceToNat, reduceCtorEq, w_i64, w_u64, tdiv_pos, tmod_pos, nth_map, foldA_len, nth_le, nth_tl, nth_tv, set_tl, set_tv, sumTo]))
  rintro ⟨k, hk⟩
  have hs := sumTo_le hl k
  have hlk := hl k
  dsimp only
  repeat' (first | (refine loop_n ⟨k + 1, by omega⟩ ?_ (Nat.zero_le _) (by dsimp only; omega)) | (refine le_mk ?_ ?_ ?_ <;> (try simp (disch := omega) only [go_sem, ↓reduceIte, Nat.reduceEqDiff, Nat.reduceAdd, Nat.reduceSub, Nat.reduceMul, Nat.reduceLeDiff, Nat.reduceLT, Int.reduceEq, Int.reduceNe, Int.reduceLT, Int.reduceLE, Int.reduceAdd, Int.reduceSub, Int.reduceMul, Int.reduceNeg, Int.reduceToNat, reduceCtorEq, w_i64, w_u64, tdiv_pos, tmod_pos, nth_map, foldA_len, nth_le, nth_tl, nth_tv, set_tl, set_tv])) | (with_reducible refine aq ?_) | (with_reducible refine yr (by kernel_rfl) (Nat.le_of_ble_eq_true rfl) ?_) | (with_reducible refine yx MIX (by kernel_rfl) (by kernel_rfl) (by kernel_rfl) (Nat.le_of_ble_eq_true rfl) ?_) | (with_reducible refine yc ?_) | (with_reducible refine yseq ?_) | (with_reducible refine awp_block ?_) | (with_reducible refine awp_ret ?_) | (with_reducible refine awp_exit ?_) | (with_reducible refine awp_skip ?_) | (with_reducible refine yr1 (by kernel_rfl) (Nat.le_of_ble_eq_true rfl) ?_) | (with_reducible refine yx1 MIX (by kernel_rfl) (by kernel_rfl) (by kernel_rfl) (Nat.le_of_ble_eq_true rfl) ?_) | (simp only [go_sem, ↓reduceIte, Nat.reduceEqDiff, Nat.reduceAdd, Nat.reduceSub, Nat.reduceMul, Nat.reduceLeDiff, Nat.reduceLT, Int.reduceEq, Int.reduceNe, Int.reduceLT, Int.reduceLE, Int.reduceAdd, Int.reduceSub, Int.reduceMul, Int.reduceNeg, Int.reduceToNat, reduceCtorEq]) | ((with_reducible refine cA_t (by first | with_reducible assumption | (simp only [decide_eq_true_eq, decide_eq_false_iff_not]; first | with_reducible assumption | omega)) (fun h => ?_)) <;> (try rewrite [h]) <;> clear h) | ((with_reducible refine cA_f (by first | with_reducible assumption | (simp only [decide_eq_true_eq, decide_eq_false_iff_not]; first | with_reducible assumption | omega)) (fun h => ?_)) <;> (try rewrite [h]) <;> clear h) | ((with_reducible refine gA_t (by first | with_reducible assumption | (simp only [decide_eq_true_eq, decide_eq_false_iff_not]; first | with_reducible assumption | omega)) (fun h => ?_)) <;> (try rewrite [h]) <;> clear h) | ((with_reducible refine gA_f (by first | with_reducible assumption | (simp only [decide_eq_true_eq, decide_eq_false_iff_not]; first | with_reducible assumption | omega)) (fun h => ?_)) <;> (try rewrite [h]) <;> clear h) | ((with_reducible refine pk_t (by first | with_reducible assumption | (simp only [decide_eq_true_eq, decide_eq_false_iff_not]; first | with_reducible assumption | omega)) (fun h => ?_)) <;> (try rewrite [h]) <;> clear h) | ((with_reducible refine pk_f (by first | with_reducible assumption | (simp only [decide_eq_true_eq, decide_eq_false_iff_not]; first | with_reducible assumption | omega)) (fun h => ?_)) <;> (try rewrite [h]) <;> clear h) | (with_reducible refine pk_if ?_) | ((with_reducible refine cA_split (fun h => ?_) (fun h => ?_)) <;> (try rewrite [h]) <;> (try simp (disch := omega) only [w_i64, w_u64, tdiv_pos, tmod_pos, nth_map, foldA_len, nth_le, nth_tl, nth_tv, set_tl, set_tv] at h) <;> (try simp only [decide_eq_true_eq, decide_eq_false_iff_not, Bool.not_eq_true, Bool.not_eq_false, Bool.not_eq_true', Bool.not_eq_false', not_true_eq_false, not_false_eq_true] at h) <;> (try (exfalso; omega))) | ((with_reducible refine gA_split (fun h => ?_) (fun h => ?_)) <;> (try rewrite [h]) <;> (try simp (disch := omega) only [w_i64, w_u64, tdiv_pos, tmod_pos, nth_map, foldA_len, nth_le, nth_tl, nth_tv, set_tl, set_tv] at h) <;> (try simp only [decide_eq_true_eq, decide_eq_false_iff_not, Bool.not_eq_true, Bool.not_eq_false, Bool.not_eq_true', Bool.not_eq_false', not_true_eq_false, not_false_eq_true] at h) <;> (try (exfalso; omega))) | (simp (disch := omega) only [w_i64, w_u64, tdiv_pos, tmod_pos, nth_map, foldA_len, nth_le, nth_tl, nth_tv, set_tl, set_tv]) | (with_reducible refine And.intro (by first | with_reducible assumption | rfl | omega) ?_) | (with_reducible refine And.intro ?_ ?_))
  · rw [sumTo, Int.natCast_add]
  · obtain rfl : k = 16 := by omega
    rw [countT, hm]; rfl
set_option maxHeartbeats 400000 in
theorem eqItems_d {G : Gl} (l m : List Item) (hl : l.length ≤ 1000000) (hm : m.length ≤ 1000000) : ACp Tryd.prog G 47 [lA l, lA m] (bA (decide (l = m))) := by
  refine acp_of_wpC (c := _) Tryd.func47 rfl (by kernel_rfl) [.tmp 4] rfl _ Tryd.ntmps47 (Nat.le_of_ble_eq_true rfl) rfl ?_
  repeat' (first | (with_reducible refine aq ?_) | (with_reducible refine yr (by kernel_rfl) (Nat.le_of_ble_eq_true rfl) ?_) | (with_reducible refine yx MIX (by kernel_rfl) (by kernel_rfl) (by kernel_rfl) (Nat.le_of_ble_eq_true rfl) ?_) | (with_reducible refine yc ?_) | (with_reducible refine yseq ?_) | (with_reducible refine awp_block ?_) | (with_reducible refine awp_ret ?_) | (with_reducible refine awp_exit ?_) | (with_reducible refine awp_skip ?_) | (with_reducible refine yr1 (by kernel_rfl) (Nat.le_of_ble_eq_true rfl) ?_) | (with_reducible refine yx1 MIX (by kernel_rfl) (by kernel_rfl) (by kernel_rfl) (Nat.le_of_ble_eq_true rfl) ?_) | (simp only [go_sem, ↓reduceIte, Nat.reduceEqDiff, Nat.reduceAdd, Nat.reduceSub, Nat.reduceMul, Nat.reduceLeDiff, Nat.reduceLT, Int.reduceEq, Int.reduceNe, Int.reduceLT, Int.reduceLE, Int.reduceAdd, Int.reduceSub, Int.reduceMul, Int.reduceNeg, Int.reduceToNat, reduceCtorEq]) | ((with_reducible refine cA_t (by first | with_reducible assumption | (simp only [decide_eq_true_eq, decide_eq_false_iff_not]; first | with_reducible assumption | omega)) (fun h => ?_)) <;> (try rewrite [h]) <;> clear h) | ((with_reducible refine cA_f (by first | with_reducible assumption | (simp only [decide_eq_true_eq, decide_eq_false_iff_not]; first | with_reducible assumption | omega)) (fun h => ?_)) <;> (try rewrite [h]) <;> clear h) | ((with_reducible refine gA_t (by first | with_reducible assumption | (simp only [decide_eq_true_eq, decide_eq_false_iff_not]; first | with_reducible assumption | omega)) (fun h => ?_)) <;> (try rewrite [h]) <;> clear h) | ((with_reducible refine gA_f (by first | with_reducible assumption | (simp only [decide_eq_true_eq, decide_eq_false_iff_not]; first | with_reducible assumption | omega)) (fun h => ?_)) <;> (try rewrite [h]) <;> clear h) | ((with_reducible refine pk_t (by first | with_reducible assumption | (simp only [decide_eq_true_eq, decide_eq_false_iff_not]; first | with_reducible assumption | omega)) (fun h => ?_)) <;> (try rewrite [h]) <;> clear h) | ((with_reducible refine pk_f (by first | with_reducible assumption | (simp only [decide_eq_true_eq, decide_eq_false_iff_not]; first | with_reducible assumption | omega)) (fun h => ?_)) <;> (try rewrite [h]) <;> clear h) | (with_reducible refine pk_if ?_) | ((with_reducible refine cA_split (fun h => ?_) (fun h => ?_)) <;> (try rewrite [h]) <;> (try simp (disch := omega) only [w_i64, w_u64, tdiv_pos, tmod_pos, nth_map, foldA_len, nth_le, nth_tl, nth_tv, set_tl, set_tv] at h) <;> (try simp only [decide_eq_true_eq, decide_eq_false_iff_not, Bool.not_eq_true, Bool.not_eq_false, Bool.not_eq_true', Bool.not_eq_false', not_true_eq_false, not_false_eq_true] at h) <;> (try (exfalso; omega))) | ((with_reducible refine gA_split (fun h => ?_) (fun h => ?_)) <;> (try rewrite [h]) <;> (try simp (disch := omega) only [w_i64, w_u64, tdiv_pos, tmod_pos, nth_map, foldA_len, nth_le, nth_tl, nth_tv, set_tl, set_tv] at h) <;> (try simp only [decide_eq_true_eq, decide_eq_false_iff_not, Bool.not_eq_true, Bool.not_eq_false, Bool.not_eq_true', Bool.not_eq_false', not_true_eq_false, not_false_eq_true] at h) <;> (try (exfalso; omega))) | (simp (disch := omega) only [w_i64, w_u64, tdiv_pos, tmod_pos, nth_map, foldA_len, nth_le, nth_tl, nth_tv, set_tl, set_tv]) | (with_reducible refine And.intro (by first | with_reducible assumption | rfl | omega) ?_) | (with_reducible refine And.intro ?_ ?_))
  · rw [show decide (l = m) = false by simpa using fun e => h (by rw [e])]
  have hlen : l.length = m.length := by omega
  clear h
  refine awp_loop (ι := {k : Nat // k ≤ l.length ∧ l.take k = m.take k}) (fun k => ⟨[], [(13, V (.int .i64 k.1)), (12, V (.int .i64 l.length)), (0, SL (l.map (flA Item.cells))), (1, SL (m.map (flA Item.cells)))]⟩) (fun k => l.length - k.1) ⟨0, Nat.zero_le _, rfl⟩ ?_ (Nat.zero_le _) ?_
  · (refine le_mk ?_ ?_ ?_ <;> (try simp (disch := omega) only [go_sem, ↓reduceIte, Nat.reduceEqDiff, Nat.reduceAdd, Nat.reduceSub, Nat.reduceMul, Nat.reduceLeDiff, Nat.reduceLT, Int.reduceEq, Int.reduceNe, Int.reduceLT, Int.reduceLE, Int.reduceAdd, Int.reduceSub, Int.reduceMul, Int.reduceNeg, Int.reduceToNat, reduceCtorEq, w_i64, w_u64, tdiv_pos, tmod_pos, nth_map, foldA_len, nth_le, nth_tl, nth_tv, set_tl, set_tv]))
  rintro ⟨k, hk, hall⟩
  dsimp only
  repeat' (first | (refine neq_it (l[k]'(by omega)) (m[k]'(by omega)) ?_) | (refine loop_n ⟨k + 1, by omega, ?_⟩ ?_ (Nat.zero_le _) (by dsimp only; omega)) | (refine le_mk ?_ ?_ ?_ <;> (try simp (disch := omega) only [go_sem, ↓reduceIte, Nat.reduceEqDiff, Nat.reduceAdd, Nat.reduceSub, Nat.reduceMul, Nat.reduceLeDiff, Nat.reduceLT, Int.reduceEq, Int.reduceNe, Int.reduceLT, Int.reduceLE, Int.reduceAdd, Int.reduceSub, Int.reduceMul, Int.reduceNeg, Int.reduceToNat, reduceCtorEq, w_i64, w_u64, tdiv_pos, tmod_pos, nth_map, foldA_len, nth_le, nth_tl, nth_tv, set_tl, set_tv])) | (with_reducible refine aq ?_) | (with_reducible refine yr (by kernel_rfl) (Nat.le_of_ble_eq_true rfl) ?_) | (with_reducible refine yx MIX (by kernel_rfl) (by kernel_rfl) (by kernel_rfl) (Nat.le_of_ble_eq_true rfl) ?_) | (with_reducible refine yc ?_) | (with_reducible refine yseq ?_) | (with_reducible refine awp_block ?_) | (with_reducible refine awp_ret ?_) | (with_reducible refine awp_exit ?_) | (with_reducible refine awp_skip ?_) | (with_reducible refine yr1 (by kernel_rfl) (Nat.le_of_ble_eq_true rfl) ?_) | (with_reducible refine yx1 MIX (by kernel_rfl) (by kernel_rfl) (by kernel_rfl) (Nat.le_of_ble_eq_true rfl) ?_) | (simp only [go_sem, ↓reduceIte, Nat.reduceEqDiff, Nat.reduceAdd, Nat.reduceSub, Nat.reduceMul, Nat.reduceLeDiff, Nat.reduceLT, Int.reduceEq, Int.reduceNe, Int.reduceLT, Int.reduceLE, Int.reduceAdd, Int.reduceSub, Int.reduceMul, Int.reduceNeg, Int.reduceToNat, reduceCtorEq]) | ((with_reducible refine cA_t (by first | with_reducible assumption | (simp only [decide_eq_true_eq, decide_eq_false_iff_not]; first | with_reducible assumption | omega)) (fun h => ?_)) <;> (try rewrite [h]) <;> clear h) | ((with_reducible refine cA_f (by first | with_reducible assumption | (simp only [decide_eq_true_eq, decide_eq_false_iff_not]; first | with_reducible assumption | omega)) (fun h => ?_)) <;> (try rewrite [h]) <;> clear h) | ((with_reducible refine gA_t (by first | with_reducible assumption | (simp only [decide_eq_true_eq, decide_eq_false_iff_not]; first | with_reducible assumption | omega)) (fun h => ?_)) <;> (try rewrite [h]) <;> clear h) | ((with_reducible refine gA_f (by first | with_reducible assumption | (simp only [decide_eq_true_eq, decide_eq_false_iff_not]; first | with_reducible assumption | omega)) (fun h => ?_)) <;> (try rewrite [h]) <;> clear h) | ((with_reducible refine pk_t (by first | with_reducible assumption | (simp only [decide_eq_true_eq, decide_eq_false_iff_not]; first | with_reducible assumption | omega)) (fun h => ?_)) <;> (try rewrite [h]) <;> clear h) | ((with_reducible refine pk_f (by first | with_reducible assumption | (simp only [decide_eq_true_eq, decide_eq_false_iff_not]; first | with_reducible assumption | omega)) (fun h => ?_)) <;> (try rewrite [h]) <;> clear h) | (with_reducible refine pk_if ?_) | ((with_reducible refine cA_split (fun h => ?_) (fun h => ?_)) <;> (try rewrite [h]) <;> (try simp (disch := omega) only [w_i64, w_u64, tdiv_pos, tmod_pos, nth_map, foldA_len, nth_le, nth_tl, nth_tv, set_tl, set_tv] at h) <;> (try simp only [decide_eq_true_eq, decide_eq_false_iff_not, Bool.not_eq_true, Bool.not_eq_false, Bool.not_eq_true', Bool.not_eq_false', not_true_eq_false, not_false_eq_true] at h) <;> (try (exfalso; omega))) | ((with_reducible refine gA_split (fun h => ?_) (fun h => ?_)) <;> (try rewrite [h]) <;> (try simp (disch := omega) only [w_i64, w_u64, tdiv_pos, tmod_pos, nth_map, foldA_len, nth_le, nth_tl, nth_tv, set_tl, set_tv] at h) <;> (try simp only [decide_eq_true_eq, decide_eq_false_iff_not, Bool.not_eq_true, Bool.not_eq_false, Bool.not_eq_true', Bool.not_eq_false', not_true_eq_false, not_false_eq_true] at h) <;> (try (exfalso; omega))) | (simp (disch := omega) only [w_i64, w_u64, tdiv_pos, tmod_pos, nth_map, foldA_len, nth_le, nth_tl, nth_tv, set_tl, set_tv]) | (with_reducible refine And.intro (by first | with_reducible assumption | rfl | omega) ?_) | (with_reducible refine And.intro ?_ ?_))
  · rw [show decide (l = m) = false by
      rw [decide_eq_false_iff_not]
      rintro rfl
      exact h rfl]
  · rw [List.take_succ_eq_append_getElem (by omega), List.take_succ_eq_append_getElem (by omega), hall, h]
  · rw [List.take_of_length_le (by omega), List.take_of_length_le (by omega)] at hall
    rw [hall, decide_eq_true rfl]
end Go.Proofs.YthmnhfabkllgpaaDoor

namespace Go.Proofs.YthmnhfabkllgpaaDoor
open Go.RowKit
set_option linter.unusedVariables false
set_option linter.unusedSimpArgs false
set_option maxRecDepth 20000
def unlikeT (a b : Tr) : List Nat × Nat := if mayT a && mayT b then (unlikeL a b 16, 0) else ([], 1)
theorem u_yes {a b : Tr} {k : Nat} (h : unlikeAt a b k = true) : unlikeL a b (k + 1) = unlikeL a b k ++ [k] := by rw [unlikeL_succ, h]; rfl
theorem u_no {a b : Tr} {k : Nat} (h : unlikeAt a b k = false) : unlikeL a b (k + 1) = unlikeL a b k := by rw [unlikeL_succ, h]; exact List.append_nil _
theorem nLs_app (l : List Nat) (k : Nat) : nLs (l ++ [k]) = nLs l ++ [nA (k : Int)] := by simp [nLs]
attribute [local go_sem ↓] str_size pk_tt pk_ff hold_one hold_two gO_some gA_tt gA_tf gA_ft gA_ff cA_true cA_false yP_n yP_r yK_n yK_r yQ_n yQ_r yC_nil yC_tmp yC_cell yo_nil yo_cons yo_none yo_guard yo_guardN ys_move ys_assign ys_pick ys_bin ys_un ys_build ys_buildSlice ys_load ys_nilCheck ys_conv ys_extract ys_fieldAddr ys_field ys_indexAddr ys_index ys_slice ys_len ys_alloc ys_box ys_store ys_call ys_append ys_makeFunc ys_callv yd_nil yd_alloc yd_store yd_move yg_move yd_assign yg_assign yd_pick yg_pick yd_bin yg_bin yd_un yg_un yd_build yg_build yd_buildSlice yg_buildSlice yd_load yg_load yd_nilCheck yg_nilCheck yd_conv yg_conv yd_extract yg_extract yd_fieldAddr yg_fieldAddr yd_field yg_field yd_indexAddr yg_indexAddr yd_index yg_index yd_slice yg_slice yd_len yg_len yd_call yg_call ixA_eq sl_es sl_row sl_nil ap_eq bs_eq bl_eq cv_eq ixV_agg thenA_n thenA_r thenA_x inB_n inB_r inB_x loop_r loop_x dstAt_zero dstAt_succ retP_n retP_r
attribute [local go_sem] hle_nil hle_cons oO_one oO_two oO_three oO_nil r1_r0 r1_r1 r1_r2 r1_r3 ro_OW roA_OW go_some al_some okX_f okX_t tells regOnly cv_cl cap0_V cap0_OP cap0_ptr ixA_s ixA_p ixA_o szOf_one szOf_two ixV_str ixW_some sl_str slE_some apE_nil apE_row bsE_one flE_some pget_zero pget_succ blE_some fil_nil fil_cons filB_some cvE_some cv_str' str_list str_cut str_data cut_all cut_to s_eql s_neq s_add s_lss s_geq s_leq s_gtr lt1 set_some set_none get_cons ev_tmp ev_const ev_func ev_global glob_cons cv_int cv_bool cv_str cv_slice cv_ptr cv_agg one_int one_bool one_str one_slice one_ptr b_add b_sub b_mul b_quo b_rem b_and b_or b_xor b_andNot b_shl b_shr b_eql b_neq b_lss b_leq b_gtr b_geq b_str b_beq b_bne u_not u_neg g_tt g_tf g_ft g_ff c_true c_false ex_tu nth_zero nth_succ nthO_zero nthO_succ l_ptr l_ptrV l_ptrS l_op cP_one pP_one oc_one oc_agg st_op f_ptr f_op fv_agg co_agg co_V co_slice co_OW co_OP co_ptr sure_V sure_slice sure_OW sure_OP sure_ptr sure_agg sc_nil sc_cons ixS ixSW ixSN bsV_nil bsV_cons el_slice el_row el_nil len_str len_slice len_row len_nil asI_none asI_some nil_op nil_ptr ro_int ro_bool ro_str ro_nils ro_slice ro_ptr ro_OP ro_OW ro_agg ro_tu roA_agg roA_V roA_slice roA_OW roA_OP roA_ptr r1_int r1_bool r1_str r1_nils r1_slice r1_ptr r1_OP resA_one resA_two resA_three noT_V noT_agg noT_slice noT_OW noT_OP noT_ptr noT_nil argsT_nil argsT_cons allC_nil allC_cons allC_append hle_nil hle_cons le_nil le_cons tT_V tT_SL tT_ptr tT_OW tT_OP tT_agg tT_TU tA_V tA_SL tA_ptr tA_OW tA_OP tA_agg t1_V t1_SL t1_ptr t1_OW t1_OP tO_mk get_cons beq_self_eq_true Nat.zero_lt_succ Nat.lt_add_one true_or or_true Bool.or_self Nat.zero_add Nat.add_zero Nat.mul_one Int.toNat_natCast Int.natCast_zero Int.natCast_add Int.cast_ofNat_Int or_false false_or or_true true_or Nat.sub_zero Int.natCast_nonneg Int.toNat_zero Bool.true_and Bool.and_true Bool.false_and Bool.and_false Bool.true_or Bool.or_true Bool.false_or Bool.or_false Bool.not_true Bool.not_false Bool.not_not true_and and_true false_and and_false not_true_eq_false not_false_eq_true eq_self decide_true decide_false ne_eq implies_true forall_const true_implies false_implies Bool.true_eq_false Bool.false_eq_true List.map_cons List.map_nil List.all_cons List.all_nil List.length_cons List.length_nil List.length_map List.length_append List.nil_append List.cons_append List.set_cons_zero List.set_cons_succ List.set_nil List.drop_zero List.drop_succ_cons List.drop_nil List.take_zero List.take_succ_cons List.take_nil Option.map_some Option.map_none Option.isSome_some tk_2 tk_3 tk_9 tk_22 tk_23 tk_26 tk_28 tk_30 tk_81 tf_26_0 tf_26_1 tf_28_0 tf_28_1 tf_28_2 tf_30_0 tf_30_1 tf_30_2 tf_54_0 tf_54_1 tf_54_2 tf_54_3 ts_9 ts_22 ts_23 ts_24 ts_49 ts_79 ts_94 ta_9 ta_22 ta_23 ta_24 ta_49 ta_94 tp_26 tp_28 tp_30 tq_22 tq_49 tq_79 ti_3 ti_5 ti_81 tz_28 tz_30 tv_2 tv_3 tu_4 tv_4 tv_5 tu_9 tv_9 tv_33 tv_81 iA_def fl_it allC_it foldA_all lt_it lt_fold lA_def leC_lt1 tC_len zC_len tC_sure tC_lt1 tC_ltA zC_ltA zC_lt1 tC_ro zC_sure zC_ro tC_take zC_take tC_take16 sc_tt sc_zt sc_tz sc_zz add16 tz_T tA_def
set_option maxHeartbeats 4000000 in
theorem unlike_d {G : Gl} (hG : SigG G) (a b : Tr) (ha : ∀ i, (a.leaf i).length ≤ 1000000) (hb : ∀ i, (b.leaf i).length ≤ 1000000) : ACp Tryd.prog G 22 [tA a, tA b] (TU [SL (nLs (unlikeT a b).1), nA (unlikeT a b).2]) := by
  have ha' : ∀ i, (a.leaf i).length ≤ 34359738368 := fun i => Nat.le_trans (ha i) (by decide)
  have hb' : ∀ i, (b.leaf i).length ≤ 34359738368 := fun i => Nat.le_trans (hb i) (by decide)
  cases hma : mayT a with
  | false =>
    refine acp_of_wpC (c := _) Tryd.func22 rfl (by kernel_rfl) [.tmp 4, .tmp 5] rfl _ Tryd.ntmps22 (Nat.le_of_ble_eq_true rfl) rfl ?_
    repeat' (first | (refine call_pure (may_d hG _ ha') (by (simp (disch := omega) only [go_sem, ↓reduceIte, Nat.reduceEqDiff, Nat.reduceAdd, Nat.reduceSub, Nat.reduceMul, Nat.reduceLeDiff, Nat.reduceLT, Int.reduceEq, Int.reduceNe, Int.reduceLT, Int.reduceLE, Int.reduceAdd, Int.reduceSub, Int.reduceMul, Int.reduceNeg, Int.reduceToNat, reduceCtorEq, w_i64, w_u64, tdiv_pos, tmod_pos, nth_map, foldA_len, nth_le, nth_tl, nth_tv, set_tl, set_tv])) ?_) | (with_reducible refine aq ?_) | (with_reducible refine yr (by kernel_rfl) (Nat.le_of_ble_eq_true rfl) ?_) | (with_reducible refine yx MIX (by kernel_rfl) (by kernel_rfl) (by kernel_rfl) (Nat.le_of_ble_eq_true rfl) ?_) | (with_reducible refine yc ?_) | (with_reducible refine yseq ?_) | (with_reducible refine awp_block ?_) | (with_reducible refine awp_ret ?_) | (with_reducible refine awp_exit ?_) | (with_reducible refine awp_skip ?_) | (with_reducible refine yr1 (by kernel_rfl) (Nat.le_of_ble_eq_true rfl) ?_) | (with_reducible refine yx1 MIX (by kernel_rfl) (by kernel_rfl) (by kernel_rfl) (Nat.le_of_ble_eq_true rfl) ?_) | (simp only [go_sem, ↓reduceIte, Nat.reduceEqDiff, Nat.reduceAdd, Nat.reduceSub, Nat.reduceMul, Nat.reduceLeDiff, Nat.reduceLT, Int.reduceEq, Int.reduceNe, Int.reduceLT, Int.reduceLE, Int.reduceAdd, Int.reduceSub, Int.reduceMul, Int.reduceNeg, Int.reduceToNat, reduceCtorEq, hma]) | ((with_reducible refine cA_t (by first | with_reducible assumption | (simp only [decide_eq_true_eq, decide_eq_false_iff_not]; first | with_reducible assumption | omega)) (fun h => ?_)) <;> (try rewrite [h]) <;> clear h) | ((with_reducible refine cA_f (by first | with_reducible assumption | (simp only [decide_eq_true_eq, decide_eq_false_iff_not]; first | with_reducible assumption | omega)) (fun h => ?_)) <;> (try rewrite [h]) <;> clear h) | ((with_reducible refine gA_t (by first | with_reducible assumption | (simp only [decide_eq_true_eq, decide_eq_false_iff_not]; first | with_reducible assumption | omega)) (fun h => ?_)) <;> (try rewrite [h]) <;> clear h) | ((with_reducible refine gA_f (by first | with_reducible assumption | (simp only [decide_eq_true_eq, decide_eq_false_iff_not]; first | with_reducible assumption | omega)) (fun h => ?_)) <;> (try rewrite [h]) <;> clear h) | ((with_reducible refine pk_t (by first | with_reducible assumption | (simp only [decide_eq_true_eq, decide_eq_false_iff_not]; first | with_reducible assumption | omega)) (fun h => ?_)) <;> (try rewrite [h]) <;> clear h) | ((with_reducible refine pk_f (by first | with_reducible assumption | (simp only [decide_eq_true_eq, decide_eq_false_iff_not]; first | with_reducible assumption | omega)) (fun h => ?_)) <;> (try rewrite [h]) <;> clear h) | (with_reducible refine pk_if ?_) | ((with_reducible refine cA_split (fun h => ?_) (fun h => ?_)) <;> (try rewrite [h]) <;> (try simp (disch := omega) only [w_i64, w_u64, tdiv_pos, tmod_pos, nth_map, foldA_len, nth_le, nth_tl, nth_tv, set_tl, set_tv] at h) <;> (try simp only [decide_eq_true_eq, decide_eq_false_iff_not, Bool.not_eq_true, Bool.not_eq_false, Bool.not_eq_true', Bool.not_eq_false', not_true_eq_false, not_false_eq_true] at h) <;> (try (exfalso; omega))) | ((with_reducible refine gA_split (fun h => ?_) (fun h => ?_)) <;> (try rewrite [h]) <;> (try simp (disch := omega) only [w_i64, w_u64, tdiv_pos, tmod_pos, nth_map, foldA_len, nth_le, nth_tl, nth_tv, set_tl, set_tv] at h) <;> (try simp only [decide_eq_true_eq, decide_eq_false_iff_not, Bool.not_eq_true, Bool.not_eq_false, Bool.not_eq_true', Bool.not_eq_false', not_true_eq_false, not_false_eq_true] at h) <;> (try (exfalso; omega))) | (simp (disch := omega) only [w_i64, w_u64, tdiv_pos, tmod_pos, nth_map, foldA_len, nth_le, nth_tl, nth_tv, set_tl, set_tv]) | (with_reducible refine And.intro (by first | with_reducible assumption | rfl | omega) ?_) | (with_reducible refine And.intro ?_ ?_))
    rw [unlikeT, hma]; rfl
  | true =>
  cases hmb : mayT b with
  | false =>
    refine acp_of_wpC (c := _) Tryd.func22 rfl (by kernel_rfl) [.tmp 4, .tmp 5] rfl _ Tryd.ntmps22 (Nat.le_of_ble_eq_true rfl) rfl ?_
    repeat' (first | (refine call_pure (may_d hG a ha') (by (simp (disch := omega) only [go_sem, ↓reduceIte, Nat.reduceEqDiff, Nat.reduceAdd, Nat.reduceSub, Nat.reduceMul, Nat.reduceLeDiff, Nat.reduceLT, Int.reduceEq, Int.reduceNe, Int.reduceLT, Int.reduceLE, Int.reduceAdd, Int.reduceSub, Int.reduceMul, Int.reduceNeg, Int.reduceToNat, reduceCtorEq, w_i64, w_u64, tdiv_pos, tmod_pos, nth_map, foldA_len, nth_le, nth_tl, nth_tv, set_tl, set_tv])) ?_) | (refine call_pure (may_d hG b hb') (by (simp (disch := omega) only [go_sem, ↓reduceIte, Nat.reduceEqDiff, Nat.reduceAdd, Nat.reduceSub, Nat.reduceMul, Nat.reduceLeDiff, Nat.reduceLT, Int.reduceEq, Int.reduceNe, Int.reduceLT, Int.reduceLE, Int.reduceAdd, Int.reduceSub, Int.reduceMul, Int.reduceNeg, Int.reduceToNat, reduceCtorEq, w_i64, w_u64, tdiv_pos, tmod_pos, nth_map, foldA_len, nth_le, nth_tl, nth_tv, set_tl, set_tv])) ?_) | (with_reducible refine aq ?_) | (with_reducible refine yr (by kernel_rfl) (Nat.le_of_ble_eq_true rfl) ?_) | (with_reducible refine yx MIX (by kernel_rfl) (by kernel_rfl) (by kernel_rfl) (Nat.le_of_ble_eq_true rfl) ?_) | (with_reducible refine yc ?_) | (with_reducible refine yseq ?_) | (with_reducible refine awp_block ?_) | (with_reducible refine awp_ret ?_) | (with_reducible refine awp_exit ?_) | (with_reducible refine awp_skip ?_) | (with_reducible refine yr1 (by kernel_rfl) (Nat.le_of_ble_eq_true rfl) ?_) | (with_reducible refine yx1 MIX (by kernel_rfl) (by kernel_rfl) (by kernel_rfl) (Nat.le_of_ble_eq_true rfl) ?_) | (simp only [go_sem, ↓reduceIte, Nat.reduceEqDiff, Nat.reduceAdd, Nat.reduceSub, Nat.reduceMul, Nat.reduceLeDiff, Nat.reduceLT, Int.reduceEq, Int.reduceNe, Int.reduceLT, Int.reduceLE, Int.reduceAdd, Int.reduceSub, Int.reduceMul, Int.reduceNeg, Int.reduceToNat, reduceCtorEq, hma, hmb]) | ((with_reducible refine cA_t (by first | with_reducible assumption | (simp only [decide_eq_true_eq, decide_eq_false_iff_not]; first | with_reducible assumption | omega)) (fun h => ?_)) <;> (try rewrite [h]) <;> clear h) | ((with_reducible refine cA_f (by first | with_reducible assumption | (simp only [decide_eq_true_eq, decide_eq_false_iff_not]; first | with_reducible assumption | omega)) (fun h => ?_)) <;> (try rewrite [h]) <;> clear h) | ((with_reducible refine gA_t (by first | with_reducible assumption | (simp only [decide_eq_true_eq, decide_eq_false_iff_not]; first | with_reducible assumption | omega)) (fun h => ?_)) <;> (try rewrite [h]) <;> clear h) | ((with_reducible refine gA_f (by first | with_reducible assumption | (simp only [decide_eq_true_eq, decide_eq_false_iff_not]; first | with_reducible assumption | omega)) (fun h => ?_)) <;> (try rewrite [h]) <;> clear h) | ((with_reducible refine pk_t (by first | with_reducible assumption | (simp only [decide_eq_true_eq, decide_eq_false_iff_not]; first | with_reducible assumption | omega)) (fun h => ?_)) <;> (try rewrite [h]) <;> clear h) | ((with_reducible refine pk_f (by first | with_reducible assumption | (simp only [decide_eq_true_eq, decide_eq_false_iff_not]; first | with_reducible assumption | omega)) (fun h => ?_)) <;> (try rewrite [h]) <;> clear h) | (with_reducible refine pk_if ?_) | ((with_reducible refine cA_split (fun h => ?_) (fun h => ?_)) <;> (try rewrite [h]) <;> (try simp (disch := omega) only [w_i64, w_u64, tdiv_pos, tmod_pos, nth_map, foldA_len, nth_le, nth_tl, nth_tv, set_tl, set_tv] at h) <;> (try simp only [decide_eq_true_eq, decide_eq_false_iff_not, Bool.not_eq_true, Bool.not_eq_false, Bool.not_eq_true', Bool.not_eq_false', not_true_eq_false, not_false_eq_true] at h) <;> (try (exfalso; omega))) | ((with_reducible refine gA_split (fun h => ?_) (fun h => ?_)) <;> (try rewrite [h]) <;> (try simp (disch := omega) only [w_i64, w_u64, tdiv_pos, tmod_pos, nth_map, foldA_len, nth_le, nth_tl, nth_tv, set_tl, set_tv] at h) <;> (try simp only [decide_eq_true_eq, decide_eq_false_iff_not, Bool.not_eq_true, Bool.not_eq_false, Bool.not_eq_true', Bool.not_eq_false', not_true_eq_false, not_false_eq_true] at h) <;> (try (exfalso; omega))) | (simp (disch := omega) only [w_i64, w_u64, tdiv_pos, tmod_pos, nth_map, foldA_len, nth_le, nth_tl, nth_tv, set_tl, set_tv]) | (with_reducible refine And.intro (by first | with_reducible assumption | rfl | omega) ?_) | (with_reducible refine And.intro ?_ ?_))
    rw [unlikeT, hma, hmb]; rfl
  | true =>
  refine acp_of_wpC (c := _) Tryd.func22 rfl (by kernel_rfl) [.tmp 4, .tmp 5] rfl _ Tryd.ntmps22 (Nat.le_of_ble_eq_true rfl) rfl ?_
  repeat' (first | (refine call_pure (may_d hG a ha') (by (simp (disch := omega) only [go_sem, ↓reduceIte, Nat.reduceEqDiff, Nat.reduceAdd, Nat.reduceSub, Nat.reduceMul, Nat.reduceLeDiff, Nat.reduceLT, Int.reduceEq, Int.reduceNe, Int.reduceLT, Int.reduceLE, Int.reduceAdd, Int.reduceSub, Int.reduceMul, Int.reduceNeg, Int.reduceToNat, reduceCtorEq, w_i64, w_u64, tdiv_pos, tmod_pos, nth_map, foldA_len, nth_le, nth_tl, nth_tv, set_tl, set_tv])) ?_) | (refine call_pure (may_d hG b hb') (by (simp (disch := omega) only [go_sem, ↓reduceIte, Nat.reduceEqDiff, Nat.reduceAdd, Nat.reduceSub, Nat.reduceMul, Nat.reduceLeDiff, Nat.reduceLT, Int.reduceEq, Int.reduceNe, Int.reduceLT, Int.reduceLE, Int.reduceAdd, Int.reduceSub, Int.reduceMul, Int.reduceNeg, Int.reduceToNat, reduceCtorEq, w_i64, w_u64, tdiv_pos, tmod_pos, nth_map, foldA_len, nth_le, nth_tl, nth_tv, set_tl, set_tv])) ?_) | (with_reducible refine aq ?_) | (with_reducible refine yr (by kernel_rfl) (Nat.le_of_ble_eq_true rfl) ?_) | (with_reducible refine yx MIX (by kernel_rfl) (by kernel_rfl) (by kernel_rfl) (Nat.le_of_ble_eq_true rfl) ?_) | (with_reducible refine yc ?_) | (with_reducible refine yseq ?_) | (with_reducible refine awp_block ?_) | (with_reducible refine awp_ret ?_) | (with_reducible refine awp_exit ?_) | (with_reducible refine awp_skip ?_) | (with_reducible refine yr1 (by kernel_rfl) (Nat.le_of_ble_eq_true rfl) ?_) | (with_reducible refine yx1 MIX (by kernel_rfl) (by kernel_rfl) (by kernel_rfl) (Nat.le_of_ble_eq_true rfl) ?_) | (simp only [go_sem, ↓reduceIte, Nat.reduceEqDiff, Nat.reduceAdd, Nat.reduceSub, Nat.reduceMul, Nat.reduceLeDiff, Nat.reduceLT, Int.reduceEq, Int.reduceNe, Int.reduceLT, Int.reduceLE, Int.reduceAdd, Int.reduceSub, Int.reduceMul, Int.reduceNeg, Int.reduceToNat, reduceCtorEq, hma, hmb]) | ((with_reducible refine cA_t (by first | with_reducible assumption | (simp only [decide_eq_true_eq, decide_eq_false_iff_not]; first | with_reducible assumption | omega)) (fun h => ?_)) <;> (try rewrite [h]) <;> clear h) | ((with_reducible refine cA_f (by first | with_reducible assumption | (simp only [decide_eq_true_eq, decide_eq_false_iff_not]; first | with_reducible assumption | omega)) (fun h => ?_)) <;> (try rewrite [h]) <;> clear h) | ((with_reducible refine gA_t (by first | with_reducible assumption | (simp only [decide_eq_true_eq, decide_eq_false_iff_not]; first | with_reducible assumption | omega)) (fun h => ?_)) <;> (try rewrite [h]) <;> clear h) | ((with_reducible refine gA_f (by first | with_reducible assumption | (simp only [decide_eq_true_eq, decide_eq_false_iff_not]; first | with_reducible assumption | omega)) (fun h => ?_)) <;> (try rewrite [h]) <;> clear h) | ((with_reducible refine pk_t (by first | with_reducible assumption | (simp only [decide_eq_true_eq, decide_eq_false_iff_not]; first | with_reducible assumption | omega)) (fun h => ?_)) <;> (try rewrite [h]) <;> clear h) | ((with_reducible refine pk_f (by first | with_reducible assumption | (simp only [decide_eq_true_eq, decide_eq_false_iff_not]; first | with_reducible assumption | omega)) (fun h => ?_)) <;> (try rewrite [h]) <;> clear h) | (with_reducible refine pk_if ?_) | ((with_reducible refine cA_split (fun h => ?_) (fun h => ?_)) <;> (try rewrite [h]) <;> (try simp (disch := omega) only [w_i64, w_u64, tdiv_pos, tmod_pos, nth_map, foldA_len, nth_le, nth_tl, nth_tv, set_tl, set_tv] at h) <;> (try simp only [decide_eq_true_eq, decide_eq_false_iff_not, Bool.not_eq_true, Bool.not_eq_false, Bool.not_eq_true', Bool.not_eq_false', not_true_eq_false, not_false_eq_true] at h) <;> (try (exfalso; omega))) | ((with_reducible refine gA_split (fun h => ?_) (fun h => ?_)) <;> (try rewrite [h]) <;> (try simp (disch := omega) only [w_i64, w_u64, tdiv_pos, tmod_pos, nth_map, foldA_len, nth_le, nth_tl, nth_tv, set_tl, set_tv] at h) <;> (try simp only [decide_eq_true_eq, decide_eq_false_iff_not, Bool.not_eq_true, Bool.not_eq_false, Bool.not_eq_true', Bool.not_eq_false', not_true_eq_false, not_false_eq_true] at h) <;> (try (exfalso; omega))) | (simp (disch := omega) only [w_i64, w_u64, tdiv_pos, tmod_pos, nth_map, foldA_len, nth_le, nth_tl, nth_tv, set_tl, set_tv]) | (with_reducible refine And.intro (by first | with_reducible assumption | rfl | omega) ?_) | (with_reducible refine And.intro ?_ ?_))
  refine awp_row 6 3 1 rfl (Nat.le_of_ble_eq_true rfl) ?_
  refine awp_loop (ι := {k : Nat // k ≤ 16}) (fun k => ⟨[⟨1, 26, 0, tC a⟩, ⟨1, 26, 0, tC b⟩, ⟨2, 3, 1, nLs (unlikeL a b k.1)⟩], [(16, V (.int .i64 k.1)), (6, OW 2 (unlikeL a b k.1).length), (2, OP 0 0), (3, OP 1 0)]⟩) (fun k => 16 - k.1) ⟨0, Nat.zero_le _⟩ ?_ (Nat.zero_le _) ?_
  · (refine le_mk ?_ ?_ ?_ <;> (try simp (disch := omega) only [go_sem, ↓reduceIte, Nat.reduceEqDiff, Nat.reduceAdd, Nat.reduceSub, Nat.reduceMul, Nat.reduceLeDiff, Nat.reduceLT, Int.reduceEq, Int.reduceNe, Int.reduceLT, Int.reduceLE, Int.reduceAdd, Int.reduceSub, Int.reduceMul, Int.reduceNeg, Int.reduceToNat, reduceCtorEq, w_i64, w_u64, tdiv_pos, tmod_pos, nth_map, foldA_len, nth_le, nth_tl, nth_tv, set_tl, set_tv, nLs_lt]))
    · rfl
    · rfl
  rintro ⟨k, hk⟩
  have hu := unlikeL_le a b k
  dsimp only
  repeat' (first | (refine call_d (eqItems_d (a.leaf k) (b.leaf k) (ha _) (hb _)) rfl ?_) | (refine loop_n ⟨k + 1, by omega⟩ ?_ (Nat.zero_le _) (by dsimp only; omega)) | (refine le_mk ?_ ?_ ?_ <;> (try simp (disch := omega) only [go_sem, ↓reduceIte, Nat.reduceEqDiff, Nat.reduceAdd, Nat.reduceSub, Nat.reduceMul, Nat.reduceLeDiff, Nat.reduceLT, Int.reduceEq, Int.reduceNe, Int.reduceLT, Int.reduceLE, Int.reduceAdd, Int.reduceSub, Int.reduceMul, Int.reduceNeg, Int.reduceToNat, reduceCtorEq, w_i64, w_u64, tdiv_pos, tmod_pos, nth_map, foldA_len, nth_le, nth_tl, nth_tv, set_tl, set_tv, nLs_lt])) | (with_reducible refine aq ?_) | (with_reducible refine yr (by kernel_rfl) (Nat.le_of_ble_eq_true rfl) ?_) | (with_reducible refine yx MIX (by kernel_rfl) (by kernel_rfl) (by kernel_rfl) (Nat.le_of_ble_eq_true rfl) ?_) | (with_reducible refine yc ?_) | (with_reducible refine yseq ?_) | (with_reducible refine awp_block ?_) | (with_reducible refine awp_ret ?_) | (with_reducible refine awp_exit ?_) | (with_reducible refine awp_skip ?_) | (with_reducible refine yr1 (by kernel_rfl) (Nat.le_of_ble_eq_true rfl) ?_) | (with_reducible refine yx1 MIX (by kernel_rfl) (by kernel_rfl) (by kernel_rfl) (Nat.le_of_ble_eq_true rfl) ?_) | (simp only [go_sem, ↓reduceIte, Nat.reduceEqDiff, Nat.reduceAdd, Nat.reduceSub, Nat.reduceMul, Nat.reduceLeDiff, Nat.reduceLT, Int.reduceEq, Int.reduceNe, Int.reduceLT, Int.reduceLE, Int.reduceAdd, Int.reduceSub, Int.reduceMul, Int.reduceNeg, Int.reduceToNat, reduceCtorEq, nLs_len, nLs_allC]) | ((with_reducible refine cA_t (by first | with_reducible assumption | (simp only [decide_eq_true_eq, decide_eq_false_iff_not]; first | with_reducible assumption | omega)) (fun h => ?_)) <;> (try rewrite [h]) <;> clear h) | ((with_reducible refine cA_f (by first | with_reducible assumption | (simp only [decide_eq_true_eq, decide_eq_false_iff_not]; first | with_reducible assumption | omega)) (fun h => ?_)) <;> (try rewrite [h]) <;> clear h) | ((with_reducible refine gA_t (by first | with_reducible assumption | (simp only [decide_eq_true_eq, decide_eq_false_iff_not]; first | with_reducible assumption | omega)) (fun h => ?_)) <;> (try rewrite [h]) <;> clear h) | ((with_reducible refine gA_f (by first | with_reducible assumption | (simp only [decide_eq_true_eq, decide_eq_false_iff_not]; first | with_reducible assumption | omega)) (fun h => ?_)) <;> (try rewrite [h]) <;> clear h) | ((with_reducible refine pk_t (by first | with_reducible assumption | (simp only [decide_eq_true_eq, decide_eq_false_iff_not]; first | with_reducible assumption | omega)) (fun h => ?_)) <;> (try rewrite [h]) <;> clear h) | ((with_reducible refine pk_f (by first | with_reducible assumption | (simp only [decide_eq_true_eq, decide_eq_false_iff_not]; first | with_reducible assumption | omega)) (fun h => ?_)) <;> (try rewrite [h]) <;> clear h) | (with_reducible refine pk_if ?_) | ((with_reducible refine cA_split (fun h => ?_) (fun h => ?_)) <;> (try rewrite [h]) <;> (try simp (disch := omega) only [w_i64, w_u64, tdiv_pos, tmod_pos, nth_map, foldA_len, nth_le, nth_tl, nth_tv, set_tl, set_tv] at h) <;> (try simp only [decide_eq_true_eq, decide_eq_false_iff_not, Bool.not_eq_true, Bool.not_eq_false, Bool.not_eq_true', Bool.not_eq_false', not_true_eq_false, not_false_eq_true] at h) <;> (try (exfalso; omega))) | ((with_reducible refine gA_split (fun h => ?_) (fun h => ?_)) <;> (try rewrite [h]) <;> (try simp (disch := omega) only [w_i64, w_u64, tdiv_pos, tmod_pos, nth_map, foldA_len, nth_le, nth_tl, nth_tv, set_tl, set_tv] at h) <;> (try simp only [decide_eq_true_eq, decide_eq_false_iff_not, Bool.not_eq_true, Bool.not_eq_false, Bool.not_eq_true', Bool.not_eq_false', not_true_eq_false, not_false_eq_true] at h) <;> (try (exfalso; omega))) | (simp (disch := omega) only [w_i64, w_u64, tdiv_pos, tmod_pos, nth_map, foldA_len, nth_le, nth_tl, nth_tv, set_tl, set_tv]) | (with_reducible refine And.intro (by first | with_reducible assumption | rfl | omega) ?_) | (with_reducible refine And.intro ?_ ?_))
  all_goals first
    | (rw [u_yes (by simp [unlikeAt, h]), nLs_app]; done)
    | (rw [u_yes (by simp [unlikeAt, h]), List.length_append]; rfl)
    | (rw [u_no (by simp_all [unlikeAt])]; done)
    | skip
  obtain rfl : k = 16 := by omega
  rw [unlikeT, hma, hmb]; rfl
end Go.Proofs.YthmnhfabkllgpaaDoor

namespace Go.Proofs.YthmnhfabkllgpaaDoor
open Go.RowKit
set_option linter.unusedVariables false
set_option linter.unusedSimpArgs false
def Tr.Eq16 (t u : Tr) : Prop := ∀ i, i < 16 → t.leaf i = u.leaf i ∧ t.ver i = u.ver i
theorem map_range_inj {α β : Type} {f g : Nat → β} {n : Nat} (h : (List.range n).map f = (List.range n).map g) : ∀ i, i < n → f i = g i := fun i hi => by
  have := congrArg (fun l => l[i]?) h
  simpa [List.getElem?_map, List.getElem?_range hi] using this
theorem tA_inj {t u : Tr} (h : tA t = tA u) : t.Eq16 u := by
  unfold tA tC at h
  injection h with h
  obtain ⟨h1, h2⟩ := List.append_inj h (by rw [leC_len, leC_len])
  intro i hi
  exact ⟨lA_inj (map_range_inj (α := Nat) h1 i hi), nA_inj (map_range_inj (α := Nat) h2 i hi)⟩
theorem tA_eq {t u : Tr} (h : t.Eq16 u) : tA t = tA u := by
  unfold tA tC leC veC
  congr 2
  · exact List.map_congr_left fun i hi => by rw [(h i (List.mem_range.1 hi)).1]
  · exact List.map_congr_left fun i hi => by rw [(h i (List.mem_range.1 hi)).2]
theorem all_range_congr {f g : Nat → Bool} {n : Nat} (h : ∀ i, i < n → f i = g i) : (List.range n).all f = (List.range n).all g := by
  rw [Bool.eq_iff_iff, List.all_eq_true, List.all_eq_true]
  exact ⟨fun q i hi => by rw [← h i (List.mem_range.1 hi)]; exact q i hi, fun q i hi => by rw [h i (List.mem_range.1 hi)]; exact q i hi⟩
theorem mayT_eq {t u : Tr} (h : t.Eq16 u) : mayT t = mayT u := all_range_congr fun i hi => by rw [(h i hi).1, (h i hi).2]
theorem getT_eq {t u : Tr} (h : t.Eq16 u) (k : Bytes) : getT t k = getT u k := by
  unfold getT
  rw [mayT_eq h]
  cases hk : keyB k with
  | false => rfl
  | true => rw [(h _ (bk_lt hk)).1]
theorem chgT_eq {t u : Tr} (h : t.Eq16 u) (b : Nat) (v : Int) (r : List Item × Nat) : tA (chgT t b v r).1 = tA (chgT u b v r).1 ∧ (chgT t b v r).2 = (chgT u b v r).2 := by
  unfold chgT
  split
  · refine ⟨tA_eq fun i hi => ?_, rfl⟩
    simp only [Tr.setL, Tr.setV]
    rw [(h i hi).1, (h i hi).2]
    exact ⟨rfl, rfl⟩
  · exact ⟨rfl, rfl⟩
theorem itemB_key {x : Item} (h : itemB x = true) : keyB x.key = true := by
  unfold itemB at h
  simp only [Bool.and_eq_true] at h
  exact h.1.1.1.1
theorem putT_eq {t u : Tr} (h : t.Eq16 u) (x : Item) : tA (putT t x).1 = tA (putT u x).1 ∧ (putT t x).2 = (putT u x).2 := by
  unfold putT
  rw [mayT_eq h]
  split
  · exact ⟨rfl, rfl⟩
  · rename_i hx
    have hi : itemB x = true := by
      cases e : itemB x with
      | true => rfl
      | false => rw [e] at hx; exact absurd rfl hx
    rw [(h _ (bk_lt (itemB_key hi))).1, (h _ (bk_lt (itemB_key hi))).2]
    split
    · exact ⟨rfl, rfl⟩
    · exact chgT_eq h ..
theorem delT_eq {t u : Tr} (h : t.Eq16 u) (k : Bytes) (v : Int) : tA (delT t k v).1 = tA (delT u k v).1 ∧ (delT t k v).2 = (delT u k v).2 := by
  unfold delT
  rw [mayT_eq h, getT_eq h]
  split
  · exact ⟨rfl, rfl⟩
  · split
    · exact ⟨rfl, rfl⟩
    · rename_i hg
      have hk : keyB k = true := by
        cases e : keyB k with
        | true => rfl
        | false => rw [getT, e] at hg; exact absurd rfl hg
      rw [(h _ (bk_lt hk)).1, (h _ (bk_lt hk)).2]
      split
      · exact ⟨rfl, rfl⟩
      · exact chgT_eq h ..
theorem sumTo_eq {f g : Nat → Nat} : ∀ {n : Nat}, (∀ i, i < n → f i = g i) → sumTo f n = sumTo g n
  | 0, _ => rfl
  | n + 1, h => by
    unfold sumTo
    rw [sumTo_eq fun i hi => h i (Nat.lt_succ_of_lt hi), h n (Nat.lt_succ_self n)]
theorem countT_eq {t u : Tr} (h : t.Eq16 u) : countT t = countT u := by
  unfold countT
  rw [mayT_eq h, sumTo_eq fun i hi => by rw [(h i hi).1]]
theorem unlikeT_eq {t u t' u' : Tr} (h : t.Eq16 u) (h' : t'.Eq16 u') : unlikeT t t' = unlikeT u u' := by
  unfold unlikeT
  rw [mayT_eq h, mayT_eq h']
  have : unlikeL t t' 16 = unlikeL u u' 16 := by
    unfold unlikeL
    refine List.filter_congr fun i hi => ?_
    have hi := List.mem_range.1 hi
    unfold unlikeAt
    rw [(h i hi).1, (h i hi).2, (h' i hi).1, (h' i hi).2]
  rw [this]
def Tr.Ok (t : Tr) : Prop := ∀ i, (t.leaf i).length ≤ 1000000 ∧ (∀ x ∈ t.leaf i, x.key.length ≤ maxLen ∧ NumOk x) ∧ weightP (t.leaf i) ≤ 1000000000
theorem Tr.Ok.len {t : Tr} (h : t.Ok) : ∀ i, (t.leaf i).length ≤ 1000000 := fun i => (h i).1
theorem Tr.Ok.len2 {t : Tr} (h : t.Ok) : ∀ i, (t.leaf i).length ≤ 34359738368 := fun i => Nat.le_trans (h i).1 (by decide)
noncomputable def trunk_May_t (m : Nat) : List AV → RO := orac (ι := Tr) (fun t => [tA t]) (fun t => bA (mayT t)) Tr.Ok
theorem trunk_May_ok (m : Nat) : ∀ args X H', trunk_May_t m args = some (X, H') → ACp Tryd.prog GG 20 args X := orac_ok fun t h => may_d sigGG t h.len2
theorem trunk_May_e (m : Nat) (t : Tr) (h : t.Ok) : trunk_May_t m [tA t] = some (bA (mayT t), []) := orac_eq (ι := Tr) (by
  intro t u e
  rw [mayT_eq (tA_inj (List.cons.inj e).1)]) (i := t) h
noncomputable def trunk_Put_t (m : Nat) : List AV → RO := orac (ι := Tr × Item) (fun p => [tA p.1, iA p.2]) (fun p => TU [tA (putT p.1 p.2).1, nA (putT p.1 p.2).2]) (fun p => p.1.Ok)
theorem trunk_Put_ok (m : Nat) : ∀ args X H', trunk_Put_t m args = some (X, H') → ACp Tryd.prog GG 9 args X := orac_ok fun p h => put_d sigGG p.1 p.2 h.len
theorem trunk_Put_e (m : Nat) (t : Tr) (x : Item) (h : t.Ok) : trunk_Put_t m [tA t, iA x] = some (TU [tA (putT t x).1, nA (putT t x).2], []) := orac_eq (ι := Tr × Item) (by
  rintro ⟨t, k⟩ ⟨u, k'⟩ e
  dsimp only at e ⊢
  simp only [List.cons.injEq, and_true] at e
  rw [iA_inj e.2, (putT_eq (tA_inj e.1) k').1, (putT_eq (tA_inj e.1) k').2]) (i := (t, x)) h
noncomputable def trunk_Delete_t (m : Nat) : List AV → RO := orac (ι := Tr × Bytes × Int) (fun p => [tA p.1, sA p.2.1, nA p.2.2]) (fun p => TU [tA (delT p.1 p.2.1 p.2.2).1, nA (delT p.1 p.2.1 p.2.2).2]) (fun p => p.1.Ok)
theorem trunk_Delete_ok (m : Nat) : ∀ args X H', trunk_Delete_t m args = some (X, H') → ACp Tryd.prog GG 10 args X := orac_ok fun p h => del_d sigGG p.1 p.2.1 p.2.2 h.len
theorem trunk_Delete_e (m : Nat) (t : Tr) (k : Bytes) (v : Int) (h : t.Ok) : trunk_Delete_t m [tA t, sA k, nA v] = some (TU [tA (delT t k v).1, nA (delT t k v).2], []) := orac_eq (ι := Tr × Bytes × Int) (by
  rintro ⟨t, k, v⟩ ⟨u, k', v'⟩ e
  dsimp only at e ⊢
  simp only [List.cons.injEq, and_true] at e
  rw [sA_inj e.2.1, nA_inj e.2.2, (delT_eq (tA_inj e.1) k' v').1, (delT_eq (tA_inj e.1) k' v').2]) (i := (t, k, v)) h
noncomputable def trunk_Count_t (m : Nat) : List AV → RO := orac (ι := Tr) (fun t => [tA t]) (fun t => nA (countT t)) Tr.Ok
theorem trunk_Count_ok (m : Nat) : ∀ args X H', trunk_Count_t m args = some (X, H') → ACp Tryd.prog GG 25 args X := orac_ok fun t h => count_d sigGG t h.len
theorem trunk_Count_e (m : Nat) (t : Tr) (h : t.Ok) : trunk_Count_t m [tA t] = some (nA (countT t), []) := orac_eq (ι := Tr) (by
  intro t u e
  rw [countT_eq (tA_inj (List.cons.inj e).1)]) (i := t) h
noncomputable def trunk_Unlike_t (m : Nat) : List AV → RO := orac (ι := Tr × Tr) (fun p => [tA p.1, tA p.2]) (fun p => TU [SL (nLs (unlikeT p.1 p.2).1), nA (unlikeT p.1 p.2).2]) (fun p => p.1.Ok ∧ p.2.Ok)
theorem trunk_Unlike_ok (m : Nat) : ∀ args X H', trunk_Unlike_t m args = some (X, H') → ACp Tryd.prog GG 22 args X := orac_ok fun p h => unlike_d sigGG p.1 p.2 h.1.len h.2.len
theorem trunk_Unlike_e (m : Nat) (t u : Tr) (h : t.Ok) (h' : u.Ok) : trunk_Unlike_t m [tA t, tA u] = some (TU [SL (nLs (unlikeT t u).1), nA (unlikeT t u).2], []) := orac_eq (ι := Tr × Tr) (by
  rintro ⟨t, k⟩ ⟨u, k'⟩ e
  dsimp only at e ⊢
  simp only [List.cons.injEq, and_true] at e
  rw [unlikeT_eq (tA_inj e.1) (tA_inj e.2)]) (i := (t, u)) ⟨h, h'⟩
theorem tA_few {t u : Tr} (h : t.Eq16 u) : tA (fewT t 16) = tA (fewT u 16) := tA_eq fun i hi => by
  simp only [fewT, hi, if_true]
  rw [(h i hi).1, (h i hi).2]
  exact ⟨rfl, rfl⟩
noncomputable def plenumlaw10_Few_t (m : Nat) : List AV → RO := orac (ι := Tr) (fun t => [tA t]) (fun t => tA (fewT t 16)) (fun t => ∀ i, (t.leaf i).length ≤ maxLen)
theorem plenumlaw10_Few_ok (m : Nat) : ∀ args X H', plenumlaw10_Few_t m args = some (X, H') → ACp Tryd.prog GG 7 args X := orac_ok fun t h => few_d t h
theorem plenumlaw10_Few_e (m : Nat) (t : Tr) (h : ∀ i, (t.leaf i).length ≤ maxLen) : plenumlaw10_Few_t m [tA t] = some (tA (fewT t 16), []) := orac_eq (ι := Tr) (by
  intro t u e
  exact tA_few (tA_inj (List.cons.inj e).1)) (i := t) h
noncomputable def plenumlaw10_items_t (m : Nat) : List AV → RO := orac (ι := List Item) (fun l => [lA l]) (fun l => lA (fewL l)) (fun l => l.length ≤ maxLen)
theorem plenumlaw10_items_ok (m : Nat) : ∀ args X H', plenumlaw10_items_t m args = some (X, H') → ACp Tryd.prog GG 19 args X := orac_ok fun l h => items_d l h
theorem plenumlaw10_items_e (m : Nat) (l : List Item) (h : l.length ≤ maxLen) : plenumlaw10_items_t m [lA l] = some (lA (fewL l), []) := orac_eq (ι := List Item) (by
  intro k l e
  rw [lA_inj (List.cons.inj e).1]) (i := l) h
end Go.Proofs.YthmnhfabkllgpaaDoor

namespace Go.Proofs.YthmnhfabkllgpaaDoor
open Go.RowKit
set_option linter.unusedVariables false
set_option maxRecDepth 100000
def ty_api_Trunk : TypeId := 26
def ty_api_Value : TypeId := 28
def zc_api_Item : List AV := [(V (.string ⟨#[]⟩)), (V (.int .i64 0)), (V (.int .i64 0)), (V (.string ⟨#[]⟩)), (V (.int .i64 0))]
def zc_api_Trunk : List AV := [(V (.slice none 0 0)), (V (.slice none 0 0)), (V (.slice none 0 0)), (V (.slice none 0 0)), (V (.slice none 0 0)), (V (.slice none 0 0)), (V (.slice none 0 0)), (V (.slice none 0 0)), (V (.slice none 0 0)), (V (.slice none 0 0)), (V (.slice none 0 0)), (V (.slice none 0 0)), (V (.slice none 0 0)), (V (.slice none 0 0)), (V (.slice none 0 0)), (V (.slice none 0 0)), (V (.int .i64 0)), (V (.int .i64 0)), (V (.int .i64 0)), (V (.int .i64 0)), (V (.int .i64 0)), (V (.int .i64 0)), (V (.int .i64 0)), (V (.int .i64 0)), (V (.int .i64 0)), (V (.int .i64 0)), (V (.int .i64 0)), (V (.int .i64 0)), (V (.int .i64 0)), (V (.int .i64 0)), (V (.int .i64 0)), (V (.int .i64 0))]
def zc_api_Value : List AV := [(V (.int .i64 0)), (V (.int .i64 0)), (V (.string ⟨#[]⟩))]
def pl_api_Item : List (Nat × Nat) := [(0, 1), (1, 3), (4, 1)]
def pl_api_Trunk : List (Nat × Nat) := [(0, 16), (16, 16)]
def pl_api_Value : List (Nat × Nat) := [(0, 1), (1, 1), (2, 1)]
noncomputable def plenumref10_Fits_c : Code := (Tryd.f24.body).getD .skip
def plenumref10_Fits_h : Hint := (.two .n (.join [1, 2] (.two .n (.one (.lp [] [0, 1, 2, 7] [1, 2, 6] (.two (.two .n (.two .n .n)) (.two (.one (.two .n (.two (.two .n .n) .n))) .n))))) (.two .n .n)))
noncomputable def plenumref10_Fits_env (m : Nat) : Env := [(39, .tell (plenumref08_Is_t m)), (50, .tell (plenumref09_Is_t m))]
noncomputable abbrev plenumref10_Fits_fin : KO (AV × List AObj) := tellFK Tryd.prog [.tmp 6]
noncomputable def plenumref10_Fits_r1 (m : Nat) (s : ASt) : RO := joinW Tryd.prog GG (plenumref10_Fits_env m) m ⟨52, []⟩ (cdR (cdR plenumref10_Fits_c)) plenumref10_Fits_h.r.r s (plenumref10_Fits_fin)
noncomputable def plenumref10_Fits_b1 (m : Nat) (s : ASt) (kc : ASt → RO) (kx : KO (AV × List AObj)) : RO := bodyW Tryd.prog GG (plenumref10_Fits_env m) m ⟨52, []⟩ (cdL (cdL (cdR (cdL (cdR plenumref10_Fits_c))))) plenumref10_Fits_h.r.l.r.c.c [0, 1, 2, 7] [1, 2, 6] s kc kx
noncomputable def plenumref10_Fits (m : Nat) (t0 t1 t2 : AV) : RO := exec Tryd.prog GG (plenumref10_Fits_env m) m ⟨52, []⟩ plenumref10_Fits_c plenumref10_Fits_h ⟨[], argsT 0 [t0, t1, t2]⟩ (plenumref10_Fits_fin)
theorem plenumref10_Fits_r1_eq (m : Nat) (H : List AObj) (t1 t2 : AV) : plenumref10_Fits_r1 m ⟨H, [(1, t1), (2, t2)]⟩ =
  tellE (plenumref09_Is_t m [(ro H t1)]) [(ro H t1)] fun t43 =>
  condE t43 (
   binE none false false .leq (V (.int .i64 0)) t2 fun t46 =>
   condE t46 (
   binE none false false .leq t2 (V (.int .i64 2147483647)) fun t50 =>
   tellK H (ro H t50)) (
   tellK H (ro H (V (.bool false))))) (
   tellK H (ro H (V (.bool false)))) := by
  refine (joinW_eq Tryd.prog GG (plenumref10_Fits_env m) m ⟨52, []⟩ (cdR (cdR plenumref10_Fits_c)) plenumref10_Fits_h.r.r ⟨H, [(1, t1), (2, t2)]⟩ (plenumref10_Fits_fin)).trans ?_
  kernel_rfl
theorem plenumref10_Fits_b1_eq (m : Nat) (H : List AObj) (t0 t1 t2 t7 : AV) (kc : ASt → RO) (kx : KO (AV × List AObj)) : plenumref10_Fits_b1 m ⟨H, [(0, t0), (1, t1), (2, t2), (7, t7)]⟩ kc kx =
  lenE false true H t1 fun t10 =>
  binE none false false .lss t7 t10 fun t11 =>
  condE t11 (
   idxSE 7 H t1 t7 fun t16 =>
   fieldE (some (0, 1)) t16 fun t17 =>
   loadE 1 H t17 fun t18 =>
   tellE (plenumref08_Is_t m [(ro H t18)]) [(ro H t18)] fun t19 =>
   unE .not t19 fun t20 =>
   condE t20 (
    kx .ret ⟨H, [(1, t1), (2, t2), (6, (V (.bool false)))]⟩) (
    idxSE 7 H t1 t7 fun t24 =>
    fieldE (some (0, 1)) t24 fun t25 =>
    loadE 1 H t25 fun t26 =>
    idxVE true none t26 (V (.int .i64 0)) fun t27 =>
    convE false (some .i64) true false false (ro H t27) fun t28 =>
    binE none false false .rem t28 (V (.int .i64 16)) fun t29 =>
    binE none false false .neq t29 t0 fun t31 =>
    condE t31 (
    kx .ret ⟨H, [(1, t1), (2, t2), (6, (V (.bool false)))]⟩) (
    idxSE 7 H t1 t7 fun t36 =>
    fieldE (some (4, 1)) t36 fun t37 =>
    loadE 1 H t37 fun t38 =>
    binE none false false .gtr t38 t2 fun t40 =>
    condE t40 (
    kx .ret ⟨H, [(1, t1), (2, t2), (6, (V (.bool false)))]⟩) (
    binE none false false .add t7 (V (.int .i64 1)) fun t13 =>
    backE H.length H [(0, t0), (1, t1), (2, t2), (7, t13)] kc)))) (
   kx (.exit 0) ⟨H, [(1, t1), (2, t2), (6, .nil)]⟩) := by
  refine (bodyW_eq Tryd.prog GG (plenumref10_Fits_env m) m ⟨52, []⟩ (cdL (cdL (cdR (cdL (cdR plenumref10_Fits_c))))) plenumref10_Fits_h.r.l.r.c.c [0, 1, 2, 7] [1, 2, 6] ⟨H, [(0, t0), (1, t1), (2, t2), (7, t7)]⟩ kc kx).trans ?_
  kernel_rfl
theorem plenumref10_Fits_eq (m : Nat) (t0 t1 t2 : AV) : plenumref10_Fits m t0 t1 t2 =
  iterC m (plenumref10_Fits_b1 m) ⟨[], [(0, t0), (1, t1), (2, t2), (7, (V (.int .i64 0)))]⟩ (blockX 0 (seqX (fun s => plenumref10_Fits_r1 m ⟨s.H, [(1, gt s.T 1), (2, gt s.T 2)]⟩) (plenumref10_Fits_fin))) := by
  refine (tellX Tryd.prog GG (plenumref10_Fits_env m) m ⟨52, []⟩ plenumref10_Fits_c plenumref10_Fits_h ⟨[], argsT 0 [t0, t1, t2]⟩ [.tmp 6]).trans ?_
  kernel_rfl
noncomputable def plenumref10_Fits_t (m : Nat) : List AV → RO | [t0, t1, t2] => plenumref10_Fits m t0 t1 t2 | _ => none
theorem plenumref10_Fits_ok (m : Nat) : ∀ args X H', plenumref10_Fits_t m args = some (X, H') → ACp Tryd.prog GG 24 args X := by
  intro args X H' h
  unfold plenumref10_Fits_t at h
  split at h
  · exact tell_okK MIX (by
    intro f e h
    simp only [plenumref10_Fits_env, Prod.mk.injEq, List.mem_cons, List.not_mem_nil, or_false] at h
    rcases h with ⟨rfl, rfl⟩ | ⟨rfl, rfl⟩
    · exact plenumref08_Is_ok m
    · exact plenumref09_Is_ok m) (f := 24) (c := plenumref10_Fits_c) Tryd.func24 rfl (by kernel_rfl) _ rfl Tryd.ntmps24 (Nat.le_of_ble_eq_true rfl) plenumref10_Fits_h h
  · cases h
noncomputable def plenumref10_May_c : Code := (Tryd.f12.body).getD .skip
def plenumref10_May_h : Hint := (.two .n (.join [] (.two .n (.one (.lp [] [1, 3] [2] (.two (.two .n (.two .n .n)) (.two (.one (.two .n (.two (.two .n .n) .n))) .n))))) (.two .n .n)))
noncomputable def plenumref10_May_env (m : Nat) : Env := [(24, .tell (plenumref10_Fits_t m))]
noncomputable abbrev plenumref10_May_fin : KO (AV × List AObj) := tellFK Tryd.prog [.tmp 2]
noncomputable def plenumref10_May_r1 (m : Nat) (s : ASt) : RO := joinW Tryd.prog GG (plenumref10_May_env m) m ⟨19, []⟩ (cdR (cdR plenumref10_May_c)) plenumref10_May_h.r.r s (plenumref10_May_fin)
noncomputable def plenumref10_May_b1 (m : Nat) (s : ASt) (kc : ASt → RO) (kx : KO (AV × List AObj)) : RO := bodyW Tryd.prog GG (plenumref10_May_env m) m ⟨19, []⟩ (cdL (cdL (cdR (cdL (cdR plenumref10_May_c))))) plenumref10_May_h.r.l.r.c.c [1, 3] [2] s kc kx
noncomputable def plenumref10_May (m : Nat) (t0 : AV) : RO := exec Tryd.prog GG (plenumref10_May_env m) m ⟨19, []⟩ plenumref10_May_c plenumref10_May_h ⟨[], argsT 0 [t0]⟩ (plenumref10_May_fin)
theorem plenumref10_May_b1_eq (m : Nat) (H : List AObj) (t1 t3 : AV) (kc : ASt → RO) (kx : KO (AV × List AObj)) : plenumref10_May_b1 m ⟨H, [(1, t1), (3, t3)]⟩ kc kx =
  binE none false false .lss t3 (V (.int .i64 16)) fun t5 =>
  condE t5 (
   fieldE (some (0, 18)) t1 fun t10 =>
   idxPE 16 1 t10 t3 fun t11 =>
   loadE 1 H t11 fun t12 =>
   fieldE (some (16, 18)) t1 fun t14 =>
   idxPE 16 1 t14 t3 fun t15 =>
   loadE 1 H t15 fun t16 =>
   tellE (plenumref10_Fits m (ro H t3) (ro H t12) (ro H t16)) [(ro H t3), (ro H t12), (ro H t16)] fun t17 =>
   unE .not t17 fun t18 =>
   condE t18 (
    kx .ret ⟨H, [(2, (V (.bool false)))]⟩) (
    binE none false false .add t3 (V (.int .i64 1)) fun t7 =>
    backE H.length H [(1, t1), (3, t7)] kc)) (
   kx (.exit 0) ⟨H, [(2, .nil)]⟩) := by
  refine (bodyW_eq Tryd.prog GG (plenumref10_May_env m) m ⟨19, []⟩ (cdL (cdL (cdR (cdL (cdR plenumref10_May_c))))) plenumref10_May_h.r.l.r.c.c [1, 3] [2] ⟨H, [(1, t1), (3, t3)]⟩ kc kx).trans ?_
  kernel_rfl
theorem plenumref10_May_eq (m : Nat) (t0 : AV) : plenumref10_May m t0 =
  boxE ty_api_Trunk [] t0 fun t1 H1 =>
  iterC m (plenumref10_May_b1 m) ⟨H1, [(1, t1), (3, (V (.int .i64 0)))]⟩ (blockX 0 (seqX (fun s => plenumref10_May_r1 m ⟨s.H, []⟩) (plenumref10_May_fin))) := by
  refine (tellX Tryd.prog GG (plenumref10_May_env m) m ⟨19, []⟩ plenumref10_May_c plenumref10_May_h ⟨[], argsT 0 [t0]⟩ [.tmp 2]).trans ?_
  kernel_rfl
noncomputable def plenumref10_May_t (m : Nat) : List AV → RO | [t0] => plenumref10_May m t0 | _ => none
theorem plenumref10_May_ok (m : Nat) : ∀ args X H', plenumref10_May_t m args = some (X, H') → ACp Tryd.prog GG 12 args X := by
  intro args X H' h
  unfold plenumref10_May_t at h
  split at h
  · exact tell_okK MIX (by
    intro f e h
    simp only [plenumref10_May_env, Prod.mk.injEq, List.mem_cons, List.not_mem_nil, or_false] at h
    obtain ⟨rfl, rfl⟩ := h
    · exact plenumref10_Fits_ok m) (f := 12) (c := plenumref10_May_c) Tryd.func12 rfl (by kernel_rfl) _ rfl Tryd.ntmps12 (Nat.le_of_ble_eq_true rfl) plenumref10_May_h h
  · cases h
noncomputable def plenumref10_Same_c : Code := (Tryd.f11.body).getD .skip
def plenumref10_Same_h : Hint := (.two .n (.join [] (.two .n (.one (.lp [] [2, 3, 5] [4] (.two (.two .n (.two .n .n)) (.two (.one (.two .n (.two (.two .n .n) .n))) .n))))) (.two .n .n)))
noncomputable def plenumref10_Same_env (m : Nat) : Env := [(37, .tell (plenumref09_Same_t m))]
noncomputable abbrev plenumref10_Same_fin : KO (AV × List AObj) := tellFK Tryd.prog [.tmp 4]
noncomputable def plenumref10_Same_r1 (m : Nat) (s : ASt) : RO := joinW Tryd.prog GG (plenumref10_Same_env m) m ⟨31, []⟩ (cdR (cdR plenumref10_Same_c)) plenumref10_Same_h.r.r s (plenumref10_Same_fin)
noncomputable def plenumref10_Same_b1 (m : Nat) (s : ASt) (kc : ASt → RO) (kx : KO (AV × List AObj)) : RO := bodyW Tryd.prog GG (plenumref10_Same_env m) m ⟨31, []⟩ (cdL (cdL (cdR (cdL (cdR plenumref10_Same_c))))) plenumref10_Same_h.r.l.r.c.c [2, 3, 5] [4] s kc kx
noncomputable def plenumref10_Same (m : Nat) (t0 t1 : AV) : RO := exec Tryd.prog GG (plenumref10_Same_env m) m ⟨31, []⟩ plenumref10_Same_c plenumref10_Same_h ⟨[], argsT 0 [t0, t1]⟩ (plenumref10_Same_fin)
theorem plenumref10_Same_b1_eq (m : Nat) (H : List AObj) (t2 t3 t5 : AV) (kc : ASt → RO) (kx : KO (AV × List AObj)) : plenumref10_Same_b1 m ⟨H, [(2, t2), (3, t3), (5, t5)]⟩ kc kx =
  binE none false false .lss t5 (V (.int .i64 16)) fun t7 =>
  condE t7 (
   fieldE (some (16, 18)) t2 fun t11 =>
   idxPE 16 1 t11 t5 fun t12 =>
   loadE 1 H t12 fun t13 =>
   fieldE (some (16, 18)) t3 fun t15 =>
   idxPE 16 1 t15 t5 fun t16 =>
   loadE 1 H t16 fun t17 =>
   binE none false false .neq t13 t17 fun t18 =>
   condE t18 (
    kx .ret ⟨H, [(4, (V (.bool false)))]⟩) (
    fieldE (some (0, 18)) t2 fun t21 =>
    idxPE 16 1 t21 t5 fun t22 =>
    loadE 1 H t22 fun t23 =>
    fieldE (some (0, 18)) t3 fun t25 =>
    idxPE 16 1 t25 t5 fun t26 =>
    loadE 1 H t26 fun t27 =>
    tellE (plenumref09_Same_t m [(ro H t23), (ro H t27)]) [(ro H t23), (ro H t27)] fun t28 =>
    unE .not t28 fun t29 =>
    condE t29 (
    kx .ret ⟨H, [(4, (V (.bool false)))]⟩) (
    binE none false false .add t5 (V (.int .i64 1)) fun t9 =>
    backE H.length H [(2, t2), (3, t3), (5, t9)] kc))) (
   kx (.exit 0) ⟨H, [(4, .nil)]⟩) := by
  refine (bodyW_eq Tryd.prog GG (plenumref10_Same_env m) m ⟨31, []⟩ (cdL (cdL (cdR (cdL (cdR plenumref10_Same_c))))) plenumref10_Same_h.r.l.r.c.c [2, 3, 5] [4] ⟨H, [(2, t2), (3, t3), (5, t5)]⟩ kc kx).trans ?_
  kernel_rfl
theorem plenumref10_Same_eq (m : Nat) (t0 t1 : AV) : plenumref10_Same m t0 t1 =
  boxE ty_api_Trunk [] t0 fun t2 H1 =>
  boxE ty_api_Trunk H1 t1 fun t3 H2 =>
  iterC m (plenumref10_Same_b1 m) ⟨H2, [(2, t2), (3, t3), (5, (V (.int .i64 0)))]⟩ (blockX 0 (seqX (fun s => plenumref10_Same_r1 m ⟨s.H, []⟩) (plenumref10_Same_fin))) := by
  refine (tellX Tryd.prog GG (plenumref10_Same_env m) m ⟨31, []⟩ plenumref10_Same_c plenumref10_Same_h ⟨[], argsT 0 [t0, t1]⟩ [.tmp 4]).trans ?_
  kernel_rfl
noncomputable def plenumref10_Same_t (m : Nat) : List AV → RO | [t0, t1] => plenumref10_Same m t0 t1 | _ => none
theorem plenumref10_Same_ok (m : Nat) : ∀ args X H', plenumref10_Same_t m args = some (X, H') → ACp Tryd.prog GG 11 args X := by
  intro args X H' h
  unfold plenumref10_Same_t at h
  split at h
  · exact tell_okK MIX (by
    intro f e h
    simp only [plenumref10_Same_env, Prod.mk.injEq, List.mem_cons, List.not_mem_nil, or_false] at h
    obtain ⟨rfl, rfl⟩ := h
    · exact plenumref09_Same_ok m) (f := 11) (c := plenumref10_Same_c) Tryd.func11 rfl (by kernel_rfl) _ rfl Tryd.ntmps11 (Nat.le_of_ble_eq_true rfl) plenumref10_Same_h h
  · cases h
noncomputable def plenumref07_Int_c : Code := (Tryd.f38.body).getD .skip
def plenumref07_Int_h : Hint := (.two .n (.two .n .n))
noncomputable def plenumref07_Int_env (m : Nat) : Env := []
noncomputable abbrev plenumref07_Int_fin : KO (AV × List AObj) := tellFK Tryd.prog [.cell 2 28]
noncomputable def plenumref07_Int (m : Nat) (t0 : AV) : RO := exec Tryd.prog GG (plenumref07_Int_env m) m ⟨5, []⟩ plenumref07_Int_c plenumref07_Int_h ⟨[], argsT 0 [t0]⟩ (plenumref07_Int_fin)
theorem plenumref07_Int_eq (m : Nat) (t0 : AV) : plenumref07_Int m t0 =
  allocE (some zc_api_Value) ty_api_Value [] fun t2 H1 =>
  buildE (some pl_api_Value) (some zc_api_Value) [(0, (V (.int .i64 2))), (1, t0)] fun t4 =>
  storeE 5 H1 t2 t4 fun H2 =>
  loadE 5 H2 t2 fun t9000 =>
  tellK H2 (ro H2 t9000) := by
  refine (tellX Tryd.prog GG (plenumref07_Int_env m) m ⟨5, []⟩ plenumref07_Int_c plenumref07_Int_h ⟨[], argsT 0 [t0]⟩ [.cell 2 28]).trans ?_
  kernel_rfl
noncomputable def plenumref07_Int_t (m : Nat) : List AV → RO | [t0] => plenumref07_Int m t0 | _ => none
theorem plenumref07_Int_ok (m : Nat) : ∀ args X H', plenumref07_Int_t m args = some (X, H') → ACp Tryd.prog GG 38 args X := by
  intro args X H' h
  unfold plenumref07_Int_t at h
  split at h
  · exact tell_okK MIX (by intro f e h; cases h) (f := 38) (c := plenumref07_Int_c) Tryd.func38 rfl (by kernel_rfl) _ rfl Tryd.ntmps38 (Nat.le_of_ble_eq_true rfl) plenumref07_Int_h h
  · cases h
noncomputable def plenumlaw10_none_c : Code := (Tryd.f13.body).getD .skip
def plenumlaw10_none_h : Hint := (.two .n (.two .n .n))
noncomputable def plenumlaw10_none_env (m : Nat) : Env := [(11, .tell (plenumref10_Same_t m))]
noncomputable abbrev plenumlaw10_none_fin : KO (AV × List AObj) := tellFK Tryd.prog [.tmp 2]
noncomputable def plenumlaw10_none (m : Nat) (t0 : AV) : RO := exec Tryd.prog GG (plenumlaw10_none_env m) m ⟨6, []⟩ plenumlaw10_none_c plenumlaw10_none_h ⟨[], argsT 0 [t0]⟩ (plenumlaw10_none_fin)
theorem plenumlaw10_none_eq (m : Nat) (t0 : AV) : plenumlaw10_none m t0 =
  boxE ty_api_Trunk [] t0 fun t1 H1 =>
  loadE 34 H1 t1 fun t3 =>
  buildE (some pl_api_Trunk) (some zc_api_Trunk) [] fun t4 =>
  tellE (plenumref10_Same m (ro H1 t3) (ro H1 t4)) [(ro H1 t3), (ro H1 t4)] fun t5 =>
  tellK H1 (ro H1 t5) := by
  refine (tellX Tryd.prog GG (plenumlaw10_none_env m) m ⟨6, []⟩ plenumlaw10_none_c plenumlaw10_none_h ⟨[], argsT 0 [t0]⟩ [.tmp 2]).trans ?_
  kernel_rfl
noncomputable def plenumlaw10_none_t (m : Nat) : List AV → RO | [t0] => plenumlaw10_none m t0 | _ => none
theorem plenumlaw10_none_ok (m : Nat) : ∀ args X H', plenumlaw10_none_t m args = some (X, H') → ACp Tryd.prog GG 13 args X := by
  intro args X H' h
  unfold plenumlaw10_none_t at h
  split at h
  · exact tell_okK MIX (by
    intro f e h
    simp only [plenumlaw10_none_env, Prod.mk.injEq, List.mem_cons, List.not_mem_nil, or_false] at h
    obtain ⟨rfl, rfl⟩ := h
    · exact plenumref10_Same_ok m) (f := 13) (c := plenumlaw10_none_c) Tryd.func13 rfl (by kernel_rfl) _ rfl Tryd.ntmps13 (Nat.le_of_ble_eq_true rfl) plenumlaw10_none_h h
  · cases h
noncomputable def plenumlaw10_awake_c : Code := (Tryd.f14.body).getD .skip
def plenumlaw10_awake_h : Hint := (.two .n (.two .n (.two .n (.two .n (.two .n (.two .n .n))))))
noncomputable def plenumlaw10_awake_env (m : Nat) : Env := [(38, .tell (plenumref07_Int_t m)), (9, .tell (trunk_Put_t m)), (22, .tell (trunk_Unlike_t m)), (10, .tell (trunk_Delete_t m)), (25, .tell (trunk_Count_t m))]
noncomputable abbrev plenumlaw10_awake_fin : KO (AV × List AObj) := tellFK Tryd.prog [.tmp 0]
noncomputable def plenumlaw10_awake (m : Nat) : RO := exec Tryd.prog GG (plenumlaw10_awake_env m) m ⟨83, []⟩ plenumlaw10_awake_c plenumlaw10_awake_h ⟨[], argsT 0 []⟩ (plenumlaw10_awake_fin)
theorem plenumlaw10_awake_eq (m : Nat) : plenumlaw10_awake m =
  buildE (some pl_api_Trunk) (some zc_api_Trunk) [] fun t10 =>
  tellE (plenumref07_Int m (V (.int .i64 1))) [(V (.int .i64 1))] fun t11 =>
  buildE (some pl_api_Item) (some zc_api_Item) [(0, (V (.string ⟨#[97]⟩))), (1, t11), (2, (V (.int .i64 5)))] fun t12 =>
  tellE (trunk_Put_t m [(ro [] t10), (ro [] t12)]) [(ro [] t10), (ro [] t12)] fun t13 =>
  extE t13 0 fun t14 =>
  extE t13 1 fun t15 =>
  allocE (some zc_api_Trunk) ty_api_Trunk [] fun t1 H1 =>
  storeE 34 H1 t1 t14 fun H2 =>
  loadE 34 H2 t1 fun t17 =>
  tellE (plenumref07_Int m (V (.int .i64 2))) [(V (.int .i64 2))] fun t18 =>
  buildE (some pl_api_Item) (some zc_api_Item) [(0, (V (.string ⟨#[113]⟩))), (1, t18), (2, (V (.int .i64 4)))] fun t19 =>
  tellE (trunk_Put_t m [(ro H2 t17), (ro H2 t19)]) [(ro H2 t17), (ro H2 t19)] fun t20 =>
  extE t20 0 fun t21 =>
  extE t20 1 fun t22 =>
  allocE (some zc_api_Trunk) ty_api_Trunk H2 fun t3 H3 =>
  storeE 34 H3 t3 t21 fun H4 =>
  loadE 34 H4 t1 fun t24 =>
  buildE (some pl_api_Trunk) (some zc_api_Trunk) [] fun t25 =>
  tellE (trunk_Unlike_t m [(ro H4 t24), (ro H4 t25)]) [(ro H4 t24), (ro H4 t25)] fun t26 =>
  extE t26 0 fun t27 =>
  extE t26 1 fun t28 =>
  loadE 34 H4 t1 fun t30 =>
  tellE (trunk_Delete_t m [(ro H4 t30), (V (.string ⟨#[97]⟩)), (V (.int .i64 9))]) [(ro H4 t30), (V (.string ⟨#[97]⟩)), (V (.int .i64 9))] fun t31 =>
  extE t31 0 fun t32 =>
  extE t31 1 fun t33 =>
  allocE (some zc_api_Trunk) ty_api_Trunk H4 fun t7 H5 =>
  storeE 34 H5 t7 t32 fun H6 =>
  binE none false false .eql t15 (V (.int .i64 0)) fun t35 =>
  condE t35 (
   fieldE (some (16, 18)) t1 fun t37 =>
   idxPE 16 1 t37 (V (.int .i64 1)) fun t38 =>
   loadE 1 H6 t38 fun t39 =>
   binE none false false .eql t39 (V (.int .i64 5)) fun t40 =>
   condE t40 (
   binE none false false .eql t22 (V (.int .i64 18)) fun t44 =>
   condE t44 (
   lenE false true H6 t27 fun t48 =>
   binE none false false .eql t48 (V (.int .i64 1)) fun t49 =>
   condE t49 (
   idxSE 1 H6 t27 (V (.int .i64 0)) fun t53 =>
   loadE 1 H6 t53 fun t54 =>
   binE none false false .eql t54 (V (.int .i64 1)) fun t55 =>
   condE t55 (
   binE none false false .eql t28 (V (.int .i64 0)) fun t59 =>
   condE t59 (
   binE none false false .eql t33 (V (.int .i64 0)) fun t63 =>
   condE t63 (
   loadE 34 H6 t7 fun t66 =>
   tellE (trunk_Count_t m [(ro H6 t66)]) [(ro H6 t66)] fun t67 =>
   binE none false false .eql t67 (V (.int .i64 0)) fun t68 =>
   condE t68 (
   fieldE (some (16, 18)) t7 fun t71 =>
   idxPE 16 1 t71 (V (.int .i64 1)) fun t72 =>
   loadE 1 H6 t72 fun t73 =>
   binE none false false .eql t73 (V (.int .i64 9)) fun t74 =>
   condE t74 (
   loadE 34 H6 t1 fun t77 =>
   tellE (trunk_Count_t m [(ro H6 t77)]) [(ro H6 t77)] fun t78 =>
   binE none false false .eql t78 (V (.int .i64 1)) fun t79 =>
   pickE t79 (V (.bool true)) (V (.bool false)) fun t82 =>
  tellK H6 (ro H6 t82)) (
   tellK H6 (ro H6 (V (.bool false))))) (
   tellK H6 (ro H6 (V (.bool false))))) (
   tellK H6 (ro H6 (V (.bool false))))) (
   tellK H6 (ro H6 (V (.bool false))))) (
   tellK H6 (ro H6 (V (.bool false))))) (
   tellK H6 (ro H6 (V (.bool false))))) (
   tellK H6 (ro H6 (V (.bool false))))) (
   tellK H6 (ro H6 (V (.bool false))))) (
   tellK H6 (ro H6 (V (.bool false)))) := by
  refine (tellX Tryd.prog GG (plenumlaw10_awake_env m) m ⟨83, []⟩ plenumlaw10_awake_c plenumlaw10_awake_h ⟨[], argsT 0 []⟩ [.tmp 0]).trans ?_
  kernel_rfl
noncomputable def plenumlaw10_awake_t (m : Nat) : List AV → RO | [] => plenumlaw10_awake m | _ => none
theorem plenumlaw10_awake_ok (m : Nat) : ∀ args X H', plenumlaw10_awake_t m args = some (X, H') → ACp Tryd.prog GG 14 args X := by
  intro args X H' h
  unfold plenumlaw10_awake_t at h
  split at h
  · exact tell_okK MIX (by
    intro f e h
    simp only [plenumlaw10_awake_env, Prod.mk.injEq, List.mem_cons, List.not_mem_nil, or_false] at h
    rcases h with ⟨rfl, rfl⟩ | ⟨rfl, rfl⟩ | ⟨rfl, rfl⟩ | ⟨rfl, rfl⟩ | ⟨rfl, rfl⟩
    · exact plenumref07_Int_ok m
    · exact trunk_Put_ok m
    · exact trunk_Unlike_ok m
    · exact trunk_Delete_ok m
    · exact trunk_Count_ok m) (f := 14) (c := plenumlaw10_awake_c) Tryd.func14 rfl (by kernel_rfl) _ rfl Tryd.ntmps14 (Nat.le_of_ble_eq_true rfl) plenumlaw10_awake_h h
  · cases h
end Go.Proofs.YthmnhfabkllgpaaDoor

namespace Go.Proofs.YthmnhfabkllgpaaDoor
open Go.RowKit
set_option linter.unusedVariables false
set_option linter.unusedSimpArgs false
set_option maxRecDepth 100000
theorem ac_of_wpAdd {P : Program} {G : Gl} {f : FuncId} {fn : Func} {c : Code} {args : List AV} {H : List AObj} {X : AV} {Y : List AObj} (hf : P.funcs[f]? = some fn) (hb : fn.body = some c) (hc : callIs P f = true) (rs : List ResultVar) (hrs : fn.results.toList = rs) (N : Nat) (hN : fn.ntmps = N) (hargs : args.length ≤ N)
    (h : AWp P G (F0 N) H.length c (fun e s => e = .ret ∧ s.H = H ++ Y ∧ resC P s.H s.T rs fun ds => oneOf ds = X) ⟨H, argsT 0 args⟩) : AC P G f args H (Is X (H ++ Y)) := by
  subst hN
  refine ⟨hc, fun w S μ vs hr hg hl hv => ?_⟩
  refine calls_of_wp hf hb ?_
  have hfr : Fr S μ (F0 fn.ntmps) (argsT 0 args) { tmps := vs.toArray ++ Array.replicate (fn.ntmps - vs.toArray.size) undef, defers := [] } := by
    refine ⟨by simp; omega, rfl, fun i => ?_⟩
    rw [get_argsT]
    simp only [Nat.zero_le, if_true, Nat.sub_zero]
    cases hd : args[i]? with
    | none => trivial
    | some d =>
      have hi : i < vs.length := by rw [hl]; exact (List.getElem?_eq_some_iff.1 hd).1
      have := hv i d vs[i] hd (List.getElem?_eq_getElem hi)
      simp only [Option.getD_some]
      have e : (vs.toArray ++ Array.replicate (fn.ntmps - vs.toArray.size) undef).getD i undef = vs[i] := by
        rw [Array.getD_eq_getD_getElem?, Array.getElem?_append_left (by simpa using hi)]
        simp [hi]
      rw [e]; exact this
  refine wp_mono (h w S μ _ hr hfr hg) ?_
  rintro e a' w' ⟨s', S', μ', ⟨rfl, hH, hK⟩, hr', hf', hst⟩
  obtain ⟨v, r, hrun, hrep, hX⟩ := resultsC_run (K := fun r => r = X) hrs hr' hf' hK
  subst hX
  exact ⟨hf'.nodef, v, hrun, v, _, s'.H, S', μ', rfl, ⟨rfl, hH⟩, hr', hrep, hst⟩
theorem clone_cons (x : AV) (es : List AV) (H : List AObj) (hz : allCE 5 (x :: es) = true) (hl : (x :: es).length ≤ 34359738368) :
    AC Tryd.prog GG 49 [SL (x :: es)] H (Is (OW H.length (x :: es).length) (H ++ [⟨2, 30, 5, x :: es⟩])) := by
  have hx : exec Tryd.prog GG [] 0 (F0 8) ((Tryd.f49.body).getD .skip) .n ⟨H, argsT 0 [SL (x :: es)]⟩ (fun e s => match e with | .ret => some (get s.T 2, s.H) | _ => none) = appE (some (30, 5)) H ZV (SL (x :: es)) (fun d H' => some (d, H')) :=
    (execK_eq (P := Tryd.prog) (G := GG) (E := []) (M := 0) (N := F0 8) _ _ _ _).symm.trans (by kernel_rfl)
  have h2 : exec Tryd.prog GG [] 0 (F0 8) ((Tryd.f49.body).getD .skip) .n ⟨H, argsT 0 [SL (x :: es)]⟩ (fun e s => match e with | .ret => some (get s.T 2, s.H) | _ => none) = some (OW H.length (x :: es).length, H ++ [⟨2, 30, 5, x :: es⟩]) := by
    rw [hx, u_appZ, u_elS, hz, whenE_t, show decide ((x :: es).length ≤ 34359738368) = true by simpa using hl, whenE_t]
  refine ac_of_wpAdd Tryd.func49 rfl (by kernel_rfl) [.tmp 2] rfl 8 Tryd.ntmps49 (Nat.le_of_ble_eq_true rfl) (AWp.mono (exec_ok MIX (by intro f e h; cases h) _ .n ⟨H, argsT 0 [SL (x :: es)]⟩ _ (Nat.le_refl _) h2) fun e s q => ?_)
  cases e with
  | ret =>
    injection q with q
    injection q with q1 q2
    exact ⟨rfl, q2, q1⟩
  | normal => cases q
  | exit id => cases q
  | goto l => cases q
  | panic ch => cases q
  | outgrown => cases q
theorem clone_nil (H : List AObj) : AC Tryd.prog GG 49 [SL []] H (Is (OW H.length 0) (H ++ [⟨2, 30, 5, []⟩])) := by
  refine ⟨by kernel_rfl, fun w S μ vs hr hg hl hv => ?_⟩
  obtain ⟨v, rfl⟩ : ∃ v, vs = [v] := by
    match vs, hl with
    | [v], _ => exact ⟨v, rfl⟩
  obtain ⟨A, c, rfl, _, _, _⟩ := hv 0 _ _ rfl rfl
  have fin : ∀ A' w', Below w.heap.size w w' → CPost w S μ H (Is (OW H.length 0) (H ++ [⟨2, 30, 5, []⟩])) (.returned (.slice A' 0 0)) w' := by
    intro A' w' hb
    obtain ⟨h1, h2⟩ := hr.grow (S' := S) hb (fun _ _ _ q => q) (fun _ _ _ q => .inl q) (fun b j d q hb' => absurd (hr.still_lt q) (by omega))
    obtain ⟨h3, h4⟩ := h1.nilRow A' 30 5
    refine ⟨_, _, _, S, _, rfl, ⟨rfl, rfl⟩, h3, ?_, h2.trans h4⟩
    refine ⟨A', 0, 0, A', 0, ?_, Nat.le_refl _, rfl, fun _ => ⟨rfl, rfl⟩⟩
    rw [← hr.len]; simp
  cases A with
  | none =>
    have hq : ∀ w, (binOp .eql 22 (.slice none 0 c) (.slice none 0 0)).run Tryd.prog w = .ok (.bool true) w := fun w => by
      simp only [binOp]
      rw [Sem.run_bind, run_equal_slice_nil (P := Tryd.prog) w _ _ none 0 c Tryd.underlying22]
      rfl
    go_enter Tryd.func49, Tryd.ntmps49
    go_wp2
    go_ret
    exact fin none _ (Below.refl _ _)
  | some a =>
    have hq : ∀ w, (binOp .eql 22 (.slice (some a) 0 c) (.slice none 0 0)).run Tryd.prog w = .ok (.bool false) w := fun w => by
      simp only [binOp]
      rw [Sem.run_bind, run_equal_slice_nil (P := Tryd.prog) w _ _ (some a) 0 c Tryd.underlying22]
      rfl
    go_enter Tryd.func49, Tryd.ntmps49
    go_wp2
    go_ret
    exact fin _ _ ((Below.refl _ w).alloc (Nat.le_refl _) _)
noncomputable def slices_Clone_Item_t (m : Nat) : List AV → Nat → RO
  | [.slice es []], n => whenE (allCE 5 es && decide (es.length ≤ 34359738368)) (some (OW n es.length, [⟨2, 30, 5, es⟩]))
  | _, _ => none
theorem slices_Clone_Item_inv {m n : Nat} {args : List AV} {X : AV} {Y : List AObj} (h : slices_Clone_Item_t m args n = some (X, Y)) : ∃ es, args = [SL es] ∧ allCE 5 es = true ∧ es.length ≤ 34359738368 ∧ X = OW n es.length ∧ Y = [⟨2, 30, 5, es⟩] := by
  unfold slices_Clone_Item_t at h
  split at h
  · obtain ⟨h1, h2⟩ := whenE_some h
    rw [Bool.and_eq_true, decide_eq_true_eq] at h1
    injection h2 with h2
    injection h2 with h2 h3
    exact ⟨_, rfl, h1.1, h1.2, h2.symm, h3.symm⟩
  · cases h
theorem slices_Clone_Item_ok (m : Nat) : ∀ args H X Y, slices_Clone_Item_t m args H.length = some (X, Y) → AC Tryd.prog GG 49 args H (Is X (H ++ Y)) := by
  intro args H X Y h
  obtain ⟨es, rfl, h1, h2, rfl, rfl⟩ := slices_Clone_Item_inv h
  cases es with
  | nil => exact clone_nil H
  | cons x es => exact clone_cons x es H h1 h2
theorem slices_Clone_Item_e (m n : Nat) (es : List AV) (hz : allCE 5 es = true) (hl : es.length ≤ 34359738368) : slices_Clone_Item_t m [SL es] n = some (OW n es.length, [⟨2, 30, 5, es⟩]) := by
  show whenE (allCE 5 es && decide (es.length ≤ 34359738368)) _ = _
  rw [hz, show decide (es.length ≤ 34359738368) = true by simpa using hl]
  rfl
end Go.Proofs.YthmnhfabkllgpaaDoor

namespace Go.Proofs.YthmnhfabkllgpaaDoor
open Go.RowKit
set_option linter.unusedVariables false
set_option linter.unusedSimpArgs false
section
variable {P : Program}
theorem cell_row {w : World} {g : Nat} {cur : Array Value} {t : TypeId} {fr : Nat × Nat} {m : Nat} {us : List Value} (hg : w.heap[g]? = some (.cells cur t fr)) (htk : cur.toList.take m = us) {j : Nat} {u : Value} (h : us[j]? = some u) : w.cell? ⟨g, j, none⟩ = some u := by
  rw [cell_of_row w g j cur t fr hg, ← Array.getElem?_toList]
  rw [← htk, List.getElem?_take] at h
  split at h
  · exact h
  · cases h
end
end Go.Proofs.YthmnhfabkllgpaaDoor

namespace Go.Proofs.YthmnhfabkllgpaaDoor
open Go.RowKit
set_option linter.unusedVariables false
set_option linter.unusedSimpArgs false
set_option maxRecDepth 20000
theorem own_mono {w : World} {base base' : Nat} {e : TypeId} {z : Nat} {v : Value} {n : Nat} {xs : List Value} (h : w.ownsRow base e z v n xs) (hb : base' ≤ base) : w.ownsRow base' e z v n xs := by
  refine ⟨h.1, ?_⟩
  rcases h.2 with q | ⟨g, cap, cur, q1, q2, r⟩
  · exact .inl q
  · exact .inr ⟨g, cap, cur, q1, Nat.le_trans hb q2, r⟩
theorem own_cpost {w : World} {S : SS} {μ : List Value} {H : List AObj} (hr : Rel w S μ H) {w' : World} (hb : Below w.heap.size w w') {e : TypeId} {z : Nat} {es : List AV} (hall : allC z es) {us : List Value} (hus : reps S [] (flat es) us) {A : Option Addr} {cap : Nat}
    (hown : w'.ownsRow w.heap.size e z (.slice A es.length cap) es.length us) : CPost w S μ H (Is (OW H.length es.length) (H ++ [⟨2, e, z, es⟩])) (.returned (.slice A es.length cap)) w' := by
  obtain ⟨A', c', e1, hc1, hc2⟩ := own_le hown
  injection e1 with e1 e2 e3
  subst e1 e3
  have hown0 := own_mono hown (Nat.zero_le _)
  let S' : SS := fun b j d => S b j d ∨ (w.heap.size ≤ b ∧ (∃ q, A = some ⟨b, q, none⟩) ∧ cap ≠ 0 ∧ (flat es)[j]? = some d)
  have hcell : ∀ b j d, w.heap.size ≤ b → (∃ q, A = some ⟨b, q, none⟩) → (flat es)[j]? = some d → ∃ u, w'.cell? ⟨b, j, none⟩ = some u ∧ u.oneCell' = true ∧ rep1 S [] d u := by
    rintro b j d hbb ⟨q, rfl⟩ hd
    rcases hown.2 with ⟨q1, _⟩ | ⟨g, cp, cur, q1, _, hg, h1, h2, h3, h4⟩
    · cases q1
    · injection q1 with q1 q2 q3
      injection q1 with q1
      injection q1 with q1 _ _
      subst q1 q3
      have hj : j < us.length := by rw [hus.1]; exact (List.getElem?_eq_some_iff.1 hd).1
      obtain ⟨k1, k2⟩ := hus.2 j d _ hd (List.getElem?_eq_getElem hj)
      exact ⟨_, cell_row hg h4 (List.getElem?_eq_getElem hj), k1, k2⟩
  obtain ⟨q1, q2⟩ := hr.grow (S' := S') hb (fun _ _ _ q => .inl q) (fun b j d q => q.imp id fun k => k.1) (fun b j d q hb' => by
    rcases q with q | ⟨k1, k2, _, k3⟩
    · have := hr.still_lt q; omega
    · obtain ⟨u, h1, h2, h3⟩ := hcell b j d k1 k2 k3
      exact ⟨u, h1, h2, h3.ext ⟨fun _ _ _ q => .inl q, fun i x hx => by simp at hx⟩⟩)
  have hbl : ∀ b, blkOf (.slice A es.length cap) = some b → w.heap.size ≤ b ∧ cap ≠ 0 := by
    intro b hbk
    cases A with
    | none => simp [blkOf] at hbk
    | some a =>
      simp only [blkOf] at hbk
      split at hbk
      · cases hbk
      · rename_i hc
        injection hbk with hbk
        subst hbk
        rcases hown.2 with ⟨q1, _⟩ | ⟨g, cp, cur, q1, hbg, _⟩
        · cases q1
        · injection q1 with q1; injection q1 with q1; subst q1
          exact ⟨hbg, hc⟩
  have q3 : Rel w' S' (μ ++ [.slice A es.length cap]) (H ++ [⟨2, e, z, es⟩]) := by
    refine q1.add (.inr (.inr (.inl rfl))) ⟨fun h => by simp at h, fun _ => ⟨us, A, cap, rfl, hc1, hc2, fun _ => hown0, fun hne => ?_⟩, fun h => by simp at h⟩ fun b hbk => ?_
    · have hpos : 0 < es.length := List.length_pos_iff.2 hne
      rcases hown.2 with ⟨q1, _⟩ | ⟨g, cp, cur, q1, hbg, _⟩
      · injection q1 with _ q1; omega
      · injection q1 with q1
        refine ⟨g, q1, inS_flat hall fun j y hy => .inr ⟨hbg, ⟨0, q1⟩, by have : es.length ≤ cap := hc1; omega, by simpa using hy⟩⟩
    · obtain ⟨k1, k2⟩ := hbl b hbk
      refine ⟨?_, fun j d hs => ⟨rfl, ?_⟩⟩
      · rintro ⟨k, y, o, hy, ho, hk, hb'⟩
        have := hr.own_lt hy ho hk hb'; omega
      · rcases hs with hs | ⟨_, _, _, hd⟩
        · have := hr.still_lt hs; omega
        · have := (List.getElem?_eq_some_iff.1 hd).1
          rw [flatE_length hall] at this
          exact this
  refine ⟨_, _, _, S', _, rfl, ⟨rfl, rfl⟩, q3, ⟨A, es.length, cap, A, cap, by rw [← hr.len]; simp, Nat.le_refl _, rfl, fun _ => ⟨rfl, rfl⟩⟩, q2.add hr.len fun b hbk => ?_⟩
  exact (hbl b hbk).1
end Go.Proofs.YthmnhfabkllgpaaDoor

namespace Go.Proofs.YthmnhfabkllgpaaDoor
open Go.RowKit
set_option linter.unusedVariables false
set_option linter.unusedSimpArgs false
set_option maxRecDepth 20000
inductive Unbad (bad : AV → Prop) : AV → Prop
  | nil : Unbad bad .nil
  | held (x) : Unbad bad (.held x)
  | slice (es : List AV) : (∀ d ∈ es, ∀ y ∈ cellsOf d, ¬ bad y) → (∀ d ∈ es, ∀ y ∈ cellsOf d, Unbad bad y) → Unbad bad (.slice es [])
  | ptr (d : AV) : (∀ y ∈ cellsOf d, ¬ bad y) → (∀ y ∈ cellsOf d, Unbad bad y) → Unbad bad (.ptr d)
def UnbadA (bad : AV → Prop) : AV → Prop
  | .agg cs => ∀ y ∈ cs, Unbad bad y
  | d => Unbad bad d
def UnbadV (bad : AV → Prop) : AV → Prop
  | .iface _ (.agg ds) => ∀ d ∈ ds, UnbadA bad d
  | d => UnbadA bad d
section
variable {P : Program} {G : Gl} {S S2 : SS} {n0 : Nat} {bad : AV → Prop}
abbrev lendS (S S2 : SS) (n0 : Nat) (bad : AV → Prop) : SS := fun b j d => S b j d ∨ (n0 ≤ b ∧ S2 b j d ∧ Unbad bad d)
theorem rep1.lend (key : ∀ b j y, S2 b j y → n0 ≤ b ∨ S b j y ∨ bad y) {d : AV} {v : Value} (h : rep1 S2 [] d v) (hG : Unbad bad d) : rep1 (lendS S S2 n0 bad) [] d v := by
  cases hG with
  | nil => trivial
  | held x =>
    rcases x with u | ⟨i, o⟩ | ⟨i, m⟩
    · exact h
    · obtain ⟨b, x, hb, _⟩ := h; simp at hb
    · obtain ⟨A, q, c, A0, c0, hb, _⟩ := h; simp at hb
  | slice es h1 h2 =>
    obtain ⟨A, c, rfl, l1, l2, l3⟩ := h
    refine ⟨A, c, rfl, l1, l2, fun hne => ?_⟩
    obtain ⟨b, o, z, rfl, hin⟩ := l3 hne
    refine ⟨b, o, z, rfl, fun i d hd => ⟨(hin i d hd).1, fun j y hy => ?_⟩⟩
    have q := (hin i d hd).2 j y hy
    have m1 := List.mem_of_getElem? hd
    have m2 := List.mem_of_getElem? hy
    rcases key _ _ _ q with k | k | k
    · exact .inr ⟨k, q, h2 d m1 y m2⟩
    · exact .inl k
    · exact absurd k (h1 d m1 y m2)
  | ptr d h1 h2 =>
    obtain ⟨b, o, rfl, hin⟩ := h
    refine ⟨b, o, rfl, fun j y hy => ?_⟩
    have q := hin j y hy
    have m2 := List.mem_of_getElem? hy
    rcases key _ _ _ q with k | k | k
    · exact .inr ⟨k, q, h2 y m2⟩
    · exact .inl k
    · exact absurd k (h1 y m2)
theorem repA.lend (key : ∀ b j y, S2 b j y → n0 ≤ b ∨ S b j y ∨ bad y) {d : AV} {v : Value} (h : repA S2 [] d v) (hG : UnbadA bad d) : repA (lendS S S2 n0 bad) [] d v := by
  unfold repA at h ⊢
  split
  · simp only at h
    obtain ⟨us, e, hr⟩ := h
    exact ⟨us, e, hr.1, fun j d u hd hu => ⟨(hr.2 j d u hd hu).1, (hr.2 j d u hd hu).2.lend key (hG d (List.mem_of_getElem? hd))⟩⟩
  · rename_i hne
    split at h
    · exact absurd rfl (hne _)
    · refine rep1.lend key h ?_
      unfold UnbadA at hG
      split at hG
      · exact absurd rfl (hne _)
      · exact hG
theorem rep.lend (key : ∀ b j y, S2 b j y → n0 ≤ b ∨ S b j y ∨ bad y) {d : AV} {v : Value} (h : rep S2 [] d v) (hG : UnbadV bad d) : rep (lendS S S2 n0 bad) [] d v := by
  unfold rep at h ⊢
  split
  · simp only at h
    obtain ⟨us, e, hl, hr⟩ := h
    exact ⟨us, e, hl, fun j d u hd hu => (hr j d u hd hu).lend key (hG d (List.mem_of_getElem? hd))⟩
  · rename_i hne
    split at h
    · exact absurd rfl (hne _ _)
    · refine repA.lend key h ?_
      unfold UnbadV at hG
      split at hG
      · exact absurd rfl (hne _ _)
      · exact hG
theorem rel_none {w : World} {μ : List Value} {H : List AObj} (hr : Rel w S μ H) : Rel w S [] [] :=
  ⟨rfl, hr.still, fun i x o hi => by simp at hi, fun i x o hi => by simp at hi, fun i i' x x' o o' b hi => by simp at hi, fun i x o b hi => by simp at hi⟩
theorem lend_post {w w' : World} {μ : List Value} {H : List AObj} (hr : Rel w S μ H) (hb : ∀ o ∈ H, o.k = 4 → ∀ y ∈ flat o.c, bad y) (hrel : Rel w' S2 [] []) (hst : Step 0 w (frS S μ H) [] [] w' S2 [] []) :
    (∀ b j y, S2 b j y → w.heap.size ≤ b ∨ S b j y ∨ bad y) ∧ Rel w' (lendS S S2 w.heap.size bad) μ H ∧ Step H.length w S μ H w' (lendS S S2 w.heap.size bad) μ H := by
  have hbe := hst.below
  have key : ∀ b j y, S2 b j y → w.heap.size ≤ b ∨ S b j y ∨ bad y := by
    intro b j y q
    by_cases hlt : b < w.heap.size
    · rcases hst.old b j y q hlt with q | q
      · rcases q with q | ⟨i, o, x, ho, hk, _, _, _, hd⟩
        · exact .inr (.inl q)
        · exact .inr (.inr (hb o (List.mem_of_getElem? ho) hk y (List.mem_of_getElem? hd)))
      · obtain ⟨i, x, o, hi, _⟩ := q; simp at hi
    · exact .inl (by omega)
  exact ⟨key, hr.grow (S' := lendS S S2 w.heap.size bad) hbe (fun _ _ _ q => .inl q) (fun b j d q => q.imp id fun k => k.1) (fun b j d q hlt => by
    rcases q with q | ⟨_, q, hg⟩
    · have := hr.still_lt q; omega
    · obtain ⟨u, h1, h2, h3⟩ := hrel.still b j d q
      exact ⟨u, h1, h2, h3.lend key hg⟩)⟩
theorem lend_call {f : FuncId} {args : List AV} {X : AV} {H : List AObj} (bad : AV → Prop) (h : ACp P G f (args.map (fzV H)) X) (ha : (args.map (fzV H)).all (ltT 0) = true) (hb : ∀ o ∈ H, o.k = 4 → ∀ y ∈ flat o.c, bad y) (hX : UnbadV bad X) : AC P G f args H (Is X H) := by
  refine ⟨h.1, fun w S μ vs hr hg hl hv => ?_⟩
  have hg1 : GOk G (frS S μ H) := hg.ext fun _ _ _ q => .inl q
  refine (h.2 w (frS S μ H) [] vs (rel_none hr.freeze) hg1 (by simpa using hl) fun j d v hd hvj => ?_).mono ?_
  · rw [List.getElem?_map] at hd
    obtain ⟨d0, hd0, rfl⟩ := Option.map_eq_some_iff.1 hd
    exact ((hv j d0 v hd0 hvj).fz hr).none ((List.all_eq_true.1 ha) _ (List.mem_map.2 ⟨d0, List.mem_of_getElem? hd0, rfl⟩))
  rintro e w' ⟨v, r, H', S2, μ', he, ⟨rfl, rfl⟩, hrel, hrep, hst⟩
  have hμ : μ' = [] := List.eq_nil_of_length_eq_zero hrel.len
  subst hμ
  obtain ⟨key, q1, q2⟩ := lend_post hr hb hrel hst
  exact ⟨v, _, H, _, μ, he, ⟨rfl, rfl⟩, q1, (hrep.lend key hX).free, q2⟩
theorem flat_inS {b z : Nat} : ∀ {es : List AV} {o : Nat}, inS S b o z es → ∀ (j : Nat) (y : AV), (flat es)[j]? = some y → S b (o + j) y
  | [], o, h, j, y, hy => by simp [flat] at hy
  | d :: r, o, h, j, y, hy => by
    obtain ⟨h1, h2⟩ := h 0 d rfl
    have hf : flat (d :: r) = cellsOf d ++ flat r := by simp [flat]
    rw [hf] at hy
    by_cases hj : j < (cellsOf d).length
    · rw [List.getElem?_append_left hj] at hy
      have := h2 j y hy
      simpa using this
    · rw [List.getElem?_append_right (by omega)] at hy
      have := flat_inS (es := r) (o := o + z) (fun i d' hd => ⟨(h (i + 1) d' (by simpa using hd)).1, fun k y hk => by
        have := (h (i + 1) d' (by simpa using hd)).2 k y hk
        rwa [show o + (i + 1) * z + k = o + z + i * z + k by rw [Nat.succ_mul]; omega] at this⟩) (j - z) y (by rw [← h1]; exact hy)
      rwa [show o + z + (j - z) = o + j by omega] at this
theorem row_core {w w' : World} {H3 : List AObj} {μ' : List Value} {e : TypeId} {z i : Nat} {es : List AV} {v : Value} (hall : allC z es) (hes : ∀ y ∈ flat es, ∃ u, y = V u) (hrel : Rel w' S2 μ' H3) (hi : H3[i]? = some ⟨2, e, z, es⟩) (hst : Step 0 w S [] [] w' S2 μ' H3) (hrep : rep S2 μ' (OW i es.length) v) :
    ∃ A c, v = .slice A es.length c ∧ es.length ≤ c ∧ c ≤ maxLen ∧ (∀ b, blkOf (.slice A es.length c) = some b → w.heap.size ≤ b) ∧ (c ≠ 0 → ∃ us, w'.ownsRow w.heap.size e z (.slice A es.length c) es.length us ∧ reps S [] (flat es) us) := by
  obtain ⟨A, m, c, A', c', hμ, hn, rfl, heq⟩ := hrep
  obtain ⟨us, A2, c2, e2, l1, l2, hown, hin⟩ := (hrel.objs i _ _ hμ hi).2.1 rfl
  dsimp only at e2 l1 hown hin
  injection e2 with e2 e3 e4
  subst e2 e3 e4
  obtain ⟨rfl, rfl⟩ := heq rfl
  have hblk : ∀ b, blkOf (.slice A' es.length c') = some b → w.heap.size ≤ b := by
    intro b hb
    apply Nat.le_of_not_lt
    intro hlt
    obtain ⟨i0, x0, o0, hx0, _⟩ := hst.mine b ⟨i, _, _, hμ, hi, by simp, hb⟩ hlt
    simp at hx0
  refine ⟨A', c', rfl, l1, l2, hblk, fun h0 => ⟨us, ⟨(hown h0).1, ?_⟩, ?_⟩⟩
  · rcases (hown h0).2 with q | ⟨g, cap, cur, q, hb, r⟩
    · exact .inl q
    · refine .inr ⟨g, cap, cur, q, hblk g ?_, r⟩
      injection q with q _ _
      subst q
      simp only [blkOf]
      rw [if_neg h0]
  · rcases (hown h0).2 with ⟨q, _⟩ | ⟨g, cap, cur, q, _, hg2, k1, k2, k3, k4⟩
    · injection q with _ _ q; exact absurd q h0
    injection q with q _ qc
    subst q qc
    have hlen : us.length = (flat es).length := by rw [(hown h0).1, flatE_length hall]
    refine ⟨hlen, fun j y u hy hu => ?_⟩
    have hne : es ≠ [] := by rintro rfl; simp [flat] at hy
    obtain ⟨b, hb, hin⟩ := hin hne
    injection hb with hb; injection hb with hb
    subst hb
    have hs := flat_inS hin j y hy
    rw [Nat.zero_add] at hs
    obtain ⟨u', h1, h2, h3⟩ := hrel.still _ _ _ hs
    have hc := cell_row hg2 k4 hu
    rw [hc] at h1
    injection h1 with h1
    subst h1
    obtain ⟨u2, rfl⟩ := hes y (List.mem_of_getElem? hy)
    exact ⟨h2, h3⟩
theorem thaw_core {w w' : World} {μ : List Value} {H : List AObj} (hr : Rel w S μ H) {A : Option Addr} {c : Nat} {e : TypeId} {z : Nat} {es : List AV} (hall : allC z es) (hbe : Below w.heap.size w w') (l1 : es.length ≤ c) (l2 : c ≤ maxLen) (hblk : ∀ b, blkOf (.slice A es.length c) = some b → w.heap.size ≤ b) (hown : c ≠ 0 → ∃ us, w'.ownsRow w.heap.size e z (.slice A es.length c) es.length us ∧ reps S [] (flat es) us) :
    Rel w' S (μ ++ [MR A es.length c]) (H ++ [⟨4, e, z, es⟩]) ∧ rep S (μ ++ [MR A es.length c]) (PR H.length es.length) (.slice A es.length c) ∧ Step H.length w S μ H w' S (μ ++ [MR A es.length c]) (H ++ [⟨4, e, z, es⟩]) := by
  have hblk' : ∀ b, blkOf (MR A es.length c) = some b → w.heap.size ≤ b := fun b hb => hblk b ((by cases A <;> rfl : blkOf (.slice A es.length c) = blkOf (MR A es.length c)).trans hb)
  obtain ⟨q1, q2⟩ := hr.grow (S' := S) hbe (fun _ _ _ q => q) (fun _ _ _ q => .inl q) (fun b j d q hlt => by have := hr.still_lt q; omega)
  have hob : objRep w' S (μ ++ [MR A es.length c]) (MR A es.length c) ⟨4, e, z, es⟩ := by
    refine ⟨fun q => by simp at q, fun q => by simp at q, fun _ => ⟨A, c, rfl, l1, l2, hall, fun h0 => ?_⟩⟩
    obtain ⟨us, ⟨_, hh⟩, hus⟩ := hown h0
    rcases hh with ⟨q, _⟩ | ⟨g, cap, cur, q, _, hg2, k1, k2, k3, k4⟩
    · injection q with _ _ q; exact absurd q h0
    injection q with q _ qc
    subst q qc
    refine ⟨g, cur, rfl, hg2, k3, ?_⟩
    dsimp only
    rw [k4]
    exact hus.free
  refine ⟨?_, ⟨A, c, by rw [← hr.len]; simp, rfl, l1, l2⟩, q2.add hr.len hblk'⟩
  refine q1.add (.inr (.inr (.inr rfl))) hob fun b hbk => ⟨?_, fun j d hs => ?_⟩
  · rintro ⟨k, y, o, hy, ho, hk, hb'⟩
    have := hr.own_lt hy ho hk hb'
    have := hblk' b hbk
    omega
  · have := hr.still_lt hs
    have := hblk' b hbk
    omega
theorem copy_call {f : FuncId} {args : List AV} {e : TypeId} {z i : Nat} {es : List AV} {H H3 : List AObj} (h : AC P G f (args.map (fzV H)) [] (Is (OW i es.length) H3)) (hi : H3[i]? = some ⟨2, e, z, es⟩) (hall : allC z es) (hes : ∀ y ∈ flat es, ∃ u, y = V u) (hne : es ≠ []) (ha : (args.map (fzV H)).all (ltT 0) = true) :
    AC P G f args H (Is (OW H.length es.length) (H ++ [⟨2, e, z, es⟩])) := by
  refine ⟨h.1, fun w S μ vs hr hg hl hv => ?_⟩
  have hg1 : GOk G (frS S μ H) := hg.ext fun _ _ _ q => .inl q
  refine (h.2 w (frS S μ H) [] vs (rel_none hr.freeze) hg1 (by simpa using hl) fun j d v hd hvj => ?_).mono ?_
  · rw [List.getElem?_map] at hd
    obtain ⟨d0, hd0, rfl⟩ := Option.map_eq_some_iff.1 hd
    exact ((hv j d0 v hd0 hvj).fz hr).none ((List.all_eq_true.1 ha) _ (List.mem_map.2 ⟨d0, List.mem_of_getElem? hd0, rfl⟩))
  rintro e' w' ⟨v, r, H', S2, μ', he, ⟨rfl, rfl⟩, hrel, hrep, hst⟩
  obtain ⟨A, c, rfl, l1, l2, hblk, hown⟩ := row_core hall hes hrel hi hst hrep
  have hc : c ≠ 0 := by have := List.length_pos_iff.2 hne; omega
  obtain ⟨us, h1, h2⟩ := hown hc
  have hus : reps S [] (flat es) us := ⟨h2.1, fun j y u hy hu => by
    obtain ⟨u2, rfl⟩ := hes y (List.mem_of_getElem? hy)
    exact h2.2 j _ u hy hu⟩
  rw [he]
  exact own_cpost hr hst.below hall hus h1
noncomputable def lendT (bad : AV → Prop) (r : RO) (args : List AV) (H : List AObj) : RO := match r with
  | some (X, _) => open Classical in if (args.map (fzV H)).all (ltT 0) = true ∧ (∀ o ∈ H, o.k = 4 → ∀ y ∈ flat o.c, bad y) ∧ UnbadV bad X then some (X, H) else none
  | none => none
theorem lend_ok {bad : AV → Prop} {f : FuncId} {args : List AV} {H : List AObj} {r : RO} (h : ∀ X H', r = some (X, H') → ACp P G f (args.map (fzV H)) X) {X : AV} {H' : List AObj} (hx : lendT bad r args H = some (X, H')) : AC P G f args H (Is X H') := by
  unfold lendT at hx
  split at hx
  · split at hx
    · rename_i hc
      cases hx
      exact lend_call bad (h _ _ rfl) hc.1 hc.2.1 hc.2.2
    · cases hx
  · cases hx
theorem lend_e {bad : AV → Prop} {args : List AV} {H H0 : List AObj} {X : AV} (h1 : (args.map (fzV H)).all (ltT 0) = true) (h2 : ∀ o ∈ H, o.k = 4 → ∀ y ∈ flat o.c, bad y) (h3 : UnbadV bad X) : lendT bad (some (X, H0)) args H = some (X, H) := by
  unfold lendT
  exact if_pos ⟨h1, h2, h3⟩
end
end Go.Proofs.YthmnhfabkllgpaaDoor

namespace Go.Proofs.YthmnhfabkllgpaaDoor
open Go.RowKit
set_option linter.unusedVariables false
set_option linter.unusedSimpArgs false
set_option maxRecDepth 20000
section
variable {P : Program} {G : Gl} {N : FS} {n : Nat}
def StepW (P : Program) (G : Gl) (N : FS) (o : Oper) (s : ASt) (K : AV → List AObj → Prop) : Prop :=
  ∀ (w : World) (S : SS) (μ : List Value) (a : Act), Rel w S μ s.H → Fr S μ N s.T a → GOk G S → ∀ Q, o.wp P a w (OpPost w S μ s.H a o K) Q
theorem stepW_of {o : Oper} {s : ASt} {K : AV → List AObj → Prop} (h : stepOp P G o s K) : StepW P G N o s K := fun w S μ a hr hf hg Q => stepOp_wp h hr hf hg Q
def runW (P : Program) (G : Gl) (N : FS) : List Oper → ASt → (ASt → Prop) → Prop
  | [], s, K => K s
  | o :: r, s, K => o.guard = none ∧ ∃ K', StepW P G N o s K' ∧ ∀ d H, K' d H → runW P G N r (s.set H o.dst d) K
theorem runW_wp {ops : Array Oper} {K : ASt → Prop} {Q : Exit → ASt → Prop} (hK : ∀ s, K s → Q .normal s) {w0 : World} {S0 : SS} {μ0 : List Value} {H0 : List AObj} (hn : n ≤ H0.length) (hl0 : μ0.length = H0.length) : ∀ (l : List Oper) (s : ASt), runW P G N l s K → fits N l = true →
    ∀ w S μ a, Rel w S μ s.H → Fr S μ N s.T a → GOk G S → Step n w0 S0 μ0 H0 w S μ s.H → wpList P ops (Lift N n w0 S0 μ0 H0 Q) l a w
  | [], s, h, _, w, S, μ, a, hr, hf, hg, hs => ⟨s, S, μ, hK s h, hr, hf, hs⟩
  | o :: r, s, h, hfit, w, S, μ, a, hr, hf, hg, hs => by
    have hfit' := hfit
    simp only [fits, List.all_cons, Bool.and_eq_true] at hfit'
    have hd : ∀ i, o.dst = some i → i < N := fun i e => by have := hfit'.1; rw [e] at this; simpa using this
    obtain ⟨hgd, K', hstep, hrest⟩ := h
    unfold wpList
    rw [if_pos (by simp [Region.wanted, hgd])]
    refine .inl ?_
    have hop := hstep w S μ a hr hf hg (Lift N n w0 S0 μ0 H0 Q)
    refine _root_.Go.Proofs.YthmnhfabkllgpaaDoor.Oper.wp_next hop fun a' w' => ?_
    rintro ⟨d, u, H', S', μ', hk, rfl, hrep, hr', hs', _⟩
    have hst := (hf.ext (hs'.toExt hr)).put o.dst hd hrep
    have hn' : n ≤ s.H.length := by
      have := hs.objs
      rcases Nat.lt_or_ge s.H.length n with hlt | hge
      · have hlm : s.H.length < μ0.length := by omega
        obtain ⟨x', hx', _⟩ := hs.objs s.H.length μ0[s.H.length] hlt (List.getElem?_eq_getElem hlm)
        have := (List.getElem?_eq_some_iff.1 hx').1
        rw [hr.len] at this; omega
      · exact hge
    exact runW_wp hK hn hl0 r _ (hrest d H' hk) hfit'.2 w' S' μ' _ hr' hst (hg.ext hs'.still) (hs.trans (hs'.less hn'))
theorem awp_regionW {Q : Exit → ASt → Prop} {s : ASt} {id : Nat} {ops : List Oper} (hfit : fits N ops = true) (hn : n ≤ s.H.length) (h : runW P G N ops s fun s => Q .normal s) : AWp P G N n (.region id ops.toArray false) Q s :=
  fun w S μ a hr hf hg => wp_region_lit (runW_wp (K := fun s => Q .normal s) (fun s h => h) hn hr.len ops s h hfit w S μ a hr hf hg (Step.refl _ _ _ _ _))
theorem op_app4 {w : World} {S : SS} {μ : List Value} {H : List AObj} {a : Act} {o : Oper} {Q : Exit → Act → World → Prop} {x y : Operand} {t e : TypeId} {z : Nat} {es : List AV} (hrel : Rel w S μ H) (ho : o.op = .call { callee := .builtin .append, args := #[x, y], argTypes := #[t, t] })
    (hx : rep S μ ZV (a.eval x)) (hy : rep S μ (SL es) (a.eval y)) (hT : appT P t = some (e, z)) (hall : allC z es) (hl : es.length ≤ 34359738368) (hes : ∀ y ∈ flat es, ∃ u, y = V u) : o.wp P a w (OpPost w S μ H a o fun d H' => d = PR H.length es.length ∧ H' = H ++ [⟨4, e, z, es⟩]) Q := by
  have key := op_append (K := fun d H' => d = OW 0 es.length ∧ H' = [⟨2, e, z, es⟩]) (Q := Q) (rel_none hrel) ho (hx.none rfl) (hy.none rfl) (by
    unfold aApp
    rw [hT]
    exact ⟨hall, hl, rfl, rfl⟩)
  refine _root_.Go.Proofs.YthmnhfabkllgpaaDoor.Oper.wp_next key fun a' w' => ?_
  rintro ⟨d, u, H', S', μ', ⟨rfl, rfl⟩, rfl, hrep, hr', hs', _⟩
  obtain ⟨A, c, rfl, l1, l2, hblk, hown⟩ := row_core (S := S) hall hes hr' rfl hs' hrep
  obtain ⟨q1, q2, q3⟩ := thaw_core hrel hall hs'.below l1 l2 hblk hown
  refine ⟨_, _, _, S, _, ⟨rfl, rfl⟩, rfl, q2, q1, q3, fun hq => ?_⟩
  rw [ho] at hq
  cases hq
theorem get_some {T : Tm} : ∀ (l : Tm), (∀ p ∈ l, get T p.1 = p.2) → ∀ i, get l i = get T i ∨ get l i = .nil
  | [], _, i => .inr rfl
  | (j, d) :: r, h, i => by
    simp only [get]
    split
    · rename_i e
      subst e
      exact .inl (h (j, d) (List.mem_cons_self ..)).symm
    · exact get_some r (fun p hp => h p (List.mem_cons_of_mem _ hp)) i
theorem keep_slots {Q : Exit → ASt → Prop} {c : Code} {H : List AObj} {T : Tm} (l : Tm) (hl : ∀ p ∈ l, get T p.1 = p.2) (h : AWp P G N n c Q ⟨H, l⟩) : AWp P G N n c Q ⟨H, T⟩ := AWp.forget (get_some l hl) h
end
end Go.Proofs.YthmnhfabkllgpaaDoor

namespace Go.Proofs.YthmnhfabkllgpaaDoor
open Go.RowKit
set_option linter.unusedVariables false
set_option linter.unusedSimpArgs false
set_option maxRecDepth 20000
noncomputable def trunk_mayLeafT : List AV → RO := orac (ι := Int × List Item × Int) (fun q => [nA q.1, lA q.2.1, nA q.2.2]) (fun q => bA (fitsB q.1 q.2.1 q.2.2)) (fun q => q.2.1.length ≤ 34359738368)
theorem trunk_mayLeafT_ok : ∀ args X H', trunk_mayLeafT args = some (X, H') → ACp Tryd.prog GG 44 args X := orac_ok fun q h => mayLeaf_d sigGG q.1 q.2.1 q.2.2 h
theorem trunk_mayLeafT_e (b : Int) (l : List Item) (v : Int) (h : l.length ≤ 34359738368) : trunk_mayLeafT [nA b, lA l, nA v] = some (bA (fitsB b l v), []) := orac_eq (ι := Int × List Item × Int) (by
  rintro ⟨b, l, v⟩ ⟨b', l', v'⟩ e
  dsimp only at e ⊢
  simp only [List.cons.injEq, and_true] at e
  rw [nA_inj e.1, lA_inj e.2.1, nA_inj e.2.2]) (i := (b, l, v)) h
noncomputable def trunk_mayLeafL_t (m : Nat) (args : List AV) (H : List AObj) : RO := lendT (fun _ => True) (trunk_mayLeafT (args.map (fzV H))) args H
theorem trunk_mayLeafL_ok (m : Nat) : ∀ args H X H', trunk_mayLeafL_t m args H = some (X, H') → AC Tryd.prog GG 44 args H (Is X H') := by
  intro args H X H' h
  exact lend_ok (fun X H' q => trunk_mayLeafT_ok _ X H' q) h
theorem its_lt {l : List Item} {n : Nat} : (l.map (flA Item.cells)).all (ltA n) = true := by
  rw [List.all_eq_true]
  intro d hd
  obtain ⟨x, _, rfl⟩ := List.mem_map.1 hd
  rfl
theorem fz_items {H : List AObj} {i : Nat} {e : TypeId} {z : Nat} {l : List Item} (h : H[i]? = some ⟨4, e, z, l.map (flA Item.cells)⟩) : fzV H (PR i l.length) = lA l := by
  have hz : fzO H i l.length = some (l.map (flA Item.cells)) := by
    unfold fzO
    rw [h]
    dsimp only
    rw [if_pos ⟨rfl, by simp, its_lt⟩]
  show (match fzO H i l.length with | some c => SL c | none => PR i l.length) = _
  rw [hz]; rfl
theorem trunk_mayLeafL_e (m : Nat) {H : List AObj} {i : Nat} {e : TypeId} {z : Nat} (b : Int) (l : List Item) (v : Int) (hl : l.length ≤ 34359738368) (h : H[i]? = some ⟨4, e, z, l.map (flA Item.cells)⟩) : trunk_mayLeafL_t m [nA b, PR i l.length, nA v] H = some (bA (fitsB b l v), H) := by
  unfold trunk_mayLeafL_t
  have h1 : [nA b, PR i l.length, nA v].map (fzV H) = [nA b, lA l, nA v] := by
    show [nA b, fzV H (PR i l.length), nA v] = _
    rw [fz_items h]
  rw [h1, trunk_mayLeafT_e b l v hl]
  exact lend_e (by rw [h1]; rfl) (fun _ _ _ _ _ => trivial) (Unbad.held _)
theorem its_V {l : List Item} : ∀ y ∈ flat (l.map (flA Item.cells)), ∃ u, y = V u := by
  intro y hy
  obtain ⟨d, hd, hy⟩ := List.mem_flatMap.1 hy
  obtain ⟨x, _, rfl⟩ := List.mem_map.1 hd
  obtain ⟨u, _, rfl⟩ := List.mem_map.1 (show y ∈ x.cells.map (fun u => V u) from hy)
  exact ⟨u, rfl⟩
theorem its_CE {l : List Item} : allCE 5 (l.map (flA Item.cells)) = true := by
  unfold allCE
  rw [List.all_eq_true]
  intro d hd
  obtain ⟨x, _, rfl⟩ := List.mem_map.1 hd
  rfl
def LentC (args : List AV) (H : List AObj) (q : Nat × List Item × TypeId × Nat) : Prop := args = [PR q.1 q.2.1.length] ∧ H[q.1]? = some ⟨4, q.2.2.1, q.2.2.2, q.2.1.map (flA Item.cells)⟩ ∧ q.2.1.length ≤ 34359738368
noncomputable def slices_Clone_ItemL_t (m : Nat) (args : List AV) (H : List AObj) : RO :=
  open Classical in if h : ∃ q, LentC args H q then some (OW H.length h.choose.2.1.length, H ++ [⟨2, 30, 5, h.choose.2.1.map (flA Item.cells)⟩]) else none
theorem lent_clone (m : Nat) {args : List AV} {H : List AObj} {q : Nat × List Item × TypeId × Nat} (hq : LentC args H q) : AC Tryd.prog GG 49 args H (Is (OW H.length q.2.1.length) (H ++ [⟨2, 30, 5, q.2.1.map (flA Item.cells)⟩])) := by
  obtain ⟨i, l, e, z⟩ := q
  obtain ⟨rfl', h2, h3⟩ := hq
  dsimp only at rfl' h2 h3 ⊢
  have hl : (l.map (flA Item.cells)).length = l.length := List.length_map ..
  cases hn : l with
  | nil =>
    subst hn
    have hc := clone_nil H
    refine ⟨hc.1, fun w S μ vs hr hg hlv hv => hc.2 w S μ vs hr hg (by rw [hlv, rfl']; rfl) fun j d v hd hvj => ?_⟩
    match j with
    | 0 =>
      cases hd
      obtain ⟨A, c, _, rfl, q1, q2⟩ := hv 0 _ v (by rw [rfl']; rfl) hvj
      exact ⟨A, c, rfl, q1, q2, fun q => absurd rfl q⟩
    | j + 1 => cases hd
  | cons x r =>
    rw [← hn, ← hl]
    have hne : l.map (flA Item.cells) ≠ [] := by rw [hn]; simp
    have hm : args.map (fzV H) = [SL (l.map (flA Item.cells))] := by
      rw [rfl']
      show [fzV H (PR i l.length)] = _
      rw [fz_items h2]; rfl
    refine copy_call (i := 0) (H3 := [⟨2, 30, 5, l.map (flA Item.cells)⟩]) ?_ rfl (allCE_ok its_CE) its_V hne (by rw [hm]; rfl)
    rw [hm]
    exact slices_Clone_Item_ok m [SL (l.map (flA Item.cells))] [] _ _ (slices_Clone_Item_e m 0 _ its_CE (by rw [hl]; exact h3))
theorem slices_Clone_ItemL_ok (m : Nat) : ∀ args H X H', slices_Clone_ItemL_t m args H = some (X, H') → AC Tryd.prog GG 49 args H (Is X H') := by
  intro args H X H' h
  unfold slices_Clone_ItemL_t at h
  split at h
  · rename_i hh
    cases h
    exact lent_clone m hh.choose_spec
  · cases h
theorem slices_Clone_ItemL_e (m : Nat) {H : List AObj} {i : Nat} {e : TypeId} {z : Nat} (l : List Item) (hl : l.length ≤ 34359738368) (h : H[i]? = some ⟨4, e, z, l.map (flA Item.cells)⟩) : slices_Clone_ItemL_t m [PR i l.length] H = some (OW H.length l.length, H ++ [⟨2, 30, 5, l.map (flA Item.cells)⟩]) := by
  have hh : ∃ q, LentC [PR i l.length] H q := ⟨(i, l, e, z), rfl, h, hl⟩
  unfold slices_Clone_ItemL_t
  rw [dif_pos hh]
  obtain ⟨h1, h2, _⟩ := hh.choose_spec
  generalize hh.choose = q at *
  obtain ⟨i', l', e', z'⟩ := q
  dsimp only at h1 h2 ⊢
  injection h1 with h1
  injection h1 with _ h1
  injection h1 with h1
  injection h1 with h1
  injection h1 with h1
  injection h1 with h1
  injection h1 with h1 h3
  subst h1
  rw [h] at h2
  injection h2 with h2
  injection h2 with _ _ _ h2
  have : l = l' := map_inj (fun _ _ => iA_inj) h2
  rw [this]
end Go.Proofs.YthmnhfabkllgpaaDoor

namespace Go.Proofs.YthmnhfabkllgpaaDoor
open Go.RowKit
set_option linter.unusedVariables false
set_option maxRecDepth 100000
def ty_sl_api_Item : TypeId := 22
noncomputable def trunk_Replace_1_c : Code := (Tryd.f48.body).getD .skip
def trunk_Replace_1_h : Hint := (.two .n (.two .n .n))
noncomputable def trunk_Replace_1_env (m : Nat) : Env := [(49, .keep (slices_Clone_ItemL_t m))]
noncomputable abbrev trunk_Replace_1_fin (n0 : Nat) : KO (AV × List AObj) := keepFK Tryd.prog n0 [.tmp 3, .tmp 4]
noncomputable def trunk_Replace_1 (m : Nat) (t0 t1 : AV) (H : List AObj) : RO := exec Tryd.prog GG (trunk_Replace_1_env m) m ⟨7, []⟩ trunk_Replace_1_c trunk_Replace_1_h ⟨H, argsT 0 [t0, t1]⟩ (trunk_Replace_1_fin H.length)
theorem trunk_Replace_1_eq (m : Nat) (t0 t1 : AV) (H : List AObj) : trunk_Replace_1 m t0 t1 H =
  loadE 1 H t1 fun t5 =>
  keepE (slices_Clone_ItemL_t m [(ro H t5)] H) fun t6 H2 =>
  keepK H.length H2 (ro H2 (TU [noT t6, noT (V (.int .i64 0))])) := by
  refine (keepX Tryd.prog GG (trunk_Replace_1_env m) m ⟨7, []⟩ H.length trunk_Replace_1_c trunk_Replace_1_h ⟨H, argsT 0 [t0, t1]⟩ [.tmp 3, .tmp 4]).trans ?_
  kernel_rfl
noncomputable def trunk_Replace_1_t (m : Nat) : List AV → List AObj → RO | [t0, t1], H => trunk_Replace_1 m t0 t1 H | _, _ => none
theorem trunk_Replace_1_ok (m : Nat) : ∀ args H X H', trunk_Replace_1_t m args H = some (X, H') → AC Tryd.prog GG 48 args H (Is X H') := by
  intro args H X H' h
  unfold trunk_Replace_1_t at h
  split at h
  · exact keep_okK MIX (by
    intro f e h
    simp only [trunk_Replace_1_env, Prod.mk.injEq, List.mem_cons, List.not_mem_nil, or_false] at h
    obtain ⟨rfl, rfl⟩ := h
    · exact slices_Clone_ItemL_ok m) (f := 48) (c := trunk_Replace_1_c) Tryd.func48 rfl (by kernel_rfl) _ rfl Tryd.ntmps48 (Nat.le_of_ble_eq_true rfl) trunk_Replace_1_h h
  · cases h
noncomputable def trunk_change_c : Code := (Tryd.f32.body).getD .skip
def trunk_change_h : Hint := (.two .n (.two .n (.two (.two .n (.two (.two .n .n) .n)) (.two .n (.two .n .n)))))
noncomputable def trunk_change_env (m : Nat) : Env := [(48, .keep (trunk_Replace_1_t m))]
noncomputable abbrev trunk_change_fin (n0 : Nat) : KO (AV × List AObj) := keepFK Tryd.prog n0 [.cell 8 26, .tmp 9]
noncomputable def trunk_change (m : Nat) (t0 t1 t2 t3 : AV) (H : List AObj) : RO := exec Tryd.prog GG (trunk_change_env m) m ⟨34, []⟩ trunk_change_c trunk_change_h ⟨H, argsT 0 [t0, t1, t2, t3]⟩ (trunk_change_fin H.length)
theorem trunk_change_eq (m : Nat) (t0 t1 t2 t3 : AV) (H : List AObj) : trunk_change m t0 t1 t2 t3 H =
  boxE ty_api_Trunk H t0 fun t4 H2 =>
  allocE (some zc_api_Trunk) ty_api_Trunk H2 fun t8 H3 =>
  fieldE (some (0, 18)) t4 fun t15 =>
  idxPE 16 1 t15 t1 fun t16 =>
  loadE 1 H3 t16 fun t17 =>
  callVE (trunk_change_env m) t3 [t17] H3 fun t18 H4 =>
  extE t18 0 fun t19 =>
  extE t18 1 fun t20 =>
  binE none false false .neq t20 (V (.int .i64 0)) fun t22 =>
  condE t22 (
   buildE (some pl_api_Trunk) (some zc_api_Trunk) [] fun t23 =>
   storeE 34 H4 t8 t23 fun H5 =>
   loadE 34 H5 t8 fun t9000 =>
   keepK H.length H5 (ro H5 (TU [noT t9000, noT t20]))) (
   fieldE (some (0, 18)) t4 fun t29 =>
   idxPE 16 1 t29 t1 fun t30 =>
   storeE 1 H4 t30 t19 fun H5 =>
   fieldE (some (16, 18)) t4 fun t31 =>
   idxPE 16 1 t31 t1 fun t32 =>
   storeE 1 H5 t32 t2 fun H6 =>
   loadE 34 H6 t4 fun t33 =>
   storeE 34 H6 t8 t33 fun H7 =>
   loadE 34 H7 t8 fun t9000 =>
   keepK H.length H7 (ro H7 (TU [noT t9000, noT (V (.int .i64 0))]))) := by
  refine (keepX Tryd.prog GG (trunk_change_env m) m ⟨34, []⟩ H.length trunk_change_c trunk_change_h ⟨H, argsT 0 [t0, t1, t2, t3]⟩ [.cell 8 26, .tmp 9]).trans ?_
  kernel_rfl
noncomputable def trunk_change_t (m : Nat) : List AV → List AObj → RO | [t0, t1, t2, t3], H => trunk_change m t0 t1 t2 t3 H | _, _ => none
theorem trunk_change_ok (m : Nat) : ∀ args H X H', trunk_change_t m args H = some (X, H') → AC Tryd.prog GG 32 args H (Is X H') := by
  intro args H X H' h
  unfold trunk_change_t at h
  split at h
  · exact keep_okK MIX (by
    intro f e h
    simp only [trunk_change_env, Prod.mk.injEq, List.mem_cons, List.not_mem_nil, or_false] at h
    obtain ⟨rfl, rfl⟩ := h
    · exact trunk_Replace_1_ok m) (f := 32) (c := trunk_change_c) Tryd.func32 rfl (by kernel_rfl) _ rfl Tryd.ntmps32 (Nat.le_of_ble_eq_true rfl) trunk_change_h h
  · cases h
noncomputable def trunk_Replace_c : Code := (Tryd.f23.body).getD .skip
def trunk_Replace_h : Hint := (.two .n (.join [1, 3, 4, 6, 8] (.one (.two .n (.two (.two .n .n) (.join [1, 3, 4, 6, 8, 15] .n (.two (.two .n .n) (.two .n (.two (.two .n .n) .n))))))) (.two .n .n)))
noncomputable def trunk_Replace_env (m : Nat) : Env := [(20, .tell (trunk_May_t m)), (44, .keep (trunk_mayLeafL_t m)), (32, .keep (trunk_change_t m))]
noncomputable abbrev trunk_Replace_fin (n0 : Nat) : KO (AV × List AObj) := keepFK Tryd.prog n0 [.cell 8 26, .tmp 9]
noncomputable def trunk_Replace_r2 (m : Nat) (n0k : Nat) (s : ASt) : RO := joinW Tryd.prog GG (trunk_Replace_env m) m ⟨37, []⟩ (cdR (cdR trunk_Replace_c)) trunk_Replace_h.r.r s (trunk_Replace_fin n0k)
noncomputable def trunk_Replace_r1 (m : Nat) (n0k : Nat) (s : ASt) : RO := joinW Tryd.prog GG (trunk_Replace_env m) m ⟨37, []⟩ (cdR (cdR (cdR (cdL (cdL (cdR trunk_Replace_c)))))) trunk_Replace_h.r.l.c.r.r.r s (blockX 0 (seqX (fun s => trunk_Replace_r2 m n0k ⟨s.H, [(1, gt s.T 1), (3, gt s.T 3), (4, gt s.T 4), (6, gt s.T 6), (8, gt s.T 8)]⟩) (trunk_Replace_fin n0k)))
noncomputable def trunk_Replace (m : Nat) (t0 t1 t2 t3 : AV) (H : List AObj) : RO := exec Tryd.prog GG (trunk_Replace_env m) m ⟨37, []⟩ trunk_Replace_c trunk_Replace_h ⟨H, argsT 0 [t0, t1, t2, t3]⟩ (trunk_Replace_fin H.length)
theorem trunk_Replace_r2_eq (m : Nat) (n0k : Nat) (H : List AObj) (t1 t3 t4 t6 t8 : AV) : trunk_Replace_r2 m n0k ⟨H, [(1, t1), (3, t3), (4, t4), (6, t6), (8, t8)]⟩ =
  loadE 34 H t4 fun t30 =>
  whenE (([t6] : List AV).all cap0) (
  keepE (trunk_change m (ro H t30) (ro H t1) (ro H t3) (ro H (CL (.func 48) 0 [t6])) H) fun t34 H2 =>
  extE t34 0 fun t35 =>
  extE t34 1 fun t36 =>
  storeE 34 H2 t8 t35 fun H3 =>
  loadE 34 H3 t8 fun t9000 =>
  keepK n0k H3 (ro H3 (TU [noT t9000, noT t36]))) := by
  refine (joinW_eq Tryd.prog GG (trunk_Replace_env m) m ⟨37, []⟩ (cdR (cdR trunk_Replace_c)) trunk_Replace_h.r.r ⟨H, [(1, t1), (3, t3), (4, t4), (6, t6), (8, t8)]⟩ (trunk_Replace_fin n0k)).trans ?_
  kernel_rfl
theorem trunk_Replace_r1_eq (m : Nat) (n0k : Nat) (H : List AObj) (t1 t3 t4 t6 t8 t15 : AV) : trunk_Replace_r1 m n0k ⟨H, [(1, t1), (3, t3), (4, t4), (6, t6), (8, t8), (15, t15)]⟩ =
  condE t15 (
   buildE (some pl_api_Trunk) (some zc_api_Trunk) [] fun t22 =>
   storeE 34 H t8 t22 fun H2 =>
   loadE 34 H2 t8 fun t9000 =>
   keepK n0k H2 (ro H2 (TU [noT t9000, noT (V (.int .i64 4))]))) (
   loadE 1 H t6 fun t25 =>
   keepE (trunk_mayLeafL_t m [(ro H t1), (ro H t25), (ro H t3)] H) fun t27 H2 =>
   unE .not t27 fun t28 =>
   condE t28 (
    buildE (some pl_api_Trunk) (some zc_api_Trunk) [] fun t29 =>
    storeE 34 H2 t8 t29 fun H3 =>
    loadE 34 H3 t8 fun t9000 =>
    keepK n0k H3 (ro H3 (TU [noT t9000, noT (V (.int .i64 1))]))) (
    trunk_Replace_r2 m n0k ⟨H2, [(1, t1), (3, t3), (4, t4), (6, t6), (8, t8)]⟩)) := by
  refine (joinW_eq Tryd.prog GG (trunk_Replace_env m) m ⟨37, []⟩ (cdR (cdR (cdR (cdL (cdL (cdR trunk_Replace_c)))))) trunk_Replace_h.r.l.c.r.r.r ⟨H, [(1, t1), (3, t3), (4, t4), (6, t6), (8, t8), (15, t15)]⟩ (blockX 0 (seqX (fun s => trunk_Replace_r2 m n0k ⟨s.H, [(1, gt s.T 1), (3, gt s.T 3), (4, gt s.T 4), (6, gt s.T 6), (8, gt s.T 8)]⟩) (trunk_Replace_fin n0k)))).trans ?_
  kernel_rfl
theorem trunk_Replace_eq (m : Nat) (t0 t1 t2 t3 : AV) (H : List AObj) : trunk_Replace m t0 t1 t2 t3 H =
  boxE ty_api_Trunk H t0 fun t4 H2 =>
  boxE ty_sl_api_Item H2 t2 fun t6 H3 =>
  allocE (some zc_api_Trunk) ty_api_Trunk H3 fun t8 H4 =>
  loadE 34 H4 t4 fun t11 =>
  tellE (trunk_May_t m [(ro H4 t11)]) [(ro H4 t11)] fun t12 =>
  unE .not t12 fun t13 =>
  condE t13 (
   buildE (some pl_api_Trunk) (some zc_api_Trunk) [] fun t14 =>
   storeE 34 H4 t8 t14 fun H5 =>
   loadE 34 H5 t8 fun t9000 =>
   keepK H.length H5 (ro H5 (TU [noT t9000, noT (V (.int .i64 1))]))) (
   binE none false false .lss t1 (V (.int .i64 0)) fun t17 =>
   condE t17 (
    trunk_Replace_r1 m H.length ⟨H4, [(1, t1), (3, t3), (4, t4), (6, t6), (8, t8), (15, (V (.bool true)))]⟩) (
    binE none false false .geq t1 (V (.int .i64 16)) fun t20 =>
    trunk_Replace_r1 m H.length ⟨H4, [(1, t1), (3, t3), (4, t4), (6, t6), (8, t8), (15, t20)]⟩)) := by
  refine (keepX Tryd.prog GG (trunk_Replace_env m) m ⟨37, []⟩ H.length trunk_Replace_c trunk_Replace_h ⟨H, argsT 0 [t0, t1, t2, t3]⟩ [.cell 8 26, .tmp 9]).trans ?_
  kernel_rfl
noncomputable def trunk_Replace_t (m : Nat) : List AV → List AObj → RO | [t0, t1, t2, t3], H => trunk_Replace m t0 t1 t2 t3 H | _, _ => none
theorem trunk_Replace_ok (m : Nat) : ∀ args H X H', trunk_Replace_t m args H = some (X, H') → AC Tryd.prog GG 23 args H (Is X H') := by
  intro args H X H' h
  unfold trunk_Replace_t at h
  split at h
  · exact keep_okK MIX (by
    intro f e h
    simp only [trunk_Replace_env, Prod.mk.injEq, List.mem_cons, List.not_mem_nil, or_false] at h
    rcases h with ⟨rfl, rfl⟩ | ⟨rfl, rfl⟩ | ⟨rfl, rfl⟩
    · exact trunk_May_ok m
    · exact trunk_mayLeafL_ok m
    · exact trunk_change_ok m) (f := 23) (c := trunk_Replace_c) Tryd.func23 rfl (by kernel_rfl) _ rfl Tryd.ntmps23 (Nat.le_of_ble_eq_true rfl) trunk_Replace_h h
  · cases h
end Go.Proofs.YthmnhfabkllgpaaDoor

namespace Go.Proofs.YthmnhfabkllgpaaDoor
open Go.RowKit
set_option maxRecDepth 100000
end Go.Proofs.YthmnhfabkllgpaaDoor

namespace Go.Proofs.YthmnhfabkllgpaaDoor
open Go.RowKit
set_option linter.unusedVariables false
set_option linter.unusedSimpArgs false
set_option maxRecDepth 20000
def rfitB (b ver : Int) (x : Item) : Bool := keyB x.key && fitB b ver x
theorem fits_r (b : Int) (l : List Item) (ver : Int) : fitsB b l ver = (l.all (rfitB b ver) && leafB l && decide (0 ≤ ver) && decide (ver ≤ 2147483647)) := by
  cases hl : leafB l with
  | false => simp [fitsB, hl]
  | true =>
    have hk : ∀ x ∈ l, keyB x.key = true := fun x hx => item_key (((leafB_iff l).1 hl).2.1 x hx)
    have : l.all (rfitB b ver) = l.all (fitB b ver) := by
      rw [Bool.eq_iff_iff]
      simp only [List.all_eq_true, rfitB, Bool.and_eq_true]
      exact ⟨fun h x hx => (h x hx).2, fun h x hx => ⟨hk x hx, h x hx⟩⟩
    rw [fitsB, hl, this]
    cases l.all (fitB b ver) <;> simp
theorem fits_rno {b : Int} {l : List Item} {ver : Int} {k : Nat} {h : k < l.length} (h1 : rfitB b ver l[k] = false) : fitsB b l ver = false := by
  have : l.all (rfitB b ver) = false := List.all_eq_false.2 ⟨l[k], List.getElem_mem h, by simp [h1]⟩
  simp [fits_r, this]
theorem bucketK_yes {k : Bytes} (h : keyB k = true) : bucketK k = ((k.getD 0 0).toNat : Int) % 16 := by rw [bucketK, h]; try rfl
theorem natInt (k : Nat) : ((k : Int)).toNat = k := Int.toNat_natCast k
section
variable {R : Type} {t : Tr} {i : Nat} {K1 : AV → Option R}
theorem u_tl (h : i < 16) : nthE (tC t) i K1 = K1 (lA (t.leaf i)) := by
  unfold nthE tC
  rw [List.getElem?_append_left (by rw [leC_len]; exact h)]
  simp [leC, List.getElem?_map, List.getElem?_range h]
theorem u_tv (h : 16 ≤ i) (h2 : i < 32) : nthE (tC t) i K1 = K1 (nA (t.ver (i - 16))) := by
  unfold nthE tC
  rw [List.getElem?_append_right (by rw [leC_len]; exact h), leC_len]
  simp [veC, List.getElem?_map, List.getElem?_range (show i - 16 < 16 by omega)]
end
theorem rfits_s (m : Nat) (b : Int) (l : List Item) (ver : Int) (hm : l.length < m) (hl : l.length ≤ 1000000) (hq : ∀ x ∈ l, x.key.length ≤ maxLen) : plenumref10_Fits m (nA b) (lA l) (nA ver) = some (bA (fitsB b l ver), []) := by
  have hl' : l.length ≤ 34359738368 := by omega
  rw [plenumref10_Fits_eq]
  refine iter_ind (ι := {k : Nat // k ≤ l.length ∧ (l.take k).all (rfitB b ver) = true}) (fun k => ⟨[], [(0, nA b), (1, lA l), (2, nA ver), (7, nA k.1)]⟩) (fun k => l.length - k.1) (fun _ => some (bA (fitsB b l ver), [])) ?_ ⟨0, Nat.zero_le _, rfl⟩ (by dsimp only; omega)
  rintro ⟨k, hk, hall⟩ kc hkc
  dsimp only at hkc ⊢
  rw [plenumref10_Fits_b1_eq]
  by_cases hlt : k < l.length
  · have hlt' : (k : Int) < (l.length : Int) := by omega
    have hmem := List.getElem_mem hlt
    have step : kc ⟨[], [(0, nA b), (1, lA l), (2, nA ver), (7, nA ((k : Int) + 1))]⟩ = some (bA (fitsB b l ver), []) ∨ rfitB b ver l[k] = false := by
      cases hr : rfitB b ver l[k] with
      | false => exact .inr rfl
      | true => exact .inl (hkc ⟨k + 1, by omega, by rw [List.take_succ_eq_append_getElem hlt, List.all_append, hall]; simp [hr]⟩ (by dsimp only; omega))
    rw [lA_def] at step
    simp (config := {maxSteps := 4000000, implicitDefEqProofs := false}) (disch := omega) only [go_sem, ↓reduceIte, Nat.reduceAdd, Nat.reduceSub, Nat.reduceMul, Nat.reduceLeDiff, Nat.reduceLT, Int.reduceEq, Int.reduceNe, Int.reduceLT, Int.reduceLE, Int.reduceAdd, Int.reduceSub, Int.reduceMul, Int.reduceNeg, Nat.zero_add, Nat.add_zero, Nat.mul_one, Int.toNat_natCast, Int.natCast_zero, Int.cast_ofNat_Int, or_false, false_or, or_true, true_or, Int.reduceToNat, Nat.sub_zero, Int.natCast_nonneg, Int.toNat_zero, Bool.true_and, Bool.and_true, Bool.false_and, Bool.and_false, Bool.true_or, Bool.or_true, Bool.false_or, Bool.or_false, Bool.not_true, Bool.not_false, Bool.not_not, true_and, and_true, false_and, and_false, not_true_eq_false, not_false_eq_true, eq_self, decide_true, decide_false, ne_eq, implies_true, forall_const, true_implies, false_implies, Bool.true_eq_false, Bool.false_eq_true, reduceCtorEq, List.map_cons, List.map_nil, List.all_cons, List.all_nil, List.length_cons, List.length_nil, List.length_map, List.length_append, List.nil_append, List.cons_append, List.set_cons_zero, List.set_cons_succ, List.set_nil, List.drop_zero, List.drop_succ_cons, List.drop_nil, List.take_zero, List.take_succ_cons, List.take_nil, Option.map_some, Option.map_none, Option.isSome_some, Nat.reduceEqDiff, Nat.reduceBEq, Nat.reduceGT, List.all_append, List.all_map, Function.comp_def, decide_eq_true_eq, Bool.and_eq_true, beq_self_eq_true, or_self, and_self, ite_true, ite_false, Nat.le_refl, Bool.not_eq_true, decide_not, Bool.not_eq_true', decide_eq_false_iff_not, Bool.not_eq_false, Bool.or_eq_true, if_true, if_false, ite_self, u_roF, u_cvF, u_cvC, u_ceT, u_ceK, u_appS, lA_def, natInt, u_nthM, fl_it, hlt', plenumref08_Is_e m _ (hq _ hmem), w_i64]
    cases hky : keyB l[k].key with
    | false =>
      simp (config := {maxSteps := 4000000, implicitDefEqProofs := false}) only [go_sem, ↓reduceIte, Nat.reduceAdd, Nat.reduceSub, Nat.reduceMul, Nat.reduceLeDiff, Nat.reduceLT, Int.reduceEq, Int.reduceNe, Int.reduceLT, Int.reduceLE, Int.reduceAdd, Int.reduceSub, Int.reduceMul, Int.reduceNeg, Nat.zero_add, Nat.add_zero, Nat.mul_one, Int.toNat_natCast, Int.natCast_zero, Int.cast_ofNat_Int, or_false, false_or, or_true, true_or, Int.reduceToNat, Nat.sub_zero, Int.natCast_nonneg, Int.toNat_zero, Bool.true_and, Bool.and_true, Bool.false_and, Bool.and_false, Bool.true_or, Bool.or_true, Bool.false_or, Bool.or_false, Bool.not_true, Bool.not_false, Bool.not_not, true_and, and_true, false_and, and_false, not_true_eq_false, not_false_eq_true, eq_self, decide_true, decide_false, ne_eq, implies_true, forall_const, true_implies, false_implies, Bool.true_eq_false, Bool.false_eq_true, reduceCtorEq, List.map_cons, List.map_nil, List.all_cons, List.all_nil, List.length_cons, List.length_nil, List.length_map, List.length_append, List.nil_append, List.cons_append, List.set_cons_zero, List.set_cons_succ, List.set_nil, List.drop_zero, List.drop_succ_cons, List.drop_nil, List.take_zero, List.take_succ_cons, List.take_nil, Option.map_some, Option.map_none, Option.isSome_some, Nat.reduceEqDiff, Nat.reduceBEq, Nat.reduceGT, List.all_append, List.all_map, Function.comp_def, decide_eq_true_eq, Bool.and_eq_true, beq_self_eq_true, or_self, and_self, ite_true, ite_false, Nat.le_refl, Bool.not_eq_true, decide_not, Bool.not_eq_true', decide_eq_false_iff_not, Bool.not_eq_false, Bool.or_eq_true, if_true, if_false, ite_self, u_roF, u_cvF, u_cvC, u_ceT, u_ceK, u_appS]
      rw [fits_rno (k := k) (h := hlt) (by rw [rfitB, hky]; rfl)]; try rfl
    | true =>
      have hp : (0 : Int) < (l[k].key.length : Int) := by have := key_pos hky; omega
      have hb : (l[k].key.getD 0 0).toNat < 256 := UInt8.toNat_lt _
      simp (config := {maxSteps := 4000000, implicitDefEqProofs := false}) (disch := omega) only [go_sem, ↓reduceIte, Nat.reduceAdd, Nat.reduceSub, Nat.reduceMul, Nat.reduceLeDiff, Nat.reduceLT, Int.reduceEq, Int.reduceNe, Int.reduceLT, Int.reduceLE, Int.reduceAdd, Int.reduceSub, Int.reduceMul, Int.reduceNeg, Nat.zero_add, Nat.add_zero, Nat.mul_one, Int.toNat_natCast, Int.natCast_zero, Int.cast_ofNat_Int, or_false, false_or, or_true, true_or, Int.reduceToNat, Nat.sub_zero, Int.natCast_nonneg, Int.toNat_zero, Bool.true_and, Bool.and_true, Bool.false_and, Bool.and_false, Bool.true_or, Bool.or_true, Bool.false_or, Bool.or_false, Bool.not_true, Bool.not_false, Bool.not_not, true_and, and_true, false_and, and_false, not_true_eq_false, not_false_eq_true, eq_self, decide_true, decide_false, ne_eq, implies_true, forall_const, true_implies, false_implies, Bool.true_eq_false, Bool.false_eq_true, reduceCtorEq, List.map_cons, List.map_nil, List.all_cons, List.all_nil, List.length_cons, List.length_nil, List.length_map, List.length_append, List.nil_append, List.cons_append, List.set_cons_zero, List.set_cons_succ, List.set_nil, List.drop_zero, List.drop_succ_cons, List.drop_nil, List.take_zero, List.take_succ_cons, List.take_nil, Option.map_some, Option.map_none, Option.isSome_some, Nat.reduceEqDiff, Nat.reduceBEq, Nat.reduceGT, List.all_append, List.all_map, Function.comp_def, decide_eq_true_eq, Bool.and_eq_true, beq_self_eq_true, or_self, and_self, ite_true, ite_false, Nat.le_refl, Bool.not_eq_true, decide_not, Bool.not_eq_true', decide_eq_false_iff_not, Bool.not_eq_false, Bool.or_eq_true, if_true, if_false, ite_self, u_roF, u_cvF, u_cvC, u_ceT, u_ceK, u_appS, hp, w_i64, Int.tmod_eq_emod_of_nonneg]
      split
      · rename_i h
        rw [fits_rno (k := k) (h := hlt) (by rw [rfitB, hky, fitB, bucketK_yes hky]; simp only [List.getD_eq_getElem?_getD] at h ⊢; simp [h])]; try rfl
      · rename_i h
        split
        · rename_i h2
          rw [fits_rno (k := k) (h := hlt) (by rw [rfitB, fitB]; simp [h2])]; try rfl
        · rename_i h2
          rcases step with step | step
          · exact step
          · exfalso
            rw [rfitB, hky, fitB, bucketK_yes hky] at step
            simp only [Bool.true_and, Bool.and_eq_false_iff, decide_eq_false_iff_not] at step
            rcases step with q | q
            · exact h (by omega)
            · omega
  · have hlt' : ¬ (k : Int) < (l.length : Int) := by omega
    simp (config := {maxSteps := 4000000, implicitDefEqProofs := false}) (disch := omega) only [go_sem, ↓reduceIte, Nat.reduceAdd, Nat.reduceSub, Nat.reduceMul, Nat.reduceLeDiff, Nat.reduceLT, Int.reduceEq, Int.reduceNe, Int.reduceLT, Int.reduceLE, Int.reduceAdd, Int.reduceSub, Int.reduceMul, Int.reduceNeg, Nat.zero_add, Nat.add_zero, Nat.mul_one, Int.toNat_natCast, Int.natCast_zero, Int.cast_ofNat_Int, or_false, false_or, or_true, true_or, Int.reduceToNat, Nat.sub_zero, Int.natCast_nonneg, Int.toNat_zero, Bool.true_and, Bool.and_true, Bool.false_and, Bool.and_false, Bool.true_or, Bool.or_true, Bool.false_or, Bool.or_false, Bool.not_true, Bool.not_false, Bool.not_not, true_and, and_true, false_and, and_false, not_true_eq_false, not_false_eq_true, eq_self, decide_true, decide_false, ne_eq, implies_true, forall_const, true_implies, false_implies, Bool.true_eq_false, Bool.false_eq_true, reduceCtorEq, List.map_cons, List.map_nil, List.all_cons, List.all_nil, List.length_cons, List.length_nil, List.length_map, List.length_append, List.nil_append, List.cons_append, List.set_cons_zero, List.set_cons_succ, List.set_nil, List.drop_zero, List.drop_succ_cons, List.drop_nil, List.take_zero, List.take_succ_cons, List.take_nil, Option.map_some, Option.map_none, Option.isSome_some, Nat.reduceEqDiff, Nat.reduceBEq, Nat.reduceGT, List.all_append, List.all_map, Function.comp_def, decide_eq_true_eq, Bool.and_eq_true, beq_self_eq_true, or_self, and_self, ite_true, ite_false, Nat.le_refl, Bool.not_eq_true, decide_not, Bool.not_eq_true', decide_eq_false_iff_not, Bool.not_eq_false, Bool.or_eq_true, if_true, if_false, ite_self, u_roF, u_cvF, u_cvC, u_ceT, u_ceK, u_appS, lA_def, hlt']
    have hall : l.all (rfitB b ver) = true := by rwa [List.take_of_length_le (by omega)] at hall
    show plenumref10_Fits_r1 m _ = _
    rw [plenumref10_Fits_r1_eq]
    rw [fits_r, hall]
    have hI := plenumref09_Is_e m l ⟨hl', hq⟩
    rw [lA_def] at hI
    simp (config := {maxSteps := 4000000, implicitDefEqProofs := false}) (disch := omega) only [go_sem, ↓reduceIte, Nat.reduceAdd, Nat.reduceSub, Nat.reduceMul, Nat.reduceLeDiff, Nat.reduceLT, Int.reduceEq, Int.reduceNe, Int.reduceLT, Int.reduceLE, Int.reduceAdd, Int.reduceSub, Int.reduceMul, Int.reduceNeg, Nat.zero_add, Nat.add_zero, Nat.mul_one, Int.toNat_natCast, Int.natCast_zero, Int.cast_ofNat_Int, or_false, false_or, or_true, true_or, Int.reduceToNat, Nat.sub_zero, Int.natCast_nonneg, Int.toNat_zero, Bool.true_and, Bool.and_true, Bool.false_and, Bool.and_false, Bool.true_or, Bool.or_true, Bool.false_or, Bool.or_false, Bool.not_true, Bool.not_false, Bool.not_not, true_and, and_true, false_and, and_false, not_true_eq_false, not_false_eq_true, eq_self, decide_true, decide_false, ne_eq, implies_true, forall_const, true_implies, false_implies, Bool.true_eq_false, Bool.false_eq_true, reduceCtorEq, List.map_cons, List.map_nil, List.all_cons, List.all_nil, List.length_cons, List.length_nil, List.length_map, List.length_append, List.nil_append, List.cons_append, List.set_cons_zero, List.set_cons_succ, List.set_nil, List.drop_zero, List.drop_succ_cons, List.drop_nil, List.take_zero, List.take_succ_cons, List.take_nil, Option.map_some, Option.map_none, Option.isSome_some, Nat.reduceEqDiff, Nat.reduceBEq, Nat.reduceGT, List.all_append, List.all_map, Function.comp_def, decide_eq_true_eq, Bool.and_eq_true, beq_self_eq_true, or_self, and_self, ite_true, ite_false, Nat.le_refl, Bool.not_eq_true, decide_not, Bool.not_eq_true', decide_eq_false_iff_not, Bool.not_eq_false, Bool.or_eq_true, if_true, if_false, ite_self, u_roF, u_cvF, u_cvC, u_ceT, u_ceK, u_appS, hI]
    cases leafB l <;> by_cases h0 : 0 ≤ ver <;> simp [h0]
theorem Tr.Ok.key {t : Tr} (h : t.Ok) (i : Nat) : ∀ x ∈ t.leaf i, x.key.length ≤ maxLen := fun x hx => ((h i).2.1 x hx).1
theorem rmay10_s (m : Nat) (t : Tr) (hm : 1000000 < m) (h : t.Ok) : plenumref10_May m (tA t) = some (bA (mayT t), []) := by
  rw [plenumref10_May_eq]
  simp (config := {maxSteps := 4000000, implicitDefEqProofs := false}) (disch := omega) only [go_sem, ↓reduceIte, Nat.reduceAdd, Nat.reduceSub, Nat.reduceMul, Nat.reduceLeDiff, Nat.reduceLT, Int.reduceEq, Int.reduceNe, Int.reduceLT, Int.reduceLE, Int.reduceAdd, Int.reduceSub, Int.reduceMul, Int.reduceNeg, Nat.zero_add, Nat.add_zero, Nat.mul_one, Int.toNat_natCast, Int.natCast_zero, Int.cast_ofNat_Int, or_false, false_or, or_true, true_or, Int.reduceToNat, Nat.sub_zero, Int.natCast_nonneg, Int.toNat_zero, Bool.true_and, Bool.and_true, Bool.false_and, Bool.and_false, Bool.true_or, Bool.or_true, Bool.false_or, Bool.or_false, Bool.not_true, Bool.not_false, Bool.not_not, true_and, and_true, false_and, and_false, not_true_eq_false, not_false_eq_true, eq_self, decide_true, decide_false, ne_eq, implies_true, forall_const, true_implies, false_implies, Bool.true_eq_false, Bool.false_eq_true, reduceCtorEq, List.map_cons, List.map_nil, List.all_cons, List.all_nil, List.length_cons, List.length_nil, List.length_map, List.length_append, List.nil_append, List.cons_append, List.set_cons_zero, List.set_cons_succ, List.set_nil, List.drop_zero, List.drop_succ_cons, List.drop_nil, List.take_zero, List.take_succ_cons, List.take_nil, Option.map_some, Option.map_none, Option.isSome_some, Nat.reduceEqDiff, Nat.reduceBEq, Nat.reduceGT, List.all_append, List.all_map, Function.comp_def, decide_eq_true_eq, Bool.and_eq_true, beq_self_eq_true, or_self, and_self, ite_true, ite_false, Nat.le_refl, Bool.not_eq_true, decide_not, Bool.not_eq_true', decide_eq_false_iff_not, Bool.not_eq_false, Bool.or_eq_true, if_true, if_false, ite_self, u_roF, u_cvF, u_cvC, u_ceT, u_ceK, u_appS, tA_def, tC_sure]
  refine iter_ind (ι := {k : Nat // k ≤ 16 ∧ (List.range k).all (fun i => fitsB i (t.leaf i) (t.ver i)) = true}) (fun k => ⟨[⟨1, ty_api_Trunk, 0, tC t⟩], [(1, OP 0 0), (3, nA k.1)]⟩) (fun k => 16 - k.1) (fun _ => some (bA (mayT t), [])) ?_ ⟨0, Nat.zero_le _, rfl⟩ (by dsimp only; omega)
  rintro ⟨k, hk, hall⟩ kc hkc
  dsimp only at hkc ⊢
  rw [plenumref10_May_b1_eq]
  by_cases hlt : k < 16
  · have hlt' : (k : Int) < 16 := by omega
    have hf := rfits_s m k (t.leaf k) (t.ver k) (by have := h.len k; omega) (h.len k) (h.key k)
    have hs : kc ⟨[⟨1, ty_api_Trunk, 0, tC t⟩], [(1, OP 0 0), (3, nA ((k : Int) + 1))]⟩ = some (bA (mayT t), []) ∨ fitsB k (t.leaf k) (t.ver k) = false := by
      cases hr : fitsB k (t.leaf k) (t.ver k) with
      | false => exact .inr rfl
      | true => exact .inl (hkc ⟨k + 1, by omega, by rw [List.range_succ, List.all_append, hall]; simp [hr]⟩ (by dsimp only; omega))
    rw [lA_def] at hf
    simp (config := {maxSteps := 4000000, implicitDefEqProofs := false}) (disch := omega) only [go_sem, ↓reduceIte, Nat.reduceAdd, Nat.reduceSub, Nat.reduceMul, Nat.reduceLeDiff, Nat.reduceLT, Int.reduceEq, Int.reduceNe, Int.reduceLT, Int.reduceLE, Int.reduceAdd, Int.reduceSub, Int.reduceMul, Int.reduceNeg, Nat.zero_add, Nat.add_zero, Nat.mul_one, Int.toNat_natCast, Int.natCast_zero, Int.cast_ofNat_Int, or_false, false_or, or_true, true_or, Int.reduceToNat, Nat.sub_zero, Int.natCast_nonneg, Int.toNat_zero, Bool.true_and, Bool.and_true, Bool.false_and, Bool.and_false, Bool.true_or, Bool.or_true, Bool.false_or, Bool.or_false, Bool.not_true, Bool.not_false, Bool.not_not, true_and, and_true, false_and, and_false, not_true_eq_false, not_false_eq_true, eq_self, decide_true, decide_false, ne_eq, implies_true, forall_const, true_implies, false_implies, Bool.true_eq_false, Bool.false_eq_true, reduceCtorEq, List.map_cons, List.map_nil, List.all_cons, List.all_nil, List.length_cons, List.length_nil, List.length_map, List.length_append, List.nil_append, List.cons_append, List.set_cons_zero, List.set_cons_succ, List.set_nil, List.drop_zero, List.drop_succ_cons, List.drop_nil, List.take_zero, List.take_succ_cons, List.take_nil, Option.map_some, Option.map_none, Option.isSome_some, Nat.reduceEqDiff, Nat.reduceBEq, Nat.reduceGT, List.all_append, List.all_map, Function.comp_def, decide_eq_true_eq, Bool.and_eq_true, beq_self_eq_true, or_self, and_self, ite_true, ite_false, Nat.le_refl, Bool.not_eq_true, decide_not, Bool.not_eq_true', decide_eq_false_iff_not, Bool.not_eq_false, Bool.or_eq_true, if_true, if_false, ite_self, u_roF, u_cvF, u_cvC, u_ceT, u_ceK, u_appS, hlt', natInt, u_tl, u_tv, add16, w_i64, hf, lA_def]
    cases hr : fitsB k (t.leaf k) (t.ver k) with
    | false =>
      simp (config := {maxSteps := 4000000, implicitDefEqProofs := false}) only [go_sem, ↓reduceIte, Nat.reduceAdd, Nat.reduceSub, Nat.reduceMul, Nat.reduceLeDiff, Nat.reduceLT, Int.reduceEq, Int.reduceNe, Int.reduceLT, Int.reduceLE, Int.reduceAdd, Int.reduceSub, Int.reduceMul, Int.reduceNeg, Nat.zero_add, Nat.add_zero, Nat.mul_one, Int.toNat_natCast, Int.natCast_zero, Int.cast_ofNat_Int, or_false, false_or, or_true, true_or, Int.reduceToNat, Nat.sub_zero, Int.natCast_nonneg, Int.toNat_zero, Bool.true_and, Bool.and_true, Bool.false_and, Bool.and_false, Bool.true_or, Bool.or_true, Bool.false_or, Bool.or_false, Bool.not_true, Bool.not_false, Bool.not_not, true_and, and_true, false_and, and_false, not_true_eq_false, not_false_eq_true, eq_self, decide_true, decide_false, ne_eq, implies_true, forall_const, true_implies, false_implies, Bool.true_eq_false, Bool.false_eq_true, reduceCtorEq, List.map_cons, List.map_nil, List.all_cons, List.all_nil, List.length_cons, List.length_nil, List.length_map, List.length_append, List.nil_append, List.cons_append, List.set_cons_zero, List.set_cons_succ, List.set_nil, List.drop_zero, List.drop_succ_cons, List.drop_nil, List.take_zero, List.take_succ_cons, List.take_nil, Option.map_some, Option.map_none, Option.isSome_some, Nat.reduceEqDiff, Nat.reduceBEq, Nat.reduceGT, List.all_append, List.all_map, Function.comp_def, decide_eq_true_eq, Bool.and_eq_true, beq_self_eq_true, or_self, and_self, ite_true, ite_false, Nat.le_refl, Bool.not_eq_true, decide_not, Bool.not_eq_true', decide_eq_false_iff_not, Bool.not_eq_false, Bool.or_eq_true, if_true, if_false, ite_self, u_roF, u_cvF, u_cvC, u_ceT, u_ceK, u_appS, hr]
      rw [show mayT t = false from List.all_eq_false.2 ⟨k, List.mem_range.2 hlt, by simp [hr]⟩]; try rfl
    | true =>
      rw [hr] at hs
      simp (config := {maxSteps := 4000000, implicitDefEqProofs := false}) only [go_sem, ↓reduceIte, Nat.reduceAdd, Nat.reduceSub, Nat.reduceMul, Nat.reduceLeDiff, Nat.reduceLT, Int.reduceEq, Int.reduceNe, Int.reduceLT, Int.reduceLE, Int.reduceAdd, Int.reduceSub, Int.reduceMul, Int.reduceNeg, Nat.zero_add, Nat.add_zero, Nat.mul_one, Int.toNat_natCast, Int.natCast_zero, Int.cast_ofNat_Int, or_false, false_or, or_true, true_or, Int.reduceToNat, Nat.sub_zero, Int.natCast_nonneg, Int.toNat_zero, Bool.true_and, Bool.and_true, Bool.false_and, Bool.and_false, Bool.true_or, Bool.or_true, Bool.false_or, Bool.or_false, Bool.not_true, Bool.not_false, Bool.not_not, true_and, and_true, false_and, and_false, not_true_eq_false, not_false_eq_true, eq_self, decide_true, decide_false, ne_eq, implies_true, forall_const, true_implies, false_implies, Bool.true_eq_false, Bool.false_eq_true, reduceCtorEq, List.map_cons, List.map_nil, List.all_cons, List.all_nil, List.length_cons, List.length_nil, List.length_map, List.length_append, List.nil_append, List.cons_append, List.set_cons_zero, List.set_cons_succ, List.set_nil, List.drop_zero, List.drop_succ_cons, List.drop_nil, List.take_zero, List.take_succ_cons, List.take_nil, Option.map_some, Option.map_none, Option.isSome_some, Nat.reduceEqDiff, Nat.reduceBEq, Nat.reduceGT, List.all_append, List.all_map, Function.comp_def, decide_eq_true_eq, Bool.and_eq_true, beq_self_eq_true, or_self, and_self, ite_true, ite_false, Nat.le_refl, Bool.not_eq_true, decide_not, Bool.not_eq_true', decide_eq_false_iff_not, Bool.not_eq_false, Bool.or_eq_true, if_true, if_false, ite_self, u_roF, u_cvF, u_cvC, u_ceT, u_ceK, u_appS, hr, tC_ltA]
      rcases hs with hs | hs
      · exact hs
      · cases hs
  · have hlt' : ¬ (k : Int) < 16 := by omega
    simp (config := {maxSteps := 4000000, implicitDefEqProofs := false}) (disch := omega) only [go_sem, ↓reduceIte, Nat.reduceAdd, Nat.reduceSub, Nat.reduceMul, Nat.reduceLeDiff, Nat.reduceLT, Int.reduceEq, Int.reduceNe, Int.reduceLT, Int.reduceLE, Int.reduceAdd, Int.reduceSub, Int.reduceMul, Int.reduceNeg, Nat.zero_add, Nat.add_zero, Nat.mul_one, Int.toNat_natCast, Int.natCast_zero, Int.cast_ofNat_Int, or_false, false_or, or_true, true_or, Int.reduceToNat, Nat.sub_zero, Int.natCast_nonneg, Int.toNat_zero, Bool.true_and, Bool.and_true, Bool.false_and, Bool.and_false, Bool.true_or, Bool.or_true, Bool.false_or, Bool.or_false, Bool.not_true, Bool.not_false, Bool.not_not, true_and, and_true, false_and, and_false, not_true_eq_false, not_false_eq_true, eq_self, decide_true, decide_false, ne_eq, implies_true, forall_const, true_implies, false_implies, Bool.true_eq_false, Bool.false_eq_true, reduceCtorEq, List.map_cons, List.map_nil, List.all_cons, List.all_nil, List.length_cons, List.length_nil, List.length_map, List.length_append, List.nil_append, List.cons_append, List.set_cons_zero, List.set_cons_succ, List.set_nil, List.drop_zero, List.drop_succ_cons, List.drop_nil, List.take_zero, List.take_succ_cons, List.take_nil, Option.map_some, Option.map_none, Option.isSome_some, Nat.reduceEqDiff, Nat.reduceBEq, Nat.reduceGT, List.all_append, List.all_map, Function.comp_def, decide_eq_true_eq, Bool.and_eq_true, beq_self_eq_true, or_self, and_self, ite_true, ite_false, Nat.le_refl, Bool.not_eq_true, decide_not, Bool.not_eq_true', decide_eq_false_iff_not, Bool.not_eq_false, Bool.or_eq_true, if_true, if_false, ite_self, u_roF, u_cvF, u_cvC, u_ceT, u_ceK, u_appS, hlt']
    have : k = 16 := by omega
    subst this
    show some (bA true, []) = some (bA (mayT t), [])
    rw [show mayT t = true from hall]
theorem zcI_len : zc_api_Item.length = 5 := _root_.id rfl
theorem tC_all1 {t : Tr} {n : Nat} {H : List AObj} : ((tC t).all fun x => lt1 n (ro1 H x)) = true := tC_all (fun _ => rfl) fun _ => rfl
theorem u_bT {R : Type} {K1 : AV → Option R} : buildE (some pl_api_Trunk) (some zC) [] K1 = K1 (.agg zC) := _root_.id rfl
theorem zcT_eq : zc_api_Trunk = zC := _root_.id rfl
def sameT (a b : Tr) : Bool := (List.range 16).all fun i => decide (a.ver i = b.ver i) && decide (a.leaf i = b.leaf i)
theorem sameT_iff {a b : Tr} : sameT a b = true ↔ a.Eq16 b := by
  unfold sameT
  rw [List.all_eq_true]
  constructor
  · intro h i hi
    have := h i (List.mem_range.2 hi)
    simp only [Bool.and_eq_true, decide_eq_true_eq] at this
    exact ⟨this.2, this.1⟩
  · intro h i hi
    have := h i (List.mem_range.1 hi)
    simp only [Bool.and_eq_true, decide_eq_true_eq]
    exact ⟨this.2, this.1⟩
theorem sameT_no {a b : Tr} {i : Nat} (hi : i < 16) (h : ¬ (a.ver i = b.ver i ∧ a.leaf i = b.leaf i)) : sameT a b = false := by
  cases e : sameT a b with
  | false => rfl
  | true =>
    have := sameT_iff.1 e i hi
    exact absurd ⟨this.2, this.1⟩ h
theorem rsame_s (m : Nat) (a b : Tr) (hm : 16 < m) (ha : ∀ i, (a.leaf i).length ≤ 34359738368) (hb : ∀ i, (b.leaf i).length ≤ 34359738368) : plenumref10_Same m (tA a) (tA b) = some (bA (sameT a b), []) := by
  rw [plenumref10_Same_eq]
  simp (config := {maxSteps := 4000000, implicitDefEqProofs := false}) (disch := omega) only [go_sem, ↓reduceIte, Nat.reduceAdd, Nat.reduceSub, Nat.reduceMul, Nat.reduceLeDiff, Nat.reduceLT, Int.reduceEq, Int.reduceNe, Int.reduceLT, Int.reduceLE, Int.reduceAdd, Int.reduceSub, Int.reduceMul, Int.reduceNeg, Nat.zero_add, Nat.add_zero, Nat.mul_one, Int.toNat_natCast, Int.natCast_zero, Int.cast_ofNat_Int, or_false, false_or, or_true, true_or, Int.reduceToNat, Nat.sub_zero, Int.natCast_nonneg, Int.toNat_zero, Bool.true_and, Bool.and_true, Bool.false_and, Bool.and_false, Bool.true_or, Bool.or_true, Bool.false_or, Bool.or_false, Bool.not_true, Bool.not_false, Bool.not_not, true_and, and_true, false_and, and_false, not_true_eq_false, not_false_eq_true, eq_self, decide_true, decide_false, ne_eq, implies_true, forall_const, true_implies, false_implies, Bool.true_eq_false, Bool.false_eq_true, reduceCtorEq, List.map_cons, List.map_nil, List.all_cons, List.all_nil, List.length_cons, List.length_nil, List.length_map, List.length_append, List.nil_append, List.cons_append, List.set_cons_zero, List.set_cons_succ, List.set_nil, List.drop_zero, List.drop_succ_cons, List.drop_nil, List.take_zero, List.take_succ_cons, List.take_nil, Option.map_some, Option.map_none, Option.isSome_some, Nat.reduceEqDiff, Nat.reduceBEq, Nat.reduceGT, List.all_append, List.all_map, Function.comp_def, decide_eq_true_eq, Bool.and_eq_true, beq_self_eq_true, or_self, and_self, ite_true, ite_false, Nat.le_refl, Bool.not_eq_true, decide_not, Bool.not_eq_true', decide_eq_false_iff_not, Bool.not_eq_false, Bool.or_eq_true, if_true, if_false, ite_self, u_roF, u_cvF, u_cvC, u_ceT, u_ceK, u_appS, tC_len, tC_sure, tC_ltA, tC_lt1, tC_ro, tC_take, tC_all1, zcT_eq, zcI_len, zC_len, zC_ltA, zC_lt1, zC_sure, zC_ro, zC_take, set_tl, set_tv, sc_tt, sc_zt, sc_tz, sc_zz, add16, tA_def, lA_def, natInt, u_tl, u_tv]
  refine iter_ind (ι := {k : Nat // k ≤ 16 ∧ (List.range k).all (fun i => decide (a.ver i = b.ver i) && decide (a.leaf i = b.leaf i)) = true}) (fun k => ⟨[⟨1, ty_api_Trunk, 0, tC a⟩, ⟨1, ty_api_Trunk, 0, tC b⟩], [(2, OP 0 0), (3, OP 1 0), (5, nA k.1)]⟩) (fun k => 16 - k.1) (fun _ => some (bA (sameT a b), [])) ?_ ⟨0, Nat.zero_le _, rfl⟩ (by dsimp only; omega)
  rintro ⟨k, hk, hall⟩ kc hkc
  dsimp only at hkc ⊢
  rw [plenumref10_Same_b1_eq]
  by_cases hlt : k < 16
  · have hlt' : (k : Int) < 16 := by omega
    have hS := plenumref09_Same_e m (a.leaf k) (b.leaf k) ⟨ha k, hb k⟩
    rw [lA_def, lA_def] at hS
    by_cases hv : a.ver k = b.ver k
    · by_cases hl : a.leaf k = b.leaf k
      · have step := hkc ⟨k + 1, by omega, by rw [List.range_succ, List.all_append, hall]; simp [hv, hl]⟩ (by dsimp only; omega)
        simp only [hl] at hS
        simp (config := {maxSteps := 4000000, implicitDefEqProofs := false}) (disch := omega) only [go_sem, ↓reduceIte, Nat.reduceAdd, Nat.reduceSub, Nat.reduceMul, Nat.reduceLeDiff, Nat.reduceLT, Int.reduceEq, Int.reduceNe, Int.reduceLT, Int.reduceLE, Int.reduceAdd, Int.reduceSub, Int.reduceMul, Int.reduceNeg, Nat.zero_add, Nat.add_zero, Nat.mul_one, Int.toNat_natCast, Int.natCast_zero, Int.cast_ofNat_Int, or_false, false_or, or_true, true_or, Int.reduceToNat, Nat.sub_zero, Int.natCast_nonneg, Int.toNat_zero, Bool.true_and, Bool.and_true, Bool.false_and, Bool.and_false, Bool.true_or, Bool.or_true, Bool.false_or, Bool.or_false, Bool.not_true, Bool.not_false, Bool.not_not, true_and, and_true, false_and, and_false, not_true_eq_false, not_false_eq_true, eq_self, decide_true, decide_false, ne_eq, implies_true, forall_const, true_implies, false_implies, Bool.true_eq_false, Bool.false_eq_true, reduceCtorEq, List.map_cons, List.map_nil, List.all_cons, List.all_nil, List.length_cons, List.length_nil, List.length_map, List.length_append, List.nil_append, List.cons_append, List.set_cons_zero, List.set_cons_succ, List.set_nil, List.drop_zero, List.drop_succ_cons, List.drop_nil, List.take_zero, List.take_succ_cons, List.take_nil, Option.map_some, Option.map_none, Option.isSome_some, Nat.reduceEqDiff, Nat.reduceBEq, Nat.reduceGT, List.all_append, List.all_map, Function.comp_def, decide_eq_true_eq, Bool.and_eq_true, beq_self_eq_true, or_self, and_self, ite_true, ite_false, Nat.le_refl, Bool.not_eq_true, decide_not, Bool.not_eq_true', decide_eq_false_iff_not, Bool.not_eq_false, Bool.or_eq_true, if_true, if_false, ite_self, u_roF, u_cvF, u_cvC, u_ceT, u_ceK, u_appS, tC_len, tC_sure, tC_ltA, tC_lt1, tC_ro, tC_take, tC_all1, zcT_eq, zcI_len, zC_len, zC_ltA, zC_lt1, zC_sure, zC_ro, zC_take, set_tl, set_tv, sc_tt, sc_zt, sc_tz, sc_zz, add16, tA_def, lA_def, natInt, u_tl, u_tv, hlt', hS, hv, hl, w_i64]
        exact step
      · simp only [hl] at hS
        simp (config := {maxSteps := 4000000, implicitDefEqProofs := false}) (disch := omega) only [go_sem, ↓reduceIte, Nat.reduceAdd, Nat.reduceSub, Nat.reduceMul, Nat.reduceLeDiff, Nat.reduceLT, Int.reduceEq, Int.reduceNe, Int.reduceLT, Int.reduceLE, Int.reduceAdd, Int.reduceSub, Int.reduceMul, Int.reduceNeg, Nat.zero_add, Nat.add_zero, Nat.mul_one, Int.toNat_natCast, Int.natCast_zero, Int.cast_ofNat_Int, or_false, false_or, or_true, true_or, Int.reduceToNat, Nat.sub_zero, Int.natCast_nonneg, Int.toNat_zero, Bool.true_and, Bool.and_true, Bool.false_and, Bool.and_false, Bool.true_or, Bool.or_true, Bool.false_or, Bool.or_false, Bool.not_true, Bool.not_false, Bool.not_not, true_and, and_true, false_and, and_false, not_true_eq_false, not_false_eq_true, eq_self, decide_true, decide_false, ne_eq, implies_true, forall_const, true_implies, false_implies, Bool.true_eq_false, Bool.false_eq_true, reduceCtorEq, List.map_cons, List.map_nil, List.all_cons, List.all_nil, List.length_cons, List.length_nil, List.length_map, List.length_append, List.nil_append, List.cons_append, List.set_cons_zero, List.set_cons_succ, List.set_nil, List.drop_zero, List.drop_succ_cons, List.drop_nil, List.take_zero, List.take_succ_cons, List.take_nil, Option.map_some, Option.map_none, Option.isSome_some, Nat.reduceEqDiff, Nat.reduceBEq, Nat.reduceGT, List.all_append, List.all_map, Function.comp_def, decide_eq_true_eq, Bool.and_eq_true, beq_self_eq_true, or_self, and_self, ite_true, ite_false, Nat.le_refl, Bool.not_eq_true, decide_not, Bool.not_eq_true', decide_eq_false_iff_not, Bool.not_eq_false, Bool.or_eq_true, if_true, if_false, ite_self, u_roF, u_cvF, u_cvC, u_ceT, u_ceK, u_appS, tC_len, tC_sure, tC_ltA, tC_lt1, tC_ro, tC_take, tC_all1, zcT_eq, zcI_len, zC_len, zC_ltA, zC_lt1, zC_sure, zC_ro, zC_take, set_tl, set_tv, sc_tt, sc_zt, sc_tz, sc_zz, add16, tA_def, lA_def, natInt, u_tl, u_tv, hlt', hS, hv, hl, w_i64]
        rw [sameT_no hlt fun q => hl q.2]
        try rfl
    · simp (config := {maxSteps := 4000000, implicitDefEqProofs := false}) (disch := omega) only [go_sem, ↓reduceIte, Nat.reduceAdd, Nat.reduceSub, Nat.reduceMul, Nat.reduceLeDiff, Nat.reduceLT, Int.reduceEq, Int.reduceNe, Int.reduceLT, Int.reduceLE, Int.reduceAdd, Int.reduceSub, Int.reduceMul, Int.reduceNeg, Nat.zero_add, Nat.add_zero, Nat.mul_one, Int.toNat_natCast, Int.natCast_zero, Int.cast_ofNat_Int, or_false, false_or, or_true, true_or, Int.reduceToNat, Nat.sub_zero, Int.natCast_nonneg, Int.toNat_zero, Bool.true_and, Bool.and_true, Bool.false_and, Bool.and_false, Bool.true_or, Bool.or_true, Bool.false_or, Bool.or_false, Bool.not_true, Bool.not_false, Bool.not_not, true_and, and_true, false_and, and_false, not_true_eq_false, not_false_eq_true, eq_self, decide_true, decide_false, ne_eq, implies_true, forall_const, true_implies, false_implies, Bool.true_eq_false, Bool.false_eq_true, reduceCtorEq, List.map_cons, List.map_nil, List.all_cons, List.all_nil, List.length_cons, List.length_nil, List.length_map, List.length_append, List.nil_append, List.cons_append, List.set_cons_zero, List.set_cons_succ, List.set_nil, List.drop_zero, List.drop_succ_cons, List.drop_nil, List.take_zero, List.take_succ_cons, List.take_nil, Option.map_some, Option.map_none, Option.isSome_some, Nat.reduceEqDiff, Nat.reduceBEq, Nat.reduceGT, List.all_append, List.all_map, Function.comp_def, decide_eq_true_eq, Bool.and_eq_true, beq_self_eq_true, or_self, and_self, ite_true, ite_false, Nat.le_refl, Bool.not_eq_true, decide_not, Bool.not_eq_true', decide_eq_false_iff_not, Bool.not_eq_false, Bool.or_eq_true, if_true, if_false, ite_self, u_roF, u_cvF, u_cvC, u_ceT, u_ceK, u_appS, tC_len, tC_sure, tC_ltA, tC_lt1, tC_ro, tC_take, tC_all1, zcT_eq, zcI_len, zC_len, zC_ltA, zC_lt1, zC_sure, zC_ro, zC_take, set_tl, set_tv, sc_tt, sc_zt, sc_tz, sc_zz, add16, tA_def, lA_def, natInt, u_tl, u_tv, hlt', hv]
      rw [sameT_no hlt fun q => hv q.1]
      try rfl
  · have hlt' : ¬ (k : Int) < 16 := by omega
    have : k = 16 := by omega
    subst this
    simp (config := {maxSteps := 4000000, implicitDefEqProofs := false}) (disch := omega) only [go_sem, ↓reduceIte, Nat.reduceAdd, Nat.reduceSub, Nat.reduceMul, Nat.reduceLeDiff, Nat.reduceLT, Int.reduceEq, Int.reduceNe, Int.reduceLT, Int.reduceLE, Int.reduceAdd, Int.reduceSub, Int.reduceMul, Int.reduceNeg, Nat.zero_add, Nat.add_zero, Nat.mul_one, Int.toNat_natCast, Int.natCast_zero, Int.cast_ofNat_Int, or_false, false_or, or_true, true_or, Int.reduceToNat, Nat.sub_zero, Int.natCast_nonneg, Int.toNat_zero, Bool.true_and, Bool.and_true, Bool.false_and, Bool.and_false, Bool.true_or, Bool.or_true, Bool.false_or, Bool.or_false, Bool.not_true, Bool.not_false, Bool.not_not, true_and, and_true, false_and, and_false, not_true_eq_false, not_false_eq_true, eq_self, decide_true, decide_false, ne_eq, implies_true, forall_const, true_implies, false_implies, Bool.true_eq_false, Bool.false_eq_true, reduceCtorEq, List.map_cons, List.map_nil, List.all_cons, List.all_nil, List.length_cons, List.length_nil, List.length_map, List.length_append, List.nil_append, List.cons_append, List.set_cons_zero, List.set_cons_succ, List.set_nil, List.drop_zero, List.drop_succ_cons, List.drop_nil, List.take_zero, List.take_succ_cons, List.take_nil, Option.map_some, Option.map_none, Option.isSome_some, Nat.reduceEqDiff, Nat.reduceBEq, Nat.reduceGT, List.all_append, List.all_map, Function.comp_def, decide_eq_true_eq, Bool.and_eq_true, beq_self_eq_true, or_self, and_self, ite_true, ite_false, Nat.le_refl, Bool.not_eq_true, decide_not, Bool.not_eq_true', decide_eq_false_iff_not, Bool.not_eq_false, Bool.or_eq_true, if_true, if_false, ite_self, u_roF, u_cvF, u_cvC, u_ceT, u_ceK, u_appS, hlt']
    rw [show sameT a b = true from hall]
    rfl
theorem rnone_s (m : Nat) (a : Tr) (hm : 16 < m) (ha : ∀ i, (a.leaf i).length ≤ 34359738368) : plenumlaw10_none m (tA a) = some (bA (sameT a Tr.zero), []) := by
  have hS := rsame_s m a Tr.zero hm ha (fun _ => Nat.zero_le _)
  rw [tA_def, tA_def] at hS
  rw [plenumlaw10_none_eq]
  simp (config := {maxSteps := 4000000, implicitDefEqProofs := false}) (disch := omega) only [go_sem, ↓reduceIte, Nat.reduceAdd, Nat.reduceSub, Nat.reduceMul, Nat.reduceLeDiff, Nat.reduceLT, Int.reduceEq, Int.reduceNe, Int.reduceLT, Int.reduceLE, Int.reduceAdd, Int.reduceSub, Int.reduceMul, Int.reduceNeg, Nat.zero_add, Nat.add_zero, Nat.mul_one, Int.toNat_natCast, Int.natCast_zero, Int.cast_ofNat_Int, or_false, false_or, or_true, true_or, Int.reduceToNat, Nat.sub_zero, Int.natCast_nonneg, Int.toNat_zero, Bool.true_and, Bool.and_true, Bool.false_and, Bool.and_false, Bool.true_or, Bool.or_true, Bool.false_or, Bool.or_false, Bool.not_true, Bool.not_false, Bool.not_not, true_and, and_true, false_and, and_false, not_true_eq_false, not_false_eq_true, eq_self, decide_true, decide_false, ne_eq, implies_true, forall_const, true_implies, false_implies, Bool.true_eq_false, Bool.false_eq_true, reduceCtorEq, List.map_cons, List.map_nil, List.all_cons, List.all_nil, List.length_cons, List.length_nil, List.length_map, List.length_append, List.nil_append, List.cons_append, List.set_cons_zero, List.set_cons_succ, List.set_nil, List.drop_zero, List.drop_succ_cons, List.drop_nil, List.take_zero, List.take_succ_cons, List.take_nil, Option.map_some, Option.map_none, Option.isSome_some, Nat.reduceEqDiff, Nat.reduceBEq, Nat.reduceGT, List.all_append, List.all_map, Function.comp_def, decide_eq_true_eq, Bool.and_eq_true, beq_self_eq_true, or_self, and_self, ite_true, ite_false, Nat.le_refl, Bool.not_eq_true, decide_not, Bool.not_eq_true', decide_eq_false_iff_not, Bool.not_eq_false, Bool.or_eq_true, if_true, if_false, ite_self, u_roF, u_cvF, u_cvC, u_ceT, u_ceK, u_appS, hS, u_bT, tC_len, tC_sure, tC_ltA, tC_lt1, tC_ro, tC_take, tC_all1, zcT_eq, zcI_len, zC_len, zC_ltA, zC_lt1, zC_sure, zC_ro, zC_take, set_tl, set_tv, sc_tt, sc_zt, sc_tz, sc_zz, add16, tA_def, lA_def, natInt, u_tl, u_tv]
end Go.Proofs.YthmnhfabkllgpaaDoor

namespace Go.Proofs.YthmnhfabkllgpaaDoor
open Go.RowKit
set_option linter.unusedVariables false
set_option linter.unusedSimpArgs false
set_option maxRecDepth 20000
def repT (t : Tr) (b : Int) (l : List Item) (v : Int) : Tr × Nat := if mayT t = false then (Tr.zero, 1) else if b < 0 ∨ 16 ≤ b then (Tr.zero, 4) else if fitsB b l v = false then (Tr.zero, 1) else ((t.setL b.toNat l).setV b.toNat v, 0)
attribute [local go_sem] Nat.zero_add Nat.add_zero Nat.mul_one Int.toNat_natCast Int.natCast_zero Int.cast_ofNat_Int or_false false_or or_true true_or Nat.sub_zero Int.natCast_nonneg Int.toNat_zero Bool.true_and Bool.and_true Bool.false_and Bool.and_false Bool.true_or Bool.or_true Bool.false_or Bool.or_false Bool.not_true Bool.not_false Bool.not_not true_and and_true false_and and_false not_true_eq_false not_false_eq_true eq_self decide_true decide_false ne_eq implies_true forall_const true_implies false_implies Bool.true_eq_false Bool.false_eq_true List.map_cons List.map_nil List.all_cons List.all_nil List.length_cons List.length_nil List.length_map List.length_append List.nil_append List.cons_append List.set_cons_zero List.set_cons_succ List.set_nil List.drop_zero List.drop_succ_cons List.drop_nil List.take_zero List.take_succ_cons List.take_nil Option.map_some Option.map_none Option.isSome_some List.all_append List.all_map Function.comp_def decide_eq_true_eq Bool.and_eq_true beq_self_eq_true or_self and_self ite_true ite_false Nat.le_refl Bool.not_eq_true decide_not Bool.not_eq_true' decide_eq_false_iff_not Bool.not_eq_false Bool.or_eq_true if_true if_false ite_self u_roF u_cvF u_cvC u_ceT u_ceK u_appS tC_len tC_sure tC_ltA tC_lt1 tC_ro tC_take tC_all1 zcT_eq zcI_len zC_len zC_ltA zC_lt1 zC_sure zC_ro zC_take set_tl set_tv sc_tt sc_zt sc_tz sc_zz add16 tA_def lA_def natInt u_tl u_tv
theorem tC_sureR {t : Tr} {H : List AObj} : ((tC t).all fun x => sure (ro1 H x)) = true := tC_all (fun _ => rfl) fun _ => rfl
theorem tC_sureM {t : Tr} {H : List AObj} : ((tC t).map (ro1 H)).all sure = true := by rw [List.all_map]; exact tC_sureR
theorem ch_f {m : Nat} : findE (trunk_change_env m) 48 = some (.keep (trunk_Replace_1_t m)) := _root_.id rfl
theorem ch_t {m : Nat} {a b : AV} {H : List AObj} : trunk_Replace_1_t m [a, b] H = trunk_Replace_1 m a b H := _root_.id rfl
theorem r1_r8 {a0 a1 a2 a3 a4 a5 a6 a7 : AObj} {e : TypeId} {z k : Nat} {c : List AV} : ro1 [a0, a1, a2, a3, a4, a5, a6, a7, ⟨2, e, z, c⟩] (OW 8 k) = if k = c.length then SL c else OW 8 k := by simp [ro1]
theorem ltA_PR {n i k : Nat} : ltA n (.slice [] [.held (.inr (.inl (i, k)))]) = decide (i < n) := _root_.id rfl
theorem replace_s (m : Nat) (t : Tr) (b v : Int) (l : List Item) (hm : 1000000 < m) (ht : t.Ok) (hl : l.length ≤ 34359738368) {A0 A1 : AObj} {e : TypeId} {z : Nat} (h0 : ∀ n, ltO n A0 = true) (h1 : ∀ n, ltO n A1 = true) :
    trunk_Replace m (tA t) (nA b) (PR 2 l.length) (nA v) [A0, A1, ⟨4, e, z, l.map (flA Item.cells)⟩] = some (TU [tA (repT t b l v).1, nA (repT t b l v).2], [A0, A1, ⟨4, e, z, l.map (flA Item.cells)⟩]) := by
  have hM := trunk_May_e m t ht
  have hR : ∀ n, ltO n ⟨4, e, z, l.map (flA Item.cells)⟩ = true := fun n => by
    unfold ltO
    rw [Bool.or_eq_true]
    exact .inr its_lt
  have hC := fun (A3 A4 A5 A6 A7 : AObj) => slices_Clone_ItemL_e m (H := [A0, A1, ⟨4, e, z, l.map (flA Item.cells)⟩, A3, A4, A5, A6, A7]) (i := 2) l hl rfl
  have hF := fun (A3 A4 A5 : AObj) => trunk_mayLeafL_e m (H := [A0, A1, ⟨4, e, z, l.map (flA Item.cells)⟩, A3, A4, A5]) (i := 2) b l v hl rfl
  simp only [List.length_cons, List.length_nil, Nat.zero_add, Nat.reduceAdd, List.cons_append, List.nil_append] at hC
  generalize hRR : (⟨4, e, z, l.map (flA Item.cells)⟩ : AObj) = R at *
  rw [trunk_Replace_eq]
  rw [tA_def] at hM
  cases hmay : mayT t with
  | false =>
    rw [hmay] at hM
    have e1 : repT t b l v = (Tr.zero, 1) := by unfold repT; rw [if_pos hmay]
    rw [e1]
    simp (config := {maxSteps := 4000000, implicitDefEqProofs := false}) (disch := omega) only [go_sem, ↓reduceIte, Nat.reduceAdd, Nat.reduceSub, Nat.reduceMul, Nat.reduceLeDiff, Nat.reduceLT, Int.reduceEq, Int.reduceNe, Int.reduceLT, Int.reduceLE, Int.reduceAdd, Int.reduceSub, Int.reduceMul, Int.reduceNeg, Int.reduceToNat, reduceCtorEq, Nat.reduceEqDiff, Nat.reduceBEq, Nat.reduceGT, hM, h0, h1, hR, u_bT]
    rfl
  | true =>
    rw [hmay] at hM
    by_cases hb : b < 0 ∨ 16 ≤ b
    · have e1 : repT t b l v = (Tr.zero, 4) := by unfold repT; rw [if_neg (by rw [hmay]; decide), if_pos hb]
      rw [e1]
      rcases hb with hb | hb
      · simp (config := {maxSteps := 4000000, implicitDefEqProofs := false}) (disch := omega) only [go_sem, ↓reduceIte, Nat.reduceAdd, Nat.reduceSub, Nat.reduceMul, Nat.reduceLeDiff, Nat.reduceLT, Int.reduceEq, Int.reduceNe, Int.reduceLT, Int.reduceLE, Int.reduceAdd, Int.reduceSub, Int.reduceMul, Int.reduceNeg, Int.reduceToNat, reduceCtorEq, Nat.reduceEqDiff, Nat.reduceBEq, Nat.reduceGT, hM, h0, h1, hR, u_bT, hb, trunk_Replace_r2_eq, trunk_Replace_r1_eq]
        rfl
      · have hb' : ¬ b < 0 := by omega
        simp (config := {maxSteps := 4000000, implicitDefEqProofs := false}) (disch := omega) only [go_sem, ↓reduceIte, Nat.reduceAdd, Nat.reduceSub, Nat.reduceMul, Nat.reduceLeDiff, Nat.reduceLT, Int.reduceEq, Int.reduceNe, Int.reduceLT, Int.reduceLE, Int.reduceAdd, Int.reduceSub, Int.reduceMul, Int.reduceNeg, Int.reduceToNat, reduceCtorEq, Nat.reduceEqDiff, Nat.reduceBEq, Nat.reduceGT, hM, h0, h1, hR, u_bT, hb, hb', trunk_Replace_r2_eq, trunk_Replace_r1_eq]
        rfl
    · have hb0 : ¬ b < 0 := by omega
      have hb1 : ¬ 16 ≤ b := by omega
      cases hf : fitsB b l v with
      | false =>
        rw [hf] at hF
        have e1 : repT t b l v = (Tr.zero, 1) := by unfold repT; rw [if_neg (by rw [hmay]; decide), if_neg hb, if_pos hf]
        rw [e1]
        simp (config := {maxSteps := 4000000, implicitDefEqProofs := false}) (disch := omega) only [go_sem, ↓reduceIte, Nat.reduceAdd, Nat.reduceSub, Nat.reduceMul, Nat.reduceLeDiff, Nat.reduceLT, Int.reduceEq, Int.reduceNe, Int.reduceLT, Int.reduceLE, Int.reduceAdd, Int.reduceSub, Int.reduceMul, Int.reduceNeg, Int.reduceToNat, reduceCtorEq, Nat.reduceEqDiff, Nat.reduceBEq, Nat.reduceGT, hM, h0, h1, hR, u_bT, hb0, hb1, hF, trunk_Replace_r2_eq, trunk_Replace_r1_eq]
        rfl
      | true =>
        rw [hf] at hF
        have e1 : repT t b l v = ((t.setL b.toNat l).setV b.toNat v, 0) := by unfold repT; rw [if_neg (by rw [hmay]; decide), if_neg hb, if_neg (by rw [hf]; decide)]
        rw [e1]
        obtain ⟨n, rfl⟩ : ∃ n : Nat, b = n := ⟨b.toNat, by omega⟩
        have hn : n < 16 := by omega
        have hn' : (n : Int) < 16 := by omega
        have h31 : n ≤ 31 := by omega
        have h32 : 16 + n ≤ 31 := by omega
        simp (config := {maxSteps := 4000000, implicitDefEqProofs := false}) (disch := omega) only [go_sem, ↓reduceIte, Nat.reduceAdd, Nat.reduceSub, Nat.reduceMul, Nat.reduceLeDiff, Nat.reduceLT, Int.reduceEq, Int.reduceNe, Int.reduceLT, Int.reduceLE, Int.reduceAdd, Int.reduceSub, Int.reduceMul, Int.reduceNeg, Int.reduceToNat, reduceCtorEq, Nat.reduceEqDiff, Nat.reduceBEq, Nat.reduceGT, hM, h0, h1, hR, u_bT, hb0, hb1, hF, hC, hn, trunk_Replace_r2_eq, trunk_Replace_r1_eq, trunk_change_eq, trunk_Replace_1_eq, tC_sureR, tC_sureM, ch_f, ch_t, r1_r8, ltA_PR, hn', h31, h32]
end Go.Proofs.YthmnhfabkllgpaaDoor

namespace Go.Proofs.YthmnhfabkllgpaaDoor
open Go.RowKit
set_option linter.unusedVariables false
set_option linter.unusedSimpArgs false
set_option maxRecDepth 20000
def xa : Item := ⟨[97], 2, 1, [], 5⟩
def xq : Item := ⟨[113], 2, 2, [], 4⟩
def T1 : Tr := (Tr.zero.setL 1 [xa]).setV 1 5
def T2 : Tr := (T1.setL 1 []).setV 1 9
theorem ex_put : putT Tr.zero xa = (T1, 0) := by kernel_rfl
theorem ex_old : (putT T1 xq).2 = 18 := by kernel_rfl
theorem ex_old1 : (putT T1 xq).1 = Tr.zero := by kernel_rfl
theorem ex_del : delT T1 [97] 9 = (T2, 0) := by kernel_rfl
theorem ex_unlike : unlikeT T1 Tr.zero = ([1], 0) := by kernel_rfl
theorem ex_count1 : countT T1 = 1 := by kernel_rfl
theorem ex_count2 : countT T2 = 0 := by kernel_rfl
theorem nilOk : ([] : List Item).length ≤ 1000000 ∧ (∀ x ∈ ([] : List Item), x.key.length ≤ maxLen ∧ NumOk x) ∧ weightP [] ≤ 1000000000 := ⟨Nat.zero_le _, (by intro x hx; cases hx), Nat.le_of_ble_eq_true (by kernel_rfl)⟩
theorem ok_zero : Tr.zero.Ok := fun i => nilOk
theorem ok_T1 : T1.Ok := fun i => by
  by_cases h : i = 1
  · subst h
    refine ⟨by decide, (fun x hx => ?_), Nat.le_of_ble_eq_true (by kernel_rfl)⟩
    have : x = xa := by simpa [T1, Tr.setL, Tr.setV, Tr.zero] using hx
    subst this
    exact ⟨by decide, by unfold NumOk; decide⟩
  · have : T1.leaf i = [] := by simp [T1, Tr.setL, Tr.setV, Tr.zero, h]
    rw [this]
    exact nilOk
theorem ok_T2 : T2.Ok := fun i => by
  have : T2.leaf i = [] := by by_cases h : i = 1 <;> simp [T2, T1, Tr.setL, Tr.setV, Tr.zero, h]
  rw [this]
  exact nilOk
theorem rint_s (m : Nat) (i : Int) : plenumref07_Int m (nA i) = some (.agg [nA 2, nA i, sA []], []) := by
  rw [plenumref07_Int_eq]
  rfl
theorem u_bI {R : Type} {K1 : AV → Option R} {a b c d e : Value} : buildE (some pl_api_Item) (some zc_api_Item) [(0, V a), (1, .agg [V b, V c, V d]), (2, V e)] K1 = K1 (.agg [V a, V b, V c, V d, V e]) := _root_.id rfl
theorem nLs_one (i : Nat) : nLs [i] = [nA i] := _root_.id rfl
theorem awake_s (m : Nat) : plenumlaw10_awake m = some (bA true, []) := by
  have h1 := trunk_Put_e m Tr.zero xa ok_zero
  have h2 := trunk_Put_e m T1 xq ok_T1
  have h3 := trunk_Unlike_e m T1 Tr.zero ok_T1 ok_zero
  have h4 := trunk_Delete_e m T1 [97] 9 ok_T1
  have h5 := trunk_Count_e m T1 ok_T1
  have h6 := trunk_Count_e m T2 ok_T2
  rw [ex_put, tA_def, iA_def] at h1
  rw [ex_old, ex_old1, tA_def, iA_def] at h2
  rw [ex_unlike, tA_def, tA_def] at h3
  rw [ex_del, tA_def] at h4
  rw [ex_count1, tA_def] at h5
  rw [ex_count2, tA_def] at h6
  have hi1 := rint_s m 1
  have hi2 := rint_s m 2
  have v1 : T1.ver 1 = 5 := rfl
  have v2 : T2.ver 1 = 9 := rfl
  simp only [xa, xq] at h1 h2
  rw [plenumlaw10_awake_eq]
  simp (config := {maxSteps := 4000000, implicitDefEqProofs := false}) (disch := omega) only [go_sem, ↓reduceIte, Nat.reduceAdd, Nat.reduceSub, Nat.reduceMul, Nat.reduceLeDiff, Nat.reduceLT, Int.reduceEq, Int.reduceNe, Int.reduceLT, Int.reduceLE, Int.reduceAdd, Int.reduceSub, Int.reduceMul, Int.reduceNeg, Nat.zero_add, Nat.add_zero, Nat.mul_one, Int.toNat_natCast, Int.natCast_zero, Int.cast_ofNat_Int, or_false, false_or, or_true, true_or, Int.reduceToNat, Nat.sub_zero, Int.natCast_nonneg, Int.toNat_zero, Bool.true_and, Bool.and_true, Bool.false_and, Bool.and_false, Bool.true_or, Bool.or_true, Bool.false_or, Bool.or_false, Bool.not_true, Bool.not_false, Bool.not_not, true_and, and_true, false_and, and_false, not_true_eq_false, not_false_eq_true, eq_self, decide_true, decide_false, ne_eq, implies_true, forall_const, true_implies, false_implies, Bool.true_eq_false, Bool.false_eq_true, reduceCtorEq, List.map_cons, List.map_nil, List.all_cons, List.all_nil, List.length_cons, List.length_nil, List.length_map, List.length_append, List.nil_append, List.cons_append, List.set_cons_zero, List.set_cons_succ, List.set_nil, List.drop_zero, List.drop_succ_cons, List.drop_nil, List.take_zero, List.take_succ_cons, List.take_nil, Option.map_some, Option.map_none, Option.isSome_some, Nat.reduceEqDiff, Nat.reduceBEq, Nat.reduceGT, List.all_append, List.all_map, Function.comp_def, decide_eq_true_eq, Bool.and_eq_true, beq_self_eq_true, or_self, and_self, ite_true, ite_false, Nat.le_refl, Bool.not_eq_true, decide_not, Bool.not_eq_true', decide_eq_false_iff_not, Bool.not_eq_false, Bool.or_eq_true, if_true, if_false, ite_self, u_roF, u_cvF, u_cvC, u_ceT, u_ceK, u_appS, tC_len, tC_sure, tC_ltA, tC_lt1, tC_ro, tC_take, tC_all1, zcT_eq, zcI_len, zC_len, zC_ltA, zC_lt1, zC_sure, zC_ro, zC_take, set_tl, set_tv, sc_tt, sc_zt, sc_tz, sc_zz, add16, tA_def, lA_def, natInt, u_tl, u_tv, u_bT, u_bI, hi1, hi2, h1, h2, h3, h4, h5, h6, nLs_one, v1, v2]
theorem keyB_max {k : Bytes} (h : k.length ≤ 60) : k.length ≤ maxLen := Nat.le_trans h (by decide)
theorem weight_le {l : List Item} (hl : leafB l = true) (hn : ∀ x ∈ l, NumOk x) (hk : ∀ x ∈ l, x.key.length ≤ 60) : weight l ≤ l.length * 160 := by
  have hv := ((leafB_iff l).1 hl).2.1
  clear hl
  unfold weight
  induction l with
  | nil => exact Nat.zero_le _
  | cons x r ih =>
    have h1 := ih (fun y hy => hn y (List.mem_cons_of_mem _ hy)) (fun y hy => hk y (List.mem_cons_of_mem _ hy)) (fun y hy => hv y (List.mem_cons_of_mem _ hy))
    have h2 := hk x (List.mem_cons_self ..)
    have h3 := hn x (List.mem_cons_self ..)
    have h4 := hv x (List.mem_cons_self ..)
    have h5 : valB x.kind x.i x.s = true := by
      unfold itemB at h4
      simp only [Bool.and_eq_true] at h4
      exact h4.1.1.1.2
    have h6 := encV_len h3.1 h3.2 h5
    simp only [List.map_cons, List.sum_cons, List.length_cons]
    omega
def Tr.In (t : Tr) : Prop := ∀ i, (t.leaf i).length ≤ maxLen ∧ (∀ x ∈ t.leaf i, NumOk x) ∧ (16 ≤ i → t.leaf i = [])
theorem few_ok {t : Tr} (h : t.In) : (fewT t 16).Ok := by
  intro i
  by_cases hi : i < 16
  · have e : (fewT t 16).leaf i = fewL (t.leaf i) := by simp [fewT, hi]
    have hlen : (fewL (t.leaf i)).length ≤ 66 := by simp [fewL]; omega
    have hx : ∀ x ∈ fewL (t.leaf i), x.key.length ≤ 60 ∧ NumOk x := by
      intro x hx
      simp only [fewL, List.mem_map] at hx
      obtain ⟨y, hy, rfl⟩ := hx
      exact ⟨by simp [Item.one]; omega, (h i).2.1 y (List.mem_of_mem_take hy)⟩
    rw [e]
    refine ⟨by omega, fun x hq => ⟨keyB_max (hx x hq).1, (hx x hq).2⟩, ?_⟩
    unfold weightP
    split
    · rename_i hl
      have := weight_le hl (fun x hq => (hx x hq).2) (fun x hq => (hx x hq).1)
      omega
    · omega
  · have e : (fewT t 16).leaf i = [] := by simp only [fewT, hi, if_false]; exact (h i).2.2 (by omega)
    rw [e]; exact nilOk
theorem Tr.In.len {t : Tr} (h : t.In) : ∀ i, (t.leaf i).length ≤ maxLen := fun i => (h i).1
end Go.Proofs.YthmnhfabkllgpaaDoor

namespace Go.Proofs.YthmnhfabkllgpaaDoor
open Go.RowKit
set_option linter.unusedVariables false
set_option linter.unusedSimpArgs false
set_option maxRecDepth 20000
section
variable {R : Type} {isB sl : Bool} {x y : Item} {K1 : AV → Option R}
end
end Go.Proofs.YthmnhfabkllgpaaDoor

namespace Go.Proofs.YthmnhfabkllgpaaDoor
open Go.RowKit
set_option linter.unusedVariables false
set_option linter.unusedSimpArgs false
set_option maxRecDepth 20000
theorem sameT_self (t : Tr) : sameT t t = true := sameT_iff.2 fun i _ => ⟨rfl, rfl⟩
end Go.Proofs.YthmnhfabkllgpaaDoor

namespace Go.Proofs.YthmnhfabkllgpaaDoor
open Go.RowKit
set_option linter.unusedVariables false
noncomputable abbrev sltK (T : Tm) (l : List Tmp) : List AV := List.rec (motive := fun _ => List AV) [] (fun t _ ih => slotK T t :: ih) l
noncomputable abbrev nslFK (rs : List Tmp) : KO (AV × List AObj) := fun e s => match e with
  | .normal => some (TU (sltK s.T rs), s.H)
  | _ => none
theorem nslX (P : Program) (G : Gl) (E : Env) (M : Nat) (N : FS) (c : Code) (h : Hint) (s : ASt) (rs : List Tmp) : exec P G E M N c h s (nslFK rs) = execK P G E M N c h s (nslFK rs) := (execK_eq c h s _).symm
section
variable {P : Program} {G : Gl} {E : Env} {M n : Nat} {H : List AObj}
end
end Go.Proofs.YthmnhfabkllgpaaDoor
