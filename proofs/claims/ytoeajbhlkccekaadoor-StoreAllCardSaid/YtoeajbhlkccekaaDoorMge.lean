/-
  Texts laid together, part 5 of 7: laws of a walk over data, contracts of functions, each whole by itself.
-/
import Derived.Test.YtoeajbhlkccekaaDoorMgd
import Derived.RangeFuncLeaves
import Derived.RangeFuncRecord
import Derived.RangeFuncCalls
import Derived.RangeFuncSeq
import Derived.TacticsIn
set_option linter.unusedVariables false
set_option linter.unusedSimpArgs false
namespace Go.Proofs.YtoeajbhlkccekaaDoor
open Go.RowKit
set_option maxRecDepth 20000
theorem bucketK_in {k : Bytes} (h : keyB k = true) : 0 ≤ bucketK k ∧ bucketK k < 16 := by
  rw [bucketK, h]; simp only [if_true]; omega
def bk (k : Bytes) : Nat := (bucketK k).toNat
theorem bk_lt {k : Bytes} (h : keyB k = true) : bk k < 16 := by have := bucketK_in h; unfold bk; omega
def getT (t : Tr) (k : Bytes) : Option Item := if keyB k && mayT t then getK (t.leaf (bk k)) k else none
def chgT (t : Tr) (b : Nat) (ver : Int) (r : List Item × Nat) : Tr × Nat := if r.2 = 0 then ((t.setL b r.1).setV b ver, 0) else (Tr.zero, r.2)
def putT (t : Tr) (x : Item) : Tr × Nat := if !itemB x || !mayT t then (Tr.zero, 1) else if x.ver < t.ver (bk x.key) then (Tr.zero, 18) else chgT t (bk x.key) x.ver (putK (t.leaf (bk x.key)) x)
def delT (t : Tr) (k : Bytes) (ver : Int) : Tr × Nat := if !mayT t || decide (ver < 0) || decide (2147483647 < ver) then (Tr.zero, 1) else if (getT t k).isSome = false then (Tr.zero, 6) else if ver < t.ver (bk k) then (Tr.zero, 18) else chgT t (bk k) ver (delK (t.leaf (bk k)) k)
theorem chk_one (x : Item) : (chk [x]).1 = if itemB x then 0 else 1 := by
  unfold chk
  simp only [List.length_cons, List.length_nil, chkFrom]
  by_cases h : itemB x = true <;> simp [h]
def xC (x : Item) : List AV := x.cells.map fun u => V u
theorem itC_def (x : Item) : xC x = [V (.string ⟨x.key.toArray⟩), V (.int .i64 x.kind), V (.int .i64 x.i), V (.string ⟨x.s.toArray⟩), V (.int .i64 x.ver)] := _root_.id rfl
attribute [local go_sem_proc] Nat.reduceEqDiff Nat.reduceAdd Nat.reduceSub Nat.reduceMul Nat.reduceLeDiff Nat.reduceLT Int.reduceEq Int.reduceNe Int.reduceLT Int.reduceLE Int.reduceAdd Int.reduceSub Int.reduceMul Int.reduceNeg Int.reduceToNat reduceCtorEq
attribute [local go_sem_proc ↓] reduceIte
attribute [local go_sem ↓] str_size pk_tt pk_ff hold_one hold_two gO_some gA_tt gA_tf gA_ft gA_ff cA_true cA_false yP_n yP_r yK_n yK_r yQ_n yQ_r yC_nil yC_tmp yC_cell yo_nil yo_cons yo_none yo_guard yo_guardN ys_move ys_assign ys_pick ys_bin ys_un ys_build ys_buildSlice ys_load ys_nilCheck ys_conv ys_extract ys_fieldAddr ys_field ys_indexAddr ys_index ys_slice ys_len ys_alloc ys_box ys_store ys_call ys_append ys_makeFunc ys_callv yd_nil yd_alloc yd_store yd_move yg_move yd_assign yg_assign yd_pick yg_pick yd_bin yg_bin yd_un yg_un yd_build yg_build yd_buildSlice yg_buildSlice yd_load yg_load yd_nilCheck yg_nilCheck yd_conv yg_conv yd_extract yg_extract yd_fieldAddr yg_fieldAddr yd_field yg_field yd_indexAddr yg_indexAddr yd_index yg_index yd_slice yg_slice yd_len yg_len yd_call yg_call ixA_eq sl_es sl_row sl_nil ap_eq bs_eq bl_eq cv_eq ixV_agg thenA_n thenA_r thenA_x inB_n inB_r inB_x loop_r loop_x dstAt_zero dstAt_succ retP_n retP_r
attribute [local go_sem] hle_nil hle_cons oO_one oO_two oO_three oO_nil r1_r0 r1_r1 r1_r2 r1_r3 ro_OW roA_OW go_some al_some okX_f okX_t tells regOnly cv_cl cap0_V cap0_OP cap0_ptr ixA_s ixA_p ixA_o szOf_one szOf_two ixV_str ixW_some sl_str slE_some apE_nil apE_row bsE_one flE_some pget_zero pget_succ blE_some fil_nil fil_cons filB_some cvE_some cv_str' str_list str_cut str_data cut_all cut_to s_eql s_neq s_add s_lss s_geq s_leq s_gtr lt1 set_some set_none get_cons ev_tmp ev_const ev_func ev_global glob_cons cv_int cv_bool cv_str cv_slice cv_ptr cv_agg one_int one_bool one_str one_slice one_ptr b_add b_sub b_mul b_quo b_rem b_and b_or b_xor b_andNot b_shl b_shr b_eql b_neq b_lss b_leq b_gtr b_geq b_str b_beq b_bne u_not u_neg g_tt g_tf g_ft g_ff c_true c_false ex_tu nth_zero nth_succ nthO_zero nthO_succ l_ptr l_ptrV l_ptrS l_op cP_one pP_one oc_one oc_agg st_op f_ptr f_op fv_agg co_agg co_V co_slice co_OW co_OP co_ptr sure_V sure_slice sure_OW sure_OP sure_ptr sure_agg sc_nil sc_cons ixS ixSW ixSN bsV_nil bsV_cons el_slice el_row el_nil len_str len_slice len_row len_nil asI_none asI_some nil_op nil_ptr ro_int ro_bool ro_str ro_nils ro_slice ro_ptr ro_OP ro_OW ro_agg ro_tu roA_agg roA_V roA_slice roA_OW roA_OP roA_ptr r1_int r1_bool r1_str r1_nils r1_slice r1_ptr r1_OP resA_one resA_two resA_three noT_V noT_agg noT_slice noT_OW noT_OP noT_ptr noT_nil argsT_nil argsT_cons allC_nil allC_cons allC_append hle_nil hle_cons le_nil le_cons tT_V tT_SL tT_ptr tT_OW tT_OP tT_agg tT_TU tA_V tA_SL tA_ptr tA_OW tA_OP tA_agg t1_V t1_SL t1_ptr t1_OW t1_OP tO_mk get_cons beq_self_eq_true Nat.zero_lt_succ Nat.lt_add_one true_or or_true Bool.or_self Nat.zero_add Nat.add_zero Nat.mul_one Int.toNat_natCast Int.natCast_zero Int.natCast_add Int.cast_ofNat_Int or_false false_or or_true true_or Nat.sub_zero Int.natCast_nonneg Int.toNat_zero Bool.true_and Bool.and_true Bool.false_and Bool.and_false Bool.true_or Bool.or_true Bool.false_or Bool.or_false Bool.not_true Bool.not_false Bool.not_not true_and and_true false_and and_false not_true_eq_false not_false_eq_true eq_self decide_true decide_false ne_eq implies_true forall_const true_implies false_implies Bool.true_eq_false Bool.false_eq_true List.map_cons List.map_nil List.all_cons List.all_nil List.length_cons List.length_nil List.length_map List.length_append List.nil_append List.cons_append List.set_cons_zero List.set_cons_succ List.set_nil List.drop_zero List.drop_succ_cons List.drop_nil List.take_zero List.take_succ_cons List.take_nil Option.map_some Option.map_none Option.isSome_some tk_2 tk_3 tk_9 tk_22 tk_23 tk_24 tk_26 tk_28 tk_32 tk_43 tk_47 tk_58 tk_74 tk_109 tf_26_0 tf_26_1 tf_28_0 tf_28_1 tf_28_2 tf_28_3 tf_43_0 tf_43_1 tf_43_2 tf_47_0 tf_47_1 tf_58_0 tf_58_1 tf_58_2 tf_74_0 tf_74_1 ts_9 ts_22 ts_23 ts_24 ts_29 ts_104 ts_107 ts_121 ts_124 ta_9 ta_22 ta_23 ta_24 ta_29 ta_121 ta_124 tp_26 tp_28 tp_43 tp_47 tp_58 tp_74 tq_22 tq_29 tq_104 tq_107 tq_121 ti_3 ti_5 ti_109 tz_43 tz_58 tv_2 tv_3 tu_4 tv_4 tv_5 tu_9 tv_9 tv_32 tv_109 iA_def fl_it allC_it foldA_all lt_it lt_fold lA_def leC_lt1 tC_len zC_len tC_sure tC_lt1 tC_ltA zC_ltA zC_lt1 tC_ro zC_sure zC_ro tC_take zC_take tC_take16 sc_tt sc_zt sc_tz sc_zz add16 tz_T tA_def
set_option maxHeartbeats 400000 in
theorem get_d {G : Gl} (hG : SigG G) (t : Tr) (k : Bytes) (hl : ∀ i, (t.leaf i).length ≤ 1000000) : ACp Tryd.prog G 46 [tA t, sA k] (TU [iA ((getT t k).getD Item.zero), bA (getT t k).isSome]) := by
  have hl' : ∀ i, (t.leaf i).length ≤ 34359738368 := fun i => Nat.le_trans (hl i) (by decide)
  cases hk : keyB k with
  | false =>
    have e : getT t k = none := by rw [getT, hk]; rfl
    refine acp_of_wpC (c := _) Tryd.func46 rfl (by kernel_rfl) [.cell 4 58, .tmp 5] rfl _ Tryd.ntmps46 (Nat.le_of_ble_eq_true rfl) rfl ?_
    repeat' (first | (refine call_pure (cl_keyis _ hG) rfl ?_) | (with_reducible first | refine aq ?_ | refine yr (by kernel_rfl) (Nat.le_of_ble_eq_true rfl) ?_ | refine yx MIX (by kernel_rfl) (by kernel_rfl) (by kernel_rfl) (Nat.le_of_ble_eq_true rfl) ?_ | refine yc ?_ | refine yseq ?_ | refine awp_block ?_ | refine awp_ret ?_ | refine awp_exit ?_ | refine awp_skip ?_ | refine yr1 (by kernel_rfl) (Nat.le_of_ble_eq_true rfl) ?_ | refine yx1 MIX (by kernel_rfl) (by kernel_rfl) (by kernel_rfl) (Nat.le_of_ble_eq_true rfl) ?_) | (simp only [go_sem, hk]) | ((with_reducible first | refine cA_t (by first | assumption | (simp only [decide_eq_true_eq, decide_eq_false_iff_not]; first | assumption | omega)) (fun h => ?_) | refine cA_f (by first | assumption | (simp only [decide_eq_true_eq, decide_eq_false_iff_not]; first | assumption | omega)) (fun h => ?_) | refine gA_t (by first | assumption | (simp only [decide_eq_true_eq, decide_eq_false_iff_not]; first | assumption | omega)) (fun h => ?_) | refine gA_f (by first | assumption | (simp only [decide_eq_true_eq, decide_eq_false_iff_not]; first | assumption | omega)) (fun h => ?_) | refine pk_t (by first | assumption | (simp only [decide_eq_true_eq, decide_eq_false_iff_not]; first | assumption | omega)) (fun h => ?_) | refine pk_f (by first | assumption | (simp only [decide_eq_true_eq, decide_eq_false_iff_not]; first | assumption | omega)) (fun h => ?_)) <;> (try rewrite [h]) <;> clear h) | (with_reducible refine pk_if ?_) | ((with_reducible first | refine cA_split (fun h => ?_) (fun h => ?_) | refine gA_split (fun h => ?_) (fun h => ?_)) <;> (try rewrite [h]) <;> (try simp (disch := omega) only [w_i64, w_u64, tdiv_pos, tmod_pos, nth_map, foldA_len, nth_le, nth_tl, nth_tv, set_tl, set_tv] at h) <;> (try simp only [decide_eq_true_eq, decide_eq_false_iff_not, Bool.not_eq_true, Bool.not_eq_false, Bool.not_eq_true', Bool.not_eq_false', not_true_eq_false, not_false_eq_true] at h) <;> (try (exfalso; omega))) | (simp (disch := omega) only [w_i64, w_u64, tdiv_pos, tmod_pos, nth_map, foldA_len, nth_le, nth_tl, nth_tv, set_tl, set_tv]) | (with_reducible first | refine And.intro (by first | assumption | rfl | omega) ?_ | refine And.intro ?_ ?_))
    rw [e]; rfl
  | true =>
    have hb := bucketK_in hk
    cases hm : mayT t with
    | false =>
      have e : getT t k = none := by rw [getT, hm, Bool.and_false]; rfl
      refine acp_of_wpC (c := _) Tryd.func46 rfl (by kernel_rfl) [.cell 4 58, .tmp 5] rfl _ Tryd.ntmps46 (Nat.le_of_ble_eq_true rfl) rfl ?_
      repeat' (first | (refine call_pure (cl_keyis _ hG) rfl ?_) | (refine call_pure (may_d hG _ hl') (by (simp (disch := omega) only [go_sem, w_i64, w_u64, tdiv_pos, tmod_pos, nth_map, foldA_len, nth_le, nth_tl, nth_tv, set_tl, set_tv])) ?_) | (with_reducible first | refine aq ?_ | refine yr (by kernel_rfl) (Nat.le_of_ble_eq_true rfl) ?_ | refine yx MIX (by kernel_rfl) (by kernel_rfl) (by kernel_rfl) (Nat.le_of_ble_eq_true rfl) ?_ | refine yc ?_ | refine yseq ?_ | refine awp_block ?_ | refine awp_ret ?_ | refine awp_exit ?_ | refine awp_skip ?_ | refine yr1 (by kernel_rfl) (Nat.le_of_ble_eq_true rfl) ?_ | refine yx1 MIX (by kernel_rfl) (by kernel_rfl) (by kernel_rfl) (Nat.le_of_ble_eq_true rfl) ?_) | (simp only [go_sem, hk, hm]) | ((with_reducible first | refine cA_t (by first | assumption | (simp only [decide_eq_true_eq, decide_eq_false_iff_not]; first | assumption | omega)) (fun h => ?_) | refine cA_f (by first | assumption | (simp only [decide_eq_true_eq, decide_eq_false_iff_not]; first | assumption | omega)) (fun h => ?_) | refine gA_t (by first | assumption | (simp only [decide_eq_true_eq, decide_eq_false_iff_not]; first | assumption | omega)) (fun h => ?_) | refine gA_f (by first | assumption | (simp only [decide_eq_true_eq, decide_eq_false_iff_not]; first | assumption | omega)) (fun h => ?_) | refine pk_t (by first | assumption | (simp only [decide_eq_true_eq, decide_eq_false_iff_not]; first | assumption | omega)) (fun h => ?_) | refine pk_f (by first | assumption | (simp only [decide_eq_true_eq, decide_eq_false_iff_not]; first | assumption | omega)) (fun h => ?_)) <;> (try rewrite [h]) <;> clear h) | (with_reducible refine pk_if ?_) | ((with_reducible first | refine cA_split (fun h => ?_) (fun h => ?_) | refine gA_split (fun h => ?_) (fun h => ?_)) <;> (try rewrite [h]) <;> (try simp (disch := omega) only [w_i64, w_u64, tdiv_pos, tmod_pos, nth_map, foldA_len, nth_le, nth_tl, nth_tv, set_tl, set_tv] at h) <;> (try simp only [decide_eq_true_eq, decide_eq_false_iff_not, Bool.not_eq_true, Bool.not_eq_false, Bool.not_eq_true', Bool.not_eq_false', not_true_eq_false, not_false_eq_true] at h) <;> (try (exfalso; omega))) | (simp (disch := omega) only [w_i64, w_u64, tdiv_pos, tmod_pos, nth_map, foldA_len, nth_le, nth_tl, nth_tv, set_tl, set_tv]) | (with_reducible first | refine And.intro (by first | assumption | rfl | omega) ?_ | refine And.intro ?_ ?_))
      rw [e]; rfl
    | true =>
      have e : getT t k = getK (t.leaf (bucketK k).toNat) k := by rw [getT, hk, hm]; rfl
      refine acp_of_wpC (c := _) Tryd.func46 rfl (by kernel_rfl) [.cell 4 58, .tmp 5] rfl _ Tryd.ntmps46 (Nat.le_of_ble_eq_true rfl) rfl ?_
      repeat' (first | (refine call_pure (cl_keyis _ hG) rfl ?_) | (refine call_pure (may_d hG _ hl') (by (simp (disch := omega) only [go_sem, w_i64, w_u64, tdiv_pos, tmod_pos, nth_map, foldA_len, nth_le, nth_tl, nth_tv, set_tl, set_tv])) ?_) | (refine call_pure (bucket_d hG _) rfl ?_) | (refine call_pure (cl_get _ _ hG (hl' _)) rfl ?_) | (with_reducible first | refine aq ?_ | refine yr (by kernel_rfl) (Nat.le_of_ble_eq_true rfl) ?_ | refine yx MIX (by kernel_rfl) (by kernel_rfl) (by kernel_rfl) (Nat.le_of_ble_eq_true rfl) ?_ | refine yc ?_ | refine yseq ?_ | refine awp_block ?_ | refine awp_ret ?_ | refine awp_exit ?_ | refine awp_skip ?_ | refine yr1 (by kernel_rfl) (Nat.le_of_ble_eq_true rfl) ?_ | refine yx1 MIX (by kernel_rfl) (by kernel_rfl) (by kernel_rfl) (Nat.le_of_ble_eq_true rfl) ?_) | (simp only [go_sem, hk, hm]) | ((with_reducible first | refine cA_t (by first | assumption | (simp only [decide_eq_true_eq, decide_eq_false_iff_not]; first | assumption | omega)) (fun h => ?_) | refine cA_f (by first | assumption | (simp only [decide_eq_true_eq, decide_eq_false_iff_not]; first | assumption | omega)) (fun h => ?_) | refine gA_t (by first | assumption | (simp only [decide_eq_true_eq, decide_eq_false_iff_not]; first | assumption | omega)) (fun h => ?_) | refine gA_f (by first | assumption | (simp only [decide_eq_true_eq, decide_eq_false_iff_not]; first | assumption | omega)) (fun h => ?_) | refine pk_t (by first | assumption | (simp only [decide_eq_true_eq, decide_eq_false_iff_not]; first | assumption | omega)) (fun h => ?_) | refine pk_f (by first | assumption | (simp only [decide_eq_true_eq, decide_eq_false_iff_not]; first | assumption | omega)) (fun h => ?_)) <;> (try rewrite [h]) <;> clear h) | (with_reducible refine pk_if ?_) | ((with_reducible first | refine cA_split (fun h => ?_) (fun h => ?_) | refine gA_split (fun h => ?_) (fun h => ?_)) <;> (try rewrite [h]) <;> (try simp (disch := omega) only [w_i64, w_u64, tdiv_pos, tmod_pos, nth_map, foldA_len, nth_le, nth_tl, nth_tv, set_tl, set_tv] at h) <;> (try simp only [decide_eq_true_eq, decide_eq_false_iff_not, Bool.not_eq_true, Bool.not_eq_false, Bool.not_eq_true', Bool.not_eq_false', not_true_eq_false, not_false_eq_true] at h) <;> (try (exfalso; omega))) | (simp (disch := omega) only [w_i64, w_u64, tdiv_pos, tmod_pos, nth_map, foldA_len, nth_le, nth_tl, nth_tv, set_tl, set_tv]) | (with_reducible first | refine And.intro (by first | assumption | rfl | omega) ?_ | refine And.intro ?_ ?_))
      rw [e]
set_option maxHeartbeats 400000 in
theorem put1_d {G : Gl} (hG : SigG G) (t : Tr) (l : List Item) (x : Item) (ver : Int) (hl : l.length ≤ 1000000) : AC Tryd.prog G 82 [lA l, OP 1 0] [⟨1, 26, 0, tC t⟩, ⟨1, 58, 0, xC x⟩, ⟨1, 26, 0, zC⟩, ⟨1, 26, 0, tC t⟩, ⟨1, 26, 0, zC⟩] (Is (TU [lA (putK l x).1, nA (putK l x).2]) [⟨1, 26, 0, tC t⟩, ⟨1, 58, 0, xC x⟩, ⟨1, 26, 0, zC⟩, ⟨1, 26, 0, tC t⟩, ⟨1, 26, 0, zC⟩]) := by
  refine ac_of_wpK (c := _) Tryd.func82 rfl (by kernel_rfl) [.tmp 3, .tmp 4] rfl _ Tryd.ntmps82 (Nat.le_of_ble_eq_true rfl) ?_ (Nat.le_of_ble_eq_true rfl) ?_ ?_
  · (simp (disch := omega) only [go_sem, w_i64, w_u64, tdiv_pos, tmod_pos, nth_map, foldA_len, nth_le, nth_tl, nth_tv, set_tl, set_tv, itC_def])
  · (simp (disch := omega) only [go_sem, w_i64, w_u64, tdiv_pos, tmod_pos, nth_map, foldA_len, nth_le, nth_tl, nth_tv, set_tl, set_tv])
  repeat' (first | (refine call_pure (cl_put _ x hG hl) rfl ?_) | (with_reducible first | refine aq ?_ | refine yr (by kernel_rfl) (Nat.le_of_ble_eq_true rfl) ?_ | refine yx MIX (by kernel_rfl) (by kernel_rfl) (by kernel_rfl) (Nat.le_of_ble_eq_true rfl) ?_ | refine yc ?_ | refine yseq ?_ | refine awp_block ?_ | refine awp_ret ?_ | refine awp_exit ?_ | refine awp_skip ?_ | refine yr1 (by kernel_rfl) (Nat.le_of_ble_eq_true rfl) ?_ | refine yx1 MIX (by kernel_rfl) (by kernel_rfl) (by kernel_rfl) (Nat.le_of_ble_eq_true rfl) ?_) | (simp only [go_sem, itC_def]) | ((with_reducible first | refine cA_t (by first | assumption | (simp only [decide_eq_true_eq, decide_eq_false_iff_not]; first | assumption | omega)) (fun h => ?_) | refine cA_f (by first | assumption | (simp only [decide_eq_true_eq, decide_eq_false_iff_not]; first | assumption | omega)) (fun h => ?_) | refine gA_t (by first | assumption | (simp only [decide_eq_true_eq, decide_eq_false_iff_not]; first | assumption | omega)) (fun h => ?_) | refine gA_f (by first | assumption | (simp only [decide_eq_true_eq, decide_eq_false_iff_not]; first | assumption | omega)) (fun h => ?_) | refine pk_t (by first | assumption | (simp only [decide_eq_true_eq, decide_eq_false_iff_not]; first | assumption | omega)) (fun h => ?_) | refine pk_f (by first | assumption | (simp only [decide_eq_true_eq, decide_eq_false_iff_not]; first | assumption | omega)) (fun h => ?_)) <;> (try rewrite [h]) <;> clear h) | (with_reducible refine pk_if ?_) | ((with_reducible first | refine cA_split (fun h => ?_) (fun h => ?_) | refine gA_split (fun h => ?_) (fun h => ?_)) <;> (try rewrite [h]) <;> (try simp (disch := omega) only [w_i64, w_u64, tdiv_pos, tmod_pos, nth_map, foldA_len, nth_le, nth_tl, nth_tv, set_tl, set_tv] at h) <;> (try simp only [decide_eq_true_eq, decide_eq_false_iff_not, Bool.not_eq_true, Bool.not_eq_false, Bool.not_eq_true', Bool.not_eq_false', not_true_eq_false, not_false_eq_true] at h) <;> (try (exfalso; omega))) | (simp (disch := omega) only [w_i64, w_u64, tdiv_pos, tmod_pos, nth_map, foldA_len, nth_le, nth_tl, nth_tv, set_tl, set_tv]) | (with_reducible first | refine And.intro (by first | assumption | rfl | omega) ?_ | refine And.intro ?_ ?_))
set_option maxHeartbeats 400000 in
theorem chg1_d {G : Gl} (hG : SigG G) (t : Tr) (x : Item) (B ver : Int) (h0 : 0 ≤ B) (h1 : B < 16) (hl : ∀ i, (t.leaf i).length ≤ 1000000) : AC Tryd.prog G 81 [tA t, nA B, nA ver, CL (.func 82) 0 [OP 1 0]] [⟨1, 26, 0, tC t⟩, ⟨1, 58, 0, xC x⟩, ⟨1, 26, 0, zC⟩]
    (Is (TU [tA (chgT t B.toNat ver (putK (t.leaf B.toNat) x)).1, nA (chgT t B.toNat ver (putK (t.leaf B.toNat) x)).2]) [⟨1, 26, 0, tC t⟩, ⟨1, 58, 0, xC x⟩, ⟨1, 26, 0, zC⟩]) := by
  refine ac_of_wpK (c := _) Tryd.func81 rfl (by kernel_rfl) [.cell 8 26, .tmp 9] rfl _ Tryd.ntmps81 (Nat.le_of_ble_eq_true rfl) ?_ (Nat.le_of_ble_eq_true rfl) ?_ ?_
  · (simp (disch := omega) only [go_sem, w_i64, w_u64, tdiv_pos, tmod_pos, nth_map, foldA_len, nth_le, nth_tl, nth_tv, set_tl, set_tv, itC_def])
  · (simp (disch := omega) only [go_sem, w_i64, w_u64, tdiv_pos, tmod_pos, nth_map, foldA_len, nth_le, nth_tl, nth_tv, set_tl, set_tv])
  repeat' (first | (refine call_keep (put1_d hG _ _ x ver (hl _)) ?_) | (with_reducible first | refine aq ?_ | refine yr (by kernel_rfl) (Nat.le_of_ble_eq_true rfl) ?_ | refine yx MIX (by kernel_rfl) (by kernel_rfl) (by kernel_rfl) (Nat.le_of_ble_eq_true rfl) ?_ | refine yc ?_ | refine yseq ?_ | refine awp_block ?_ | refine awp_ret ?_ | refine awp_exit ?_ | refine awp_skip ?_ | refine yr1 (by kernel_rfl) (Nat.le_of_ble_eq_true rfl) ?_ | refine yx1 MIX (by kernel_rfl) (by kernel_rfl) (by kernel_rfl) (Nat.le_of_ble_eq_true rfl) ?_) | (simp only [go_sem]) | ((with_reducible first | refine cA_t (by first | assumption | (simp only [decide_eq_true_eq, decide_eq_false_iff_not]; first | assumption | omega)) (fun h => ?_) | refine cA_f (by first | assumption | (simp only [decide_eq_true_eq, decide_eq_false_iff_not]; first | assumption | omega)) (fun h => ?_) | refine gA_t (by first | assumption | (simp only [decide_eq_true_eq, decide_eq_false_iff_not]; first | assumption | omega)) (fun h => ?_) | refine gA_f (by first | assumption | (simp only [decide_eq_true_eq, decide_eq_false_iff_not]; first | assumption | omega)) (fun h => ?_) | refine pk_t (by first | assumption | (simp only [decide_eq_true_eq, decide_eq_false_iff_not]; first | assumption | omega)) (fun h => ?_) | refine pk_f (by first | assumption | (simp only [decide_eq_true_eq, decide_eq_false_iff_not]; first | assumption | omega)) (fun h => ?_)) <;> (try rewrite [h]) <;> clear h) | (with_reducible refine pk_if ?_) | ((with_reducible first | refine cA_split (fun h => ?_) (fun h => ?_) | refine gA_split (fun h => ?_) (fun h => ?_)) <;> (try rewrite [h]) <;> (try simp (disch := omega) only [w_i64, w_u64, tdiv_pos, tmod_pos, nth_map, foldA_len, nth_le, nth_tl, nth_tv, set_tl, set_tv] at h) <;> (try simp only [decide_eq_true_eq, decide_eq_false_iff_not, Bool.not_eq_true, Bool.not_eq_false, Bool.not_eq_true', Bool.not_eq_false', not_true_eq_false, not_false_eq_true] at h) <;> (try (exfalso; omega))) | (simp (disch := omega) only [w_i64, w_u64, tdiv_pos, tmod_pos, nth_map, foldA_len, nth_le, nth_tl, nth_tv, set_tl, set_tv]) | (with_reducible first | refine And.intro (by first | assumption | rfl | omega) ?_ | refine And.intro ?_ ?_))
  · rw [chgT, if_neg (by omega)]
  · rw [chgT, if_pos (by omega)]; rfl
theorem item_key {x : Item} (h : itemB x = true) : keyB x.key = true := by
  simp only [itemB, Bool.and_eq_true] at h
  exact h.1.1.1.1
set_option maxHeartbeats 400000 in
theorem put_d {G : Gl} (hG : SigG G) (t : Tr) (x : Item) (hl : ∀ i, (t.leaf i).length ≤ 1000000) : ACp Tryd.prog G 62 [tA t, iA x] (TU [tA (putT t x).1, nA (putT t x).2]) := by
  have hl' : ∀ i, (t.leaf i).length ≤ 34359738368 := fun i => Nat.le_trans (hl i) (by decide)
  cases hi : itemB x with
  | false =>
    have e : putT t x = (Tr.zero, 1) := by rw [putT, hi]; rfl
    have ec : (chk [x]).1 = 1 := by rw [chk_one, hi]; rfl
    refine acp_of_wpC (c := _) Tryd.func62 rfl (by kernel_rfl) [.cell 4 26, .tmp 5] rfl _ Tryd.ntmps62 (Nat.le_of_ble_eq_true rfl) rfl ?_
    repeat' (first | (refine call_pure (cl_check [x] hG (Nat.le_of_ble_eq_true rfl)) rfl ?_) | (with_reducible first | refine aq ?_ | refine yr (by kernel_rfl) (Nat.le_of_ble_eq_true rfl) ?_ | refine yx MIX (by kernel_rfl) (by kernel_rfl) (by kernel_rfl) (Nat.le_of_ble_eq_true rfl) ?_ | refine yc ?_ | refine yseq ?_ | refine awp_block ?_ | refine awp_ret ?_ | refine awp_exit ?_ | refine awp_skip ?_ | refine yr1 (by kernel_rfl) (Nat.le_of_ble_eq_true rfl) ?_ | refine yx1 MIX (by kernel_rfl) (by kernel_rfl) (by kernel_rfl) (Nat.le_of_ble_eq_true rfl) ?_) | (simp only [go_sem, ec, e]) | ((with_reducible first | refine cA_t (by first | assumption | (simp only [decide_eq_true_eq, decide_eq_false_iff_not]; first | assumption | omega)) (fun h => ?_) | refine cA_f (by first | assumption | (simp only [decide_eq_true_eq, decide_eq_false_iff_not]; first | assumption | omega)) (fun h => ?_) | refine gA_t (by first | assumption | (simp only [decide_eq_true_eq, decide_eq_false_iff_not]; first | assumption | omega)) (fun h => ?_) | refine gA_f (by first | assumption | (simp only [decide_eq_true_eq, decide_eq_false_iff_not]; first | assumption | omega)) (fun h => ?_) | refine pk_t (by first | assumption | (simp only [decide_eq_true_eq, decide_eq_false_iff_not]; first | assumption | omega)) (fun h => ?_) | refine pk_f (by first | assumption | (simp only [decide_eq_true_eq, decide_eq_false_iff_not]; first | assumption | omega)) (fun h => ?_)) <;> (try rewrite [h]) <;> clear h) | (with_reducible refine pk_if ?_) | ((with_reducible first | refine cA_split (fun h => ?_) (fun h => ?_) | refine gA_split (fun h => ?_) (fun h => ?_)) <;> (try rewrite [h]) <;> (try simp (disch := omega) only [w_i64, w_u64, tdiv_pos, tmod_pos, nth_map, foldA_len, nth_le, nth_tl, nth_tv, set_tl, set_tv] at h) <;> (try simp only [decide_eq_true_eq, decide_eq_false_iff_not, Bool.not_eq_true, Bool.not_eq_false, Bool.not_eq_true', Bool.not_eq_false', not_true_eq_false, not_false_eq_true] at h) <;> (try (exfalso; omega))) | (simp (disch := omega) only [w_i64, w_u64, tdiv_pos, tmod_pos, nth_map, foldA_len, nth_le, nth_tl, nth_tv, set_tl, set_tv]) | (with_reducible first | refine And.intro (by first | assumption | rfl | omega) ?_ | refine And.intro ?_ ?_))
  | true =>
    have hb := bucketK_in (item_key hi)
    have ec : (chk [x]).1 = 0 := by rw [chk_one, hi]; rfl
    cases hm : mayT t with
    | false =>
      have e : putT t x = (Tr.zero, 1) := by rw [putT, hm, Bool.not_false, Bool.or_true]; rfl
      refine acp_of_wpC (c := _) Tryd.func62 rfl (by kernel_rfl) [.cell 4 26, .tmp 5] rfl _ Tryd.ntmps62 (Nat.le_of_ble_eq_true rfl) rfl ?_
      repeat' (first | (refine call_pure (cl_check [x] hG (Nat.le_of_ble_eq_true rfl)) rfl ?_) | (refine call_pure (may_d hG _ hl') (by (simp (disch := omega) only [go_sem, w_i64, w_u64, tdiv_pos, tmod_pos, nth_map, foldA_len, nth_le, nth_tl, nth_tv, set_tl, set_tv])) ?_) | (with_reducible first | refine aq ?_ | refine yr (by kernel_rfl) (Nat.le_of_ble_eq_true rfl) ?_ | refine yx MIX (by kernel_rfl) (by kernel_rfl) (by kernel_rfl) (Nat.le_of_ble_eq_true rfl) ?_ | refine yc ?_ | refine yseq ?_ | refine awp_block ?_ | refine awp_ret ?_ | refine awp_exit ?_ | refine awp_skip ?_ | refine yr1 (by kernel_rfl) (Nat.le_of_ble_eq_true rfl) ?_ | refine yx1 MIX (by kernel_rfl) (by kernel_rfl) (by kernel_rfl) (Nat.le_of_ble_eq_true rfl) ?_) | (simp only [go_sem, ec, e, hm]) | ((with_reducible first | refine cA_t (by first | assumption | (simp only [decide_eq_true_eq, decide_eq_false_iff_not]; first | assumption | omega)) (fun h => ?_) | refine cA_f (by first | assumption | (simp only [decide_eq_true_eq, decide_eq_false_iff_not]; first | assumption | omega)) (fun h => ?_) | refine gA_t (by first | assumption | (simp only [decide_eq_true_eq, decide_eq_false_iff_not]; first | assumption | omega)) (fun h => ?_) | refine gA_f (by first | assumption | (simp only [decide_eq_true_eq, decide_eq_false_iff_not]; first | assumption | omega)) (fun h => ?_) | refine pk_t (by first | assumption | (simp only [decide_eq_true_eq, decide_eq_false_iff_not]; first | assumption | omega)) (fun h => ?_) | refine pk_f (by first | assumption | (simp only [decide_eq_true_eq, decide_eq_false_iff_not]; first | assumption | omega)) (fun h => ?_)) <;> (try rewrite [h]) <;> clear h) | (with_reducible refine pk_if ?_) | ((with_reducible first | refine cA_split (fun h => ?_) (fun h => ?_) | refine gA_split (fun h => ?_) (fun h => ?_)) <;> (try rewrite [h]) <;> (try simp (disch := omega) only [w_i64, w_u64, tdiv_pos, tmod_pos, nth_map, foldA_len, nth_le, nth_tl, nth_tv, set_tl, set_tv] at h) <;> (try simp only [decide_eq_true_eq, decide_eq_false_iff_not, Bool.not_eq_true, Bool.not_eq_false, Bool.not_eq_true', Bool.not_eq_false', not_true_eq_false, not_false_eq_true] at h) <;> (try (exfalso; omega))) | (simp (disch := omega) only [w_i64, w_u64, tdiv_pos, tmod_pos, nth_map, foldA_len, nth_le, nth_tl, nth_tv, set_tl, set_tv]) | (with_reducible first | refine And.intro (by first | assumption | rfl | omega) ?_ | refine And.intro ?_ ?_))
    | true =>
      have e : putT t x = if x.ver < t.ver (bucketK x.key).toNat then (Tr.zero, 18) else chgT t (bucketK x.key).toNat x.ver (putK (t.leaf (bucketK x.key).toNat) x) := by rw [putT, hi, hm]; rfl
      refine acp_of_wpC (c := _) Tryd.func62 rfl (by kernel_rfl) [.cell 4 26, .tmp 5] rfl _ Tryd.ntmps62 (Nat.le_of_ble_eq_true rfl) rfl ?_
      repeat' (first | (refine call_pure (cl_check [x] hG (Nat.le_of_ble_eq_true rfl)) rfl ?_) | (refine call_pure (may_d hG _ hl') (by (simp (disch := omega) only [go_sem, w_i64, w_u64, tdiv_pos, tmod_pos, nth_map, foldA_len, nth_le, nth_tl, nth_tv, set_tl, set_tv])) ?_) | (refine call_pure (bucket_d hG _) rfl ?_) | (refine call_keep (chg1_d hG t x _ _ (by omega) (by omega) hl) ?_) | (with_reducible first | refine aq ?_ | refine yr (by kernel_rfl) (Nat.le_of_ble_eq_true rfl) ?_ | refine yx MIX (by kernel_rfl) (by kernel_rfl) (by kernel_rfl) (Nat.le_of_ble_eq_true rfl) ?_ | refine yc ?_ | refine yseq ?_ | refine awp_block ?_ | refine awp_ret ?_ | refine awp_exit ?_ | refine awp_skip ?_ | refine yr1 (by kernel_rfl) (Nat.le_of_ble_eq_true rfl) ?_ | refine yx1 MIX (by kernel_rfl) (by kernel_rfl) (by kernel_rfl) (Nat.le_of_ble_eq_true rfl) ?_) | (simp only [go_sem, ec, hm]) | ((with_reducible first | refine cA_t (by first | assumption | (simp only [decide_eq_true_eq, decide_eq_false_iff_not]; first | assumption | omega)) (fun h => ?_) | refine cA_f (by first | assumption | (simp only [decide_eq_true_eq, decide_eq_false_iff_not]; first | assumption | omega)) (fun h => ?_) | refine gA_t (by first | assumption | (simp only [decide_eq_true_eq, decide_eq_false_iff_not]; first | assumption | omega)) (fun h => ?_) | refine gA_f (by first | assumption | (simp only [decide_eq_true_eq, decide_eq_false_iff_not]; first | assumption | omega)) (fun h => ?_) | refine pk_t (by first | assumption | (simp only [decide_eq_true_eq, decide_eq_false_iff_not]; first | assumption | omega)) (fun h => ?_) | refine pk_f (by first | assumption | (simp only [decide_eq_true_eq, decide_eq_false_iff_not]; first | assumption | omega)) (fun h => ?_)) <;> (try rewrite [h]) <;> clear h) | (with_reducible refine pk_if ?_) | ((with_reducible first | refine cA_split (fun h => ?_) (fun h => ?_) | refine gA_split (fun h => ?_) (fun h => ?_)) <;> (try rewrite [h]) <;> (try simp (disch := omega) only [w_i64, w_u64, tdiv_pos, tmod_pos, nth_map, foldA_len, nth_le, nth_tl, nth_tv, set_tl, set_tv] at h) <;> (try simp only [decide_eq_true_eq, decide_eq_false_iff_not, Bool.not_eq_true, Bool.not_eq_false, Bool.not_eq_true', Bool.not_eq_false', not_true_eq_false, not_false_eq_true] at h) <;> (try (exfalso; omega))) | (simp (disch := omega) only [w_i64, w_u64, tdiv_pos, tmod_pos, nth_map, foldA_len, nth_le, nth_tl, nth_tv, set_tl, set_tv]) | (with_reducible first | refine And.intro (by first | assumption | rfl | omega) ?_ | refine And.intro ?_ ?_))
      · rw [e, if_pos (by omega)]; try rfl
      · rw [e, if_neg (by omega)]; try rfl
end Go.Proofs.YtoeajbhlkccekaaDoor

namespace Go.Proofs.YtoeajbhlkccekaaDoor
open Go.RowKit
set_option maxRecDepth 20000
theorem getT_key {t : Tr} {k : Bytes} (h : (getT t k).isSome = true) : keyB k = true := by
  cases hk : keyB k with
  | true => rfl
  | false => rw [getT, hk] at h; cases h
attribute [local go_sem_proc] Nat.reduceEqDiff Nat.reduceAdd Nat.reduceSub Nat.reduceMul Nat.reduceLeDiff Nat.reduceLT Int.reduceEq Int.reduceNe Int.reduceLT Int.reduceLE Int.reduceAdd Int.reduceSub Int.reduceMul Int.reduceNeg Int.reduceToNat reduceCtorEq
attribute [local go_sem_proc ↓] reduceIte
attribute [local go_sem ↓] str_size pk_tt pk_ff hold_one hold_two gO_some gA_tt gA_tf gA_ft gA_ff cA_true cA_false yP_n yP_r yK_n yK_r yQ_n yQ_r yC_nil yC_tmp yC_cell yo_nil yo_cons yo_none yo_guard yo_guardN ys_move ys_assign ys_pick ys_bin ys_un ys_build ys_buildSlice ys_load ys_nilCheck ys_conv ys_extract ys_fieldAddr ys_field ys_indexAddr ys_index ys_slice ys_len ys_alloc ys_box ys_store ys_call ys_append ys_makeFunc ys_callv yd_nil yd_alloc yd_store yd_move yg_move yd_assign yg_assign yd_pick yg_pick yd_bin yg_bin yd_un yg_un yd_build yg_build yd_buildSlice yg_buildSlice yd_load yg_load yd_nilCheck yg_nilCheck yd_conv yg_conv yd_extract yg_extract yd_fieldAddr yg_fieldAddr yd_field yg_field yd_indexAddr yg_indexAddr yd_index yg_index yd_slice yg_slice yd_len yg_len yd_call yg_call ixA_eq sl_es sl_row sl_nil ap_eq bs_eq bl_eq cv_eq ixV_agg thenA_n thenA_r thenA_x inB_n inB_r inB_x loop_r loop_x dstAt_zero dstAt_succ retP_n retP_r
attribute [local go_sem] hle_nil hle_cons oO_one oO_two oO_three oO_nil r1_r0 r1_r1 r1_r2 r1_r3 ro_OW roA_OW go_some al_some okX_f okX_t tells regOnly cv_cl cap0_V cap0_OP cap0_ptr ixA_s ixA_p ixA_o szOf_one szOf_two ixV_str ixW_some sl_str slE_some apE_nil apE_row bsE_one flE_some pget_zero pget_succ blE_some fil_nil fil_cons filB_some cvE_some cv_str' str_list str_cut str_data cut_all cut_to s_eql s_neq s_add s_lss s_geq s_leq s_gtr lt1 set_some set_none get_cons ev_tmp ev_const ev_func ev_global glob_cons cv_int cv_bool cv_str cv_slice cv_ptr cv_agg one_int one_bool one_str one_slice one_ptr b_add b_sub b_mul b_quo b_rem b_and b_or b_xor b_andNot b_shl b_shr b_eql b_neq b_lss b_leq b_gtr b_geq b_str b_beq b_bne u_not u_neg g_tt g_tf g_ft g_ff c_true c_false ex_tu nth_zero nth_succ nthO_zero nthO_succ l_ptr l_ptrV l_ptrS l_op cP_one pP_one oc_one oc_agg st_op f_ptr f_op fv_agg co_agg co_V co_slice co_OW co_OP co_ptr sure_V sure_slice sure_OW sure_OP sure_ptr sure_agg sc_nil sc_cons ixS ixSW ixSN bsV_nil bsV_cons el_slice el_row el_nil len_str len_slice len_row len_nil asI_none asI_some nil_op nil_ptr ro_int ro_bool ro_str ro_nils ro_slice ro_ptr ro_OP ro_OW ro_agg ro_tu roA_agg roA_V roA_slice roA_OW roA_OP roA_ptr r1_int r1_bool r1_str r1_nils r1_slice r1_ptr r1_OP resA_one resA_two resA_three noT_V noT_agg noT_slice noT_OW noT_OP noT_ptr noT_nil argsT_nil argsT_cons allC_nil allC_cons allC_append hle_nil hle_cons le_nil le_cons tT_V tT_SL tT_ptr tT_OW tT_OP tT_agg tT_TU tA_V tA_SL tA_ptr tA_OW tA_OP tA_agg t1_V t1_SL t1_ptr t1_OW t1_OP tO_mk get_cons beq_self_eq_true Nat.zero_lt_succ Nat.lt_add_one true_or or_true Bool.or_self Nat.zero_add Nat.add_zero Nat.mul_one Int.toNat_natCast Int.natCast_zero Int.natCast_add Int.cast_ofNat_Int or_false false_or or_true true_or Nat.sub_zero Int.natCast_nonneg Int.toNat_zero Bool.true_and Bool.and_true Bool.false_and Bool.and_false Bool.true_or Bool.or_true Bool.false_or Bool.or_false Bool.not_true Bool.not_false Bool.not_not true_and and_true false_and and_false not_true_eq_false not_false_eq_true eq_self decide_true decide_false ne_eq implies_true forall_const true_implies false_implies Bool.true_eq_false Bool.false_eq_true List.map_cons List.map_nil List.all_cons List.all_nil List.length_cons List.length_nil List.length_map List.length_append List.nil_append List.cons_append List.set_cons_zero List.set_cons_succ List.set_nil List.drop_zero List.drop_succ_cons List.drop_nil List.take_zero List.take_succ_cons List.take_nil Option.map_some Option.map_none Option.isSome_some tk_2 tk_3 tk_9 tk_22 tk_23 tk_24 tk_26 tk_28 tk_32 tk_43 tk_47 tk_58 tk_74 tk_109 tf_26_0 tf_26_1 tf_28_0 tf_28_1 tf_28_2 tf_28_3 tf_43_0 tf_43_1 tf_43_2 tf_47_0 tf_47_1 tf_58_0 tf_58_1 tf_58_2 tf_74_0 tf_74_1 ts_9 ts_22 ts_23 ts_24 ts_29 ts_104 ts_107 ts_121 ts_124 ta_9 ta_22 ta_23 ta_24 ta_29 ta_121 ta_124 tp_26 tp_28 tp_43 tp_47 tp_58 tp_74 tq_22 tq_29 tq_104 tq_107 tq_121 ti_3 ti_5 ti_109 tz_43 tz_58 tv_2 tv_3 tu_4 tv_4 tv_5 tu_9 tv_9 tv_32 tv_109 iA_def fl_it allC_it foldA_all lt_it lt_fold lA_def leC_lt1 tC_len zC_len tC_sure tC_lt1 tC_ltA zC_ltA zC_lt1 tC_ro zC_sure zC_ro tC_take zC_take tC_take16 sc_tt sc_zt sc_tz sc_zz add16 tz_T tA_def
set_option maxHeartbeats 400000 in
theorem del1_d {G : Gl} (hG : SigG G) (t : Tr) (l : List Item) (k : Bytes) (y : Item) (hl : l.length ≤ 1000000) : AC Tryd.prog G 84 [lA l, OP 1 0] [⟨1, 26, 0, tC t⟩, ⟨1, 9, 0, [sA k]⟩, ⟨1, 26, 0, zC⟩, ⟨1, 58, 0, xC y⟩, ⟨1, 26, 0, tC t⟩, ⟨1, 26, 0, zC⟩] (Is (TU [lA (delK l k).1, nA (delK l k).2]) [⟨1, 26, 0, tC t⟩, ⟨1, 9, 0, [sA k]⟩, ⟨1, 26, 0, zC⟩, ⟨1, 58, 0, xC y⟩, ⟨1, 26, 0, tC t⟩, ⟨1, 26, 0, zC⟩]) := by
  refine ac_of_wpK (c := _) Tryd.func84 rfl (by kernel_rfl) [.tmp 3, .tmp 4] rfl _ Tryd.ntmps84 (Nat.le_of_ble_eq_true rfl) ?_ (Nat.le_of_ble_eq_true rfl) ?_ ?_
  · (simp (disch := omega) only [go_sem, w_i64, w_u64, tdiv_pos, tmod_pos, nth_map, foldA_len, nth_le, nth_tl, nth_tv, set_tl, set_tv, itC_def])
  · (simp (disch := omega) only [go_sem, w_i64, w_u64, tdiv_pos, tmod_pos, nth_map, foldA_len, nth_le, nth_tl, nth_tv, set_tl, set_tv])
  repeat' (first | (refine call_pure (cl_del _ k hG hl) rfl ?_) | (with_reducible first | refine aq ?_ | refine yr (by kernel_rfl) (Nat.le_of_ble_eq_true rfl) ?_ | refine yx MIX (by kernel_rfl) (by kernel_rfl) (by kernel_rfl) (Nat.le_of_ble_eq_true rfl) ?_ | refine yc ?_ | refine yseq ?_ | refine awp_block ?_ | refine awp_ret ?_ | refine awp_exit ?_ | refine awp_skip ?_ | refine yr1 (by kernel_rfl) (Nat.le_of_ble_eq_true rfl) ?_ | refine yx1 MIX (by kernel_rfl) (by kernel_rfl) (by kernel_rfl) (Nat.le_of_ble_eq_true rfl) ?_) | (simp only [go_sem]) | ((with_reducible first | refine cA_t (by first | assumption | (simp only [decide_eq_true_eq, decide_eq_false_iff_not]; first | assumption | omega)) (fun h => ?_) | refine cA_f (by first | assumption | (simp only [decide_eq_true_eq, decide_eq_false_iff_not]; first | assumption | omega)) (fun h => ?_) | refine gA_t (by first | assumption | (simp only [decide_eq_true_eq, decide_eq_false_iff_not]; first | assumption | omega)) (fun h => ?_) | refine gA_f (by first | assumption | (simp only [decide_eq_true_eq, decide_eq_false_iff_not]; first | assumption | omega)) (fun h => ?_) | refine pk_t (by first | assumption | (simp only [decide_eq_true_eq, decide_eq_false_iff_not]; first | assumption | omega)) (fun h => ?_) | refine pk_f (by first | assumption | (simp only [decide_eq_true_eq, decide_eq_false_iff_not]; first | assumption | omega)) (fun h => ?_)) <;> (try rewrite [h]) <;> clear h) | (with_reducible refine pk_if ?_) | ((with_reducible first | refine cA_split (fun h => ?_) (fun h => ?_) | refine gA_split (fun h => ?_) (fun h => ?_)) <;> (try rewrite [h]) <;> (try simp (disch := omega) only [w_i64, w_u64, tdiv_pos, tmod_pos, nth_map, foldA_len, nth_le, nth_tl, nth_tv, set_tl, set_tv] at h) <;> (try simp only [decide_eq_true_eq, decide_eq_false_iff_not, Bool.not_eq_true, Bool.not_eq_false, Bool.not_eq_true', Bool.not_eq_false', not_true_eq_false, not_false_eq_true] at h) <;> (try (exfalso; omega))) | (simp (disch := omega) only [w_i64, w_u64, tdiv_pos, tmod_pos, nth_map, foldA_len, nth_le, nth_tl, nth_tv, set_tl, set_tv]) | (with_reducible first | refine And.intro (by first | assumption | rfl | omega) ?_ | refine And.intro ?_ ?_))
set_option maxHeartbeats 400000 in
theorem chg2_d {G : Gl} (hG : SigG G) (t : Tr) (k : Bytes) (y : Item) (B ver : Int) (h0 : 0 ≤ B) (h1 : B < 16) (hl : ∀ i, (t.leaf i).length ≤ 1000000) : AC Tryd.prog G 81 [tA t, nA B, nA ver, CL (.func 84) 0 [OP 1 0]] [⟨1, 26, 0, tC t⟩, ⟨1, 9, 0, [sA k]⟩, ⟨1, 26, 0, zC⟩, ⟨1, 58, 0, xC y⟩]
    (Is (TU [tA (chgT t B.toNat ver (delK (t.leaf B.toNat) k)).1, nA (chgT t B.toNat ver (delK (t.leaf B.toNat) k)).2]) [⟨1, 26, 0, tC t⟩, ⟨1, 9, 0, [sA k]⟩, ⟨1, 26, 0, zC⟩, ⟨1, 58, 0, xC y⟩]) := by
  refine ac_of_wpK (c := _) Tryd.func81 rfl (by kernel_rfl) [.cell 8 26, .tmp 9] rfl _ Tryd.ntmps81 (Nat.le_of_ble_eq_true rfl) ?_ (Nat.le_of_ble_eq_true rfl) ?_ ?_
  · (simp (disch := omega) only [go_sem, w_i64, w_u64, tdiv_pos, tmod_pos, nth_map, foldA_len, nth_le, nth_tl, nth_tv, set_tl, set_tv, itC_def])
  · (simp (disch := omega) only [go_sem, w_i64, w_u64, tdiv_pos, tmod_pos, nth_map, foldA_len, nth_le, nth_tl, nth_tv, set_tl, set_tv])
  repeat' (first | (refine call_keep (del1_d hG _ _ k y (hl _)) ?_) | (with_reducible first | refine aq ?_ | refine yr (by kernel_rfl) (Nat.le_of_ble_eq_true rfl) ?_ | refine yx MIX (by kernel_rfl) (by kernel_rfl) (by kernel_rfl) (Nat.le_of_ble_eq_true rfl) ?_ | refine yc ?_ | refine yseq ?_ | refine awp_block ?_ | refine awp_ret ?_ | refine awp_exit ?_ | refine awp_skip ?_ | refine yr1 (by kernel_rfl) (Nat.le_of_ble_eq_true rfl) ?_ | refine yx1 MIX (by kernel_rfl) (by kernel_rfl) (by kernel_rfl) (Nat.le_of_ble_eq_true rfl) ?_) | (simp only [go_sem]) | ((with_reducible first | refine cA_t (by first | assumption | (simp only [decide_eq_true_eq, decide_eq_false_iff_not]; first | assumption | omega)) (fun h => ?_) | refine cA_f (by first | assumption | (simp only [decide_eq_true_eq, decide_eq_false_iff_not]; first | assumption | omega)) (fun h => ?_) | refine gA_t (by first | assumption | (simp only [decide_eq_true_eq, decide_eq_false_iff_not]; first | assumption | omega)) (fun h => ?_) | refine gA_f (by first | assumption | (simp only [decide_eq_true_eq, decide_eq_false_iff_not]; first | assumption | omega)) (fun h => ?_) | refine pk_t (by first | assumption | (simp only [decide_eq_true_eq, decide_eq_false_iff_not]; first | assumption | omega)) (fun h => ?_) | refine pk_f (by first | assumption | (simp only [decide_eq_true_eq, decide_eq_false_iff_not]; first | assumption | omega)) (fun h => ?_)) <;> (try rewrite [h]) <;> clear h) | (with_reducible refine pk_if ?_) | ((with_reducible first | refine cA_split (fun h => ?_) (fun h => ?_) | refine gA_split (fun h => ?_) (fun h => ?_)) <;> (try rewrite [h]) <;> (try simp (disch := omega) only [w_i64, w_u64, tdiv_pos, tmod_pos, nth_map, foldA_len, nth_le, nth_tl, nth_tv, set_tl, set_tv] at h) <;> (try simp only [decide_eq_true_eq, decide_eq_false_iff_not, Bool.not_eq_true, Bool.not_eq_false, Bool.not_eq_true', Bool.not_eq_false', not_true_eq_false, not_false_eq_true] at h) <;> (try (exfalso; omega))) | (simp (disch := omega) only [w_i64, w_u64, tdiv_pos, tmod_pos, nth_map, foldA_len, nth_le, nth_tl, nth_tv, set_tl, set_tv]) | (with_reducible first | refine And.intro (by first | assumption | rfl | omega) ?_ | refine And.intro ?_ ?_))
  · rw [chgT, if_neg (by omega)]
  · rw [chgT, if_pos (by omega)]; rfl
set_option maxHeartbeats 400000 in
theorem del_d {G : Gl} (hG : SigG G) (t : Tr) (k : Bytes) (ver : Int) (hl : ∀ i, (t.leaf i).length ≤ 1000000) : ACp Tryd.prog G 63 [tA t, sA k, nA ver] (TU [tA (delT t k ver).1, nA (delT t k ver).2]) := by
  have hl' : ∀ i, (t.leaf i).length ≤ 34359738368 := fun i => Nat.le_trans (hl i) (by decide)
  by_cases hm : mayT t = true ∧ 0 ≤ ver ∧ ver ≤ 2147483647
  · obtain ⟨hm, hv0, hv1⟩ := hm
    cases hk : (getT t k).isSome with
    | false =>
      have e : delT t k ver = (Tr.zero, 6) := by rw [delT, hm, hk, show decide (ver < 0) = false by simp; omega, show decide (2147483647 < ver) = false by simp; omega]; rfl
      refine acp_of_wpC (c := _) Tryd.func63 rfl (by kernel_rfl) [.cell 6 26, .tmp 7] rfl _ Tryd.ntmps63 (Nat.le_of_ble_eq_true rfl) rfl ?_
      repeat' (first | (refine call_pure (may_d hG _ hl') (by (simp (disch := omega) only [go_sem, w_i64, w_u64, tdiv_pos, tmod_pos, nth_map, foldA_len, nth_le, nth_tl, nth_tv, set_tl, set_tv])) ?_) | (refine call_pure (get_d hG _ _ hl) (by (simp (disch := omega) only [go_sem, w_i64, w_u64, tdiv_pos, tmod_pos, nth_map, foldA_len, nth_le, nth_tl, nth_tv, set_tl, set_tv])) ?_) | (with_reducible first | refine aq ?_ | refine yr (by kernel_rfl) (Nat.le_of_ble_eq_true rfl) ?_ | refine yx MIX (by kernel_rfl) (by kernel_rfl) (by kernel_rfl) (Nat.le_of_ble_eq_true rfl) ?_ | refine yc ?_ | refine yseq ?_ | refine awp_block ?_ | refine awp_ret ?_ | refine awp_exit ?_ | refine awp_skip ?_ | refine yr1 (by kernel_rfl) (Nat.le_of_ble_eq_true rfl) ?_ | refine yx1 MIX (by kernel_rfl) (by kernel_rfl) (by kernel_rfl) (Nat.le_of_ble_eq_true rfl) ?_) | (simp only [go_sem, hm, hk, e]) | ((with_reducible first | refine cA_t (by first | assumption | (simp only [decide_eq_true_eq, decide_eq_false_iff_not]; first | assumption | omega)) (fun h => ?_) | refine cA_f (by first | assumption | (simp only [decide_eq_true_eq, decide_eq_false_iff_not]; first | assumption | omega)) (fun h => ?_) | refine gA_t (by first | assumption | (simp only [decide_eq_true_eq, decide_eq_false_iff_not]; first | assumption | omega)) (fun h => ?_) | refine gA_f (by first | assumption | (simp only [decide_eq_true_eq, decide_eq_false_iff_not]; first | assumption | omega)) (fun h => ?_) | refine pk_t (by first | assumption | (simp only [decide_eq_true_eq, decide_eq_false_iff_not]; first | assumption | omega)) (fun h => ?_) | refine pk_f (by first | assumption | (simp only [decide_eq_true_eq, decide_eq_false_iff_not]; first | assumption | omega)) (fun h => ?_)) <;> (try rewrite [h]) <;> clear h) | (with_reducible refine pk_if ?_) | ((with_reducible first | refine cA_split (fun h => ?_) (fun h => ?_) | refine gA_split (fun h => ?_) (fun h => ?_)) <;> (try rewrite [h]) <;> (try simp (disch := omega) only [w_i64, w_u64, tdiv_pos, tmod_pos, nth_map, foldA_len, nth_le, nth_tl, nth_tv, set_tl, set_tv] at h) <;> (try simp only [decide_eq_true_eq, decide_eq_false_iff_not, Bool.not_eq_true, Bool.not_eq_false, Bool.not_eq_true', Bool.not_eq_false', not_true_eq_false, not_false_eq_true] at h) <;> (try (exfalso; omega))) | (simp (disch := omega) only [w_i64, w_u64, tdiv_pos, tmod_pos, nth_map, foldA_len, nth_le, nth_tl, nth_tv, set_tl, set_tv]) | (with_reducible first | refine And.intro (by first | assumption | rfl | omega) ?_ | refine And.intro ?_ ?_))
    | true =>
      have hb := bucketK_in (getT_key hk)
      have e : delT t k ver = if ver < t.ver (bucketK k).toNat then (Tr.zero, 18) else chgT t (bucketK k).toNat ver (delK (t.leaf (bucketK k).toNat) k) := by rw [delT, hm, hk, show decide (ver < 0) = false by simp; omega, show decide (2147483647 < ver) = false by simp; omega]; rfl
      refine acp_of_wpC (c := _) Tryd.func63 rfl (by kernel_rfl) [.cell 6 26, .tmp 7] rfl _ Tryd.ntmps63 (Nat.le_of_ble_eq_true rfl) rfl ?_
      repeat' (first | (refine call_pure (may_d hG _ hl') (by (simp (disch := omega) only [go_sem, w_i64, w_u64, tdiv_pos, tmod_pos, nth_map, foldA_len, nth_le, nth_tl, nth_tv, set_tl, set_tv])) ?_) | (refine call_pure (get_d hG _ _ hl) (by (simp (disch := omega) only [go_sem, w_i64, w_u64, tdiv_pos, tmod_pos, nth_map, foldA_len, nth_le, nth_tl, nth_tv, set_tl, set_tv])) ?_) | (refine call_pure (bucket_d hG _) rfl ?_) | (refine call_keep (chg2_d hG t k ((getT t k).getD Item.zero) _ _ (by omega) (by omega) hl) ?_) | (with_reducible first | refine aq ?_ | refine yr (by kernel_rfl) (Nat.le_of_ble_eq_true rfl) ?_ | refine yx MIX (by kernel_rfl) (by kernel_rfl) (by kernel_rfl) (Nat.le_of_ble_eq_true rfl) ?_ | refine yc ?_ | refine yseq ?_ | refine awp_block ?_ | refine awp_ret ?_ | refine awp_exit ?_ | refine awp_skip ?_ | refine yr1 (by kernel_rfl) (Nat.le_of_ble_eq_true rfl) ?_ | refine yx1 MIX (by kernel_rfl) (by kernel_rfl) (by kernel_rfl) (Nat.le_of_ble_eq_true rfl) ?_) | (simp only [go_sem, hm, hk]) | ((with_reducible first | refine cA_t (by first | assumption | (simp only [decide_eq_true_eq, decide_eq_false_iff_not]; first | assumption | omega)) (fun h => ?_) | refine cA_f (by first | assumption | (simp only [decide_eq_true_eq, decide_eq_false_iff_not]; first | assumption | omega)) (fun h => ?_) | refine gA_t (by first | assumption | (simp only [decide_eq_true_eq, decide_eq_false_iff_not]; first | assumption | omega)) (fun h => ?_) | refine gA_f (by first | assumption | (simp only [decide_eq_true_eq, decide_eq_false_iff_not]; first | assumption | omega)) (fun h => ?_) | refine pk_t (by first | assumption | (simp only [decide_eq_true_eq, decide_eq_false_iff_not]; first | assumption | omega)) (fun h => ?_) | refine pk_f (by first | assumption | (simp only [decide_eq_true_eq, decide_eq_false_iff_not]; first | assumption | omega)) (fun h => ?_)) <;> (try rewrite [h]) <;> clear h) | (with_reducible refine pk_if ?_) | ((with_reducible first | refine cA_split (fun h => ?_) (fun h => ?_) | refine gA_split (fun h => ?_) (fun h => ?_)) <;> (try rewrite [h]) <;> (try simp (disch := omega) only [w_i64, w_u64, tdiv_pos, tmod_pos, nth_map, foldA_len, nth_le, nth_tl, nth_tv, set_tl, set_tv] at h) <;> (try simp only [decide_eq_true_eq, decide_eq_false_iff_not, Bool.not_eq_true, Bool.not_eq_false, Bool.not_eq_true', Bool.not_eq_false', not_true_eq_false, not_false_eq_true] at h) <;> (try (exfalso; omega))) | (simp (disch := omega) only [w_i64, w_u64, tdiv_pos, tmod_pos, nth_map, foldA_len, nth_le, nth_tl, nth_tv, set_tl, set_tv]) | (with_reducible first | refine And.intro (by first | assumption | rfl | omega) ?_ | refine And.intro ?_ ?_))
      · rw [e, if_pos (by omega)]
        try rfl
      · rw [e, if_neg (by omega)]
        try rfl
  · have e : delT t k ver = (Tr.zero, 1) := by
      rw [delT, if_pos]
      cases h : mayT t with
      | false => rfl
      | true =>
        rw [h] at hm
        simp only [true_and] at hm
        have : ver < 0 ∨ 2147483647 < ver := by omega
        rcases this with h | h <;> simp [h]
    cases h0 : mayT t with
    | false =>
      refine acp_of_wpC (c := _) Tryd.func63 rfl (by kernel_rfl) [.cell 6 26, .tmp 7] rfl _ Tryd.ntmps63 (Nat.le_of_ble_eq_true rfl) rfl ?_
      repeat' (first | (refine call_pure (may_d hG _ hl') (by (simp (disch := omega) only [go_sem, w_i64, w_u64, tdiv_pos, tmod_pos, nth_map, foldA_len, nth_le, nth_tl, nth_tv, set_tl, set_tv])) ?_) | (with_reducible first | refine aq ?_ | refine yr (by kernel_rfl) (Nat.le_of_ble_eq_true rfl) ?_ | refine yx MIX (by kernel_rfl) (by kernel_rfl) (by kernel_rfl) (Nat.le_of_ble_eq_true rfl) ?_ | refine yc ?_ | refine yseq ?_ | refine awp_block ?_ | refine awp_ret ?_ | refine awp_exit ?_ | refine awp_skip ?_ | refine yr1 (by kernel_rfl) (Nat.le_of_ble_eq_true rfl) ?_ | refine yx1 MIX (by kernel_rfl) (by kernel_rfl) (by kernel_rfl) (Nat.le_of_ble_eq_true rfl) ?_) | (simp only [go_sem, h0, e]) | ((with_reducible first | refine cA_t (by first | assumption | (simp only [decide_eq_true_eq, decide_eq_false_iff_not]; first | assumption | omega)) (fun h => ?_) | refine cA_f (by first | assumption | (simp only [decide_eq_true_eq, decide_eq_false_iff_not]; first | assumption | omega)) (fun h => ?_) | refine gA_t (by first | assumption | (simp only [decide_eq_true_eq, decide_eq_false_iff_not]; first | assumption | omega)) (fun h => ?_) | refine gA_f (by first | assumption | (simp only [decide_eq_true_eq, decide_eq_false_iff_not]; first | assumption | omega)) (fun h => ?_) | refine pk_t (by first | assumption | (simp only [decide_eq_true_eq, decide_eq_false_iff_not]; first | assumption | omega)) (fun h => ?_) | refine pk_f (by first | assumption | (simp only [decide_eq_true_eq, decide_eq_false_iff_not]; first | assumption | omega)) (fun h => ?_)) <;> (try rewrite [h]) <;> clear h) | (with_reducible refine pk_if ?_) | ((with_reducible first | refine cA_split (fun h => ?_) (fun h => ?_) | refine gA_split (fun h => ?_) (fun h => ?_)) <;> (try rewrite [h]) <;> (try simp (disch := omega) only [w_i64, w_u64, tdiv_pos, tmod_pos, nth_map, foldA_len, nth_le, nth_tl, nth_tv, set_tl, set_tv] at h) <;> (try simp only [decide_eq_true_eq, decide_eq_false_iff_not, Bool.not_eq_true, Bool.not_eq_false, Bool.not_eq_true', Bool.not_eq_false', not_true_eq_false, not_false_eq_true] at h) <;> (try (exfalso; omega))) | (simp (disch := omega) only [w_i64, w_u64, tdiv_pos, tmod_pos, nth_map, foldA_len, nth_le, nth_tl, nth_tv, set_tl, set_tv]) | (with_reducible first | refine And.intro (by first | assumption | rfl | omega) ?_ | refine And.intro ?_ ?_))
    | true =>
      simp only [h0, true_and] at hm
      refine acp_of_wpC (c := _) Tryd.func63 rfl (by kernel_rfl) [.cell 6 26, .tmp 7] rfl _ Tryd.ntmps63 (Nat.le_of_ble_eq_true rfl) rfl ?_
      repeat' (first | (refine call_pure (may_d hG _ hl') (by (simp (disch := omega) only [go_sem, w_i64, w_u64, tdiv_pos, tmod_pos, nth_map, foldA_len, nth_le, nth_tl, nth_tv, set_tl, set_tv])) ?_) | (with_reducible first | refine aq ?_ | refine yr (by kernel_rfl) (Nat.le_of_ble_eq_true rfl) ?_ | refine yx MIX (by kernel_rfl) (by kernel_rfl) (by kernel_rfl) (Nat.le_of_ble_eq_true rfl) ?_ | refine yc ?_ | refine yseq ?_ | refine awp_block ?_ | refine awp_ret ?_ | refine awp_exit ?_ | refine awp_skip ?_ | refine yr1 (by kernel_rfl) (Nat.le_of_ble_eq_true rfl) ?_ | refine yx1 MIX (by kernel_rfl) (by kernel_rfl) (by kernel_rfl) (Nat.le_of_ble_eq_true rfl) ?_) | (simp only [go_sem, h0, e]) | ((with_reducible first | refine cA_t (by first | assumption | (simp only [decide_eq_true_eq, decide_eq_false_iff_not]; first | assumption | omega)) (fun h => ?_) | refine cA_f (by first | assumption | (simp only [decide_eq_true_eq, decide_eq_false_iff_not]; first | assumption | omega)) (fun h => ?_) | refine gA_t (by first | assumption | (simp only [decide_eq_true_eq, decide_eq_false_iff_not]; first | assumption | omega)) (fun h => ?_) | refine gA_f (by first | assumption | (simp only [decide_eq_true_eq, decide_eq_false_iff_not]; first | assumption | omega)) (fun h => ?_) | refine pk_t (by first | assumption | (simp only [decide_eq_true_eq, decide_eq_false_iff_not]; first | assumption | omega)) (fun h => ?_) | refine pk_f (by first | assumption | (simp only [decide_eq_true_eq, decide_eq_false_iff_not]; first | assumption | omega)) (fun h => ?_)) <;> (try rewrite [h]) <;> clear h) | (with_reducible refine pk_if ?_) | ((with_reducible first | refine cA_split (fun h => ?_) (fun h => ?_) | refine gA_split (fun h => ?_) (fun h => ?_)) <;> (try rewrite [h]) <;> (try simp (disch := omega) only [w_i64, w_u64, tdiv_pos, tmod_pos, nth_map, foldA_len, nth_le, nth_tl, nth_tv, set_tl, set_tv] at h) <;> (try simp only [decide_eq_true_eq, decide_eq_false_iff_not, Bool.not_eq_true, Bool.not_eq_false, Bool.not_eq_true', Bool.not_eq_false', not_true_eq_false, not_false_eq_true] at h) <;> (try (exfalso; omega))) | (simp (disch := omega) only [w_i64, w_u64, tdiv_pos, tmod_pos, nth_map, foldA_len, nth_le, nth_tl, nth_tv, set_tl, set_tv]) | (with_reducible first | refine And.intro (by first | assumption | rfl | omega) ?_ | refine And.intro ?_ ?_))
end Go.Proofs.YtoeajbhlkccekaaDoor

namespace Go.Proofs.YtoeajbhlkccekaaDoor
open Go.RowKit
set_option maxRecDepth 20000
def sumTo (f : Nat → Nat) : Nat → Nat
  | 0 => 0
  | k + 1 => sumTo f k + f k
theorem sumTo_le {f : Nat → Nat} {m : Nat} (h : ∀ i, f i ≤ m) : ∀ k, sumTo f k ≤ k * m
  | 0 => by simp [sumTo]
  | k + 1 => by have := sumTo_le h k; have := h k; rw [sumTo, Nat.succ_mul]; omega
def countT (t : Tr) : Nat := if mayT t then sumTo (fun i => (t.leaf i).length) 16 else 0
def weightT (t : Tr) : Nat := if mayT t then sumTo (fun i => weightP (t.leaf i)) 16 else 0
def unlikeAt (a b : Tr) (i : Nat) : Bool := decide (¬ a.ver i = b.ver i) || !decide (a.leaf i = b.leaf i)
def unlikeL (a b : Tr) (k : Nat) : List Nat := (List.range k).filter (unlikeAt a b)
attribute [local go_sem_proc] Nat.reduceEqDiff Nat.reduceAdd Nat.reduceSub Nat.reduceMul Nat.reduceLeDiff Nat.reduceLT Int.reduceEq Int.reduceNe Int.reduceLT Int.reduceLE Int.reduceAdd Int.reduceSub Int.reduceMul Int.reduceNeg Int.reduceToNat reduceCtorEq
attribute [local go_sem_proc ↓] reduceIte
attribute [local go_sem ↓] str_size pk_tt pk_ff hold_one hold_two gO_some gA_tt gA_tf gA_ft gA_ff cA_true cA_false yP_n yP_r yK_n yK_r yQ_n yQ_r yC_nil yC_tmp yC_cell yo_nil yo_cons yo_none yo_guard yo_guardN ys_move ys_assign ys_pick ys_bin ys_un ys_build ys_buildSlice ys_load ys_nilCheck ys_conv ys_extract ys_fieldAddr ys_field ys_indexAddr ys_index ys_slice ys_len ys_alloc ys_box ys_store ys_call ys_append ys_makeFunc ys_callv yd_nil yd_alloc yd_store yd_move yg_move yd_assign yg_assign yd_pick yg_pick yd_bin yg_bin yd_un yg_un yd_build yg_build yd_buildSlice yg_buildSlice yd_load yg_load yd_nilCheck yg_nilCheck yd_conv yg_conv yd_extract yg_extract yd_fieldAddr yg_fieldAddr yd_field yg_field yd_indexAddr yg_indexAddr yd_index yg_index yd_slice yg_slice yd_len yg_len yd_call yg_call ixA_eq sl_es sl_row sl_nil ap_eq bs_eq bl_eq cv_eq ixV_agg thenA_n thenA_r thenA_x inB_n inB_r inB_x loop_r loop_x dstAt_zero dstAt_succ retP_n retP_r
attribute [local go_sem] hle_nil hle_cons oO_one oO_two oO_three oO_nil r1_r0 r1_r1 r1_r2 r1_r3 ro_OW roA_OW go_some al_some okX_f okX_t tells regOnly cv_cl cap0_V cap0_OP cap0_ptr ixA_s ixA_p ixA_o szOf_one szOf_two ixV_str ixW_some sl_str slE_some apE_nil apE_row bsE_one flE_some pget_zero pget_succ blE_some fil_nil fil_cons filB_some cvE_some cv_str' str_list str_cut str_data cut_all cut_to s_eql s_neq s_add s_lss s_geq s_leq s_gtr lt1 set_some set_none get_cons ev_tmp ev_const ev_func ev_global glob_cons cv_int cv_bool cv_str cv_slice cv_ptr cv_agg one_int one_bool one_str one_slice one_ptr b_add b_sub b_mul b_quo b_rem b_and b_or b_xor b_andNot b_shl b_shr b_eql b_neq b_lss b_leq b_gtr b_geq b_str b_beq b_bne u_not u_neg g_tt g_tf g_ft g_ff c_true c_false ex_tu nth_zero nth_succ nthO_zero nthO_succ l_ptr l_ptrV l_ptrS l_op cP_one pP_one oc_one oc_agg st_op f_ptr f_op fv_agg co_agg co_V co_slice co_OW co_OP co_ptr sure_V sure_slice sure_OW sure_OP sure_ptr sure_agg sc_nil sc_cons ixS ixSW ixSN bsV_nil bsV_cons el_slice el_row el_nil len_str len_slice len_row len_nil asI_none asI_some nil_op nil_ptr ro_int ro_bool ro_str ro_nils ro_slice ro_ptr ro_OP ro_OW ro_agg ro_tu roA_agg roA_V roA_slice roA_OW roA_OP roA_ptr r1_int r1_bool r1_str r1_nils r1_slice r1_ptr r1_OP resA_one resA_two resA_three noT_V noT_agg noT_slice noT_OW noT_OP noT_ptr noT_nil argsT_nil argsT_cons allC_nil allC_cons allC_append hle_nil hle_cons le_nil le_cons tT_V tT_SL tT_ptr tT_OW tT_OP tT_agg tT_TU tA_V tA_SL tA_ptr tA_OW tA_OP tA_agg t1_V t1_SL t1_ptr t1_OW t1_OP tO_mk get_cons beq_self_eq_true Nat.zero_lt_succ Nat.lt_add_one true_or or_true Bool.or_self Nat.zero_add Nat.add_zero Nat.mul_one Int.toNat_natCast Int.natCast_zero Int.natCast_add Int.cast_ofNat_Int or_false false_or or_true true_or Nat.sub_zero Int.natCast_nonneg Int.toNat_zero Bool.true_and Bool.and_true Bool.false_and Bool.and_false Bool.true_or Bool.or_true Bool.false_or Bool.or_false Bool.not_true Bool.not_false Bool.not_not true_and and_true false_and and_false not_true_eq_false not_false_eq_true eq_self decide_true decide_false ne_eq implies_true forall_const true_implies false_implies Bool.true_eq_false Bool.false_eq_true List.map_cons List.map_nil List.all_cons List.all_nil List.length_cons List.length_nil List.length_map List.length_append List.nil_append List.cons_append List.set_cons_zero List.set_cons_succ List.set_nil List.drop_zero List.drop_succ_cons List.drop_nil List.take_zero List.take_succ_cons List.take_nil Option.map_some Option.map_none Option.isSome_some tk_2 tk_3 tk_9 tk_22 tk_23 tk_24 tk_26 tk_28 tk_32 tk_43 tk_47 tk_58 tk_74 tk_109 tf_26_0 tf_26_1 tf_28_0 tf_28_1 tf_28_2 tf_28_3 tf_43_0 tf_43_1 tf_43_2 tf_47_0 tf_47_1 tf_58_0 tf_58_1 tf_58_2 tf_74_0 tf_74_1 ts_9 ts_22 ts_23 ts_24 ts_29 ts_104 ts_107 ts_121 ts_124 ta_9 ta_22 ta_23 ta_24 ta_29 ta_121 ta_124 tp_26 tp_28 tp_43 tp_47 tp_58 tp_74 tq_22 tq_29 tq_104 tq_107 tq_121 ti_3 ti_5 ti_109 tz_43 tz_58 tv_2 tv_3 tu_4 tv_4 tv_5 tu_9 tv_9 tv_32 tv_109 iA_def fl_it allC_it foldA_all lt_it lt_fold lA_def leC_lt1 tC_len zC_len tC_sure tC_lt1 tC_ltA zC_ltA zC_lt1 tC_ro zC_sure zC_ro tC_take zC_take tC_take16 sc_tt sc_zt sc_tz sc_zz add16 tz_T tA_def
set_option maxHeartbeats 400000 in
theorem count_d {G : Gl} (hG : SigG G) (t : Tr) (hl : ∀ i, (t.leaf i).length ≤ 1000000) : ACp Tryd.prog G 40 [tA t] (nA (countT t)) := by
  have hl' : ∀ i, (t.leaf i).length ≤ 34359738368 := fun i => Nat.le_trans (hl i) (by decide)
  refine acp_of_wpC (c := _) Tryd.func40 rfl (by kernel_rfl) [.tmp 2] rfl _ Tryd.ntmps40 (Nat.le_of_ble_eq_true rfl) rfl ?_
  repeat' (first | (refine call_pure (may_d hG _ hl') (by (simp (disch := omega) only [go_sem, w_i64, w_u64, tdiv_pos, tmod_pos, nth_map, foldA_len, nth_le, nth_tl, nth_tv, set_tl, set_tv])) ?_) | (with_reducible first | refine aq ?_ | refine yr (by kernel_rfl) (Nat.le_of_ble_eq_true rfl) ?_ | refine yx MIX (by kernel_rfl) (by kernel_rfl) (by kernel_rfl) (Nat.le_of_ble_eq_true rfl) ?_ | refine yc ?_ | refine yseq ?_ | refine awp_block ?_ | refine awp_ret ?_ | refine awp_exit ?_ | refine awp_skip ?_ | refine yr1 (by kernel_rfl) (Nat.le_of_ble_eq_true rfl) ?_ | refine yx1 MIX (by kernel_rfl) (by kernel_rfl) (by kernel_rfl) (Nat.le_of_ble_eq_true rfl) ?_) | (simp only [go_sem]) | ((with_reducible first | refine cA_t (by first | assumption | (simp only [decide_eq_true_eq, decide_eq_false_iff_not]; first | assumption | omega)) (fun h => ?_) | refine cA_f (by first | assumption | (simp only [decide_eq_true_eq, decide_eq_false_iff_not]; first | assumption | omega)) (fun h => ?_) | refine gA_t (by first | assumption | (simp only [decide_eq_true_eq, decide_eq_false_iff_not]; first | assumption | omega)) (fun h => ?_) | refine gA_f (by first | assumption | (simp only [decide_eq_true_eq, decide_eq_false_iff_not]; first | assumption | omega)) (fun h => ?_) | refine pk_t (by first | assumption | (simp only [decide_eq_true_eq, decide_eq_false_iff_not]; first | assumption | omega)) (fun h => ?_) | refine pk_f (by first | assumption | (simp only [decide_eq_true_eq, decide_eq_false_iff_not]; first | assumption | omega)) (fun h => ?_)) <;> (try rewrite [h]) <;> clear h) | (with_reducible refine pk_if ?_) | ((with_reducible first | refine cA_split (fun h => ?_) (fun h => ?_) | refine gA_split (fun h => ?_) (fun h => ?_)) <;> (try rewrite [h]) <;> (try simp (disch := omega) only [w_i64, w_u64, tdiv_pos, tmod_pos, nth_map, foldA_len, nth_le, nth_tl, nth_tv, set_tl, set_tv] at h) <;> (try simp only [decide_eq_true_eq, decide_eq_false_iff_not, Bool.not_eq_true, Bool.not_eq_false, Bool.not_eq_true', Bool.not_eq_false', not_true_eq_false, not_false_eq_true] at h) <;> (try (exfalso; omega))) | (simp (disch := omega) only [w_i64, w_u64, tdiv_pos, tmod_pos, nth_map, foldA_len, nth_le, nth_tl, nth_tv, set_tl, set_tv]) | (with_reducible first | refine And.intro (by first | assumption | rfl | omega) ?_ | refine And.intro ?_ ?_))
  · rw [countT, h]; rfl
  have hm := h
  clear h
  refine awp_loop (ι := {k : Nat // k ≤ 16}) (fun k => ⟨[⟨1, 26, 0, tC t⟩], [(11, V (.int .i64 k.1)), (10, .agg (leC t)), (3, V (.int .i64 (sumTo (fun i => (t.leaf i).length) k.1))), (1, OP 0 0)]⟩) (fun k => 16 - k.1) ⟨0, Nat.zero_le _⟩ ?_ (Nat.zero_le _) ?_
  · (refine le_mk ?_ ?_ ?_ <;> (try simp (disch := omega) only [go_sem, w_i64, w_u64, tdiv_pos, tmod_pos, nth_map, foldA_len, nth_le, nth_tl, nth_tv, set_tl, set_tv, sumTo]))
  rintro ⟨k, hk⟩
  have hs := sumTo_le hl k
  have hlk := hl k
  dsimp only
  repeat' (first | (refine loop_n ⟨k + 1, by omega⟩ ?_ (Nat.zero_le _) (by dsimp only; omega)) | (refine le_mk ?_ ?_ ?_ <;> (try simp (disch := omega) only [go_sem, w_i64, w_u64, tdiv_pos, tmod_pos, nth_map, foldA_len, nth_le, nth_tl, nth_tv, set_tl, set_tv])) | (with_reducible first | refine aq ?_ | refine yr (by kernel_rfl) (Nat.le_of_ble_eq_true rfl) ?_ | refine yx MIX (by kernel_rfl) (by kernel_rfl) (by kernel_rfl) (Nat.le_of_ble_eq_true rfl) ?_ | refine yc ?_ | refine yseq ?_ | refine awp_block ?_ | refine awp_ret ?_ | refine awp_exit ?_ | refine awp_skip ?_ | refine yr1 (by kernel_rfl) (Nat.le_of_ble_eq_true rfl) ?_ | refine yx1 MIX (by kernel_rfl) (by kernel_rfl) (by kernel_rfl) (Nat.le_of_ble_eq_true rfl) ?_) | (simp only [go_sem]) | ((with_reducible first | refine cA_t (by first | assumption | (simp only [decide_eq_true_eq, decide_eq_false_iff_not]; first | assumption | omega)) (fun h => ?_) | refine cA_f (by first | assumption | (simp only [decide_eq_true_eq, decide_eq_false_iff_not]; first | assumption | omega)) (fun h => ?_) | refine gA_t (by first | assumption | (simp only [decide_eq_true_eq, decide_eq_false_iff_not]; first | assumption | omega)) (fun h => ?_) | refine gA_f (by first | assumption | (simp only [decide_eq_true_eq, decide_eq_false_iff_not]; first | assumption | omega)) (fun h => ?_) | refine pk_t (by first | assumption | (simp only [decide_eq_true_eq, decide_eq_false_iff_not]; first | assumption | omega)) (fun h => ?_) | refine pk_f (by first | assumption | (simp only [decide_eq_true_eq, decide_eq_false_iff_not]; first | assumption | omega)) (fun h => ?_)) <;> (try rewrite [h]) <;> clear h) | (with_reducible refine pk_if ?_) | ((with_reducible first | refine cA_split (fun h => ?_) (fun h => ?_) | refine gA_split (fun h => ?_) (fun h => ?_)) <;> (try rewrite [h]) <;> (try simp (disch := omega) only [w_i64, w_u64, tdiv_pos, tmod_pos, nth_map, foldA_len, nth_le, nth_tl, nth_tv, set_tl, set_tv] at h) <;> (try simp only [decide_eq_true_eq, decide_eq_false_iff_not, Bool.not_eq_true, Bool.not_eq_false, Bool.not_eq_true', Bool.not_eq_false', not_true_eq_false, not_false_eq_true] at h) <;> (try (exfalso; omega))) | (simp (disch := omega) only [w_i64, w_u64, tdiv_pos, tmod_pos, nth_map, foldA_len, nth_le, nth_tl, nth_tv, set_tl, set_tv]) | (with_reducible first | refine And.intro (by first | assumption | rfl | omega) ?_ | refine And.intro ?_ ?_))
  · rw [sumTo, Int.natCast_add]
  · obtain rfl : k = 16 := by omega
    rw [countT, hm]; rfl
set_option maxHeartbeats 400000 in
theorem weight_d {G : Gl} (hG : SigG G) (t : Tr) (hl : ∀ i, (t.leaf i).length ≤ 1000000) (hw : ∀ i, weightP (t.leaf i) ≤ 1000000000) (hn : ∀ i, ∀ x ∈ t.leaf i, NumOk x) : ACp Tryd.prog G 39 [tA t] (nA (weightT t)) := by
  have hl' : ∀ i, (t.leaf i).length ≤ 34359738368 := fun i => Nat.le_trans (hl i) (by decide)
  refine acp_of_wpC (c := _) Tryd.func39 rfl (by kernel_rfl) [.tmp 2] rfl _ Tryd.ntmps39 (Nat.le_of_ble_eq_true rfl) rfl ?_
  repeat' (first | (refine call_pure (may_d hG _ hl') (by (simp (disch := omega) only [go_sem, w_i64, w_u64, tdiv_pos, tmod_pos, nth_map, foldA_len, nth_le, nth_tl, nth_tv, set_tl, set_tv])) ?_) | (with_reducible first | refine aq ?_ | refine yr (by kernel_rfl) (Nat.le_of_ble_eq_true rfl) ?_ | refine yx MIX (by kernel_rfl) (by kernel_rfl) (by kernel_rfl) (Nat.le_of_ble_eq_true rfl) ?_ | refine yc ?_ | refine yseq ?_ | refine awp_block ?_ | refine awp_ret ?_ | refine awp_exit ?_ | refine awp_skip ?_ | refine yr1 (by kernel_rfl) (Nat.le_of_ble_eq_true rfl) ?_ | refine yx1 MIX (by kernel_rfl) (by kernel_rfl) (by kernel_rfl) (Nat.le_of_ble_eq_true rfl) ?_) | (simp only [go_sem]) | ((with_reducible first | refine cA_t (by first | assumption | (simp only [decide_eq_true_eq, decide_eq_false_iff_not]; first | assumption | omega)) (fun h => ?_) | refine cA_f (by first | assumption | (simp only [decide_eq_true_eq, decide_eq_false_iff_not]; first | assumption | omega)) (fun h => ?_) | refine gA_t (by first | assumption | (simp only [decide_eq_true_eq, decide_eq_false_iff_not]; first | assumption | omega)) (fun h => ?_) | refine gA_f (by first | assumption | (simp only [decide_eq_true_eq, decide_eq_false_iff_not]; first | assumption | omega)) (fun h => ?_) | refine pk_t (by first | assumption | (simp only [decide_eq_true_eq, decide_eq_false_iff_not]; first | assumption | omega)) (fun h => ?_) | refine pk_f (by first | assumption | (simp only [decide_eq_true_eq, decide_eq_false_iff_not]; first | assumption | omega)) (fun h => ?_)) <;> (try rewrite [h]) <;> clear h) | (with_reducible refine pk_if ?_) | ((with_reducible first | refine cA_split (fun h => ?_) (fun h => ?_) | refine gA_split (fun h => ?_) (fun h => ?_)) <;> (try rewrite [h]) <;> (try simp (disch := omega) only [w_i64, w_u64, tdiv_pos, tmod_pos, nth_map, foldA_len, nth_le, nth_tl, nth_tv, set_tl, set_tv] at h) <;> (try simp only [decide_eq_true_eq, decide_eq_false_iff_not, Bool.not_eq_true, Bool.not_eq_false, Bool.not_eq_true', Bool.not_eq_false', not_true_eq_false, not_false_eq_true] at h) <;> (try (exfalso; omega))) | (simp (disch := omega) only [w_i64, w_u64, tdiv_pos, tmod_pos, nth_map, foldA_len, nth_le, nth_tl, nth_tv, set_tl, set_tv]) | (with_reducible first | refine And.intro (by first | assumption | rfl | omega) ?_ | refine And.intro ?_ ?_))
  · rw [weightT, h]; rfl
  have hm := h
  clear h
  refine awp_loop (ι := {k : Nat // k ≤ 16}) (fun k => ⟨[⟨1, 26, 0, tC t⟩], [(11, V (.int .i64 k.1)), (10, .agg (leC t)), (3, V (.int .i64 (sumTo (fun i => weightP (t.leaf i)) k.1))), (1, OP 0 0)]⟩) (fun k => 16 - k.1) ⟨0, Nat.zero_le _⟩ ?_ (Nat.zero_le _) ?_
  · (refine le_mk ?_ ?_ ?_ <;> (try simp (disch := omega) only [go_sem, w_i64, w_u64, tdiv_pos, tmod_pos, nth_map, foldA_len, nth_le, nth_tl, nth_tv, set_tl, set_tv, sumTo]))
  rintro ⟨k, hk⟩
  have hs := sumTo_le hw k
  have hlk := hw k
  dsimp only
  repeat' (first | (refine call_pure (cl_weight _ hG (hn _) (hl _)) rfl ?_) | (refine loop_n ⟨k + 1, by omega⟩ ?_ (Nat.zero_le _) (by dsimp only; omega)) | (refine le_mk ?_ ?_ ?_ <;> (try simp (disch := omega) only [go_sem, w_i64, w_u64, tdiv_pos, tmod_pos, nth_map, foldA_len, nth_le, nth_tl, nth_tv, set_tl, set_tv])) | (with_reducible first | refine aq ?_ | refine yr (by kernel_rfl) (Nat.le_of_ble_eq_true rfl) ?_ | refine yx MIX (by kernel_rfl) (by kernel_rfl) (by kernel_rfl) (Nat.le_of_ble_eq_true rfl) ?_ | refine yc ?_ | refine yseq ?_ | refine awp_block ?_ | refine awp_ret ?_ | refine awp_exit ?_ | refine awp_skip ?_ | refine yr1 (by kernel_rfl) (Nat.le_of_ble_eq_true rfl) ?_ | refine yx1 MIX (by kernel_rfl) (by kernel_rfl) (by kernel_rfl) (Nat.le_of_ble_eq_true rfl) ?_) | (simp only [go_sem]) | ((with_reducible first | refine cA_t (by first | assumption | (simp only [decide_eq_true_eq, decide_eq_false_iff_not]; first | assumption | omega)) (fun h => ?_) | refine cA_f (by first | assumption | (simp only [decide_eq_true_eq, decide_eq_false_iff_not]; first | assumption | omega)) (fun h => ?_) | refine gA_t (by first | assumption | (simp only [decide_eq_true_eq, decide_eq_false_iff_not]; first | assumption | omega)) (fun h => ?_) | refine gA_f (by first | assumption | (simp only [decide_eq_true_eq, decide_eq_false_iff_not]; first | assumption | omega)) (fun h => ?_) | refine pk_t (by first | assumption | (simp only [decide_eq_true_eq, decide_eq_false_iff_not]; first | assumption | omega)) (fun h => ?_) | refine pk_f (by first | assumption | (simp only [decide_eq_true_eq, decide_eq_false_iff_not]; first | assumption | omega)) (fun h => ?_)) <;> (try rewrite [h]) <;> clear h) | (with_reducible refine pk_if ?_) | ((with_reducible first | refine cA_split (fun h => ?_) (fun h => ?_) | refine gA_split (fun h => ?_) (fun h => ?_)) <;> (try rewrite [h]) <;> (try simp (disch := omega) only [w_i64, w_u64, tdiv_pos, tmod_pos, nth_map, foldA_len, nth_le, nth_tl, nth_tv, set_tl, set_tv] at h) <;> (try simp only [decide_eq_true_eq, decide_eq_false_iff_not, Bool.not_eq_true, Bool.not_eq_false, Bool.not_eq_true', Bool.not_eq_false', not_true_eq_false, not_false_eq_true] at h) <;> (try (exfalso; omega))) | (simp (disch := omega) only [w_i64, w_u64, tdiv_pos, tmod_pos, nth_map, foldA_len, nth_le, nth_tl, nth_tv, set_tl, set_tv]) | (with_reducible first | refine And.intro (by first | assumption | rfl | omega) ?_ | refine And.intro ?_ ?_))
  · rw [sumTo, Int.natCast_add]
  · obtain rfl : k = 16 := by omega
    rw [weightT, hm]; rfl
end Go.Proofs.YtoeajbhlkccekaaDoor

namespace Go.Proofs.YtoeajbhlkccekaaDoor
open Go.RowKit
set_option maxRecDepth 20000
attribute [local go_sem_proc] Nat.reduceEqDiff Nat.reduceAdd Nat.reduceSub Nat.reduceMul Nat.reduceLeDiff Nat.reduceLT Int.reduceEq Int.reduceNe Int.reduceLT Int.reduceLE Int.reduceAdd Int.reduceSub Int.reduceMul Int.reduceNeg Int.reduceToNat reduceCtorEq
attribute [local go_sem_proc ↓] reduceIte
attribute [local go_sem ↓] str_size pk_tt pk_ff hold_one hold_two gO_some gA_tt gA_tf gA_ft gA_ff cA_true cA_false yP_n yP_r yK_n yK_r yQ_n yQ_r yC_nil yC_tmp yC_cell yo_nil yo_cons yo_none yo_guard yo_guardN ys_move ys_assign ys_pick ys_bin ys_un ys_build ys_buildSlice ys_load ys_nilCheck ys_conv ys_extract ys_fieldAddr ys_field ys_indexAddr ys_index ys_slice ys_len ys_alloc ys_box ys_store ys_call ys_append ys_makeFunc ys_callv yd_nil yd_alloc yd_store yd_move yg_move yd_assign yg_assign yd_pick yg_pick yd_bin yg_bin yd_un yg_un yd_build yg_build yd_buildSlice yg_buildSlice yd_load yg_load yd_nilCheck yg_nilCheck yd_conv yg_conv yd_extract yg_extract yd_fieldAddr yg_fieldAddr yd_field yg_field yd_indexAddr yg_indexAddr yd_index yg_index yd_slice yg_slice yd_len yg_len yd_call yg_call ixA_eq sl_es sl_row sl_nil ap_eq bs_eq bl_eq cv_eq ixV_agg thenA_n thenA_r thenA_x inB_n inB_r inB_x loop_r loop_x dstAt_zero dstAt_succ retP_n retP_r
attribute [local go_sem] hle_nil hle_cons oO_one oO_two oO_three oO_nil r1_r0 r1_r1 r1_r2 r1_r3 ro_OW roA_OW go_some al_some okX_f okX_t tells regOnly cv_cl cap0_V cap0_OP cap0_ptr ixA_s ixA_p ixA_o szOf_one szOf_two ixV_str ixW_some sl_str slE_some apE_nil apE_row bsE_one flE_some pget_zero pget_succ blE_some fil_nil fil_cons filB_some cvE_some cv_str' str_list str_cut str_data cut_all cut_to s_eql s_neq s_add s_lss s_geq s_leq s_gtr lt1 set_some set_none get_cons ev_tmp ev_const ev_func ev_global glob_cons cv_int cv_bool cv_str cv_slice cv_ptr cv_agg one_int one_bool one_str one_slice one_ptr b_add b_sub b_mul b_quo b_rem b_and b_or b_xor b_andNot b_shl b_shr b_eql b_neq b_lss b_leq b_gtr b_geq b_str b_beq b_bne u_not u_neg g_tt g_tf g_ft g_ff c_true c_false ex_tu nth_zero nth_succ nthO_zero nthO_succ l_ptr l_ptrV l_ptrS l_op cP_one pP_one oc_one oc_agg st_op f_ptr f_op fv_agg co_agg co_V co_slice co_OW co_OP co_ptr sure_V sure_slice sure_OW sure_OP sure_ptr sure_agg sc_nil sc_cons ixS ixSW ixSN bsV_nil bsV_cons el_slice el_row el_nil len_str len_slice len_row len_nil asI_none asI_some nil_op nil_ptr ro_int ro_bool ro_str ro_nils ro_slice ro_ptr ro_OP ro_OW ro_agg ro_tu roA_agg roA_V roA_slice roA_OW roA_OP roA_ptr r1_int r1_bool r1_str r1_nils r1_slice r1_ptr r1_OP resA_one resA_two resA_three noT_V noT_agg noT_slice noT_OW noT_OP noT_ptr noT_nil argsT_nil argsT_cons allC_nil allC_cons allC_append hle_nil hle_cons le_nil le_cons tT_V tT_SL tT_ptr tT_OW tT_OP tT_agg tT_TU tA_V tA_SL tA_ptr tA_OW tA_OP tA_agg t1_V t1_SL t1_ptr t1_OW t1_OP tO_mk get_cons beq_self_eq_true Nat.zero_lt_succ Nat.lt_add_one true_or or_true Bool.or_self Nat.zero_add Nat.add_zero Nat.mul_one Int.toNat_natCast Int.natCast_zero Int.natCast_add Int.cast_ofNat_Int or_false false_or or_true true_or Nat.sub_zero Int.natCast_nonneg Int.toNat_zero Bool.true_and Bool.and_true Bool.false_and Bool.and_false Bool.true_or Bool.or_true Bool.false_or Bool.or_false Bool.not_true Bool.not_false Bool.not_not true_and and_true false_and and_false not_true_eq_false not_false_eq_true eq_self decide_true decide_false ne_eq implies_true forall_const true_implies false_implies Bool.true_eq_false Bool.false_eq_true List.map_cons List.map_nil List.all_cons List.all_nil List.length_cons List.length_nil List.length_map List.length_append List.nil_append List.cons_append List.set_cons_zero List.set_cons_succ List.set_nil List.drop_zero List.drop_succ_cons List.drop_nil List.take_zero List.take_succ_cons List.take_nil Option.map_some Option.map_none Option.isSome_some tk_2 tk_3 tk_9 tk_22 tk_23 tk_24 tk_26 tk_28 tk_32 tk_43 tk_47 tk_58 tk_74 tk_109 tf_26_0 tf_26_1 tf_28_0 tf_28_1 tf_28_2 tf_28_3 tf_43_0 tf_43_1 tf_43_2 tf_47_0 tf_47_1 tf_58_0 tf_58_1 tf_58_2 tf_74_0 tf_74_1 ts_9 ts_22 ts_23 ts_24 ts_29 ts_104 ts_107 ts_121 ts_124 ta_9 ta_22 ta_23 ta_24 ta_29 ta_121 ta_124 tp_26 tp_28 tp_43 tp_47 tp_58 tp_74 tq_22 tq_29 tq_104 tq_107 tq_121 ti_3 ti_5 ti_109 tz_43 tz_58 tv_2 tv_3 tu_4 tv_4 tv_5 tu_9 tv_9 tv_32 tv_109 iA_def fl_it allC_it foldA_all lt_it lt_fold lA_def leC_lt1 tC_len zC_len tC_sure tC_lt1 tC_ltA zC_ltA zC_lt1 tC_ro zC_sure zC_ro tC_take zC_take tC_take16 sc_tt sc_zt sc_tz sc_zz add16 tz_T tA_def
end Go.Proofs.YtoeajbhlkccekaaDoor

namespace Go.Proofs.YtoeajbhlkccekaaDoor
open Go.RowKit
def Tr.Eq16 (t u : Tr) : Prop := ∀ i, i < 16 → t.leaf i = u.leaf i ∧ t.ver i = u.ver i
theorem map_range_inj {α β : Type} {f g : Nat → β} {n : Nat} (h : (List.range n).map f = (List.range n).map g) : ∀ i, i < n → f i = g i := fun i hi => by
  have := congrArg (fun l => l[i]?) h
  simpa [List.getElem?_map, List.getElem?_range hi] using this
theorem tA_inj {t u : Tr} (h : tA t = tA u) : t.Eq16 u := by
  unfold tA tC at h
  injection h with h
  obtain ⟨h1, h2⟩ := List.append_inj h (by rw [leC_len, leC_len])
  intro i hi
  exact ⟨lA_inj (map_range_inj (α := Nat) h1 i hi), nA_inj (map_range_inj (α := Nat) h2 i hi)⟩
theorem tA_eq {t u : Tr} (h : t.Eq16 u) : tA t = tA u := by
  unfold tA tC leC veC
  congr 2
  · exact List.map_congr_left fun i hi => by rw [(h i (List.mem_range.1 hi)).1]
  · exact List.map_congr_left fun i hi => by rw [(h i (List.mem_range.1 hi)).2]
theorem all_range_congr {f g : Nat → Bool} {n : Nat} (h : ∀ i, i < n → f i = g i) : (List.range n).all f = (List.range n).all g := by
  rw [Bool.eq_iff_iff, List.all_eq_true, List.all_eq_true]
  exact ⟨fun q i hi => by rw [← h i (List.mem_range.1 hi)]; exact q i hi, fun q i hi => by rw [h i (List.mem_range.1 hi)]; exact q i hi⟩
theorem mayT_eq {t u : Tr} (h : t.Eq16 u) : mayT t = mayT u := all_range_congr fun i hi => by rw [(h i hi).1, (h i hi).2]
theorem getT_eq {t u : Tr} (h : t.Eq16 u) (k : Bytes) : getT t k = getT u k := by
  unfold getT
  rw [mayT_eq h]
  cases hk : keyB k with
  | false => rfl
  | true => rw [(h _ (bk_lt hk)).1]
theorem chgT_eq {t u : Tr} (h : t.Eq16 u) (b : Nat) (v : Int) (r : List Item × Nat) : tA (chgT t b v r).1 = tA (chgT u b v r).1 ∧ (chgT t b v r).2 = (chgT u b v r).2 := by
  unfold chgT
  split
  · refine ⟨tA_eq fun i hi => ?_, rfl⟩
    simp only [Tr.setL, Tr.setV]
    rw [(h i hi).1, (h i hi).2]
    exact ⟨rfl, rfl⟩
  · exact ⟨rfl, rfl⟩
theorem itemB_key {x : Item} (h : itemB x = true) : keyB x.key = true := by
  unfold itemB at h
  simp only [Bool.and_eq_true] at h
  exact h.1.1.1.1
theorem putT_eq {t u : Tr} (h : t.Eq16 u) (x : Item) : tA (putT t x).1 = tA (putT u x).1 ∧ (putT t x).2 = (putT u x).2 := by
  unfold putT
  rw [mayT_eq h]
  split
  · exact ⟨rfl, rfl⟩
  · rename_i hx
    have hi : itemB x = true := by
      cases e : itemB x with
      | true => rfl
      | false => rw [e] at hx; exact absurd rfl hx
    rw [(h _ (bk_lt (itemB_key hi))).1, (h _ (bk_lt (itemB_key hi))).2]
    split
    · exact ⟨rfl, rfl⟩
    · exact chgT_eq h ..
theorem delT_eq {t u : Tr} (h : t.Eq16 u) (k : Bytes) (v : Int) : tA (delT t k v).1 = tA (delT u k v).1 ∧ (delT t k v).2 = (delT u k v).2 := by
  unfold delT
  rw [mayT_eq h, getT_eq h]
  split
  · exact ⟨rfl, rfl⟩
  · split
    · exact ⟨rfl, rfl⟩
    · rename_i hg
      have hk : keyB k = true := by
        cases e : keyB k with
        | true => rfl
        | false => rw [getT, e] at hg; exact absurd rfl hg
      rw [(h _ (bk_lt hk)).1, (h _ (bk_lt hk)).2]
      split
      · exact ⟨rfl, rfl⟩
      · exact chgT_eq h ..
theorem sumTo_eq {f g : Nat → Nat} : ∀ {n : Nat}, (∀ i, i < n → f i = g i) → sumTo f n = sumTo g n
  | 0, _ => rfl
  | n + 1, h => by
    unfold sumTo
    rw [sumTo_eq fun i hi => h i (Nat.lt_succ_of_lt hi), h n (Nat.lt_succ_self n)]
theorem countT_eq {t u : Tr} (h : t.Eq16 u) : countT t = countT u := by
  unfold countT
  rw [mayT_eq h, sumTo_eq fun i hi => by rw [(h i hi).1]]
theorem weightT_eq {t u : Tr} (h : t.Eq16 u) : weightT t = weightT u := by
  unfold weightT
  rw [mayT_eq h, sumTo_eq fun i hi => by rw [(h i hi).1]]
def Tr.Ok (t : Tr) : Prop := ∀ i, (t.leaf i).length ≤ 1000000 ∧ (∀ x ∈ t.leaf i, x.key.length ≤ maxLen ∧ NumOk x) ∧ weightP (t.leaf i) ≤ 1000000000
theorem Tr.Ok.len {t : Tr} (h : t.Ok) : ∀ i, (t.leaf i).length ≤ 1000000 := fun i => (h i).1
theorem Tr.Ok.len2 {t : Tr} (h : t.Ok) : ∀ i, (t.leaf i).length ≤ 34359738368 := fun i => Nat.le_trans (h i).1 (by decide)
noncomputable def trunk_May_t (m : Nat) : List AV → RO := orac (ι := Tr) (fun t => [tA t]) (fun t => bA (mayT t)) Tr.Ok
theorem trunk_May_ok (m : Nat) : ∀ args X H', trunk_May_t m args = some (X, H') → ACp Tryd.prog GG 47 args X := orac_ok fun t h => may_d sigGG t h.len2
theorem trunk_May_e (m : Nat) (t : Tr) (h : t.Ok) : trunk_May_t m [tA t] = some (bA (mayT t), []) := orac_eq (ι := Tr) (by
  intro t u e
  rw [mayT_eq (tA_inj (List.cons.inj e).1)]) (i := t) h
noncomputable def trunk_Get_t (m : Nat) : List AV → RO := orac (ι := Tr × Bytes) (fun p => [tA p.1, sA p.2]) (fun p => TU [iA ((getT p.1 p.2).getD Item.zero), bA (getT p.1 p.2).isSome]) (fun p => p.1.Ok)
theorem trunk_Get_ok (m : Nat) : ∀ args X H', trunk_Get_t m args = some (X, H') → ACp Tryd.prog GG 46 args X := orac_ok fun p h => get_d sigGG p.1 p.2 h.len
theorem trunk_Get_e (m : Nat) (t : Tr) (k : Bytes) (h : t.Ok) : trunk_Get_t m [tA t, sA k] = some (TU [iA ((getT t k).getD Item.zero), bA (getT t k).isSome], []) := orac_eq (ι := Tr × Bytes) (by
  rintro ⟨t, k⟩ ⟨u, k'⟩ e
  dsimp only at e ⊢
  simp only [List.cons.injEq, and_true] at e
  rw [getT_eq (tA_inj e.1), sA_inj e.2]) (i := (t, k)) h
noncomputable def trunk_Put_t (m : Nat) : List AV → RO := orac (ι := Tr × Item) (fun p => [tA p.1, iA p.2]) (fun p => TU [tA (putT p.1 p.2).1, nA (putT p.1 p.2).2]) (fun p => p.1.Ok)
theorem trunk_Put_ok (m : Nat) : ∀ args X H', trunk_Put_t m args = some (X, H') → ACp Tryd.prog GG 62 args X := orac_ok fun p h => put_d sigGG p.1 p.2 h.len
theorem trunk_Put_e (m : Nat) (t : Tr) (x : Item) (h : t.Ok) : trunk_Put_t m [tA t, iA x] = some (TU [tA (putT t x).1, nA (putT t x).2], []) := orac_eq (ι := Tr × Item) (by
  rintro ⟨t, k⟩ ⟨u, k'⟩ e
  dsimp only at e ⊢
  simp only [List.cons.injEq, and_true] at e
  rw [iA_inj e.2, (putT_eq (tA_inj e.1) k').1, (putT_eq (tA_inj e.1) k').2]) (i := (t, x)) h
noncomputable def trunk_Delete_t (m : Nat) : List AV → RO := orac (ι := Tr × Bytes × Int) (fun p => [tA p.1, sA p.2.1, nA p.2.2]) (fun p => TU [tA (delT p.1 p.2.1 p.2.2).1, nA (delT p.1 p.2.1 p.2.2).2]) (fun p => p.1.Ok)
theorem trunk_Delete_ok (m : Nat) : ∀ args X H', trunk_Delete_t m args = some (X, H') → ACp Tryd.prog GG 63 args X := orac_ok fun p h => del_d sigGG p.1 p.2.1 p.2.2 h.len
theorem trunk_Delete_e (m : Nat) (t : Tr) (k : Bytes) (v : Int) (h : t.Ok) : trunk_Delete_t m [tA t, sA k, nA v] = some (TU [tA (delT t k v).1, nA (delT t k v).2], []) := orac_eq (ι := Tr × Bytes × Int) (by
  rintro ⟨t, k, v⟩ ⟨u, k', v'⟩ e
  dsimp only at e ⊢
  simp only [List.cons.injEq, and_true] at e
  rw [sA_inj e.2.1, nA_inj e.2.2, (delT_eq (tA_inj e.1) k' v').1, (delT_eq (tA_inj e.1) k' v').2]) (i := (t, k, v)) h
noncomputable def trunk_Count_t (m : Nat) : List AV → RO := orac (ι := Tr) (fun t => [tA t]) (fun t => nA (countT t)) Tr.Ok
theorem trunk_Count_ok (m : Nat) : ∀ args X H', trunk_Count_t m args = some (X, H') → ACp Tryd.prog GG 40 args X := orac_ok fun t h => count_d sigGG t h.len
theorem trunk_Count_e (m : Nat) (t : Tr) (h : t.Ok) : trunk_Count_t m [tA t] = some (nA (countT t), []) := orac_eq (ι := Tr) (by
  intro t u e
  rw [countT_eq (tA_inj (List.cons.inj e).1)]) (i := t) h
noncomputable def trunk_Weight_t (m : Nat) : List AV → RO := orac (ι := Tr) (fun t => [tA t]) (fun t => nA (weightT t)) Tr.Ok
theorem trunk_Weight_ok (m : Nat) : ∀ args X H', trunk_Weight_t m args = some (X, H') → ACp Tryd.prog GG 39 args X := orac_ok fun t h => weight_d sigGG t h.len (fun i => (h i).2.2) fun i x hx => ((h i).2.1 x hx).2
theorem trunk_Weight_e (m : Nat) (t : Tr) (h : t.Ok) : trunk_Weight_t m [tA t] = some (nA (weightT t), []) := orac_eq (ι := Tr) (by
  intro t u e
  rw [weightT_eq (tA_inj (List.cons.inj e).1)]) (i := t) h
theorem tA_few {t u : Tr} (h : t.Eq16 u) : tA (fewT t 16) = tA (fewT u 16) := tA_eq fun i hi => by
  simp only [fewT, hi, if_true]
  rw [(h i hi).1, (h i hi).2]
  exact ⟨rfl, rfl⟩
noncomputable def plenumlaw10_Few_t (m : Nat) : List AV → RO := orac (ι := Tr) (fun t => [tA t]) (fun t => tA (fewT t 16)) (fun t => ∀ i, (t.leaf i).length ≤ maxLen)
theorem plenumlaw10_Few_ok (m : Nat) : ∀ args X H', plenumlaw10_Few_t m args = some (X, H') → ACp Tryd.prog GG 33 args X := orac_ok fun t h => few_d t h
theorem plenumlaw10_Few_e (m : Nat) (t : Tr) (h : ∀ i, (t.leaf i).length ≤ maxLen) : plenumlaw10_Few_t m [tA t] = some (tA (fewT t 16), []) := orac_eq (ι := Tr) (by
  intro t u e
  exact tA_few (tA_inj (List.cons.inj e).1)) (i := t) h
noncomputable def plenumlaw10_One_t (m : Nat) : List AV → RO := orac (ι := Item) (fun x => [iA x]) (fun x => iA x.one) (fun _ => True)
theorem plenumlaw10_One_ok (m : Nat) : ∀ args X H', plenumlaw10_One_t m args = some (X, H') → ACp Tryd.prog GG 34 args X := orac_ok fun x _ => one_d x
theorem plenumlaw10_One_e (m : Nat) (x : Item) : plenumlaw10_One_t m [iA x] = some (iA x.one, []) := orac_eq (ι := Item) (by
  intro k l e
  rw [iA_inj (List.cons.inj e).1]) (i := x) trivial
end Go.Proofs.YtoeajbhlkccekaaDoor

namespace Go.Proofs.YtoeajbhlkccekaaDoor
open Go.RowKit
theorem cl_pat (q : Bytes) : ACp Tryd.prog GG 89 [sA q] (bA (patB q)) := by
  refine acp_of_tells (by kernel_rfl) fun w S vs hr hg hlen hv => ?_
  rcases vs with _ | ⟨v1, _ | ⟨_, _⟩⟩ <;> simp at hlen
  have e1 := arg_V (hv 0 _ v1 rfl rfl); subst e1
  have hS := sigGG.at hr hg
  refine (keypat_any q w hS).mono ?_
  rintro e w' ⟨rfl, rfl⟩
  exact ⟨_, rfl, Below.refl _ _, rep_V1⟩
noncomputable def key_Pattern_t (m : Nat) : List AV → RO := orac (ι := Bytes) (fun q => [sA q]) (fun q => bA (patB q)) (fun q => True)
theorem key_Pattern_ok (m : Nat) : ∀ args X H', key_Pattern_t m args = some (X, H') → ACp Tryd.prog GG 89 args X := orac_ok (by
  intro q _
  exact cl_pat q)
theorem key_Pattern_e (m : Nat) (q : Bytes) : key_Pattern_t m [sA q] = some (bA (patB q), []) := orac_eq (ι := Bytes) (by
  intro q1 q2 h
  try dsimp only at h ⊢
  simp only [List.cons.injEq, and_true] at h
  rw [sA_inj h]) (i := q) trivial
theorem cl_value_May (k i : Int) (s : Bytes) : ACp Tryd.prog GG 36 [.agg [nA k, nA i, sA s]] (bA (valB k i s)) := by
  refine acp_of_tells (by kernel_rfl) fun w S vs hr hg hlen hv' => ?_
  rcases vs with _ | ⟨v1, _ | ⟨_, _⟩⟩ <;> simp at hlen
  obtain ⟨us, rfl, hx⟩ := hv' 0 _ v1 rfl rfl
  have := reps_plain (us := [.int .i64 k, .int .i64 i, .string ⟨s.toArray⟩]) hx
  subst this
  refine (valmay_any k i s w).mono ?_
  rintro e w' ⟨rfl, hb⟩
  exact ⟨_, rfl, hb, rep_V1⟩
noncomputable def value_May_t (m : Nat) : List AV → RO := orac (ι := Int × Int × Bytes) (fun ⟨k, i, s⟩ => [.agg [nA k, nA i, sA s]]) (fun ⟨k, i, s⟩ => bA (valB k i s)) (fun _ => True)
theorem value_May_ok (m : Nat) : ∀ args X H', value_May_t m args = some (X, H') → ACp Tryd.prog GG 36 args X := orac_ok (by
  rintro ⟨k, i, s⟩ _
  exact cl_value_May k i s)
theorem value_May_e (m : Nat) (k : Int) (i : Int) (s : Bytes) : value_May_t m [.agg [nA k, nA i, sA s]] = some (bA (valB k i s), []) := orac_eq (ι := Int × Int × Bytes) (by
  rintro ⟨k1, i1, s1⟩ ⟨k2, i2, s2⟩ h
  try dsimp only at h ⊢
  simp only [List.cons.injEq, DataW.agg.injEq, and_true] at h
  obtain ⟨h1, h2, h3⟩ := h
  rw [nA_inj h1, nA_inj h2, sA_inj h3]) (i := (k, i, s)) trivial
end Go.Proofs.YtoeajbhlkccekaaDoor

namespace Go.Proofs.YtoeajbhlkccekaaDoor
open Go.RowKit
set_option maxRecDepth 100000
def ty_api_Item : TypeId := 58
def ty_api_Trunk : TypeId := 26
def ty_api_Value : TypeId := 43
def zc_api_Item : List AV := [(V (.string ⟨#[]⟩)), (V (.int .i64 0)), (V (.int .i64 0)), (V (.string ⟨#[]⟩)), (V (.int .i64 0))]
def zc_api_Trunk : List AV := [(V (.slice none 0 0)), (V (.slice none 0 0)), (V (.slice none 0 0)), (V (.slice none 0 0)), (V (.slice none 0 0)), (V (.slice none 0 0)), (V (.slice none 0 0)), (V (.slice none 0 0)), (V (.slice none 0 0)), (V (.slice none 0 0)), (V (.slice none 0 0)), (V (.slice none 0 0)), (V (.slice none 0 0)), (V (.slice none 0 0)), (V (.slice none 0 0)), (V (.slice none 0 0)), (V (.int .i64 0)), (V (.int .i64 0)), (V (.int .i64 0)), (V (.int .i64 0)), (V (.int .i64 0)), (V (.int .i64 0)), (V (.int .i64 0)), (V (.int .i64 0)), (V (.int .i64 0)), (V (.int .i64 0)), (V (.int .i64 0)), (V (.int .i64 0)), (V (.int .i64 0)), (V (.int .i64 0)), (V (.int .i64 0)), (V (.int .i64 0))]
def zc_api_Value : List AV := [(V (.int .i64 0)), (V (.int .i64 0)), (V (.string ⟨#[]⟩))]
def pl_api_Item : List (Nat × Nat) := [(0, 1), (1, 3), (4, 1)]
def pl_api_Value : List (Nat × Nat) := [(0, 1), (1, 1), (2, 1)]
noncomputable def plenumref10_Same_c : Code := (Tryd.f44.body).getD .skip
def plenumref10_Same_h : Hint := (.two .n (.join [] (.two .n (.one (.lp [] [2, 3, 5] [4] (.two (.two .n (.two .n .n)) (.two (.one (.two .n (.two (.two .n .n) .n))) .n))))) (.two .n .n)))
noncomputable def plenumref10_Same_env (m : Nat) : Env := [(22, .tell (plenumref09_Same_t m))]
noncomputable abbrev plenumref10_Same_fin : KO (AV × List AObj) := tellFK Tryd.prog [.tmp 4]
noncomputable def plenumref10_Same_r1 (m : Nat) (s : ASt) : RO := joinW Tryd.prog GG (plenumref10_Same_env m) m ⟨31, []⟩ (cdR (cdR plenumref10_Same_c)) plenumref10_Same_h.r.r s (plenumref10_Same_fin)
noncomputable def plenumref10_Same_b1 (m : Nat) (s : ASt) (kc : ASt → RO) (kx : KO (AV × List AObj)) : RO := bodyW Tryd.prog GG (plenumref10_Same_env m) m ⟨31, []⟩ (cdL (cdL (cdR (cdL (cdR plenumref10_Same_c))))) plenumref10_Same_h.r.l.r.c.c [2, 3, 5] [4] s kc kx
noncomputable def plenumref10_Same (m : Nat) (t0 t1 : AV) : RO := exec Tryd.prog GG (plenumref10_Same_env m) m ⟨31, []⟩ plenumref10_Same_c plenumref10_Same_h ⟨[], argsT 0 [t0, t1]⟩ (plenumref10_Same_fin)
theorem plenumref10_Same_b1_eq (m : Nat) (H : List AObj) (t2 t3 t5 : AV) (kc : ASt → RO) (kx : KO (AV × List AObj)) : plenumref10_Same_b1 m ⟨H, [(2, t2), (3, t3), (5, t5)]⟩ kc kx =
  binE none false false .lss t5 (V (.int .i64 16)) fun t7 =>
  condE t7 (
   fieldE (some (16, 18)) t2 fun t11 =>
   idxPE 16 1 t11 t5 fun t12 =>
   loadE 1 H t12 fun t13 =>
   fieldE (some (16, 18)) t3 fun t15 =>
   idxPE 16 1 t15 t5 fun t16 =>
   loadE 1 H t16 fun t17 =>
   binE none false false .neq t13 t17 fun t18 =>
   condE t18 (
    kx .ret ⟨H, [(4, (V (.bool false)))]⟩) (
    fieldE (some (0, 18)) t2 fun t21 =>
    idxPE 16 1 t21 t5 fun t22 =>
    loadE 1 H t22 fun t23 =>
    fieldE (some (0, 18)) t3 fun t25 =>
    idxPE 16 1 t25 t5 fun t26 =>
    loadE 1 H t26 fun t27 =>
    tellE (plenumref09_Same_t m [(ro H t23), (ro H t27)]) [(ro H t23), (ro H t27)] fun t28 =>
    unE .not t28 fun t29 =>
    condE t29 (
    kx .ret ⟨H, [(4, (V (.bool false)))]⟩) (
    binE none false false .add t5 (V (.int .i64 1)) fun t9 =>
    backE H.length H [(2, t2), (3, t3), (5, t9)] kc))) (
   kx (.exit 0) ⟨H, [(4, .nil)]⟩) := by
  refine (bodyW_eq Tryd.prog GG (plenumref10_Same_env m) m ⟨31, []⟩ (cdL (cdL (cdR (cdL (cdR plenumref10_Same_c))))) plenumref10_Same_h.r.l.r.c.c [2, 3, 5] [4] ⟨H, [(2, t2), (3, t3), (5, t5)]⟩ kc kx).trans ?_
  kernel_rfl
theorem plenumref10_Same_eq (m : Nat) (t0 t1 : AV) : plenumref10_Same m t0 t1 =
  boxE ty_api_Trunk [] t0 fun t2 H1 =>
  boxE ty_api_Trunk H1 t1 fun t3 H2 =>
  iterC m (plenumref10_Same_b1 m) ⟨H2, [(2, t2), (3, t3), (5, (V (.int .i64 0)))]⟩ (blockX 0 (seqX (fun s => plenumref10_Same_r1 m ⟨s.H, []⟩) (plenumref10_Same_fin))) := by
  refine (tellX Tryd.prog GG (plenumref10_Same_env m) m ⟨31, []⟩ plenumref10_Same_c plenumref10_Same_h ⟨[], argsT 0 [t0, t1]⟩ [.tmp 4]).trans ?_
  kernel_rfl
noncomputable def plenumref10_Same_t (m : Nat) : List AV → RO | [t0, t1] => plenumref10_Same m t0 t1 | _ => none
theorem plenumref10_Same_ok (m : Nat) : ∀ args X H', plenumref10_Same_t m args = some (X, H') → ACp Tryd.prog GG 44 args X := by
  intro args X H' h
  unfold plenumref10_Same_t at h
  split at h
  · exact tell_okK MIX (by
    intro f e h
    simp only [plenumref10_Same_env, Prod.mk.injEq, List.mem_cons, List.not_mem_nil, or_false] at h
    obtain ⟨rfl, rfl⟩ := h
    · exact plenumref09_Same_ok m) (f := 44) (c := plenumref10_Same_c) Tryd.func44 rfl (by kernel_rfl) _ rfl Tryd.ntmps44 (Nat.le_of_ble_eq_true rfl) plenumref10_Same_h h
  · cases h
noncomputable def plenumref07_Int_c : Code := (Tryd.f45.body).getD .skip
def plenumref07_Int_h : Hint := (.two .n (.two .n .n))
noncomputable def plenumref07_Int_env (m : Nat) : Env := []
noncomputable abbrev plenumref07_Int_fin : KO (AV × List AObj) := tellFK Tryd.prog [.cell 2 43]
noncomputable def plenumref07_Int (m : Nat) (t0 : AV) : RO := exec Tryd.prog GG (plenumref07_Int_env m) m ⟨5, []⟩ plenumref07_Int_c plenumref07_Int_h ⟨[], argsT 0 [t0]⟩ (plenumref07_Int_fin)
theorem plenumref07_Int_eq (m : Nat) (t0 : AV) : plenumref07_Int m t0 =
  allocE (some zc_api_Value) ty_api_Value [] fun t2 H1 =>
  buildE (some pl_api_Value) (some zc_api_Value) [(0, (V (.int .i64 2))), (1, t0)] fun t4 =>
  storeE 5 H1 t2 t4 fun H2 =>
  loadE 5 H2 t2 fun t9000 =>
  tellK H2 (ro H2 t9000) := by
  refine (tellX Tryd.prog GG (plenumref07_Int_env m) m ⟨5, []⟩ plenumref07_Int_c plenumref07_Int_h ⟨[], argsT 0 [t0]⟩ [.cell 2 43]).trans ?_
  kernel_rfl
noncomputable def plenumref07_Int_t (m : Nat) : List AV → RO | [t0] => plenumref07_Int m t0 | _ => none
theorem plenumref07_Int_ok (m : Nat) : ∀ args X H', plenumref07_Int_t m args = some (X, H') → ACp Tryd.prog GG 45 args X := by
  intro args X H' h
  unfold plenumref07_Int_t at h
  split at h
  · exact tell_okK MIX (by intro f e h; cases h) (f := 45) (c := plenumref07_Int_c) Tryd.func45 rfl (by kernel_rfl) _ rfl Tryd.ntmps45 (Nat.le_of_ble_eq_true rfl) plenumref07_Int_h h
  · cases h
end Go.Proofs.YtoeajbhlkccekaaDoor

namespace Go.Proofs.YtoeajbhlkccekaaDoor
attribute [go_sem] Nat.zero_add Nat.add_zero Nat.mul_one Int.toNat_natCast Int.natCast_zero Int.cast_ofNat_Int or_false false_or or_true true_or Nat.sub_zero Int.natCast_nonneg Int.toNat_zero Bool.true_and Bool.and_true Bool.false_and Bool.and_false Bool.true_or Bool.or_true Bool.false_or Bool.or_false Bool.not_true Bool.not_false Bool.not_not true_and and_true false_and and_false not_true_eq_false not_false_eq_true eq_self decide_true decide_false ne_eq implies_true forall_const true_implies false_implies Bool.true_eq_false Bool.false_eq_true List.map_cons List.map_nil List.all_cons List.all_nil List.length_cons List.length_nil List.length_map List.length_append List.nil_append List.cons_append List.set_cons_zero List.set_cons_succ List.set_nil List.drop_zero List.drop_succ_cons List.drop_nil List.take_zero List.take_succ_cons List.take_nil Option.map_some Option.map_none Option.isSome_some List.all_append List.all_map Function.comp_def decide_eq_true_eq Bool.and_eq_true beq_self_eq_true or_self and_self ite_true ite_false Nat.le_refl Bool.not_eq_true decide_not Bool.not_eq_true' decide_eq_false_iff_not Bool.not_eq_false Bool.or_eq_true if_true if_false ite_self u_roF u_cvF u_cvC u_ceT u_ceK u_appS
attribute [go_sem_proc] Nat.reduceAdd Nat.reduceSub Nat.reduceMul Nat.reduceLeDiff Nat.reduceLT Int.reduceEq Int.reduceNe Int.reduceLT Int.reduceLE Int.reduceAdd Int.reduceSub Int.reduceMul Int.reduceNeg Int.reduceToNat reduceCtorEq Nat.reduceEqDiff Nat.reduceBEq Nat.reduceGT
attribute [go_sem_proc ↓] reduceIte
end Go.Proofs.YtoeajbhlkccekaaDoor

namespace Go.Proofs.YtoeajbhlkccekaaDoor
open Go.RowKit
set_option maxRecDepth 100000
theorem key_uniq {l : List Item} (h : SortedK l) {y z : Item} (hy : y ∈ l) (hz : z ∈ l) (e : y.key = z.key) : y = z := by
  obtain ⟨i, hi, rfl⟩ := List.mem_iff_getElem.1 hy
  obtain ⟨j, hj, rfl⟩ := List.mem_iff_getElem.1 hz
  rcases Nat.lt_trichotomy i j with h1 | h1 | h1
  · have := sorted_lt h h1 hj; rw [e, less_irrefl] at this; cases this
  · subst h1; rfl
  · have := sorted_lt h h1 hi; rw [e, less_irrefl] at this; cases this
theorem getK_mem {l : List Item} (hlf : leafB l = true) (k : Bytes) (y : Item) : getK l k = some y ↔ y ∈ l ∧ y.key = k := by
  have hs := ((leafB_iff l).1 hlf).2.2
  constructor
  · intro h
    cases ht : thereK l k with
    | false => rw [getK_none ht] at h; cases h
    | true =>
      rw [getK_some hlf ht] at h
      obtain rfl := Option.some.inj h
      rw [there_at (there_lt ht)] at ht
      exact ⟨List.getElem_mem _, by simpa using ht⟩
  · rintro ⟨hy, rfl⟩
    have ht : thereK l y.key = true := by
      cases ht : thereK l y.key with
      | true => rfl
      | false =>
        have := atK_sorted hs y.key
        rw [ht, if_neg (by simp)] at this
        unfold atK at this
        rw [List.findIdx?_eq_none_iff] at this
        have := this y hy
        simp at this
    rw [getK_some hlf ht]
    congr 1
    refine key_uniq hs (List.getElem_mem _) hy ?_
    have h2 := ht
    rw [there_at (there_lt ht)] at h2
    simpa using h2
theorem mem_withK {l : List Item} {x y : Item} : y ∈ withK l x ↔ (y ∈ l ∧ less y.key x.key = true) ∨ y = x ∨ (y ∈ l ∧ less x.key y.key = true) := by
  simp [withK]
theorem withK_len {l : List Item} (h : SortedK l) (x : Item) : (withK l x).length = if thereK l x.key then l.length else l.length + 1 := by
  rw [withK_sorted h]
  have := posK_le l x.key
  cases ht : thereK l x.key with
  | false => simp; omega
  | true => have := there_lt ht; simp; omega
theorem withoutK_len {l : List Item} (h : SortedK l) (k : Bytes) (ht : thereK l k = true) : (withoutK l k).length + 1 = l.length := by
  rw [withoutK_sorted h k ht]
  have := there_lt ht
  simp; omega
theorem withK_leaf {l : List Item} {x : Item} (hlf : leafB l = true) (hx : itemB x = true) (hl : (withK l x).length ≤ 64) : leafB (withK l x) = true := by
  obtain ⟨_, hit, hs⟩ := (leafB_iff l).1 hlf
  refine (leafB_iff _).2 ⟨hl, ?_, ?_⟩
  · intro y hy
    rcases mem_withK.1 hy with ⟨h, _⟩ | rfl | ⟨h, _⟩
    · exact hit y h
    · exact hx
    · exact hit y h
  · unfold SortedK withK
    rw [List.pairwise_append, List.pairwise_append]
    refine ⟨⟨List.Pairwise.filter _ hs, List.pairwise_singleton _ _, ?_⟩, List.Pairwise.filter _ hs, ?_⟩
    · intro a ha b hb
      simp at ha hb
      subst hb; exact ha.2
    · intro a ha b hb
      simp at ha hb
      rcases ha with ha | rfl
      · exact less_trans _ _ _ ha.2 hb.2
      · exact hb.2
theorem withoutK_leaf {l : List Item} (k : Bytes) (hlf : leafB l = true) : leafB (withoutK l k) = true := by
  obtain ⟨hl, hit, hs⟩ := (leafB_iff l).1 hlf
  refine (leafB_iff _).2 ⟨Nat.le_trans (List.length_filter_le _ _) hl, fun x hx => hit x (List.mem_filter.1 hx).1, List.Pairwise.filter _ hs⟩
theorem get_ext {l r : List Item} {k : Bytes} (hl : leafB l = true) (hr : leafB r = true) (h : ∀ y, y.key = k → (y ∈ l ↔ y ∈ r)) : getK l k = getK r k := by
  apply Option.ext
  intro y
  rw [getK_mem hl, getK_mem hr]
  constructor
  · rintro ⟨h1, h2⟩; exact ⟨(h y h2).1 h1, h2⟩
  · rintro ⟨h1, h2⟩; exact ⟨(h y h2).2 h1, h2⟩
theorem put_kept {l : List Item} {x : Item} (h : (putK l x).2 = 0) : (putK l x).1 = withK l x ∧ leafB l = true ∧ itemB x = true ∧ leafB (withK l x) = true ∧ (withK l x).length ≤ 64 ∧ getK (withK l x) x.key = some x ∧ ∀ k, k ≠ x.key → getK (withK l x) k = getK l k := by
  unfold putK at h ⊢
  cases hlf : leafB l with
  | false => rw [hlf] at h; simp at h
  | true =>
    cases hx : itemB x with
    | false => rw [hlf, hx] at h; simp at h
    | true =>
      rw [hlf, hx] at h
      have hl64 := ((leafB_iff l).1 hlf).1
      have hs := ((leafB_iff l).1 hlf).2.2
      cases hc : (!thereK l x.key && l.length == 64) with
      | true => rw [hc] at h; simp at h
      | false =>
        have hlen : (withK l x).length ≤ 64 := by
          rw [withK_len hs]
          cases ht : thereK l x.key with
          | true => simpa using hl64
          | false => rw [ht] at hc; simp at hc; simp; omega
        have hwl := withK_leaf hlf hx hlen
        refine ⟨by simp, rfl, rfl, hwl, hlen, (getK_mem hwl _ _).2 ⟨mem_withK.2 (.inr (.inl rfl)), rfl⟩, fun k hk => get_ext hwl hlf fun y hy => ?_⟩
        rw [mem_withK]
        constructor
        · rintro (⟨h, _⟩ | rfl | ⟨h, _⟩)
          · exact h
          · exact absurd hy.symm hk
          · exact h
        · intro hyl
          cases h1 : less y.key x.key with
          | true => exact .inl ⟨hyl, rfl⟩
          | false =>
            cases h2 : less x.key y.key with
            | true => exact .inr (.inr ⟨hyl, rfl⟩)
            | false => exact absurd ((less_tri _ _ h1 h2).symm.trans hy) (fun h => hk h.symm)
theorem del_kept {l : List Item} {q : Bytes} (h : (delK l q).2 = 0) : (delK l q).1 = withoutK l q ∧ leafB l = true ∧ leafB (withoutK l q) = true ∧ (withoutK l q).length + 1 = l.length ∧ getK (withoutK l q) q = none ∧ ∀ k, k ≠ q → getK (withoutK l q) k = getK l k := by
  unfold delK at h ⊢
  cases hlf : leafB l with
  | false => rw [hlf] at h; simp at h
  | true =>
    rw [hlf] at h
    have hs := ((leafB_iff l).1 hlf).2.2
    cases ht : thereK l q with
    | false => rw [ht] at h; simp at h
    | true =>
      have hwl := withoutK_leaf q hlf
      refine ⟨by simp, rfl, hwl, withoutK_len hs q ht, ?_, fun k hk => get_ext hwl hlf fun y hy => ?_⟩
      · cases hg : getK (withoutK l q) q with
        | none => rfl
        | some y =>
          obtain ⟨h1, h2⟩ := (getK_mem hwl _ _).1 hg
          have := (List.mem_filter.1 h1).2
          simp [h2] at this
      · unfold withoutK
        rw [List.mem_filter]
        constructor
        · exact fun h => h.1
        · intro h1; refine ⟨h1, ?_⟩; rw [hy]; simpa using hk
end Go.Proofs.YtoeajbhlkccekaaDoor

namespace Go.Proofs.YtoeajbhlkccekaaDoor
open Go.RowKit
set_option maxRecDepth 20000
def rfitB (b ver : Int) (x : Item) : Bool := keyB x.key && fitB b ver x
theorem fits_r (b : Int) (l : List Item) (ver : Int) : fitsB b l ver = (l.all (rfitB b ver) && leafB l && decide (0 ≤ ver) && decide (ver ≤ 2147483647)) := by
  cases hl : leafB l with
  | false => simp [fitsB, hl]
  | true =>
    have hk : ∀ x ∈ l, keyB x.key = true := fun x hx => item_key (((leafB_iff l).1 hl).2.1 x hx)
    have : l.all (rfitB b ver) = l.all (fitB b ver) := by
      rw [Bool.eq_iff_iff]
      simp only [List.all_eq_true, rfitB, Bool.and_eq_true]
      exact ⟨fun h x hx => (h x hx).2, fun h x hx => ⟨hk x hx, h x hx⟩⟩
    rw [fitsB, hl, this]
    cases l.all (fitB b ver) <;> simp
theorem natInt (k : Nat) : ((k : Int)).toNat = k := Int.toNat_natCast k
section
variable {R : Type} {t : Tr} {i : Nat} {K1 : AV → Option R}
theorem u_tl (h : i < 16) : nthE (tC t) i K1 = K1 (lA (t.leaf i)) := by
  unfold nthE tC
  rw [List.getElem?_append_left (by rw [leC_len]; exact h)]
  simp [leC, List.getElem?_map, List.getElem?_range h]
theorem u_tv (h : 16 ≤ i) (h2 : i < 32) : nthE (tC t) i K1 = K1 (nA (t.ver (i - 16))) := by
  unfold nthE tC
  rw [List.getElem?_append_right (by rw [leC_len]; exact h), leC_len]
  simp [veC, List.getElem?_map, List.getElem?_range (show i - 16 < 16 by omega)]
end
theorem Tr.Ok.key {t : Tr} (h : t.Ok) (i : Nat) : ∀ x ∈ t.leaf i, x.key.length ≤ maxLen := fun x hx => ((h i).2.1 x hx).1
theorem fits_key {t : Tr} (h : mayT t = true) {b : Nat} (hb : b < 16) {y : Item} (hy : y ∈ t.leaf b) : itemB y = true ∧ bucketK y.key = b ∧ y.ver ≤ t.ver b := by
  have h1 := List.all_eq_true.1 h b (List.mem_range.2 hb)
  rw [fits_r] at h1
  simp only [Bool.and_eq_true] at h1
  have h2 := List.all_eq_true.1 h1.1.1.1 y hy
  have h3 := ((leafB_iff _).1 h1.1.1.2).2.1 y hy
  simp only [rfitB, fitB, Bool.and_eq_true, decide_eq_true_eq] at h2
  exact ⟨h3, h2.2.1, h2.2.2⟩
theorem fits_leaf {t : Tr} (h : mayT t = true) {b : Nat} (hb : b < 16) : leafB (t.leaf b) = true := by
  have h1 := List.all_eq_true.1 h b (List.mem_range.2 hb)
  rw [fits_r] at h1
  simp only [Bool.and_eq_true] at h1
  exact h1.1.1.2
theorem getT_mem {t : Tr} (h : mayT t = true) {k : Bytes} {y : Item} : getT t k = some y ↔ ∃ b, b < 16 ∧ y ∈ t.leaf b ∧ y.key = k := by
  unfold getT
  rw [h, Bool.and_true]
  constructor
  · intro q
    split at q
    · rename_i hk
      obtain ⟨h1, h2⟩ := (getK_mem (fits_leaf h (bk_lt hk)) k y).1 q
      exact ⟨bk k, bk_lt hk, h1, h2⟩
    · cases q
  · rintro ⟨b, hb, h1, rfl⟩
    obtain ⟨h2, h3, _⟩ := fits_key h hb h1
    have hk := itemB_key h2
    rw [if_pos hk]
    have : bk y.key = b := by unfold bk; rw [h3]; try rfl
    rw [this]
    exact (getK_mem (fits_leaf h hb) _ y).2 ⟨h1, rfl⟩
theorem zcI_len : zc_api_Item.length = 5 := _root_.id rfl
theorem tC_all1 {t : Tr} {n : Nat} {H : List AObj} : ((tC t).all fun x => lt1 n (ro1 H x)) = true := tC_all (fun _ => rfl) fun _ => rfl
theorem fl_all5 {l : List Item} : (l.all fun x => decide ((cellsOf (flA Item.cells x)).length = 5)) = true := List.all_eq_true.2 fun _ _ => rfl
theorem fl_allA {l : List Item} {n : Nat} : (l.all fun x => ltA n (flA Item.cells x)) = true := List.all_eq_true.2 fun _ _ => rfl
theorem zcT_eq : zc_api_Trunk = zC := _root_.id rfl
theorem bucketK_nat {k : Bytes} (h : keyB k = true) : bucketK k = (bk k : Nat) := by have := bucketK_in h; unfold bk; omega
theorem putK_full {l : List Item} {x : Item} (hl : leafB l = true) (hx : itemB x = true) (hn : getK l x.key = none) (h : l.length = 64) : putK l x = ([], 5) := by
  have ht : thereK l x.key = false := by
    cases ht : thereK l x.key with
    | false => rfl
    | true => rw [getK_some hl ht] at hn; cases hn
  simp [putK, hl, hx, ht, h]
theorem putK_fits {l : List Item} {x : Item} (hl : leafB l = true) (hx : itemB x = true) (h : getK l x.key ≠ none ∨ l.length ≠ 64) : putK l x = (withK l x, 0) := by
  cases ht : thereK l x.key with
  | true => simp [putK, hl, hx, ht]
  | false =>
    have : l.length ≠ 64 := by
      rcases h with h | h
      · exact absurd (getK_none ht) h
      · exact h
    simp [putK, hl, hx, ht, this]
def sameT (a b : Tr) : Bool := (List.range 16).all fun i => decide (a.ver i = b.ver i) && decide (a.leaf i = b.leaf i)
theorem sameT_iff {a b : Tr} : sameT a b = true ↔ a.Eq16 b := by
  unfold sameT
  rw [List.all_eq_true]
  constructor
  · intro h i hi
    have := h i (List.mem_range.2 hi)
    simp only [Bool.and_eq_true, decide_eq_true_eq] at this
    exact ⟨this.2, this.1⟩
  · intro h i hi
    have := h i (List.mem_range.1 hi)
    simp only [Bool.and_eq_true, decide_eq_true_eq]
    exact ⟨this.2, this.1⟩
theorem sameT_no {a b : Tr} {i : Nat} (hi : i < 16) (h : ¬ (a.ver i = b.ver i ∧ a.leaf i = b.leaf i)) : sameT a b = false := by
  cases e : sameT a b with
  | false => rfl
  | true =>
    have := sameT_iff.1 e i hi
    exact absurd ⟨this.2, this.1⟩ h
theorem rsame_s (m : Nat) (a b : Tr) (hm : 16 < m) (ha : ∀ i, (a.leaf i).length ≤ 34359738368) (hb : ∀ i, (b.leaf i).length ≤ 34359738368) : plenumref10_Same m (tA a) (tA b) = some (bA (sameT a b), []) := by
  rw [plenumref10_Same_eq]
  simp (config := {maxSteps := 4000000, implicitDefEqProofs := false}) (disch := omega) only [go_sem, tC_len, tC_sure, tC_ltA, tC_lt1, tC_ro, tC_take, tC_all1, zcT_eq, zcI_len, zC_len, zC_ltA, zC_lt1, zC_sure, zC_ro, zC_take, set_tl, set_tv, sc_tt, sc_zt, sc_tz, sc_zz, add16, tA_def, lA_def, natInt, u_tl, u_tv]
  refine iter_ind (ι := {k : Nat // k ≤ 16 ∧ (List.range k).all (fun i => decide (a.ver i = b.ver i) && decide (a.leaf i = b.leaf i)) = true}) (fun k => ⟨[⟨1, ty_api_Trunk, 0, tC a⟩, ⟨1, ty_api_Trunk, 0, tC b⟩], [(2, OP 0 0), (3, OP 1 0), (5, nA k.1)]⟩) (fun k => 16 - k.1) (fun _ => some (bA (sameT a b), [])) ?_ ⟨0, Nat.zero_le _, rfl⟩ (by dsimp only; omega)
  rintro ⟨k, hk, hall⟩ kc hkc
  dsimp only at hkc ⊢
  rw [plenumref10_Same_b1_eq]
  by_cases hlt : k < 16
  · have hlt' : (k : Int) < 16 := by omega
    have hS := plenumref09_Same_e m (a.leaf k) (b.leaf k) ⟨ha k, hb k⟩
    rw [lA_def, lA_def] at hS
    by_cases hv : a.ver k = b.ver k
    · by_cases hl : a.leaf k = b.leaf k
      · have step := hkc ⟨k + 1, by omega, by rw [List.range_succ, List.all_append, hall]; simp [hv, hl]⟩ (by dsimp only; omega)
        simp only [hl] at hS
        simp (config := {maxSteps := 4000000, implicitDefEqProofs := false}) (disch := omega) only [go_sem, tC_len, tC_sure, tC_ltA, tC_lt1, tC_ro, tC_take, tC_all1, zcT_eq, zcI_len, zC_len, zC_ltA, zC_lt1, zC_sure, zC_ro, zC_take, set_tl, set_tv, sc_tt, sc_zt, sc_tz, sc_zz, add16, tA_def, lA_def, natInt, u_tl, u_tv, hlt', hS, hv, hl, w_i64]
        exact step
      · simp only [hl] at hS
        simp (config := {maxSteps := 4000000, implicitDefEqProofs := false}) (disch := omega) only [go_sem, tC_len, tC_sure, tC_ltA, tC_lt1, tC_ro, tC_take, tC_all1, zcT_eq, zcI_len, zC_len, zC_ltA, zC_lt1, zC_sure, zC_ro, zC_take, set_tl, set_tv, sc_tt, sc_zt, sc_tz, sc_zz, add16, tA_def, lA_def, natInt, u_tl, u_tv, hlt', hS, hv, hl, w_i64]
        rw [sameT_no hlt fun q => hl q.2]
        try rfl
    · simp (config := {maxSteps := 4000000, implicitDefEqProofs := false}) (disch := omega) only [go_sem, tC_len, tC_sure, tC_ltA, tC_lt1, tC_ro, tC_take, tC_all1, zcT_eq, zcI_len, zC_len, zC_ltA, zC_lt1, zC_sure, zC_ro, zC_take, set_tl, set_tv, sc_tt, sc_zt, sc_tz, sc_zz, add16, tA_def, lA_def, natInt, u_tl, u_tv, hlt', hv]
      rw [sameT_no hlt fun q => hv q.1]
      try rfl
  · have hlt' : ¬ (k : Int) < 16 := by omega
    have : k = 16 := by omega
    subst this
    simp (config := {maxSteps := 4000000, implicitDefEqProofs := false}) (disch := omega) only [go_sem, hlt']
    rw [show sameT a b = true from hall]
    rfl
def allTo (t : Tr) (k : Nat) : List Item := (List.range k).flatMap t.leaf
theorem allTo_succ (t : Tr) (k : Nat) : allTo t (k + 1) = allTo t k ++ t.leaf k := by simp [allTo, List.range_succ]
end Go.Proofs.YtoeajbhlkccekaaDoor

namespace Go.Proofs.YtoeajbhlkccekaaDoor
open Go.RowKit
set_option maxRecDepth 20000
def xa : Item := ⟨[97], 2, 1, [], 5⟩
def T1 : Tr := (Tr.zero.setL 1 [xa]).setV 1 5
def T2 : Tr := (T1.setL 1 []).setV 1 9
theorem nilOk : ([] : List Item).length ≤ 1000000 ∧ (∀ x ∈ ([] : List Item), x.key.length ≤ maxLen ∧ NumOk x) ∧ weightP [] ≤ 1000000000 := ⟨Nat.zero_le _, (by intro x hx; cases hx), Nat.le_of_ble_eq_true (by kernel_rfl)⟩
theorem ok_zero : Tr.zero.Ok := fun i => nilOk
theorem rint_s (m : Nat) (i : Int) : plenumref07_Int m (nA i) = some (.agg [nA 2, nA i, sA []], []) := by
  rw [plenumref07_Int_eq]
  rfl
theorem keyB_max {k : Bytes} (h : k.length ≤ 60) : k.length ≤ maxLen := Nat.le_trans h (by decide)
theorem weight_le {l : List Item} (hl : leafB l = true) (hn : ∀ x ∈ l, NumOk x) (hk : ∀ x ∈ l, x.key.length ≤ 60) : weight l ≤ l.length * 160 := by
  have hv := ((leafB_iff l).1 hl).2.1
  clear hl
  unfold weight
  induction l with
  | nil => exact Nat.zero_le _
  | cons x r ih =>
    have h1 := ih (fun y hy => hn y (List.mem_cons_of_mem _ hy)) (fun y hy => hk y (List.mem_cons_of_mem _ hy)) (fun y hy => hv y (List.mem_cons_of_mem _ hy))
    have h2 := hk x (List.mem_cons_self ..)
    have h3 := hn x (List.mem_cons_self ..)
    have h4 := hv x (List.mem_cons_self ..)
    have h5 : valB x.kind x.i x.s = true := by
      unfold itemB at h4
      simp only [Bool.and_eq_true] at h4
      exact h4.1.1.1.2
    have h6 := encV_len h3.1 h3.2 h5
    simp only [List.map_cons, List.sum_cons, List.length_cons]
    omega
def Tr.In (t : Tr) : Prop := ∀ i, (t.leaf i).length ≤ maxLen ∧ (∀ x ∈ t.leaf i, NumOk x) ∧ (16 ≤ i → t.leaf i = [])
theorem few_ok {t : Tr} (h : t.In) : (fewT t 16).Ok := by
  intro i
  by_cases hi : i < 16
  · have e : (fewT t 16).leaf i = fewL (t.leaf i) := by simp [fewT, hi]
    have hlen : (fewL (t.leaf i)).length ≤ 66 := by simp [fewL]; omega
    have hx : ∀ x ∈ fewL (t.leaf i), x.key.length ≤ 60 ∧ NumOk x := by
      intro x hx
      simp only [fewL, List.mem_map] at hx
      obtain ⟨y, hy, rfl⟩ := hx
      exact ⟨by simp [Item.one]; omega, (h i).2.1 y (List.mem_of_mem_take hy)⟩
    rw [e]
    refine ⟨by omega, fun x hq => ⟨keyB_max (hx x hq).1, (hx x hq).2⟩, ?_⟩
    unfold weightP
    split
    · rename_i hl
      have := weight_le hl (fun x hq => (hx x hq).2) (fun x hq => (hx x hq).1)
      omega
    · omega
  · have e : (fewT t 16).leaf i = [] := by simp only [fewT, hi, if_false]; exact (h i).2.2 (by omega)
    rw [e]; exact nilOk
theorem Tr.In.len {t : Tr} (h : t.In) : ∀ i, (t.leaf i).length ≤ maxLen := fun i => (h i).1
end Go.Proofs.YtoeajbhlkccekaaDoor

namespace Go.Proofs.YtoeajbhlkccekaaDoor
open Go.RowKit
set_option maxRecDepth 20000
structure TInv (t : Tr) : Prop where
  may : mayT t = true
  num : ∀ i, ∀ x ∈ t.leaf i, NumOk x
  out : ∀ i, 16 ≤ i → t.leaf i = []
theorem key24 {k : Bytes} (h : keyB k = true) : k.length ≤ 24 := by
  unfold keyB patB at h
  simp only [Bool.and_eq_true, decide_eq_true_eq] at h
  exact h.2.1
theorem TInv.ok {t : Tr} (h : TInv t) : t.Ok := by
  intro i
  by_cases hi : i < 16
  · have hl := fits_leaf h.may hi
    have hk : ∀ x ∈ t.leaf i, x.key.length ≤ 24 := fun x hx => key24 (itemB_key (fits_key h.may hi hx).1)
    have h64 := ((leafB_iff _).1 hl).1
    refine ⟨by omega, fun x hx => ⟨Nat.le_trans (hk x hx) (by decide), h.num i x hx⟩, ?_⟩
    have := weight_le hl (h.num i) fun x hx => Nat.le_trans (hk x hx) (by decide)
    unfold weightP
    rw [if_pos hl]; omega
  · rw [h.out i (by omega)]; exact nilOk
theorem few_inv {t : Tr} (h : t.In) (hm : mayT (fewT t 16) = true) : TInv (fewT t 16) := by
  refine ⟨hm, fun i x hx => ((few_ok h i).2.1 x hx).2, fun i hi => ?_⟩
  have : ¬ i < 16 := by omega
  simp only [fewT, this, if_false]
  exact (h i).2.2 hi
theorem filter_one {p : Nat → Bool} {b : Nat} (h : ∀ i, p i = true → i = b) : ∀ n, ((List.range n).filter p).length ≤ 1 ∧ (b ≥ n → (List.range n).filter p = [])
  | 0 => ⟨Nat.zero_le _, fun _ => rfl⟩
  | n + 1 => by
    obtain ⟨h1, h2⟩ := filter_one h n
    rw [List.range_succ, List.filter_append]
    by_cases hp : p n = true
    · have hb := h n hp
      rw [h2 (by omega)]
      simp [hp]
      omega
    · simp [hp]
      refine ⟨h1, fun hb a ha => ?_⟩
      cases hpa : p a with
      | false => rfl
      | true => have := h a hpa; omega
theorem chg_inv {t : Tr} (h : TInv t) {b : Nat} (hb : b < 16) {l : List Item} {v : Int} (hl : leafB l = true) (hv0 : 0 ≤ v) (hv1 : v ≤ 2147483647) (hf : ∀ x ∈ l, bucketK x.key = b ∧ x.ver ≤ v) (hn : ∀ x ∈ l, NumOk x) :
    TInv ((t.setL b l).setV b v) ∧ (unlikeL t ((t.setL b l).setV b v) 16).length ≤ 1 ∧ ∀ k, (bk k = b → getK l k = getK (t.leaf b) k) → getT ((t.setL b l).setV b v) k = getT t k := by
  have hleaf : ∀ i, ((t.setL b l).setV b v).leaf i = if i = b then l else t.leaf i := fun i => rfl
  have hver : ∀ i, ((t.setL b l).setV b v).ver i = if i = b then v else t.ver i := fun i => rfl
  have hm : mayT ((t.setL b l).setV b v) = true := by
    unfold mayT
    rw [List.all_eq_true]
    intro i hi
    have hi := List.mem_range.1 hi
    rw [hleaf, hver]
    by_cases e : i = b
    · subst e
      rw [if_pos rfl, if_pos rfl]
      unfold fitsB
      rw [hl, decide_eq_true hv0, decide_eq_true hv1]
      simp only [Bool.true_and, List.all_eq_true]
      intro x hx
      have := hf x hx
      unfold fitB
      rw [decide_eq_true this.1, decide_eq_true this.2]; rfl
    · rw [if_neg e, if_neg e]
      exact List.all_eq_true.1 h.may i (List.mem_range.2 hi)
  refine ⟨⟨hm, fun i x hx => ?_, fun i hi => ?_⟩, (filter_one (b := b) (fun i hi => ?_) 16).1, fun k hk => ?_⟩
  · rw [hleaf] at hx
    split at hx
    · exact hn x hx
    · exact h.num i x hx
  · rw [hleaf, if_neg (by omega)]; exact h.out i hi
  · rcases Decidable.em (i = b) with e | e
    · exact e
    · unfold unlikeAt at hi
      rw [hleaf, hver, if_neg e, if_neg e] at hi
      simp at hi
  · unfold getT
    rw [hm, h.may]
    cases hkb : keyB k with
    | false => rfl
    | true =>
      simp only [Bool.and_self, if_true]
      rw [hleaf]
      split
      · rename_i e; rw [e, hk e]
      · rfl
theorem put_inv {t : Tr} {x : Item} (h : TInv t) (hx : NumOk x) (he : (putT t x).2 = 0) : TInv (putT t x).1 ∧ (unlikeL t (putT t x).1 16).length ≤ 1 ∧ ∀ k, k ≠ x.key → getT (putT t x).1 k = getT t k := by
  unfold putT at he ⊢
  split at he
  · cases he
  rename_i hi
  rw [if_neg hi]
  split at he
  · cases he
  rename_i hv
  rw [if_neg hv]
  have hib : itemB x = true := by
    cases e : itemB x with
    | true => rfl
    | false => rw [e] at hi; exact absurd rfl hi
  have hk := itemB_key hib
  have hb := bk_lt hk
  have hbe := bucketK_nat hk
  unfold chgT at he ⊢
  split at he
  · rename_i hp
    rw [if_pos hp]
    obtain ⟨e1, e2, _, e4, e5, e6, e7⟩ := put_kept hp
    rw [e1]
    have hv3 : 0 ≤ x.ver ∧ x.ver ≤ 2147483647 := by
      unfold itemB at hib
      simp only [Bool.and_eq_true, decide_eq_true_eq] at hib
      exact ⟨hib.1.2, hib.2⟩
    have hmem : ∀ y ∈ withK (t.leaf (bk x.key)) x, y ∈ t.leaf (bk x.key) ∨ y = x := by
      intro y hy
      rcases mem_withK.1 hy with q | q | q
      · exact .inl q.1
      · exact .inr q
      · exact .inl q.1
    obtain ⟨a1, a2, a3⟩ := chg_inv h hb e4 hv3.1 hv3.2 (fun y hy => by
      rcases hmem y hy with q | q
      · have := fits_key h.may hb q
        exact ⟨this.2.1, by omega⟩
      · subst q; exact ⟨hbe, Int.le_refl _⟩) (fun y hy => by
      rcases hmem y hy with q | q
      · exact h.num _ y q
      · subst q; exact hx)
    exact ⟨a1, a2, fun k hk2 => a3 k fun e => e7 k hk2⟩
  · rename_i hp
    exact absurd he hp
theorem del_inv {t : Tr} {q : Bytes} {v : Int} (h : TInv t) (he : (delT t q v).2 = 0) : TInv (delT t q v).1 ∧ (unlikeL t (delT t q v).1 16).length ≤ 1 ∧ ∀ k, k ≠ q → getT (delT t q v).1 k = getT t k := by
  unfold delT at he ⊢
  split at he
  · cases he
  rename_i hi
  rw [if_neg hi]
  split at he
  · cases he
  rename_i hs
  rw [if_neg hs]
  split at he
  · cases he
  rename_i hv
  rw [if_neg hv]
  simp only [h.may, Bool.not_true, Bool.false_or, Bool.or_eq_true, decide_eq_true_eq, not_or] at hi
  have hk : keyB q = true := getT_key (by cases e : (getT t q).isSome with | true => rfl | false => exact absurd e hs)
  have hb := bk_lt hk
  unfold chgT at he ⊢
  split at he
  · rename_i hp
    rw [if_pos hp]
    obtain ⟨e1, e2, e3, _, _, e7⟩ := del_kept hp
    rw [e1]
    have hmem : ∀ y ∈ withoutK (t.leaf (bk q)) q, y ∈ t.leaf (bk q) := fun y hy => (List.mem_filter.1 hy).1
    obtain ⟨a1, a2, a3⟩ := chg_inv (v := v) h hb e3 (by omega) (by omega) (fun y hy => by
      have := fits_key h.may hb (hmem y hy)
      exact ⟨this.2.1, by omega⟩) (fun y hy => h.num _ y (hmem y hy))
    exact ⟨a1, a2, fun k hk2 => a3 k fun e => e7 k hk2⟩
  · rename_i hp
    exact absurd he hp
theorem TInv.ver {t : Tr} (h : TInv t) {i : Nat} (hi : i < 16) : 0 ≤ t.ver i ∧ t.ver i ≤ 2147483647 := by
  have := List.all_eq_true.1 h.may i (List.mem_range.2 hi)
  unfold fitsB at this
  simp only [Bool.and_eq_true, decide_eq_true_eq] at this
  exact ⟨this.1.1.2, this.1.2⟩
end Go.Proofs.YtoeajbhlkccekaaDoor

namespace Go.Proofs.YtoeajbhlkccekaaDoor
open Go.RowKit
set_option maxRecDepth 20000
abbrev FL (lo : Option Nat) : Fence := { Fence.wide with round := lo }
section
variable {lo : Option Nat} {d : Nat} {P : Program} {G : Gl} {N : FS} {n : Nat}
theorem callsIn_FL {f : FuncId} {args : Array Value} {w : World} {R : Ending → World → Prop} (h : Calls P f args w R) : CallsIn (FL lo) d P f args w R := callsIn_wide.2 h
theorem rowsIn_FL {row : String} {args : Array Value} {w : World} {R : Value → World → Prop} (h : Rows P row args w R) : RowsIn (FL lo) d P row args w R := fun c cs _ =>
  let ⟨v, w', r, s⟩ := h c cs; ⟨v, w', r, stepsIn_wide.2 s⟩
theorem op_in {o : Oper} {a : Act} {w : World} {next : Act → World → Prop} {Q : Exit → Act → World → Prop} (hd : ∀ c, o.op ≠ .defer c) (h : o.wp P a w next Q) : o.wpIn (FL lo) d P a w next Q := by
  refine ⟨fun _ _ => trivial, ?_⟩
  have e : Oper.semAt (FL lo).round a.eval o = execOp a.eval o := by
    cases lo with
    | none => exact Oper.semAt_none _ _
    | some l => exact Oper.semAt_some _ _ _ hd
  rw [e]
  unfold Oper.wp at h
  generalize (execOp a.eval o).run P w = r at h ⊢
  cases r with
  | ok x w' =>
    cases x <;> simp only [Oper.upon, Oper.uponIn] at h ⊢ <;>
      first
        | exact h
        | exact h.elim
        | exact ⟨fun q => (by cases q), (callsIn_FL h).mono fun e w'' he => by cases e <;> exact he⟩
        | exact ⟨fun q => (by cases q), rowsIn_FL h⟩
  | halt x w' => cases x <;> simp only [Oper.upon, Oper.uponIn] at h ⊢ <;> first | exact h | exact h.elim
theorem stepOp_nodef {o : Oper} {s : ASt} {K : AV → List AObj → Prop} (h : stepOp P G o s K) : ∀ c, o.op ≠ .defer c := by
  intro c e
  unfold stepOp at h
  rw [e] at h
  exact h
theorem runOps_in {ops : List Oper} {K : ASt → Prop} {Q : Exit → ASt → Prop} (hK : ∀ s, K s → Q .normal s) {w0 : World} {S0 : SS} {μ0 : List Value} {H0 : List AObj} (hn : n ≤ H0.length) (hl0 : μ0.length = H0.length) : ∀ (l : List Oper) (s : ASt), runOps P G ops l s K → fits N l = true →
    ∀ w S μ a, Rel w S μ s.H → Fr S μ N s.T a → GOk G S → Step n w0 S0 μ0 H0 w S μ s.H → wpListIn (FL lo) d P ops.toArray (Lift N n w0 S0 μ0 H0 Q) l a w
  | [], s, h, _, w, S, μ, a, hr, hf, hg, hs => ⟨s, S, μ, hK s h, hr, hf, hs⟩
  | o :: r, s, h, hfit, w, S, μ, a, hr, hf, hg, hs => by
    have hfit' := hfit
    simp only [fits, List.all_cons, Bool.and_eq_true] at hfit'
    have hd : ∀ i, o.dst = some i → i < N := fun i e => by have := hfit'.1; rw [e] at this; simpa using this
    have hgo : ∀ (hw : Region.wanted o (yielded ops.toArray a.tmps) = true), stepOp P G o s (fun d H => runOps P G ops r (s.set H o.dst d) K) → wpListIn (FL lo) d P ops.toArray (Lift N n w0 S0 μ0 H0 Q) (o :: r) a w := by
      intro hw hstep
      unfold wpListIn
      rw [if_pos hw]
      have hop := stepOp_wp hstep hr hf hg (Lift N n w0 S0 μ0 H0 Q)
      refine op_in (stepOp_nodef hstep) (_root_.Go.Proofs.YtoeajbhlkccekaaDoor.Oper.wp_next hop fun a' w' => ?_)
      rintro ⟨d, u, H', S', μ', hrest, rfl, hrep, hr', hs', _⟩
      have hst := (hf.ext (hs'.toExt hr)).put o.dst hd hrep
      have hn' : n ≤ s.H.length := by
        have := hs.objs
        rcases Nat.lt_or_ge s.H.length n with hlt | hge
        · have hlm : s.H.length < μ0.length := by omega
          obtain ⟨x', hx', _⟩ := hs.objs s.H.length μ0[s.H.length] hlt (List.getElem?_eq_getElem hlm)
          have := (List.getElem?_eq_some_iff.1 hx').1
          rw [hr.len] at this; omega
        · exact hge
      exact runOps_in hK hn hl0 r _ hrest hfit'.2 w' S' μ' _ hr' hst (hg.ext hs'.still) (hs.trans (hs'.less hn'))
    have hno : Region.wanted o (yielded ops.toArray a.tmps) = false → wpListIn (FL lo) d P ops.toArray (Lift N n w0 S0 μ0 H0 Q) r (a.put o.dst undef) w → wpListIn (FL lo) d P ops.toArray (Lift N n w0 S0 μ0 H0 Q) (o :: r) a w := by
      intro hw hrest
      unfold wpListIn
      rw [if_neg (by rw [hw]; exact Bool.false_ne_true)]
      exact ⟨fun _ _ => trivial, hrest⟩
    unfold runOps at h
    split at h
    · rename_i hgd
      exact hgo (by simp [Region.wanted, hgd]) h
    · rename_i j want hgd
      split at h
      · rename_i t ht
        unfold guardA at h
        split at h
        · rename_i b hb
          have hy := yielded_get hf ht hb
          by_cases e : b = want
          · exact hgo (by simp [Region.wanted, hgd, hy, e]) (h.1 e)
          · have hrest := h.2 (by cases b <;> cases want <;> simp_all)
            have hst := hf.put o.dst hd (rep_ud S μ)
            exact hno (by simp [Region.wanted, hgd, hy, e]) (runOps_in hK hn hl0 r _ hrest hfit'.2 w S μ _ hr hst hg hs)
        · rename_i q hb
          have hy := yielded_ud hf ht hb
          have hst := hf.put o.dst hd (rep_ud S μ)
          exact hno (by simp [Region.wanted, hgd, hy]) (runOps_in hK hn hl0 r _ h hfit'.2 w S μ _ hr hst hg hs)
        · exact h.elim
      · exact h.elim
def AWi (lo : Option Nat) (d : Nat) (P : Program) (G : Gl) (N : FS) (n : Nat) (c : Code) (Q : Exit → ASt → Prop) (s : ASt) : Prop :=
  ∀ w S μ a, Rel w S μ s.H → Fr S μ N s.T a → GOk G S → c.wpIn (FL lo) d P (Lift N n w S μ s.H Q) a w
variable {Q : Exit → ASt → Prop} {s : ASt} {H : List AObj} {T T' : Tm}
theorem AWi.mono {c : Code} {Q' : Exit → ASt → Prop} (h : AWi lo d P G N n c Q s) (k : ∀ e s, Q e s → Q' e s) : AWi lo d P G N n c Q' s :=
  fun w S μ a hr hf hg => wpIn_mono (h w S μ a hr hf hg) fun _ _ _ ⟨s', S', μ', hq, r⟩ => ⟨s', S', μ', k _ _ hq, r⟩
theorem AWi.text {c : Code} (h : TEq T T') (k : AWi lo d P G N n c Q ⟨H, T'⟩) : AWi lo d P G N n c Q ⟨H, T⟩ :=
  fun w S μ a hr hf hg => k w S μ a hr ⟨hf.size, hf.nodef, fun i => by rw [← h i]; exact hf.slot i⟩ hg
theorem AWi.forget {c : Code} (h : ∀ i, get T' i = get T i ∨ get T' i = .nil) (k : AWi lo d P G N n c Q ⟨H, T'⟩) : AWi lo d P G N n c Q ⟨H, T⟩ := by
  intro w S μ a hr hf hg
  refine k w S μ a hr ⟨hf.size, hf.nodef, fun i => ?_⟩ hg
  rcases h i with e | e
  · rw [e]; exact hf.slot i
  · rw [e]; exact rep_any _ _ _
theorem AWi.len {c : Code} (h : AWi lo d P G N n c Q s) (hn : n ≤ s.H.length) : AWi lo d P G N n c (fun e s' => Q e s' ∧ n ≤ s'.H.length) s := by
  intro w S μ a hr hf hg
  refine wpIn_mono (h w S μ a hr hf hg) ?_
  rintro e a' w' ⟨s', S', μ', hq, hr', hf', hst⟩
  refine ⟨s', S', μ', ⟨hq, ?_⟩, hr', hf', hst⟩
  rw [← hr'.len]
  cases n with
  | zero => exact Nat.zero_le _
  | succ m =>
    have hm : m < μ.length := by rw [hr.len]; omega
    obtain ⟨x', hx', _⟩ := hst.objs m _ (Nat.lt_succ_self m) (List.getElem?_eq_getElem hm)
    exact (List.getElem?_eq_some_iff.1 hx').1
theorem AWi.post {c : Code} {Q' : Exit → ASt → Prop} (h : AWi lo d P G N n c Q s) (q : ∀ e s', Q e s' → ∃ T2, (∀ i, get T2 i = get s'.T i ∨ get T2 i = .nil) ∧ Q' e ⟨s'.H, T2⟩) : AWi lo d P G N n c Q' s := by
  intro w S μ a hr hf hg
  refine wpIn_mono (h w S μ a hr hf hg) ?_
  rintro e a' w' ⟨s', S', μ', hq, hr', hf', hst⟩
  obtain ⟨T2, ht, q'⟩ := q e s' hq
  refine ⟨⟨s'.H, T2⟩, S', μ', q', hr', ⟨hf'.size, hf'.nodef, fun i => ?_⟩, hst⟩
  rcases ht i with e | e
  · rw [e]; exact hf'.slot i
  · rw [e]; exact rep_any _ _ _
theorem awi_skip (h : Q .normal s) : AWi lo d P G N n .skip Q s := fun w S μ _ hr hf _ => wpIn_skip ⟨s, S, μ, h, hr, hf, Step.refl _ _ _ _ _⟩
theorem awi_ret (h : Q .ret s) : AWi lo d P G N n .ret Q s := fun w S μ _ hr hf _ => wpIn_ret ⟨s, S, μ, h, hr, hf, Step.refl _ _ _ _ _⟩
theorem awi_exit {id : Nat} (h : Q (.exit id) s) : AWi lo d P G N n (.exit id) Q s := fun w S μ _ hr hf _ => wpIn_exit ⟨s, S, μ, h, hr, hf, Step.refl _ _ _ _ _⟩
theorem awi_seq {x y : Code} (h : AWi lo d P G N n x (thenA (AWi lo d P G N n y Q) Q) s) : AWi lo d P G N n (.seq x y) Q s := by
  intro w S μ a hr hf hg
  refine wpIn_seq (wpIn_mono (h w S μ a hr hf hg) ?_)
  rintro e a' w' ⟨s', S', μ', hq, hr', hf', hst⟩
  cases e with
  | normal => exact wpIn_mono (hq w' S' μ' a' hr' hf' (hg.ext hst.still)) fun _ _ _ k => Lift.trans hst k
  | exit id => exact ⟨s', S', μ', hq, hr', hf', hst⟩
  | goto l => exact ⟨s', S', μ', hq, hr', hf', hst⟩
  | ret => exact ⟨s', S', μ', hq, hr', hf', hst⟩
  | panic ch => exact ⟨s', S', μ', hq, hr', hf', hst⟩
  | outgrown => exact ⟨s', S', μ', hq, hr', hf', hst⟩
theorem awi_block {id : Nat} {c : Code} (h : AWi lo d P G N n c (inBlockA id Q) s) : AWi lo d P G N n (.block id c) Q s := by
  intro w S μ a hr hf hg
  refine wpIn_block (wpIn_mono (h w S μ a hr hf hg) ?_)
  rintro e a' w' ⟨s', S', μ', hq, r⟩
  cases e with
  | exit id' =>
    simp only [inBlockA] at hq
    simp only [Exit.inBlock]
    split
    · rename_i e; rw [if_pos e] at hq; exact ⟨s', S', μ', hq, r⟩
    · rename_i e; rw [if_neg e] at hq; exact ⟨s', S', μ', hq, r⟩
  | normal => exact ⟨s', S', μ', hq, r⟩
  | goto l => exact ⟨s', S', μ', hq, r⟩
  | ret => exact ⟨s', S', μ', hq, r⟩
  | panic ch => exact ⟨s', S', μ', hq, r⟩
  | outgrown => exact ⟨s', S', μ', hq, r⟩
theorem awi_cond {c : Operand} {x y : Code} {t : Bool} (hc : ev G s.T c = V (.bool t)) (h1 : t = true → AWi lo d P G N n x Q s) (h2 : t = false → AWi lo d P G N n y Q s) : AWi lo d P G N n (.cond c x y) Q s := by
  intro w S μ a hr hf hg
  have h := hf.ev hg c
  rw [hc] at h
  exact wpIn_cond_split h.1 (fun e => h1 e w S μ a hr hf hg) (fun e => h2 e w S μ a hr hf hg)
theorem awi_region {id : Nat} {ops : List Oper} (hfit : fits N ops = true) (hn : n ≤ s.H.length) (h : runOps P G ops ops s fun s => Q .normal s) : AWi lo d P G N n (.region id ops.toArray false) Q s :=
  fun w S μ a hr hf hg => wpIn_region_lit (runOps_in (K := fun s => Q .normal s) (fun s h => h) hn hr.len ops s h hfit w S μ a hr hf hg (Step.refl _ _ _ _ _))
theorem awi_gh {c : Code} (i off : Nat) (e : TypeId) (z : Nat) (hn : n ≤ s.H.length) (h : AWi lo d P G N n c Q (ghS i off e z s)) : AWi lo d P G N n c Q s := by
  unfold ghS at h
  split at h
  · rename_i j hi
    split at h
    · rename_i ob hj
      split at h
      · rename_i hk hc
        intro w S μ a hr hf hg
        obtain ⟨h1, h2⟩ := hr.nilRow none e z
        have hjl : j < s.H.length := (List.getElem?_eq_some_iff.1 hj).1
        obtain ⟨h3, h4⟩ := h1.recell (off := off) (d' := OW s.H.length 0) (by rw [List.getElem?_append_left hjl]; exact hj) hk hc (fun u hu => ⟨none, 0, 0, none, 0, by rw [← hr.len]; simp, Nat.le_refl _, hu.1, fun _ => ⟨rfl, rfl⟩⟩)
        rw [List.set_append_left _ _ hjl] at h3 h4
        have hx : Ext S μ S (μ ++ [.slice none 0 0]) := ext_add S μ _
        have hf' : Fr S (μ ++ [.slice none 0 0]) N s.T a := ⟨hf.size, hf.nodef, fun k => (hf.slot k).ext hx⟩
        refine wpIn_mono (h w S _ a h3 hf' hg) fun _ _ _ k => Lift.trans ((h2.less hn).trans (h4.less ?_)) k
        simp only [List.length_append]; omega
      · exact h
    · exact h
  · exact h
theorem awi_ghJ {c : Code} (g : Option (Nat × Nat × TypeId × Nat)) (hn : n ≤ s.H.length) (h : AWi lo d P G N n c Q (ghJ g s)) : AWi lo d P G N n c Q s := by
  cases g with
  | none => exact h
  | some q => exact awi_gh _ _ _ _ hn h
def flatC : Code → Bool
  | .skip => true
  | .region _ _ dr => !dr
  | .seq a b => flatC a && flatC b
  | .cond _ x y => flatC x && flatC y
  | .block _ c => flatC c
  | .exit _ => true
  | .ret => true
  | _ => false
theorem exec_in {R : Type} {E : Env} {M : Nat} (hE : EnvOk P G E) (hp : E.any isPan = false) {r : R} : ∀ (c : Code) (h : Hint) (s : ASt) (k : KO R), flatC c = true → n ≤ s.H.length → exec P G E M N c h s k = some r → AWi lo d P G N n c (fun e s' => k e s' = some r) s
  | .skip, h, s, k, hc, hn, hx => awi_skip hx
  | .region id ops draw, h, s, k, hc, hn, hx => by
    cases draw with
    | true => cases hc
    | false =>
      obtain ⟨h1, h2⟩ := whenE_some (show whenE (fits N ops.toList) (match panQ E ops.toList with
        | true => runP P G E ops.toList s (fun s => k .normal s) (fun u s => k (.panic (pch u)) s)
        | false => runE P G E false ops.toList [] ops.toList s fun s => k .normal s) = some r from hx)
      have hq : panQ E ops.toList = false := by unfold panQ; rw [hp]; rfl
      rw [hq] at h2
      have := awi_region (lo := lo) (d := d) (n := n) (id := id) (s := s) (G := G) (Q := fun e s' => e = .normal ∧ Aft (fun s => k .normal s) r s') h1 hn (runOps_mono (fun s q => ⟨rfl, q⟩) (runE_ok hE (TEq.refl s.T) SkOk.nil h2))
      rw [Array.toArray_toList] at this
      refine this.post fun e s' q => ?_
      obtain ⟨rfl, T2, ht, q⟩ := q
      exact ⟨T2, fun i => .inl (ht i).symm, q⟩
  | .seq a b, h, s, k, hc, hn, hx => by
    simp only [flatC, Bool.and_eq_true] at hc
    refine awi_seq (AWi.mono (AWi.len (exec_in hE hp a h.l s _ hc.1 hn hx) hn) fun e s' q => ?_)
    obtain ⟨q, hl⟩ := q
    cases e with
    | normal =>
      have q : exec P G E M N b h.r (ghJ h.gho (joinS h.J s')) k = some r := q
      cases hj : h.J with
      | none => rw [hj] at q; exact awi_ghJ h.gho hl (exec_in hE hp b h.r (ghJ h.gho s') k hc.2 (Nat.le_trans hl (ghJ_len _ _)) q)
      | some L => rw [hj] at q; exact AWi.forget (keepT_get L s'.T) (awi_ghJ (s := ⟨s'.H, keepT L s'.T⟩) h.gho hl (exec_in hE hp b h.r (ghJ h.gho ⟨s'.H, keepT L s'.T⟩) k hc.2 (Nat.le_trans hl (ghJ_len h.gho ⟨s'.H, keepT L s'.T⟩)) q))
    | exit id => exact q
    | goto l => exact q
    | ret => exact q
    | panic ch => exact q
    | outgrown => exact q
  | .cond c x y, h, s, k, hc, hn, hx => by
    simp only [flatC, Bool.and_eq_true] at hc
    have lit : ∀ b, ev G s.T c = V (.bool b) → TEq s.T (litC c b s.T) := by
      intro b hb
      cases c with
      | tmp t => exact TEq.lit (TEq.refl _) hb
      | const v => exact TEq.refl _
      | global g => exact TEq.refl _
      | func f => exact TEq.refl _
    rcases condE_some (show condE (ev G s.T c) _ _ = some r from hx) with ⟨h1, h2⟩ | ⟨h1, h2⟩
    · exact awi_cond h1 (fun _ => AWi.text (lit _ h1) (exec_in hE hp x h.l ⟨s.H, _⟩ k hc.1 hn h2)) (fun q => by cases q)
    · exact awi_cond h1 (fun q => by cases q) (fun _ => AWi.text (lit _ h1) (exec_in hE hp y h.r ⟨s.H, _⟩ k hc.2 hn h2))
  | .block id c, h, s, k, hc, hn, hx => by
    refine awi_block (AWi.mono (exec_in hE hp c h.c s _ hc hn hx) fun e s' q => ?_)
    cases e with
    | normal => exact q
    | exit i =>
      simp only [inBlockA]
      split
      · rename_i e
        have hb : Nat.beq i id = true := Nat.beq_eq.mpr e
        dsimp only at q
        rw [hb] at q; exact q
      · rename_i e
        have hb : Nat.beq i id = false := by
          cases hb : Nat.beq i id with
          | false => rfl
          | true => exact absurd (Nat.eq_of_beq_eq_true hb) e
        dsimp only at q
        rw [hb] at q; exact q
    | goto l => exact q
    | ret => exact q
    | panic ch => exact q
    | outgrown => exact q
  | .loop c, h, s, k, hc, hn, hx => by cases hc
  | .rangeFunc .., h, s, k, hc, hn, hx => by cases hc
  | .scope _, h, s, k, hc, hn, hx => by cases hc
  | .label _, h, s, k, hc, hn, hx => by cases hc
  | .goto _, h, s, k, hc, hn, hx => by cases hc
  | .refuse _, h, s, k, hc, hn, hx => by cases hc
  | .exit id, h, s, k, hc, hn, hx => awi_exit hx
  | .ret, h, s, k, hc, hn, hx => awi_ret hx
end
end Go.Proofs.YtoeajbhlkccekaaDoor

namespace Go.Proofs.YtoeajbhlkccekaaDoor
open Go.RowKit
set_option maxRecDepth 20000
section
variable {P : Program} {G : Gl} {n d : Nat} {w w' w0 : World} {S S' S0 : SS} {μ μ' μ0 : List Value} {H H' H0 : List AObj}
def NoCells (w : World) (l : Nat) : Prop := ∀ cs t p, w.heap[l]? ≠ some (.cells cs t p)
theorem NoCells.of {o : Obj} {l : Nat} (h : w.heap[l]? = some o) (ho : ∀ cs t p, o ≠ .cells cs t p) : NoCells w l := fun cs t p e => by rw [h] at e; cases e; exact ho cs t p rfl
theorem ownB_cells (hr : Rel w S μ H) {b : Nat} (h : ownB μ H b) : ∃ cs t p, w.heap[b]? = some (.cells cs t p) := by
  obtain ⟨i, x, o, hx, ho, hk, hb⟩ := h
  have ho' := hr.objs i x o hx ho
  rcases hr.kinds i x o hx ho with h | h | h | h
  · exact absurd h hk
  · obtain ⟨b', cs, e, hc, _⟩ := ho'.1 h
    subst e; simp [blkOf] at hb; subst hb
    exact ⟨_, _, _, hc⟩
  · obtain ⟨us, A, c, e, _, _, hc, _⟩ := ho'.2.1 h
    subst e
    cases A with
    | none => simp [blkOf] at hb
    | some a =>
      simp only [blkOf] at hb
      split at hb
      · cases hb
      · rename_i h0
        injection hb with hb; subst hb
        rcases (hc h0).2 with ⟨q, _⟩ | ⟨g, cap, cur, hv, _, hh, _⟩
        · cases q
        · injection hv with hv1 _ _
          injection hv1 with hv1
          subst hv1
          exact ⟨_, _, _, hh⟩
  · obtain ⟨A, c, e, _, _, _, hc⟩ := ho'.2.2 h
    subst e
    cases A with
    | none => simp [blkOf] at hb
    | some a =>
      simp only [blkOf] at hb
      split at hb
      · cases hb
      · rename_i h0
        injection hb with hb; subst hb
        obtain ⟨b, cs, q1, q2, _⟩ := hc h0
        injection q1 with q1; subst q1
        exact ⟨_, _, _, q2⟩
theorem NoCells.own {l : Nat} (hl : NoCells w l) (hr : Rel w S μ H) : ¬ ownB μ H l := fun q => by
  obtain ⟨cs, t, p, e⟩ := ownB_cells hr q
  exact hl cs t p e
theorem NoCells.still {l : Nat} (hl : NoCells w l) (hr : Rel w S μ H) {j : Nat} {x : AV} (h : S l j x) : False := by
  obtain ⟨u, hu, _⟩ := hr.still l j x h
  unfold World.cell? at hu
  split at hu
  · rename_i cs t p e; exact hl _ _ _ e
  · cases hu
theorem Rel.touch (hr : Rel w S μ H) (l : Nat) (hl : NoCells w l) (hb : ∀ b, b ≠ l → b < w.heap.size → w'.heap[b]? = w.heap[b]?) : Rel w' S μ H := by
  refine ⟨hr.len, fun b j x hs => ?_, hr.kinds, fun i x o hx ho => ?_, hr.sep, hr.apart⟩
  · obtain ⟨u, hu, h1, h2⟩ := hr.still b j x hs
    refine ⟨u, ?_, h1, h2⟩
    have hne : b ≠ l := fun e => by subst e; exact hl.still hr hs
    have hlt : b < w.heap.size := by
      apply Nat.lt_of_not_le
      intro q
      unfold World.cell? at hu
      rw [Array.getElem?_eq_none q] at hu
      cases hu
    unfold World.cell? at hu ⊢
    rw [hb b hne hlt]; exact hu
  · by_cases hk : o.k = 0
    · exact objRep.zero hk
    · exact (hr.objs i x o hx ho).move (Ext.refl _ _) fun b hbk => hb b (fun e => by subst e; exact hl.own hr ⟨i, x, o, hx, ho, hk, hbk⟩) (hr.own_lt hx ho hk hbk)
theorem Step.touch (h : Step n w0 S0 μ0 H0 w S μ H) {l : Nat} (hl : w0.heap.size ≤ l) (h1 : w'.os = w.os) (h2 : w'.tape = w.tape) (h3 : w'.output = w.output) (h4 : w.heap.size ≤ w'.heap.size) (hb : ∀ b, b ≠ l → b < w.heap.size → w'.heap[b]? = w.heap[b]?) : Step n w0 S0 μ0 H0 w' S μ H :=
  ⟨h1.trans h.os, h2.trans h.tape, h3.trans h.output, Nat.le_trans h.size h4, fun b hb1 hn => (hb b (by omega) (Nat.lt_of_lt_of_le hb1 h.size)).trans (h.block b hb1 hn), h.still, h.objs, h.old, h.mine⟩
theorem Step.keeps (h : Step n w S μ H w' S' μ' H') (hr : Rel w S μ H) {b : Nat} {o : Obj} (hb : w.heap[b]? = some o) (ho : ∀ cs t p, o ≠ .cells cs t p) : w'.heap[b]? = some o :=
  (h.block b (Array.getElem?_eq_some_iff.1 hb).1 ((NoCells.of hb ho).own hr)).trans hb
theorem putObj_other (w : World) (l : Nat) (o : Obj) : ∀ b, b ≠ l → b < w.heap.size → (w.putObj l o).heap[b]? = w.heap[b]? := fun b hb _ => World.putObj_heap_other hb
theorem putObj_size (w : World) (l : Nat) (o : Obj) : (w.putObj l o).heap.size = w.heap.size := by simp [World.putObj]
theorem alloc_other (w : World) (o : Obj) : ∀ b, b ≠ w.heap.size → b < w.heap.size → (w.alloc o).heap[b]? = w.heap[b]? := fun b _ hb => Below.heap_alloc _ _ _ hb
theorem fresh_nc (w : World) : NoCells w w.heap.size := fun cs t p e => by rw [Array.getElem?_eq_none (Nat.le_refl _)] at e; cases e
theorem Step.swap {l : Nat} {A o : Obj} (hr : Rel w S μ H) (h : Step n (w.putObj l A) S μ H w' S' μ' H') (hl : w.heap[l]? = some o) (ho : ∀ cs t p, o ≠ .cells cs t p) : Step n w S μ H (w'.putObj l o) S' μ' H' := by
  have hs := h.size
  rw [putObj_size] at hs
  have hll := (Array.getElem?_eq_some_iff.1 hl).1
  refine ⟨h.os, h.tape, h.output, by rw [putObj_size]; exact hs, fun b hb hn => ?_, h.still, h.objs, fun b j x q hb => h.old b j x q (by rw [putObj_size]; exact hb), fun b q hb => h.mine b q (by rw [putObj_size]; exact hb)⟩
  rcases Nat.decEq b l with e | e
  · rw [World.putObj_heap_other e, h.block b (by rw [putObj_size]; exact hb) hn, World.putObj_heap_other e]
  · subst e
    rw [World.putObj_heap_same (Nat.lt_of_lt_of_le hll hs), hl]
def jumpOf : Exit → Option Code
  | .ret => some .ret
  | .exit id => some (.exit id)
  | _ => none
def setPs : List Nat → List AV → Tm → Tm
  | p :: ps, x :: xs, T => setPs ps xs ((p, x) :: T)
  | _, _, T => T
theorem setPs_nil {xs : List AV} {T : Tm} : setPs [] xs T = T := by cases xs <;> rfl
theorem fr_setPs {N : FS} {df : List Deferred} : ∀ {ps : List Nat} {xs : List AV} {vs : List Value} {T : Tm} {tm : Array Value}, Fr S μ N T ⟨tm, df⟩ → (∀ p ∈ ps, p < N.n) → vs.length = xs.length → (∀ (j : Nat) (x : AV) (v : Value), xs[j]? = some x → vs[j]? = some v → rep S μ x v) →
    Fr S μ N (setPs ps xs T) ⟨(ps.zip vs).foldl (fun tmps p => tmps.setIfInBounds p.1 p.2) tm, df⟩
  | [], xs, vs, T, tm, h, _, _, _ => by rw [setPs_nil]; exact h
  | p :: ps, [], vs, T, tm, h, _, hl, _ => by
    have : vs = [] := List.eq_nil_of_length_eq_zero hl
    subst this
    exact h
  | p :: ps, x :: xs, [], T, tm, h, _, hl, _ => by cases hl
  | p :: ps, x :: xs, v :: vs, T, tm, h, hp, hl, hv => by
    have h1 := h.put (some p) (fun i e => by cases e; exact hp p (List.mem_cons_self ..)) (hv 0 x v rfl rfl)
    exact fr_setPs (ps := ps) h1 (fun q hq => hp q (List.mem_cons_of_mem _ hq)) (by simpa using hl) fun j y u hy hu => hv (j + 1) y u hy hu
def YPost (l : Nat) (r : Loop) (w : World) (S : SS) (μ : List Value) (H : List AObj) (Q : Exit → List AObj → Prop) (e : Ending) (w' : World) : Prop :=
  ∃ w2 S' μ' H' x, Q x H' ∧ Rel w2 S' μ' H' ∧ Step H.length w S μ H w2 S' μ' H' ∧ w2.heap[l]? = some (.loop r) ∧ ((x = .normal ∧ e = .returned (.bool true) ∧ w' = w2) ∨ (∃ c, jumpOf x = some c ∧ e = .returned (.bool false) ∧ w' = w2.putObj l (.loop { r with state := .done, pending := some c })))
theorem round_at {l fn D N : Nat} {tm : Array Value} {ps : List Nat} {assign body : Code} {T : Tm} {xs : List AV} {vs : List Value} {Q : Exit → ASt → Prop} {Q' : Exit → List AObj → Prop}
    (hr : Rel w S μ H) (hf : Fr S μ (F0 N) T ⟨tm, []⟩) (hg : GOk G S) (hp : ∀ p ∈ ps, p < N) (hl : w.heap[l]? = some (.loop ⟨.ready, none, fn, tm, ps.toArray, assign, body, D⟩)) (h1 : vs.length = xs.length) (h2 : xs.length = ps.length)
    (hv : ∀ (j : Nat) (x : AV) (v : Value), xs[j]? = some x → vs[j]? = some v → rep S μ x v)
    (ha : AWi (some l) d P G (F0 N) H.length assign (thenA (AWi (some l) d P G (F0 N) H.length body Q) fun _ _ => False) ⟨H, setPs ps xs T⟩)
    (hQ : ∀ x s, Q x s → (x = .normal ∨ ∃ c, jumpOf x = some c) ∧ ∃ H', HLe s.H H' ∧ H'.all (ltO H'.length) = true ∧ H.length ≤ H'.length ∧ Q' x H') :
    YieldAt Fence.wide d P l vs.toArray w (YPost l ⟨.ready, none, fn, tm, ps.toArray, assign, body, D⟩ w S μ H Q') := by
  have hnl : ∀ r cs t p, (Obj.loop r) ≠ .cells cs t p := fun _ _ _ _ e => by cases e
  refine ⟨fn, (ps.zip vs).foldl (fun tmps p => tmps.setIfInBounds p.1 p.2) tm, assign, body, ?_, roundIn_of_wpIn trivial ?_⟩
  · have := run_yield (P := P) (args := vs.toArray) hl (by simp [h1, h2])
    rw [this]
    simp [← Array.foldl_toList, Array.toList_zip]
  · have hfr := fr_setPs hf hp h1 hv
    refine wpIn_mono (ha w S μ _ hr hfr hg) ?_
    rintro e a1 w1 ⟨s1, S1, μ1, hq1, hr1, hf1, hs1⟩
    cases e with
    | normal =>
      have hl1 := hs1.keeps hr hl (hnl _)
      have hll1 := (Array.getElem?_eq_some_iff.1 hl1).1
      refine ⟨_, run_beginRound hl1 rfl, ?_⟩
      have hr1' : Rel (w1.putObj l (.loop ⟨.busy, none, fn, tm, ps.toArray, assign, body, D⟩)) S1 μ1 s1.H := hr1.touch l (NoCells.of hl1 (hnl _)) (putObj_other _ _ _)
      have hq1 : AWi (some l) d P G (F0 N) H.length body Q s1 := hq1
      refine wpIn_mono (hq1 _ S1 μ1 a1 hr1' hf1 (hg.ext hs1.still)) ?_
      rintro e2 a2 w3 ⟨s3, S3, μ3, hq3, hr3, hf3, hs3⟩
      obtain ⟨hx, H', hle, hlt, hn, hQ'⟩ := hQ e2 s3 hq3
      have hlb : (w1.putObj l (.loop ⟨.busy, none, fn, tm, ps.toArray, assign, body, D⟩)).heap[l]? = some (.loop ⟨.busy, none, fn, tm, ps.toArray, assign, body, D⟩) := World.putObj_heap_same hll1
      have hl3 := hs3.keeps hr1' hlb (hnl _)
      have hll3 := (Array.getElem?_eq_some_iff.1 hl3).1
      have hst : Step H.length w S μ H (w3.putObj l (.loop ⟨.ready, none, fn, tm, ps.toArray, assign, body, D⟩)) S3 (μ3.take H'.length) H' :=
        (hs1.trans (Step.swap hr1 hs3 hl1 (hnl _))).trans (Le.step (s := s3) (s' := ⟨H', []⟩) ⟨hle, hlt, trivial⟩ hn _ _ _)
      have hrl : Rel (w3.putObj l (.loop ⟨.ready, none, fn, tm, ps.toArray, assign, body, D⟩)) S3 (μ3.take H'.length) H' :=
        (hr3.touch l (NoCells.of hl3 (hnl _)) (putObj_other _ _ _)).le hle hlt
      have hpp : ∀ o o' : Obj, (w3.putObj l o).putObj l o' = w3.putObj l o' := fun o o' => by
        unfold World.putObj
        simp [Array.setIfInBounds_setIfInBounds]
      cases e2 with
      | normal =>
        refine ⟨_, _, run_endRound none hl3, _, S3, _, H', .normal, hQ', hrl, hst, World.putObj_heap_same hll3, .inl ⟨rfl, rfl, rfl⟩⟩
      | ret =>
        refine ⟨_, _, run_endRound (some .ret) hl3, _, S3, _, H', .ret, hQ', hrl, hst, World.putObj_heap_same hll3, .inr ⟨_, rfl, rfl, ?_⟩⟩
        rw [hpp]; rfl
      | exit id =>
        refine ⟨_, _, run_endRound (some (.exit id)) hl3, _, S3, _, H', .exit id, hQ', hrl, hst, World.putObj_heap_same hll3, .inr ⟨_, rfl, rfl, ?_⟩⟩
        rw [hpp]; rfl
      | goto t => rcases hx with q | ⟨c, q⟩ <;> cases q
      | panic ch => rcases hx with q | ⟨c, q⟩ <;> cases q
      | outgrown => rcases hx with q | ⟨c, q⟩ <;> cases q
    | exit id => exact hq1.elim
    | goto l => exact hq1.elim
    | ret => exact hq1.elim
    | panic ch => exact hq1.elim
    | outgrown => exact hq1.elim
end
end Go.Proofs.YtoeajbhlkccekaaDoor

namespace Go.Proofs.YtoeajbhlkccekaaDoor
open Go.RowKit
set_option maxRecDepth 20000
section
variable {P : Program} {G : Gl} {n d : Nat} {w w' w0 : World} {S S' S0 : SS} {μ μ' μ0 : List Value} {H H' H0 : List AObj}
def IPost (l : Nat) (r : Loop) (w : World) (S : SS) (μ : List Value) (H : List AObj) (Q : Exit → List AObj → Prop) (w' : World) : Prop :=
  ∃ w2 S' μ' H' x, Q x H' ∧ Rel w2 S' μ' H' ∧ Step H.length w S μ H w2 S' μ' H' ∧ w2.heap[l]? = some (.loop r) ∧ ((x = .normal ∧ w' = w2) ∨ (∃ c, jumpOf x = some c ∧ w' = w2.putObj l (.loop { r with state := .done, pending := some c })))
def RPost (N : Nat) (T : Tm) (w : World) (S : SS) (μ : List Value) (H : List AObj) (Q : Exit → List AObj → Prop) (e : Exit) (a' : Act) (w' : World) : Prop :=
  ∃ S' μ' H', Q e H' ∧ Rel w' S' μ' H' ∧ Step H.length w S μ H w' S' μ' H' ∧ Fr S' μ' ⟨N, [⟨.collected w.heap.size, #[]⟩]⟩ T a' ∧ w'.heap[w.heap.size]? = some (.deferred (some [])) ∧ w.heap.size < w'.heap.size
theorem rep0_rep {x : AV} {v : Value} (h : rep0 S μ x v) : rep S μ x v := by
  match x, h with
  | .nil, _ => trivial
  | .held (.inl u), h => exact h
  | .held (.inr (.inl (i, o))), h => exact h
  | .ptr d, h => exact h
theorem range_law {g : Operand} {ps : List Nat} {assign body : Code} {a : Act} {N : Nat} {T : Tm} {f : FuncId} {caps : List AV} {q2 : Nat} {Q : Exit → List AObj → Prop}
    (hr : Rel w S μ H) (hf : Fr S μ (F0 N) T a) (hg : GOk G S) (hgv : ev G T g = .slice caps [.held (.inl (.func (.func f) #[] #[])), .held (.inr (.inl (0, q2)))]) (hc : callIs P f = true)
    (hit : ∀ (l D fn : Nat) (w1 : World) (us : List Value), Rel w1 S μ H → w1.heap[l]? = some (.loop ⟨.ready, none, fn, a.tmps, ps.toArray, assign, body, D⟩) → us.length = caps.length → (∀ (j : Nat) (x : AV) (u : Value), caps[j]? = some x → us[j]? = some u → rep S μ x u) →
      CallsIn Fence.wide d P f (.func (.yield l) #[] #[] :: us).toArray w1 fun e w' => ∃ v, e = .returned v ∧ IPost l ⟨.ready, none, fn, a.tmps, ps.toArray, assign, body, D⟩ w1 S μ H Q w') :
    (Code.rangeFunc g ps.toArray assign body).wpIn Fence.wide (d + 1) P (RPost N T w S μ H Q) a w := by
  have hnl : ∀ r cs t p, (Obj.loop r) ≠ .cells cs t p := fun _ _ _ _ e => by cases e
  have hnd : ∀ r cs t p, (Obj.deferred r) ≠ .cells cs t p := fun _ _ _ _ e => by cases e
  have hro : Fence.wide.round = none := rfl
  have hv := hf.ev hg g
  rw [hgv] at hv
  obtain ⟨us, hu, hul, hur⟩ := hv
  have hu : a.eval g = .func (.func f) #[] us.toArray := by rw [hu]; simp
  refine wpIn_rangeFunc ?_
  intro fn hfn
  rw [hro]
  obtain ⟨wa, hwa⟩ : ∃ wa, w.alloc (.deferred (some [])) = wa := ⟨_, rfl⟩
  have hsa : wa.heap.size = w.heap.size + 1 := by rw [← hwa]; simp
  obtain ⟨r, hrr⟩ : ∃ r : Loop, (⟨.ready, none, fn, a.tmps, ps.toArray, assign, body, w.heap.size⟩ : Loop) = r := ⟨_, rfl⟩
  obtain ⟨w1, hw1⟩ : ∃ w1, wa.alloc (.loop r) = w1 := ⟨_, rfl⟩
  have hs1 : w1.heap.size = w.heap.size + 2 := by rw [← hw1]; simp [hsa]
  have hra : Rel wa S μ H := by rw [← hwa]; exact hr.touch _ (fresh_nc w) (alloc_other w _)
  have hr1 : Rel w1 S μ H := by rw [← hw1]; exact hra.touch _ (fresh_nc wa) (alloc_other wa _)
  have hst1 : Step H.length w S μ H w1 S μ H := by
    have h1 : Step H.length w S μ H wa S μ H := by rw [← hwa]; exact (Step.refl _ w S μ H).touch (Nat.le_refl _) rfl rfl rfl (by simp) (alloc_other w _)
    rw [← hw1]
    exact h1.touch (l := wa.heap.size) (by omega) rfl rfl rfl (by simp) (alloc_other wa _)
  have hl1 : w1.heap[w.heap.size + 1]? = some (.loop r) := by rw [← hw1, ← hsa]; exact World.alloc_heap_new wa _
  have hD1 : w1.heap[w.heap.size]? = some (.deferred (some [])) := by
    rw [← hw1, alloc_other wa _ _ (by omega) (by omega), ← hwa]
    exact World.alloc_heap_new w _
  have hcall := hit (w.heap.size + 1) w.heap.size fn w1 us hr1 (by rw [hrr]; exact hl1) hul fun j x u hx hu => rep0_rep (hur j x u hx hu)
  rw [hrr] at hcall
  have hcf : ∃ fnn, P.funcs[f]? = some fnn ∧ (fnn.name == "runtime.NumGoroutine") = false ∧ fnn.body.isNone = false := by
    unfold callIs at hc
    cases h : P.funcs[f]? with
    | none => rw [h] at hc; cases hc
    | some fnn =>
      rw [h] at hc
      simp only [Bool.and_eq_true, Bool.not_eq_true', Option.isSome_iff_ne_none] at hc
      obtain ⟨h1, h2⟩ := hc
      exact ⟨fnn, rfl, h1, by cases hb : fnn.body with | none => exact absurd hb h2 | some _ => rfl⟩
  obtain ⟨fnn, hf1, hf2, hf3⟩ := hcf
  refine ⟨w.heap.size + 1, [{ target := .collected w.heap.size, args := #[] }], w1, { target := .fn (.func f) us.toArray, args := #[.func (.yield (w.heap.size + 1)) #[] #[]] }, w1, f, #[.func (.yield (w.heap.size + 1)) #[] #[]] ++ us.toArray, w1, ?_, ?_, fun _ _ => trivial, ?_, fun q => (by cases q), ?_⟩
  · rw [run_enterLoop_outer, hwa, hrr, hw1]
  · simp only [resolve, rangeCall, hu, Deferred.ofValue, Sem.run_bind, Sem.run_pure, Result.andThen_ok]
    simp [Sem.run_pure, Act.eval]
  · simp only [invoke, callFunc, Sem.run_bind, Sem.run_pure, Result.andThen_ok, run_program, hf1, hf2, hf3]
    simp [Sem.run_pure]
  · have e0 : (#[.func (.yield (w.heap.size + 1)) #[] #[]] ++ us.toArray : Array Value) = (.func (.yield (w.heap.size + 1)) #[] #[] :: us).toArray := by simp
    rw [e0]
    refine CallsIn.mono hcall ?_
    rintro e w' ⟨v, rfl, w2, S', μ', H', x, hq, hr2, hs2, hl2, hx⟩
    have hst2 := hst1.trans hs2
    have hD2 := hs2.keeps hr1 hD1 (hnd _)
    have hll2 := (Array.getElem?_eq_some_iff.1 hl2).1
    have hfr : Fr S' μ' ⟨N, [⟨.collected w.heap.size, #[]⟩]⟩ T { a with defers := [{ target := .collected w.heap.size, args := #[] }] ++ a.defers } := by
      have h := hf.ext (hst2.toExt hr)
      exact ⟨h.size, by rw [h.nodef]; rfl, h.slot⟩
    have fin : ∀ o, w2.heap.size = (w2.putObj (w.heap.size + 1) o).heap.size ∧ Rel (w2.putObj (w.heap.size + 1) o) S' μ' H' ∧ Step H.length w S μ H (w2.putObj (w.heap.size + 1) o) S' μ' H' ∧ (w2.putObj (w.heap.size + 1) o).heap[w.heap.size]? = some (.deferred (some [])) := fun o =>
      ⟨(putObj_size _ _ _).symm, hr2.touch _ (NoCells.of hl2 (hnl _)) (putObj_other _ _ _), hst2.touch (l := w.heap.size + 1) (by omega) rfl rfl rfl (by rw [putObj_size]; exact Nat.le_refl _) (putObj_other _ _ _), by rw [World.putObj_heap_other (by omega)]; exact hD2⟩
    have hsz : w.heap.size < w2.heap.size := by omega
    rcases hx with ⟨rfl, rfl⟩ | ⟨c, hj, rfl⟩
    · have hend := run_endLoop (P := P) hl2 (by rw [← hrr]; simp)
      refine ⟨none, _, by rw [hend, ← hrr], ?_⟩
      rw [hrr]
      obtain ⟨f0, f1, f2, f3⟩ := fin (.loop { r with state := .exhausted })
      exact ⟨S', μ', H', hq, f1, f2, hfr, f3, by rw [← f0]; exact hsz⟩
    · have hl3 : (w2.putObj (w.heap.size + 1) (.loop { r with state := .done, pending := some c })).heap[w.heap.size + 1]? = some (.loop { r with state := .done, pending := some c }) := World.putObj_heap_same hll2
      have hend := run_endLoop (P := P) hl3 (by simp)
      refine ⟨some c, _, hend, ?_⟩
      have hpp : ∀ o o' : Obj, (w2.putObj (w.heap.size + 1) o).putObj (w.heap.size + 1) o' = w2.putObj (w.heap.size + 1) o' := fun o o' => by
        unfold World.putObj
        simp [Array.setIfInBounds_setIfInBounds]
      rw [hpp]
      obtain ⟨f0, f1, f2, f3⟩ := fin (.loop { r with state := .exhausted, pending := some c })
      cases x with
      | ret =>
        cases hj
        exact wpIn_ret ⟨S', μ', H', hq, f1, f2, hfr, f3, by rw [← f0]; exact hsz⟩
      | exit id =>
        cases hj
        exact wpIn_exit ⟨S', μ', H', hq, f1, f2, hfr, f3, by rw [← f0]; exact hsz⟩
      | normal => cases hj
      | goto t => cases hj
      | panic ch => cases hj
      | outgrown => cases hj
theorem runOps_pre {lo : Option Nat} {N : FS} {ops : Array Oper} {L : List Oper} {K : ASt → Prop} {Q : Exit → Act → World → Prop} {l2 : List Oper} {w0 : World} {S0 : SS} {μ0 : List Value} {H0 : List AObj} (hl0 : μ0.length = H0.length)
    (hK : ∀ s w S μ a, K s → Rel w S μ s.H → Fr S μ N s.T a → GOk G S → Step H0.length w0 S0 μ0 H0 w S μ s.H → wpListIn (FL lo) d P ops Q l2 a w) : ∀ (l : List Oper) (s : ASt), (l.all fun o => o.guard.isNone) = true → runOps P G L l s K → fits N l = true →
    ∀ w S μ a, Rel w S μ s.H → Fr S μ N s.T a → GOk G S → Step H0.length w0 S0 μ0 H0 w S μ s.H → wpListIn (FL lo) d P ops Q (l ++ l2) a w
  | [], s, _, h, _, w, S, μ, a, hr, hf, hg, hs => hK s w S μ a h hr hf hg hs
  | o :: r, s, hgu, h, hfit, w, S, μ, a, hr, hf, hg, hs => by
    simp only [fits, List.all_cons, Bool.and_eq_true] at hfit hgu
    have hd : ∀ i, o.dst = some i → i < N := fun i e => by have := hfit.1; rw [e] at this; simpa using this
    have hgd : o.guard = none := by simpa using hgu.1
    unfold runOps at h
    rw [hgd] at h
    dsimp only at h
    show wpListIn (FL lo) d P ops Q (o :: (r ++ l2)) a w
    unfold wpListIn
    rw [if_pos (by simp [Region.wanted, hgd])]
    refine op_in (stepOp_nodef h) (_root_.Go.Proofs.YtoeajbhlkccekaaDoor.Oper.wp_next (stepOp_wp h hr hf hg Q) fun a' w' => ?_)
    rintro ⟨x, u, H', S', μ', hrest, rfl, hrep, hr', hs', _⟩
    have hst := (hf.ext (hs'.toExt hr)).put o.dst hd hrep
    have hn' : H0.length ≤ s.H.length := by
      have := hs.objs
      rcases Nat.lt_or_ge s.H.length H0.length with hlt | hge
      · have hlm : s.H.length < μ0.length := by omega
        obtain ⟨x', hx', _⟩ := hs.objs s.H.length μ0[s.H.length] hlt (List.getElem?_eq_getElem hlm)
        have := (List.getElem?_eq_some_iff.1 hx').1
        rw [hr.len] at this; omega
      · exact hge
    exact runOps_pre hl0 hK r _ hgu.2 hrest hfit.2 w' S' μ' _ hr' hst (hg.ext hs'.still) (hs.trans (hs'.less hn'))
theorem exec_region {R : Type} {E : Env} {M : Nat} {N : FS} (hE : EnvOk P G E) (hp : E.any isPan = false) {r : R} {id : Nat} {ops : List Oper} {h : Hint} {s : ASt} {k : KO R} (hx : exec P G E M N (.region id ops.toArray false) h s k = some r) :
    fits N ops = true ∧ runOps P G ops ops s (Aft (fun s => k .normal s) r) := by
  obtain ⟨h1, h2⟩ := whenE_some (show whenE (fits N ops) (match panQ E ops with
    | true => runP P G E ops s (fun s => k .normal s) (fun u s => k (.panic (pch u)) s)
    | false => runE P G E false ops [] ops s fun s => k .normal s) = some r from hx)
  have hq : panQ E ops = false := by unfold panQ; rw [hp]; rfl
  rw [hq] at h2
  exact ⟨h1, runE_ok hE (TEq.refl s.T) SkOk.nil h2⟩
def roundK (n : Nat) (H : List AObj) (X : AV) : RO := whenE (decide (n ≤ H.length) && (H.take n).all (ltO n)) (some (X, H.take n))
noncomputable abbrev rndFK (n : Nat) : KO (AV × List AObj) := fun e s => match e with
  | .normal => roundK n s.H (V (.bool true))
  | .ret => roundK n s.H (V (.bool false))
  | .exit i => roundK n s.H (V (.int .i64 i))
  | _ => none
theorem rndX (P : Program) (G : Gl) (E : Env) (M : Nat) (N : FS) (n : Nat) (c : Code) (h : Hint) (s : ASt) : exec P G E M N c h s (rndFK n) = execK P G E M N c h s (rndFK n) := (execK_eq c h s _).symm
theorem u_roundK {X : AV} : roundK n H X = whenE (decide (n ≤ H.length) && (H.take n).all (ltO n)) (some (X, H.take n)) := _root_.id rfl
attribute [go_sem] u_roundK
def xA : Exit → AV
  | .normal => V (.bool true)
  | .ret => V (.bool false)
  | .exit i => V (.int .i64 i)
  | _ => .nil
theorem rnd_some {e : Exit} {s : ASt} {X : AV} (h : rndFK n e s = some (X, H')) : (e = .normal ∨ ∃ c, jumpOf e = some c) ∧ X = xA e ∧ n ≤ s.H.length ∧ H' = s.H.take n ∧ (s.H.take n).all (ltO n) = true := by
  have key : ∀ Y, roundK n s.H Y = some (X, H') → X = Y ∧ n ≤ s.H.length ∧ H' = s.H.take n ∧ (s.H.take n).all (ltO n) = true := fun Y q => by
    obtain ⟨h1, h2⟩ := whenE_some q
    simp only [Bool.and_eq_true, decide_eq_true_eq] at h1
    cases h2
    exact ⟨rfl, h1.1, rfl, h1.2⟩
  cases e with
  | normal => exact ⟨.inl rfl, key _ h⟩
  | ret => exact ⟨.inr ⟨_, rfl⟩, key _ h⟩
  | exit i => exact ⟨.inr ⟨_, rfl⟩, key _ h⟩
  | goto l => cases h
  | panic ch => cases h
  | outgrown => cases h
def rfS : Code → Code | .rangeFunc _ _ a b => .seq a b | c => c
def regP (k : Nat) : Code → Code | .region id ops dr => .region id (ops.toList.take k).toArray dr | c => c
def regD (k : Nat) : Code → Code | .region id ops dr => .region id (ops.toList.drop k).toArray dr | c => c
theorem round_exec {E : Env} {M : Nat} (hE : EnvOk P G E) (hp : E.any isPan = false) {l fn D N : Nat} {tm : Array Value} {ps : List Nat} {id : Nat} {ops : List Oper} {body : Code} {T : Tm} {xs : List AV} {vs : List Value} {h : Hint} {X : AV}
    (hr : Rel w S μ H) (hf : Fr S μ (F0 N) T ⟨tm, []⟩) (hg : GOk G S) (hps : ∀ p ∈ ps, p < N) (hl : w.heap[l]? = some (.loop ⟨.ready, none, fn, tm, ps.toArray, .region id ops.toArray false, body, D⟩)) (h1 : vs.length = xs.length) (h2 : xs.length = ps.length)
    (hv : ∀ (j : Nat) (x : AV) (v : Value), xs[j]? = some x → vs[j]? = some v → rep S μ x v) (hfl : flatC body = true) (hJ : h.J = none)
    (hx : exec P G E M (F0 N) (.seq (.region id ops.toArray false) body) h ⟨H, setPs ps xs T⟩ (rndFK H.length) = some (X, H')) :
    YieldAt Fence.wide d P l vs.toArray w (YPost l ⟨.ready, none, fn, tm, ps.toArray, .region id ops.toArray false, body, D⟩ w S μ H fun x H2 => X = xA x ∧ H2 = H') := by
  have hx' : exec P G E M (F0 N) (.region id ops.toArray false) h.l ⟨H, setPs ps xs T⟩ (fun e s' => match e with | .normal => exec P G E M (F0 N) body h.r (ghJ h.gho (joinS h.J s')) (rndFK H.length) | e => rndFK H.length e s') = some (X, H') := hx
  obtain ⟨f1, f2⟩ := exec_region hE hp hx'
  have hgn : h.gho = none := Hint.gho_none hJ
  refine round_at (Q := fun e s => rndFK H.length e s = some (X, H')) hr hf hg hps hl h1 h2 hv ?_ ?_
  · have q := awi_region (lo := some l) (d := d) (n := H.length) (id := id) (s := ⟨H, setPs ps xs T⟩) (G := G) (Q := fun e s' => e = .normal ∧ Aft (fun s' => exec P G E M (F0 N) body h.r (ghJ h.gho (joinS h.J s')) (rndFK H.length)) (X, H') s') f1 (Nat.le_refl _) (runOps_mono (fun s q => ⟨rfl, q⟩) f2)
    refine AWi.mono (AWi.len q (Nat.le_refl _)) fun e s' q => ?_
    obtain ⟨⟨rfl, T2, ht, q⟩, hl⟩ := q
    rw [hgn, hJ] at q
    exact AWi.text ht (exec_in hE hp body h.r ⟨s'.H, T2⟩ _ hfl hl q)
  · intro e s q
    obtain ⟨q1, q2, q3, q4, q5⟩ := rnd_some q
    have hl : (s.H.take H.length).length = H.length := by rw [List.length_take]; omega
    exact ⟨q1, s.H.take H.length, HLe.take _ _, by rw [hl]; exact q5, by rw [hl]; exact Nat.le_refl _, q2, q4.symm⟩
theorem run_callYield {o : Oper} {a : Act} {t : Tmp} {args : Array Operand} {ts : Array TypeId} {l : Nat} {x : Next} {w' : World} {lo : Option Nat} (ho : o.op = .call { callee := .value (.tmp t), args := args, argTypes := ts }) (ht : a.eval (.tmp t) = .func (.yield l) #[] #[])
    (hy : (Instr.yield l (args.map a.eval)).run P w = .ok x w') : (Oper.semAt lo a.eval o).run P w = .ok x w' := by
  have e : Oper.semAt lo a.eval o = execOp a.eval o := by
    cases lo with
    | none => exact Oper.semAt_none _ _
    | some l => exact Oper.semAt_some _ _ _ (fun c q => by rw [ho] at q; cases q)
  rw [e]
  unfold execOp
  rw [ho]
  simp only [resolve, ht, Deferred.ofValue, Sem.run_bind, Sem.run_pure, Result.andThen_ok, invoke]
  simp [hy]
theorem yield_op {o : Oper} {a : Act} {t : Tmp} {args : Array Operand} {ts : Array TypeId} {l : Nat} {R : Ending → World → Prop} {next : Act → World → Prop} {Q : Exit → Act → World → Prop} (ho : o.op = .call { callee := .value (.tmp t), args := args, argTypes := ts }) (ht : a.eval (.tmp t) = .func (.yield l) #[] #[])
    (hy : YieldAt Fence.wide (d - 1) P l (args.map a.eval) w R) (h : ∀ e w', R e w' → ∃ v, e = .returned v ∧ next (a.put o.dst v) w') : o.wpIn (FL none) d P a w next Q := by
  refine ⟨fun _ _ => trivial, ?_⟩
  obtain ⟨fn, tmps, asg, bd, h1, h2⟩ := hy
  rw [run_callYield ho ht h1]
  refine ⟨fun q => (by cases q), RoundIn.mono h2 ?_⟩
  intro e w' hR
  obtain ⟨v, rfl, hn⟩ := h e w' hR
  exact hn
end
end Go.Proofs.YtoeajbhlkccekaaDoor

namespace Go.Proofs.YtoeajbhlkccekaaDoor
open Go.RowKit
noncomputable abbrev sltK (T : Tm) (l : List Tmp) : List AV := List.rec (motive := fun _ => List AV) [] (fun t _ ih => slotK T t :: ih) l
theorem sltK_eq (T : Tm) : ∀ l, sltK T l = l.map (get T)
  | [] => rfl
  | t :: r => by
    have ih := sltK_eq T r
    show slotK T t :: sltK T r = get T t :: r.map (get T)
    rw [ih, slotK_eq]
noncomputable abbrev sltFK (rs : List Tmp) : KO (AV × List AObj) := fun e s => match e with
  | .normal => some (TU (sltK s.T rs), s.H)
  | .ret => some (TU (sltK s.T rs), s.H)
  | .panic ch => chE ch fun u => some (TU (PN u :: sltK s.T rs), s.H)
  | _ => none
noncomputable abbrev nslFK (rs : List Tmp) : KO (AV × List AObj) := fun e s => match e with
  | .normal => some (TU (sltK s.T rs), s.H)
  | _ => none
theorem nslX (P : Program) (G : Gl) (E : Env) (M : Nat) (N : FS) (c : Code) (h : Hint) (s : ASt) (rs : List Tmp) : exec P G E M N c h s (nslFK rs) = execK P G E M N c h s (nslFK rs) := (execK_eq c h s _).symm
theorem sltX (P : Program) (G : Gl) (E : Env) (M : Nat) (N : FS) (c : Code) (h : Hint) (s : ASt) (rs : List Tmp) : exec P G E M N c h s (sltFK rs) = execK P G E M N c h s (sltFK rs) := (execK_eq c h s _).symm
section
variable {P : Program} {G : Gl} {E : Env} {M n : Nat} {H : List AObj}
end
end Go.Proofs.YtoeajbhlkccekaaDoor

namespace Go.Proofs.YtoeajbhlkccekaaDoor
open Go.RowKit
set_option maxRecDepth 20000
section
variable {P : Program} {G : Gl} {n d : Nat} {N : FS} {w w' w0 : World} {S S' S0 : SS} {μ μ' μ0 : List Value} {H H' H0 : List AObj} {E : Env} {M : Nat}
theorem told_get {T2 : Tm} : ∀ {rs : List Tmp} {ds : List AV}, (TU ds : AV) = TU (sltK T2 rs) → ∀ i, get (rs.zip ds) i = get T2 i ∨ get (rs.zip ds) i = .nil := by
  intro rs ds h
  rw [sltK_eq] at h
  simp only [DataW.iface.injEq, DataW.agg.injEq, true_and] at h
  subst h
  induction rs with
  | nil => exact fun i => .inr rfl
  | cons t r ih =>
    intro i
    simp only [List.map_cons, List.zip_cons_cons, _root_.Go.Proofs.YtoeajbhlkccekaaDoor.get]
    split
    · rename_i e; subst e; exact .inl rfl
    · exact ih i
theorem Fr.less {T T' : Tm} {a : Act} (hf : Fr S μ N T a) (h : ∀ i, get T' i = get T i ∨ get T' i = .nil) : Fr S μ N T' a :=
  ⟨hf.size, hf.nodef, fun i => by
    rcases h i with e | e
    · rw [e]; exact hf.slot i
    · rw [e]; exact rep_any _ _ _⟩
theorem Fr.some {T T' : Tm} {a : Act} (hf : Fr S μ N T a) (h : ∀ p ∈ T', get T p.1 = p.2) : Fr S μ N T' a := hf.less (by
  intro i
  induction T' with
  | nil => exact .inr rfl
  | cons p r ih =>
    obtain ⟨j, x⟩ := p
    simp only [_root_.Go.Proofs.YtoeajbhlkccekaaDoor.get]
    split
    · rename_i e
      subst e
      exact .inl (h (j, x) (List.mem_cons_self ..)).symm
    · exact ih fun p hp => h p (List.mem_cons_of_mem _ hp))
theorem nsl_some {rs : List Tmp} {e : Exit} {s : ASt} {X : AV} (h : nslFK rs e s = some (X, H')) : e = .normal ∧ X = TU (sltK s.T rs) ∧ s.H = H' := by
  cases e with
  | normal => cases h; exact ⟨rfl, rfl, rfl⟩
  | exit id => cases h
  | goto l => cases h
  | ret => cases h
  | panic ch => cases h
  | outgrown => cases h
def PartP (G : Gl) (N : FS) (rs : List Tmp) (ds : List AV) (w : World) (S : SS) (μ : List Value) (H H' : List AObj) (a' : Act) (w' : World) : Prop :=
  ∃ S' μ', Rel w' S' μ' H' ∧ Fr S' μ' N (rs.zip ds) a' ∧ GOk G S' ∧ Step H.length w S μ H w' S' μ' H'
theorem part_w (hm : P.follows .mixedOrders = true) (hE : EnvOk P G E) {c : Code} {h : Hint} {s : ASt} {rs : List Tmp} {ds : List AV} {a : Act} (hx : exec P G E M N c h s (nslFK rs) = some (TU ds, H')) (hr : Rel w S μ s.H) (hf : Fr S μ N s.T a) (hg : GOk G S) :
    c.wpIn (FL none) d P (fun e a' w' => e = .normal ∧ PartP G N rs ds w S μ s.H H' a' w') a w := by
  refine wpIn_wide.2 (wp_mono (exec_ok (n := s.H.length) hm hE c h s _ (Nat.le_refl _) hx w S μ a hr hf hg) ?_)
  rintro e a' w' ⟨s', S', μ', hq, hr', hf', hst⟩
  obtain ⟨rfl, e2, rfl⟩ := nsl_some hq
  exact ⟨rfl, S', μ', hr', hf'.less (told_get e2), hg.ext hst.still, hst⟩
theorem part_ops (hE : EnvOk P G E) (hp : E.any isPan = false) {id : Nat} {l : List Oper} {h : Hint} {s : ASt} {rs : List Tmp} {ds : List AV} {a : Act} {ops : Array Oper} {l2 : List Oper} {Q : Exit → Act → World → Prop} (hgu : (l.all fun o => o.guard.isNone) = true) (hx : exec P G E M N (.region id l.toArray false) h s (nslFK rs) = some (TU ds, H'))
    (hr : Rel w S μ s.H) (hf : Fr S μ N s.T a) (hg : GOk G S) (hK : ∀ a' w', PartP G N rs ds w S μ s.H H' a' w' → wpListIn (FL none) d P ops Q l2 a' w') : wpListIn (FL none) d P ops Q (l ++ l2) a w := by
  obtain ⟨f1, f2⟩ := exec_region hE hp hx
  refine runOps_pre (L := l) (N := N) hr.len ?_ l s hgu f2 f1 w S μ a hr hf hg (Step.refl _ _ _ _ _)
  rintro s' w' S' μ' a' ⟨T2, ht, hk⟩ hr' hf' hg' hst
  obtain ⟨_, e2, e3⟩ := nsl_some (s := ⟨s'.H, T2⟩) hk
  dsimp only at e2 e3
  subst e3
  exact hK a' w' ⟨S', μ', hr', (hf'.less fun i => .inl (ht i).symm).less (told_get e2), hg', hst⟩
theorem part_all (hE : EnvOk P G E) (hp : E.any isPan = false) {id : Nat} {l : List Oper} {h : Hint} {s : ASt} {rs : List Tmp} {ds : List AV} {a : Act} {ops : Array Oper} {Q : Exit → Act → World → Prop} (hgu : (l.all fun o => o.guard.isNone) = true) (hx : exec P G E M N (.region id l.toArray false) h s (nslFK rs) = some (TU ds, H'))
    (hr : Rel w S μ s.H) (hf : Fr S μ N s.T a) (hg : GOk G S) (hK : ∀ a' w', PartP G N rs ds w S μ s.H H' a' w' → Q .normal a' w') : wpListIn (FL none) d P ops Q l a w := by
  have key := part_ops (d := d) (ops := ops) (l2 := []) (Q := Q) hE hp hgu hx hr hf hg fun a' w' q => wpListIn_nil (hK a' w' q)
  rwa [List.append_nil] at key
theorem exec_farW (hm : P.follows .mixedOrders = true) (hE : EnvOk P G E) {rs : List Tmp} {ds : List AV} {Q : Exit → Act → World → Prop} : ∀ (m : Nat) (c : Code) (h : Hint) (s : ASt) {w : World} {S : SS} {μ : List Value} {a : Act}, deepC m c = true → exec P G E M N (farC m c .skip) h s (nslFK rs) = some (TU ds, H') →
    Rel w S μ s.H → Fr S μ N s.T a → GOk G S →
    (∀ a' w', (∃ S' μ', n ≤ H'.length ∧ Rel w' S' μ' H' ∧ Fr S' μ' N (rs.zip ds) a' ∧ GOk G S' ∧ Step n w S μ s.H w' S' μ' H') → (endC m c).wpIn (FL none) d P Q a' w') → n ≤ s.H.length → c.wpIn (FL none) d P Q a w
  | 0, c, h, s, w, S, μ, a, hd, hx, hr, hf, hg, hK, hn => by
    have hx : nslFK rs .normal s = some (TU ds, H') := hx
    obtain ⟨_, e2, e3⟩ := nsl_some hx
    subst e3
    exact hK a w ⟨S, μ, hn, hr, hf.less (told_get e2), hg, Step.refl _ _ _ _ _⟩
  | m + 1, .seq x y, h, s, w, S, μ, a, hd, hx, hr, hf, hg, hK, hn => by
    refine wpIn_seq (wpIn_mono (wpIn_wide.2 (AWp.len (exec_ok (n := n) hm hE x h.l s _ hn hx) hn w S μ a hr hf hg)) ?_)
    rintro e a' w' ⟨s', S', μ', ⟨hq, hl⟩, hr', hf', hst⟩
    cases e with
    | normal =>
      have q : exec P G E M N (farC m y .skip) h.r (ghJ h.gho (joinS h.J s')) (nslFK rs) = some (TU ds, H') := hq
      have key : ∀ (T3 : Tm), (∀ i, get T3 i = get s'.T i ∨ get T3 i = .nil) → exec P G E M N (farC m y .skip) h.r (ghJ h.gho ⟨s'.H, T3⟩) (nslFK rs) = some (TU ds, H') → y.wpIn (FL none) d P Q a' w' := by
        intro T3 h3 q
        have gh : ∀ g, ∃ μ2, Rel w' S' μ2 (ghJ g ⟨s'.H, T3⟩).H ∧ Fr S' μ2 N (ghJ g ⟨s'.H, T3⟩).T a' ∧ Step n w' S' μ' s'.H w' S' μ2 (ghJ g ⟨s'.H, T3⟩).H := by
          intro g
          have triv : ∃ μ2, Rel w' S' μ2 s'.H ∧ Fr S' μ2 N T3 a' ∧ Step n w' S' μ' s'.H w' S' μ2 s'.H := ⟨μ', hr', hf'.less h3, Step.refl _ _ _ _ _⟩
          cases g with
          | none => exact triv
          | some g =>
            obtain ⟨i, off, e, z⟩ := g
            show ∃ μ2, Rel w' S' μ2 (ghS i off e z ⟨s'.H, T3⟩).H ∧ Fr S' μ2 N (ghS i off e z ⟨s'.H, T3⟩).T a' ∧ Step n w' S' μ' s'.H w' S' μ2 (ghS i off e z ⟨s'.H, T3⟩).H
            unfold ghS
            split
            · rename_i j hi
              split
              · rename_i ob hj
                split
                · rename_i hk hc
                  obtain ⟨h1, h2⟩ := hr'.nilRow none e z
                  have hjl : j < s'.H.length := (List.getElem?_eq_some_iff.1 hj).1
                  obtain ⟨h3', h4⟩ := h1.recell (off := off) (d' := OW s'.H.length 0) (by rw [List.getElem?_append_left hjl]; exact hj) hk hc (fun u hu => ⟨none, 0, 0, none, 0, by rw [← hr'.len]; simp, Nat.le_refl _, hu.1, fun _ => ⟨rfl, rfl⟩⟩)
                  rw [List.set_append_left _ _ hjl] at h3' h4
                  have hx : Ext S' μ' S' (μ' ++ [.slice none 0 0]) := ext_add S' μ' _
                  exact ⟨_, h3', (hf'.less h3).ext hx, (h2.less hl).trans (h4.less (by simp only [List.length_append]; omega))⟩
                · exact triv
              · exact triv
            · exact triv
        obtain ⟨μ2, g1, g2, g3⟩ := gh h.gho
        have hl2 : n ≤ (ghJ h.gho ⟨s'.H, T3⟩).H.length := Nat.le_trans hl (ghJ_len h.gho ⟨s'.H, T3⟩)
        refine exec_farW hm hE m y h.r (ghJ h.gho ⟨s'.H, T3⟩) hd q g1 g2 (hg.ext hst.still) ?_ hl2
        rintro a2 w2 ⟨S2, μ3, b1, b2, b3, b4, b5⟩
        exact hK a2 w2 ⟨S2, μ3, b1, b2, b3, b4, (hst.trans g3).trans b5⟩
      cases hj : h.J with
      | none => rw [hj] at q; exact key s'.T (fun i => .inl rfl) q
      | some L => rw [hj] at q; exact key (keepT L s'.T) (keepT_get L s'.T) q
    | exit id => cases hq
    | goto l => cases hq
    | ret => cases hq
    | panic ch => cases hq
    | outgrown => cases hq
theorem putObj_self {l : Nat} {o : Obj} (h : w.heap[l]? = some o) : w.putObj l o = w := by
  obtain ⟨hl, e⟩ := Array.getElem?_eq_some_iff.1 h
  unfold World.putObj
  have : w.heap.setIfInBounds l o = w.heap := by
    apply Array.ext_getElem?
    intro j
    rw [Array.getElem?_setIfInBounds]
    split
    · rename_i q; subst q; exact h.symm
    · rfl
  rw [this]
theorem putObj_putObj (w : World) (l : Nat) (o o' : Obj) : (w.putObj l o).putObj l o' = w.putObj l o' := by
  unfold World.putObj
  simp [Array.setIfInBounds_setIfInBounds]
theorem mark_end {fnn : Func} {rs : List Nat} {X : AV} {T : Tm} {a : Act} {D K : Nat} (hrs : fnn.results.toList = rs.map ResultVar.tmp) (hr : Rel w S μ H) (hf : Fr S μ ⟨K, [⟨.collected D, #[]⟩]⟩ T a) (hD : w.heap[D]? = some (.deferred (some []))) (hX : ro H (resA rs T) = X) (hl : ltT 0 X = true)
    (hst : Step 0 w0 S0 [] [] w S μ H) (h0 : w0.heap.size ≤ D) : LeavesInM Fence.wide d P fnn a.tmps (CPost w0 S0 [] [] fun r H' => r = X ∧ H' = []) a.defers .returning w := by
  have hnd : ∀ r cs t p, (Obj.deferred r) ≠ .cells cs t p := fun _ _ _ _ e => by cases e
  rw [hf.nodef]
  refine ⟨by simp, .inl ⟨D, _, rfl, run_takeDeferred hD, ?_⟩⟩
  obtain ⟨v, hrun, hrep⟩ := results_run (P := P) hrs hf (w.putObj D (.deferred none))
  have hrepX : rep S μ X v := by rw [← hX]; exact hrep.toRo hr
  have hr2 := hr.touch (w' := w.putObj D (.deferred none)) D (NoCells.of hD (hnd _)) (putObj_other _ _ _)
  have hle : HLe H [] := by cases H <;> trivial
  refine ⟨v, hrun, v, X, [], S, μ.take 0, rfl, ⟨rfl, rfl⟩, hr2.le hle rfl, hrepX.take hl, ?_⟩
  exact (hst.touch (w' := w.putObj D (.deferred none)) (l := D) h0 rfl rfl rfl (Nat.le_of_eq (putObj_size w D _).symm) (putObj_other _ _ _)).trans (Le.step (s := ⟨H, []⟩) (s' := ⟨[], []⟩) ⟨hle, rfl, trivial⟩ (Nat.le_refl _) _ _ _)
end
end Go.Proofs.YtoeajbhlkccekaaDoor

namespace Go.Proofs.YtoeajbhlkccekaaDoor
open Go.RowKit
set_option maxRecDepth 100000
def ty_a16_sl_api_Item : TypeId := 23
def ty_int : TypeId := 3
def ty_sl_api_Item : TypeId := 22
def ty_string : TypeId := 9
def zc_sl_api_Item : List AV := [(V (.slice none 0 0))]
noncomputable def span_least_c : Code := (Tryd.f91.body).getD .skip
def span_least_h : Hint := (.two .n (.two .n (.join [3] (.two .n (.one (.lp [] [1, 3, 6, 7] [3] (.two .n (.two (.two .n .n) (.join [1, 3, 6, 7] (.one (.two .n (.join [1, 3, 4, 6, 7, 30] .n (.two .n .n)))) .n)))))) (.two .n .n))))
noncomputable def span_least_env (m : Nat) : Env := []
noncomputable abbrev span_least_fin : KO (AV × List AObj) := tellFK Tryd.prog [.tmp 2]
noncomputable def span_least_r3 (m : Nat) (n0 : Nat) (kc : ASt → RO) (kx : KO (AV × List AObj)) (s : ASt) : RO := joinW Tryd.prog GG (span_least_env m) m ⟨34, []⟩ (cdR (cdR (cdR (cdL (cdL (cdR (cdL (cdR (cdR span_least_c))))))))) span_least_h.r.r.l.r.c.c.r.r.r s (backW n0 [1, 3, 6, 7] [3] kc kx)
noncomputable def span_least_r2 (m : Nat) (n0 : Nat) (kc : ASt → RO) (kx : KO (AV × List AObj)) (s : ASt) : RO := joinW Tryd.prog GG (span_least_env m) m ⟨34, []⟩ (cdR (cdR (cdL (cdL (cdR (cdR (cdL (cdL (cdR (cdL (cdR (cdR span_least_c)))))))))))) span_least_h.r.r.l.r.c.c.r.r.l.c.r.r s (blockX 1 (seqX (fun s => span_least_r3 m n0 kc kx ⟨s.H, [(1, gt s.T 1), (3, gt s.T 3), (6, gt s.T 6), (7, gt s.T 7)]⟩) (backW n0 [1, 3, 6, 7] [3] kc kx)))
noncomputable def span_least_r1 (m : Nat) (s : ASt) : RO := joinW Tryd.prog GG (span_least_env m) m ⟨34, []⟩ (cdR (cdR (cdR span_least_c))) span_least_h.r.r.r s (span_least_fin)
noncomputable def span_least_b1 (m : Nat) (s : ASt) (kc : ASt → RO) (kx : KO (AV × List AObj)) : RO := bodyW Tryd.prog GG (span_least_env m) m ⟨34, []⟩ (cdL (cdL (cdR (cdL (cdR (cdR span_least_c)))))) span_least_h.r.r.l.r.c.c [1, 3, 6, 7] [3] s kc kx
noncomputable def span_least (m : Nat) (t0 : AV) : RO := exec Tryd.prog GG (span_least_env m) m ⟨34, []⟩ span_least_c span_least_h ⟨[], argsT 0 [t0]⟩ (span_least_fin)
theorem span_least_r3_eq (m : Nat) (n0 : Nat) (kc : ASt → RO) (kx : KO (AV × List AObj)) (H : List AObj) (t1 t3 t6 t7 : AV) : span_least_r3 m n0 kc kx ⟨H, [(1, t1), (3, t3), (6, t6), (7, t7)]⟩ =
  binE none false false .add t7 (V (.int .i64 1)) fun t32 =>
  backE n0 H [(1, t1), (3, t3), (6, t6), (7, t32)] kc := by
  refine (joinW_eq Tryd.prog GG (span_least_env m) m ⟨34, []⟩ (cdR (cdR (cdR (cdL (cdL (cdR (cdL (cdR (cdR span_least_c))))))))) span_least_h.r.r.l.r.c.c.r.r.r ⟨H, [(1, t1), (3, t3), (6, t6), (7, t7)]⟩ (backW n0 [1, 3, 6, 7] [3] kc kx)).trans ?_
  kernel_rfl
theorem span_least_r2_eq (m : Nat) (n0 : Nat) (kc : ASt → RO) (kx : KO (AV × List AObj)) (H : List AObj) (t1 t3 t4 t6 t7 t30 : AV) : span_least_r2 m n0 kc kx ⟨H, [(1, t1), (3, t3), (4, t4), (6, t6), (7, t7), (30, t30)]⟩ =
  condE t30 (
   span_least_r3 m n0 kc kx ⟨H, [(1, t1), (3, t4), (6, t6), (7, t7)]⟩) (
   span_least_r3 m n0 kc kx ⟨H, [(1, t1), (3, t3), (6, t6), (7, t7)]⟩) := by
  refine (joinW_eq Tryd.prog GG (span_least_env m) m ⟨34, []⟩ (cdR (cdR (cdL (cdL (cdR (cdR (cdL (cdL (cdR (cdL (cdR (cdR span_least_c)))))))))))) span_least_h.r.r.l.r.c.c.r.r.l.c.r.r ⟨H, [(1, t1), (3, t3), (4, t4), (6, t6), (7, t7), (30, t30)]⟩ (blockX 1 (seqX (fun s => span_least_r3 m n0 kc kx ⟨s.H, [(1, gt s.T 1), (3, gt s.T 3), (6, gt s.T 6), (7, gt s.T 7)]⟩) (backW n0 [1, 3, 6, 7] [3] kc kx)))).trans ?_
  kernel_rfl
theorem span_least_r1_eq (m : Nat) (H : List AObj) (t3 : AV) : span_least_r1 m ⟨H, [(3, t3)]⟩ =
  tellK H (ro H t3) := by
  refine (joinW_eq Tryd.prog GG (span_least_env m) m ⟨34, []⟩ (cdR (cdR (cdR span_least_c))) span_least_h.r.r.r ⟨H, [(3, t3)]⟩ (span_least_fin)).trans ?_
  kernel_rfl
theorem span_least_b1_eq (m : Nat) (H : List AObj) (t1 t3 t6 t7 : AV) (kc : ASt → RO) (kx : KO (AV × List AObj)) : span_least_b1 m ⟨H, [(1, t1), (3, t3), (6, t6), (7, t7)]⟩ kc kx =
  binE none false false .lss t7 (V (.int .i64 16)) fun t8 =>
  condE t8 (
   idxVE false (some (16, 1)) t6 t7 fun t10 =>
   lenE false true H t10 fun t12 =>
   binE none false false .gtr t12 (V (.int .i64 0)) fun t13 =>
   condE t13 (
    binE none false false .lss t3 (V (.int .i64 0)) fun t16 =>
    condE t16 (
    span_least_r2 m H.length kc kx ⟨H, [(1, t1), (3, t3), (4, t7), (6, t6), (7, t7), (30, (V (.bool true)))]⟩) (
    idxSE 7 H t10 (V (.int .i64 0)) fun t19 =>
    fieldE (some (0, 1)) t19 fun t20 =>
    loadE 1 H t20 fun t21 =>
    idxPE 16 1 t1 t3 fun t23 =>
    loadE 1 H t23 fun t24 =>
    idxSE 7 H t24 (V (.int .i64 0)) fun t25 =>
    fieldE (some (0, 1)) t25 fun t26 =>
    loadE 1 H t26 fun t27 =>
    binE none false false .lss t21 t27 fun t28 =>
    span_least_r2 m H.length kc kx ⟨H, [(1, t1), (3, t3), (4, t7), (6, t6), (7, t7), (30, t28)]⟩)) (
    span_least_r2 m H.length kc kx ⟨H, [(1, t1), (3, t3), (4, t7), (6, t6), (7, t7), (30, (V (.bool false)))]⟩)) (
   kx (.exit 0) ⟨H, [(3, t3)]⟩) := by
  refine (bodyW_eq Tryd.prog GG (span_least_env m) m ⟨34, []⟩ (cdL (cdL (cdR (cdL (cdR (cdR span_least_c)))))) span_least_h.r.r.l.r.c.c [1, 3, 6, 7] [3] ⟨H, [(1, t1), (3, t3), (6, t6), (7, t7)]⟩ kc kx).trans ?_
  kernel_rfl
theorem span_least_eq (m : Nat) (t0 : AV) : span_least m t0 =
  boxE ty_a16_sl_api_Item [] t0 fun t1 H1 =>
  loadE 18 H1 t1 fun t6 =>
  iterC m (span_least_b1 m) ⟨H1, [(1, t1), (3, (V (.int .i64 (-1)))), (6, t6), (7, (V (.int .i64 0)))]⟩ (blockX 0 (seqX (fun s => span_least_r1 m ⟨s.H, [(3, gt s.T 3)]⟩) (span_least_fin))) := by
  refine (tellX Tryd.prog GG (span_least_env m) m ⟨34, []⟩ span_least_c span_least_h ⟨[], argsT 0 [t0]⟩ [.tmp 2]).trans ?_
  kernel_rfl
noncomputable def span_least_t (m : Nat) : List AV → RO | [t0] => span_least m t0 | _ => none
theorem span_least_ok (m : Nat) : ∀ args X H', span_least_t m args = some (X, H') → ACp Tryd.prog GG 91 args X := by
  intro args X H' h
  unfold span_least_t at h
  split at h
  · exact tell_okK MIX (by intro f e h; cases h) (f := 91) (c := span_least_c) Tryd.func91 rfl (by kernel_rfl) _ rfl Tryd.ntmps91 (Nat.le_of_ble_eq_true rfl) span_least_h h
  · cases h
noncomputable def span_all_c : Code := (Tryd.f72.body).getD .skip
def span_all_h : Hint := (.two .n (.two .n .n))
noncomputable def span_all_env (m : Nat) : Env := []
noncomputable abbrev span_all_fin (n0 : Nat) : KO (AV × List AObj) := openFK Tryd.prog n0 [.tmp 2]
noncomputable def span_all (m : Nat) (t0 : AV) (H : List AObj) : RO := exec Tryd.prog GG (span_all_env m) m ⟨4, []⟩ span_all_c span_all_h ⟨H, argsT 0 [t0]⟩ (span_all_fin H.length)
theorem span_all_eq (m : Nat) (t0 : AV) (H : List AObj) : span_all m t0 H =
  boxE ty_api_Trunk H t0 fun t1 H2 =>
  whenE (([t1] : List AV).all cap0) (
  openK H2 (ro H2 (CL (.func 90) 0 [t1]))) := by
  refine (openX Tryd.prog GG (span_all_env m) m ⟨4, []⟩ H.length span_all_c span_all_h ⟨H, argsT 0 [t0]⟩ [.tmp 2]).trans ?_
  kernel_rfl
noncomputable def span_all_t (m : Nat) : List AV → List AObj → RO | [t0], H => span_all m t0 H | _, _ => none
theorem span_all_ok (m : Nat) : ∀ args H X H', span_all_t m args H = some (X, H') → AC Tryd.prog GG 72 args H (Is X H') := by
  intro args H X H' h
  unfold span_all_t at h
  split at h
  · exact open_ok (n := H.length) MIX (by intro f e h; cases h) (f := 72) (c := span_all_c) Tryd.func72 rfl (by kernel_rfl) _ rfl Tryd.ntmps72 (Nat.le_of_ble_eq_true rfl) span_all_h h
  · cases h
noncomputable def span_right_c : Code := (Tryd.f71.body).getD .skip
def span_right_h : Hint := (.two .n (.two (.two .n (.two (.two .n .n) .n)) (.join [] (.two .n (.one (.lp [] [10, 11, 12] [4] (.two .n (.two (.two .n .n) (.two (.one (.two .n (.two .n (.two (.two .n .n) .n)))) .n)))))) (.two .n .n))))
noncomputable def span_right_env (m : Nat) : Env := [(47, .tell (trunk_May_t m)), (89, .tell (key_Pattern_t m))]
noncomputable abbrev span_right_fin : KO (AV × List AObj) := tellFK Tryd.prog [.tmp 4]
noncomputable def span_right_r1 (m : Nat) (s : ASt) : RO := joinW Tryd.prog GG (span_right_env m) m ⟨20, []⟩ (cdR (cdR (cdR span_right_c))) span_right_h.r.r.r s (span_right_fin)
noncomputable def span_right_b1 (m : Nat) (s : ASt) (kc : ASt → RO) (kx : KO (AV × List AObj)) : RO := bodyW Tryd.prog GG (span_right_env m) m ⟨20, []⟩ (cdL (cdL (cdR (cdL (cdR (cdR span_right_c)))))) span_right_h.r.r.l.r.c.c [10, 11, 12] [4] s kc kx
noncomputable def span_right (m : Nat) (t0 t1 : AV) : RO := exec Tryd.prog GG (span_right_env m) m ⟨20, []⟩ span_right_c span_right_h ⟨[], argsT 0 [t0, t1]⟩ (span_right_fin)
theorem span_right_r1_eq (m : Nat) (H : List AObj) : span_right_r1 m ⟨H, []⟩ =
  tellK H (ro H (V (.int .i64 0))) := by
  refine (joinW_eq Tryd.prog GG (span_right_env m) m ⟨20, []⟩ (cdR (cdR (cdR span_right_c))) span_right_h.r.r.r ⟨H, []⟩ (span_right_fin)).trans ?_
  kernel_rfl
theorem span_right_b1_eq (m : Nat) (H : List AObj) (t10 t11 t12 : AV) (kc : ASt → RO) (kx : KO (AV × List AObj)) : span_right_b1 m ⟨H, [(10, t10), (11, t11), (12, t12)]⟩ kc kx =
  binE none false false .lss t12 t11 fun t13 =>
  condE t13 (
   idxSE 1 H t10 t12 fun t14 =>
   loadE 1 H t14 fun t15 =>
   tellE (key_Pattern_t m [(ro H t15)]) [(ro H t15)] fun t17 =>
   unE .not t17 fun t18 =>
   condE t18 (
    kx .ret ⟨H, [(4, (V (.int .i64 3)))]⟩) (
    binE none false false .add t12 (V (.int .i64 1)) fun t19 =>
    backE H.length H [(10, t10), (11, t11), (12, t19)] kc)) (
   kx (.exit 0) ⟨H, [(4, .nil)]⟩) := by
  refine (bodyW_eq Tryd.prog GG (span_right_env m) m ⟨20, []⟩ (cdL (cdL (cdR (cdL (cdR (cdR span_right_c)))))) span_right_h.r.r.l.r.c.c [10, 11, 12] [4] ⟨H, [(10, t10), (11, t11), (12, t12)]⟩ kc kx).trans ?_
  kernel_rfl
theorem span_right_eq (m : Nat) (t0 t1 : AV) : span_right m t0 t1 =
  boxE ty_api_Trunk [] t0 fun t2 H1 =>
  loadE 34 H1 t2 fun t7 =>
  tellE (trunk_May_t m [(ro H1 t7)]) [(ro H1 t7)] fun t8 =>
  unE .not t8 fun t9 =>
  condE t9 (
   tellK H1 (ro H1 (V (.int .i64 1)))) (
   lenE false true H1 t1 fun t11 =>
   iterC m (span_right_b1 m) ⟨H1, [(10, t1), (11, t11), (12, (V (.int .i64 0)))]⟩ (blockX 0 (seqX (fun s => span_right_r1 m ⟨s.H, []⟩) (span_right_fin)))) := by
  refine (tellX Tryd.prog GG (span_right_env m) m ⟨20, []⟩ span_right_c span_right_h ⟨[], argsT 0 [t0, t1]⟩ [.tmp 4]).trans ?_
  kernel_rfl
noncomputable def span_right_t (m : Nat) : List AV → RO | [t0, t1] => span_right m t0 t1 | _ => none
theorem span_right_ok (m : Nat) : ∀ args X H', span_right_t m args = some (X, H') → ACp Tryd.prog GG 71 args X := by
  intro args X H' h
  unfold span_right_t at h
  split at h
  · exact tell_okK MIX (by
    intro f e h
    simp only [span_right_env, Prod.mk.injEq, List.mem_cons, List.not_mem_nil, or_false] at h
    rcases h with ⟨rfl, rfl⟩ | ⟨rfl, rfl⟩
    · exact trunk_May_ok m
    · exact key_Pattern_ok m) (f := 71) (c := span_right_c) Tryd.func71 rfl (by kernel_rfl) _ rfl Tryd.ntmps71 (Nat.le_of_ble_eq_true rfl) span_right_h h
  · cases h
noncomputable def span_Scan_c : Code := (Tryd.f49.body).getD .skip
def span_Scan_h : Hint := (.two .n (.two (.two .n (.two .n (.two (.two .n .n) .n))) (.two .n (.two (.two .n (.one .n)) (.two .n .n)))))
noncomputable def span_Scan_env (m : Nat) : Env := [(71, .tell (span_right_t m)), (72, .keep (span_all_t m))]
noncomputable abbrev span_Scan_fin : KO (AV × List AObj) := tellFK Tryd.prog [.tmp 8, .tmp 9]
noncomputable def span_Scan (m : Nat) (t0 t1 t2 t3 : AV) : RO := exec Tryd.prog GG (span_Scan_env m) m ⟨49, []⟩ span_Scan_c span_Scan_h ⟨[], argsT 0 [t0, t1, t2, t3]⟩ (span_Scan_fin)
theorem span_Scan_eq (m : Nat) (t0 t1 t2 t3 : AV) : span_Scan m t0 t1 t2 t3 =
  boxE ty_api_Trunk [] t0 fun t4 H1 =>
  boxE ty_string H1 t1 fun t5 H2 =>
  boxE ty_string H2 t2 fun t6 H3 =>
  boxE ty_int H3 t3 fun t7 H4 =>
  loadE 34 H4 t4 fun t14 =>
  loadE 1 H4 t5 fun t15 =>
  loadE 1 H4 t6 fun t16 =>
  buildSE (some (ty_string, 1)) 2 [(0, t15), (1, t16)] fun t17 =>
  tellE (span_right m (ro H4 t14) (ro H4 t17)) [(ro H4 t14), (ro H4 t17)] fun t18 =>
  binE none false false .neq t18 (V (.int .i64 0)) fun t20 =>
  condE t20 (
   tellK H4 (ro H4 (TU [noT (V (.slice none 0 0)), noT t18]))) (
   allocE (some zc_sl_api_Item) ty_sl_api_Item H4 fun t11 H5 =>
   loadE 34 H5 t4 fun t22 =>
   keepE (span_all m (ro H5 t22) H5) fun t23 H6 =>
   none) := by
  refine (tellX Tryd.prog GG (span_Scan_env m) m ⟨49, []⟩ span_Scan_c span_Scan_h ⟨[], argsT 0 [t0, t1, t2, t3]⟩ [.tmp 8, .tmp 9]).trans ?_
  kernel_rfl
noncomputable def span_Scan_t (m : Nat) : List AV → RO | [t0, t1, t2, t3] => span_Scan m t0 t1 t2 t3 | _ => none
theorem span_Scan_ok (m : Nat) : ∀ args X H', span_Scan_t m args = some (X, H') → ACp Tryd.prog GG 49 args X := by
  intro args X H' h
  unfold span_Scan_t at h
  split at h
  · exact tell_okK MIX (by
    intro f e h
    simp only [span_Scan_env, Prod.mk.injEq, List.mem_cons, List.not_mem_nil, or_false] at h
    rcases h with ⟨rfl, rfl⟩ | ⟨rfl, rfl⟩
    · exact span_right_ok m
    · exact span_all_ok m) (f := 49) (c := span_Scan_c) Tryd.func49 rfl (by kernel_rfl) _ rfl Tryd.ntmps49 (Nat.le_of_ble_eq_true rfl) span_Scan_h h
  · cases h
end Go.Proofs.YtoeajbhlkccekaaDoor

namespace Go.Proofs.YtoeajbhlkccekaaDoor
open Go.RowKit
set_option maxRecDepth 100000
noncomputable def ScanA_c : Code := farC 3 (endC 0 ((Tryd.f49.body).getD .skip)) .skip
def ScanA_h : Hint := (.two .n (.two (.two .n (.two .n (.two (.two .n .n) .n))) (.two .n .n)))
noncomputable def ScanA_env (m : Nat) : Env := [(71, .tell (span_right_t m))]
noncomputable abbrev ScanA_fin (n0 : Nat) : KO (AV × List AObj) := nslFK [4, 5, 6, 7, 11]
noncomputable def ScanA (m : Nat) (D : List Deferred) (t0 t1 t2 t3 : AV) (H : List AObj) : RO := exec Tryd.prog GG (ScanA_env m) m ⟨49, D⟩ ScanA_c ScanA_h ⟨H, [(0, t0), (1, t1), (2, t2), (3, t3)]⟩ (ScanA_fin H.length)
theorem ScanA_eq (m : Nat) (D : List Deferred) (t0 t1 t2 t3 : AV) (H : List AObj) : ScanA m D t0 t1 t2 t3 H =
  boxE ty_api_Trunk H t0 fun t4 H2 =>
  boxE ty_string H2 t1 fun t5 H3 =>
  boxE ty_string H3 t2 fun t6 H4 =>
  boxE ty_int H4 t3 fun t7 H5 =>
  loadE 34 H5 t4 fun t14 =>
  loadE 1 H5 t5 fun t15 =>
  loadE 1 H5 t6 fun t16 =>
  buildSE (some (ty_string, 1)) 2 [(0, t15), (1, t16)] fun t17 =>
  tellE (span_right m (ro H5 t14) (ro H5 t17)) [(ro H5 t14), (ro H5 t17)] fun t18 =>
  binE none false false .neq t18 (V (.int .i64 0)) fun t20 =>
  condE t20 (
   none) (
   allocE (some zc_sl_api_Item) ty_sl_api_Item H5 fun t11 H6 =>
   some (TU [t4, t5, t6, t7, t11], H6)) := by
  refine (nslX Tryd.prog GG (ScanA_env m) m ⟨49, D⟩ ScanA_c ScanA_h ⟨H, [(0, t0), (1, t1), (2, t2), (3, t3)]⟩ [4, 5, 6, 7, 11]).trans ?_
  kernel_rfl
theorem ScanA_hE (m : Nat) : EnvOk Tryd.prog GG (ScanA_env m) := (by
    intro f e h
    simp only [ScanA_env, Prod.mk.injEq, List.mem_cons, List.not_mem_nil, or_false] at h
    obtain ⟨rfl, rfl⟩ := h
    · exact span_right_ok m)
end Go.Proofs.YtoeajbhlkccekaaDoor

namespace Go.Proofs.YtoeajbhlkccekaaDoor
open Go.RowKit
set_option maxRecDepth 100000
noncomputable def ScanB_c : Code := (cdL (cdL (endC 3 ((Tryd.f49.body).getD .skip))))
def ScanB_h : Hint := .n
noncomputable def ScanB_env (m : Nat) : Env := [(72, .keep (span_all_t m))]
noncomputable abbrev ScanB_fin (n0 : Nat) : KO (AV × List AObj) := nslFK [4, 5, 6, 7, 11, 23]
noncomputable def ScanB (m : Nat) (D : List Deferred) (t4 t5 t6 t7 t11 : AV) (H : List AObj) : RO := exec Tryd.prog GG (ScanB_env m) m ⟨49, D⟩ ScanB_c ScanB_h ⟨H, [(4, t4), (5, t5), (6, t6), (7, t7), (11, t11)]⟩ (ScanB_fin H.length)
theorem ScanB_eq (m : Nat) (D : List Deferred) (t4 t5 t6 t7 t11 : AV) (H : List AObj) : ScanB m D t4 t5 t6 t7 t11 H =
  loadE 34 H t4 fun t22 =>
  keepE (span_all m (ro H t22) H) fun t23 H2 =>
  some (TU [t4, t5, t6, t7, t11, t23], H2) := by
  refine (nslX Tryd.prog GG (ScanB_env m) m ⟨49, D⟩ ScanB_c ScanB_h ⟨H, [(4, t4), (5, t5), (6, t6), (7, t7), (11, t11)]⟩ [4, 5, 6, 7, 11, 23]).trans ?_
  kernel_rfl
theorem ScanB_hE (m : Nat) : EnvOk Tryd.prog GG (ScanB_env m) := (by
    intro f e h
    simp only [ScanB_env, Prod.mk.injEq, List.mem_cons, List.not_mem_nil, or_false] at h
    obtain ⟨rfl, rfl⟩ := h
    · exact span_all_ok m)
end Go.Proofs.YtoeajbhlkccekaaDoor

namespace Go.Proofs.YtoeajbhlkccekaaDoor
open Go.RowKit
set_option maxRecDepth 100000
noncomputable def ScanC_c : Code := (endC 4 ((Tryd.f49.body).getD .skip))
def ScanC_h : Hint := (.two .n .n)
noncomputable def ScanC_env (m : Nat) : Env := []
noncomputable abbrev ScanC_fin (n0 : Nat) : KO (AV × List AObj) := rawFK Tryd.prog n0 [.tmp 8, .tmp 9]
noncomputable def ScanC (m : Nat) (D : List Deferred) (t11 : AV) (H : List AObj) : RO := exec Tryd.prog GG (ScanC_env m) m ⟨49, D⟩ ScanC_c ScanC_h ⟨H, [(11, t11)]⟩ (ScanC_fin H.length)
theorem ScanC_eq (m : Nat) (D : List Deferred) (t11 : AV) (H : List AObj) : ScanC m D t11 H =
  loadE 1 H t11 fun t48 =>
  some (ro H (TU [noT t48, noT (V (.int .i64 0))]), H) := by
  refine (rawX Tryd.prog GG (ScanC_env m) m ⟨49, D⟩ H.length ScanC_c ScanC_h ⟨H, [(11, t11)]⟩ [.tmp 8, .tmp 9]).trans ?_
  kernel_rfl
theorem ScanC_hE (m : Nat) : EnvOk Tryd.prog GG (ScanC_env m) := (by intro f e h; cases h)
end Go.Proofs.YtoeajbhlkccekaaDoor

namespace Go.Proofs.YtoeajbhlkccekaaDoor
open Go.RowKit
set_option maxRecDepth 100000
def zc_a16_sl_api_Item : List AV := [(V (.slice none 0 0)), (V (.slice none 0 0)), (V (.slice none 0 0)), (V (.slice none 0 0)), (V (.slice none 0 0)), (V (.slice none 0 0)), (V (.slice none 0 0)), (V (.slice none 0 0)), (V (.slice none 0 0)), (V (.slice none 0 0)), (V (.slice none 0 0)), (V (.slice none 0 0)), (V (.slice none 0 0)), (V (.slice none 0 0)), (V (.slice none 0 0)), (V (.slice none 0 0))]
noncomputable def AllA_c : Code := farC 3 (endC 0 ((Tryd.f90.body).getD .skip)) .skip
def AllA_h : Hint := (.two .n (.two .n (.two .n .n)))
noncomputable def AllA_env (m : Nat) : Env := [(91, .tell (span_least_t m))]
noncomputable abbrev AllA_fin (n0 : Nat) : KO (AV × List AObj) := nslFK [0, 3, 4, 5]
noncomputable def AllA (m : Nat) (D : List Deferred) (t0 t1 : AV) (H : List AObj) : RO := exec Tryd.prog GG (AllA_env m) m ⟨31, D⟩ AllA_c AllA_h ⟨H, [(0, t0), (1, t1)]⟩ (AllA_fin H.length)
theorem AllA_eq (m : Nat) (D : List Deferred) (t0 t1 : AV) (H : List AObj) : AllA m D t0 t1 H =
  fieldE (some (0, 18)) t1 fun t6 =>
  loadE 18 H t6 fun t7 =>
  allocE (some zc_a16_sl_api_Item) ty_a16_sl_api_Item H fun t3 H2 =>
  storeE 18 H2 t3 t7 fun H3 =>
  loadE 18 H3 t3 fun t8 =>
  tellE (span_least m (ro H3 t8)) [(ro H3 t8)] fun t9 =>
  some (TU [t0, t3, (V (.int .i64 0)), t9], H3) := by
  refine (nslX Tryd.prog GG (AllA_env m) m ⟨31, D⟩ AllA_c AllA_h ⟨H, [(0, t0), (1, t1)]⟩ [0, 3, 4, 5]).trans ?_
  kernel_rfl
theorem AllA_hE (m : Nat) : EnvOk Tryd.prog GG (AllA_env m) := (by
    intro f e h
    simp only [AllA_env, Prod.mk.injEq, List.mem_cons, List.not_mem_nil, or_false] at h
    obtain ⟨rfl, rfl⟩ := h
    · exact span_least_ok m)
end Go.Proofs.YtoeajbhlkccekaaDoor

namespace Go.Proofs.YtoeajbhlkccekaaDoor
open Go.RowKit
set_option maxRecDepth 100000
noncomputable def AllB_c : Code := (cdL (cdL (cdL (cdL (endC 3 ((Tryd.f90.body).getD .skip))))))
def AllB_h : Hint := .n
noncomputable def AllB_env (m : Nat) : Env := []
noncomputable abbrev AllB_fin (n0 : Nat) : KO (AV × List AObj) := nslFK [0, 3, 4, 5, 11]
noncomputable def AllB (m : Nat) (D : List Deferred) (t0 t3 t4 t5 : AV) (H : List AObj) : RO := exec Tryd.prog GG (AllB_env m) m ⟨31, D⟩ AllB_c AllB_h ⟨H, [(0, t0), (3, t3), (4, t4), (5, t5)]⟩ (AllB_fin H.length)
theorem AllB_eq (m : Nat) (D : List Deferred) (t0 t3 t4 t5 : AV) (H : List AObj) : AllB m D t0 t3 t4 t5 H =
  binE none false false .geq t5 (V (.int .i64 0)) fun t11 =>
  some (TU [t0, t3, t4, t5, t11], H) := by
  refine (nslX Tryd.prog GG (AllB_env m) m ⟨31, D⟩ AllB_c AllB_h ⟨H, [(0, t0), (3, t3), (4, t4), (5, t5)]⟩ [0, 3, 4, 5, 11]).trans ?_
  kernel_rfl
theorem AllB_hE (m : Nat) : EnvOk Tryd.prog GG (AllB_env m) := (by intro f e h; cases h)
end Go.Proofs.YtoeajbhlkccekaaDoor

namespace Go.Proofs.YtoeajbhlkccekaaDoor
open Go.RowKit
set_option maxRecDepth 100000
noncomputable def AllC_c : Code := (regP 7 (cdL (cdL (cdL (cdL (cdR (cdL (cdL (endC 3 ((Tryd.f90.body).getD .skip))))))))))
def AllC_h : Hint := .n
noncomputable def AllC_env (m : Nat) : Env := []
noncomputable abbrev AllC_fin (n0 : Nat) : KO (AV × List AObj) := nslFK [0, 3, 4, 5, 14, 15, 20]
noncomputable def AllC (m : Nat) (D : List Deferred) (t0 t3 t4 t5 : AV) (H : List AObj) : RO := exec Tryd.prog GG (AllC_env m) m ⟨31, D⟩ AllC_c AllC_h ⟨H, [(0, t0), (3, t3), (4, t4), (5, t5)]⟩ (AllC_fin H.length)
theorem AllC_eq (m : Nat) (D : List Deferred) (t0 t3 t4 t5 : AV) (H : List AObj) : AllC m D t0 t3 t4 t5 H =
  idxPE 16 1 t3 t5 fun t17 =>
  loadE 1 H t17 fun t18 =>
  idxSE 7 H t18 (V (.int .i64 0)) fun t19 =>
  loadE 7 H t19 fun t20 =>
  some (TU [t0, t3, t4, t5, t0, t4, t20], H) := by
  refine (nslX Tryd.prog GG (AllC_env m) m ⟨31, D⟩ AllC_c AllC_h ⟨H, [(0, t0), (3, t3), (4, t4), (5, t5)]⟩ [0, 3, 4, 5, 14, 15, 20]).trans ?_
  kernel_rfl
theorem AllC_hE (m : Nat) : EnvOk Tryd.prog GG (AllC_env m) := (by intro f e h; cases h)
end Go.Proofs.YtoeajbhlkccekaaDoor

namespace Go.Proofs.YtoeajbhlkccekaaDoor
open Go.RowKit
set_option maxRecDepth 100000
noncomputable def AllD_c : Code := (regD 8 (cdL (cdL (cdL (cdL (cdR (cdL (cdL (endC 3 ((Tryd.f90.body).getD .skip))))))))))
def AllD_h : Hint := .n
noncomputable def AllD_env (m : Nat) : Env := []
noncomputable abbrev AllD_fin (n0 : Nat) : KO (AV × List AObj) := nslFK [0, 3, 4, 5, 22]
noncomputable def AllD (m : Nat) (D : List Deferred) (t0 t3 t4 t5 t21 : AV) (H : List AObj) : RO := exec Tryd.prog GG (AllD_env m) m ⟨31, D⟩ AllD_c AllD_h ⟨H, [(0, t0), (3, t3), (4, t4), (5, t5), (21, t21)]⟩ (AllD_fin H.length)
theorem AllD_eq (m : Nat) (D : List Deferred) (t0 t3 t4 t5 t21 : AV) (H : List AObj) : AllD m D t0 t3 t4 t5 t21 H =
  unE .not t21 fun t22 =>
  some (TU [t0, t3, t4, t5, t22], H) := by
  refine (nslX Tryd.prog GG (AllD_env m) m ⟨31, D⟩ AllD_c AllD_h ⟨H, [(0, t0), (3, t3), (4, t4), (5, t5), (21, t21)]⟩ [0, 3, 4, 5, 22]).trans ?_
  kernel_rfl
theorem AllD_hE (m : Nat) : EnvOk Tryd.prog GG (AllD_env m) := (by intro f e h; cases h)
end Go.Proofs.YtoeajbhlkccekaaDoor

namespace Go.Proofs.YtoeajbhlkccekaaDoor
open Go.RowKit
set_option maxRecDepth 100000
noncomputable def AllE_c : Code := (cdR (cdL (cdL (cdR (cdL (cdL (endC 3 ((Tryd.f90.body).getD .skip))))))))
def AllE_h : Hint := (.two .n .n)
noncomputable def AllE_env (m : Nat) : Env := []
noncomputable abbrev AllE_fin (n0 : Nat) : KO (AV × List AObj) := nslFK [0, 3, 4, 5]
noncomputable def AllE (m : Nat) (D : List Deferred) (t0 t3 t4 t5 : AV) (H : List AObj) : RO := exec Tryd.prog GG (AllE_env m) m ⟨31, D⟩ AllE_c AllE_h ⟨H, [(0, t0), (3, t3), (4, t4), (5, t5)]⟩ (AllE_fin H.length)
theorem AllE_eq (m : Nat) (D : List Deferred) (t0 t3 t4 t5 : AV) (H : List AObj) : AllE m D t0 t3 t4 t5 H =
  idxPE 16 1 t3 t5 fun t25 =>
  loadE 1 H t25 fun t26 =>
  sliceE false (some (ty_api_Item, 7)) H t26 (some (V (.int .i64 1))) none fun t27 =>
  idxPE 16 1 t3 t5 fun t28 =>
  storeE 1 H t28 t27 fun H2 =>
  binE none false false .add t4 (V (.int .i64 1)) fun t30 =>
  some (TU [t0, t3, t30, t5], H2) := by
  refine (nslX Tryd.prog GG (AllE_env m) m ⟨31, D⟩ AllE_c AllE_h ⟨H, [(0, t0), (3, t3), (4, t4), (5, t5)]⟩ [0, 3, 4, 5]).trans ?_
  kernel_rfl
theorem AllE_hE (m : Nat) : EnvOk Tryd.prog GG (AllE_env m) := (by intro f e h; cases h)
end Go.Proofs.YtoeajbhlkccekaaDoor

namespace Go.Proofs.YtoeajbhlkccekaaDoor
open Go.RowKit
set_option maxRecDepth 100000
noncomputable def AllF_c : Code := (cdR (cdR (cdL (cdL (endC 3 ((Tryd.f90.body).getD .skip))))))
def AllF_h : Hint := .n
noncomputable def AllF_env (m : Nat) : Env := [(91, .tell (span_least_t m))]
noncomputable abbrev AllF_fin (n0 : Nat) : KO (AV × List AObj) := nslFK [0, 3, 4, 5]
noncomputable def AllF (m : Nat) (D : List Deferred) (t0 t3 t4 t5 : AV) (H : List AObj) : RO := exec Tryd.prog GG (AllF_env m) m ⟨31, D⟩ AllF_c AllF_h ⟨H, [(0, t0), (3, t3), (4, t4), (5, t5)]⟩ (AllF_fin H.length)
theorem AllF_eq (m : Nat) (D : List Deferred) (t0 t3 t4 t5 : AV) (H : List AObj) : AllF m D t0 t3 t4 t5 H =
  loadE 18 H t3 fun t12 =>
  tellE (span_least m (ro H t12)) [(ro H t12)] fun t13 =>
  some (TU [t0, t3, t4, t13], H) := by
  refine (nslX Tryd.prog GG (AllF_env m) m ⟨31, D⟩ AllF_c AllF_h ⟨H, [(0, t0), (3, t3), (4, t4), (5, t5)]⟩ [0, 3, 4, 5]).trans ?_
  kernel_rfl
theorem AllF_hE (m : Nat) : EnvOk Tryd.prog GG (AllF_env m) := (by
    intro f e h
    simp only [AllF_env, Prod.mk.injEq, List.mem_cons, List.not_mem_nil, or_false] at h
    obtain ⟨rfl, rfl⟩ := h
    · exact span_least_ok m)
end Go.Proofs.YtoeajbhlkccekaaDoor

namespace Go.Proofs.YtoeajbhlkccekaaDoor
open Go.RowKit
set_option maxRecDepth 100000
noncomputable def ScanR_c : Code := (rfS (cdL (cdR (cdL (endC 3 ((Tryd.f49.body).getD .skip))))))
def ScanR_h : Hint := (.two .n (.one (.join [5, 8, 9, 11, 13] (.join [5, 8, 9, 11, 13, 39] .n (.two .n .n)) (.two .n (.two .n .n)))))
noncomputable def ScanR_env (m : Nat) : Env := []
noncomputable abbrev ScanR_fin (n0 : Nat) : KO (AV × List AObj) := rndFK n0
noncomputable def ScanR_r2 (m : Nat) (D : List Deferred) (n0k : Nat) (s : ASt) : RO := joinW Tryd.prog GG (ScanR_env m) m ⟨49, D⟩ (cdR (cdL (cdR ScanR_c))) ScanR_h.r.c.r s (blockX 1 (ScanR_fin n0k))
noncomputable def ScanR_r1 (m : Nat) (D : List Deferred) (n0k : Nat) (s : ASt) : RO := joinW Tryd.prog GG (ScanR_env m) m ⟨49, D⟩ (cdR (cdL (cdL (cdR ScanR_c)))) ScanR_h.r.c.l.r s (seqX (fun s => ScanR_r2 m D n0k ⟨s.H, [(5, gt s.T 5), (8, gt s.T 8), (9, gt s.T 9), (11, gt s.T 11), (13, gt s.T 13)]⟩) (blockX 1 (ScanR_fin n0k)))
noncomputable def ScanR (m : Nat) (D : List Deferred) (t25 t24 t4 t5 t6 t7 t11 : AV) (H : List AObj) : RO := exec Tryd.prog GG (ScanR_env m) m ⟨49, D⟩ ScanR_c ScanR_h ⟨H, [(25, t25), (24, t24), (4, t4), (5, t5), (6, t6), (7, t7), (11, t11)]⟩ (ScanR_fin H.length)
theorem ScanR_r2_eq (m : Nat) (D : List Deferred) (n0k : Nat) (H : List AObj) (t5 t8 t9 t11 t13 : AV) : ScanR_r2 m D n0k ⟨H, [(5, t5), (8, t8), (9, t9), (11, t11), (13, t13)]⟩ =
  fieldE (some (0, 1)) t13 fun t40 =>
  loadE 1 H t40 fun t41 =>
  loadE 1 H t5 fun t42 =>
  binE none false false .geq t41 t42 fun t43 =>
  condE t43 (
   loadE 1 H t11 fun t44 =>
   loadE 7 H t13 fun t45 =>
   buildSE (some (ty_api_Item, 5)) 1 [(0, t45)] fun t46 =>
   appE (some (ty_api_Item, 5)) H t44 t46 fun t47 H2 =>
   storeE 1 H2 t11 t47 fun H3 =>
   roundK n0k H3 (V (.bool true))) (
   roundK n0k H (V (.bool true))) := by
  refine (joinW_eq Tryd.prog GG (ScanR_env m) m ⟨49, D⟩ (cdR (cdL (cdR ScanR_c))) ScanR_h.r.c.r ⟨H, [(5, t5), (8, t8), (9, t9), (11, t11), (13, t13)]⟩ (blockX 1 (ScanR_fin n0k))).trans ?_
  kernel_rfl
theorem ScanR_r1_eq (m : Nat) (D : List Deferred) (n0k : Nat) (H : List AObj) (t5 t8 t9 t11 t13 t39 : AV) : ScanR_r1 m D n0k ⟨H, [(5, t5), (8, t8), (9, t9), (11, t11), (13, t13), (39, t39)]⟩ =
  condE t39 (
   roundK n0k H (V (.int .i64 0))) (
   ScanR_r2 m D n0k ⟨H, [(5, t5), (8, t8), (9, t9), (11, t11), (13, t13)]⟩) := by
  refine (joinW_eq Tryd.prog GG (ScanR_env m) m ⟨49, D⟩ (cdR (cdL (cdL (cdR ScanR_c)))) ScanR_h.r.c.l.r ⟨H, [(5, t5), (8, t8), (9, t9), (11, t11), (13, t13), (39, t39)]⟩ (seqX (fun s => ScanR_r2 m D n0k ⟨s.H, [(5, gt s.T 5), (8, gt s.T 8), (9, gt s.T 9), (11, gt s.T 11), (13, gt s.T 13)]⟩) (blockX 1 (ScanR_fin n0k)))).trans ?_
  kernel_rfl
theorem ScanR_eq (m : Nat) (D : List Deferred) (t25 t24 t4 t5 t6 t7 t11 : AV) (H : List AObj) : ScanR m D t25 t24 t4 t5 t6 t7 t11 H =
  allocE (some zc_api_Item) ty_api_Item H fun t13 H2 =>
  storeE 7 H2 t13 t25 fun H3 =>
  loadE 1 H3 t11 fun t26 =>
  lenE false true H3 t26 fun t27 =>
  loadE 1 H3 t7 fun t28 =>
  binE none false false .geq t27 t28 fun t29 =>
  condE t29 (
   ScanR_r1 m D H.length ⟨H3, [(5, t5), (8, .nil), (9, .nil), (11, t11), (13, t13), (39, (V (.bool true)))]⟩) (
   loadE 1 H3 t6 fun t31 =>
   binE none false false .neq t31 (V (.string ⟨#[]⟩)) fun t32 =>
   condE t32 (
   fieldE (some (0, 1)) t13 fun t34 =>
   loadE 1 H3 t34 fun t35 =>
   loadE 1 H3 t6 fun t36 =>
   binE none false false .geq t35 t36 fun t37 =>
   ScanR_r1 m D H.length ⟨H3, [(5, t5), (8, .nil), (9, .nil), (11, t11), (13, t13), (39, t37)]⟩) (
   ScanR_r1 m D H.length ⟨H3, [(5, t5), (8, .nil), (9, .nil), (11, t11), (13, t13), (39, (V (.bool false)))]⟩)) := by
  refine (rndX Tryd.prog GG (ScanR_env m) m ⟨49, D⟩ H.length ScanR_c ScanR_h ⟨H, [(25, t25), (24, t24), (4, t4), (5, t5), (6, t6), (7, t7), (11, t11)]⟩ ).trans ?_
  kernel_rfl
theorem ScanR_hE (m : Nat) : EnvOk Tryd.prog GG (ScanR_env m) := (by intro f e h; cases h)
end Go.Proofs.YtoeajbhlkccekaaDoor

namespace Go.Proofs.YtoeajbhlkccekaaDoor
open Go.RowKit
set_option maxRecDepth 20000
attribute [local go_sem] tC_len tC_sure tC_ltA tC_lt1 tC_ro tC_take tC_all1 zcT_eq zcI_len zC_len zC_ltA zC_lt1 zC_sure zC_ro zC_take set_tl set_tv sc_tt sc_zt sc_tz sc_zz add16 tA_def lA_def natInt u_tl u_tv
def hdK (t : Tr) (b : Nat) : Item := (t.leaf b).headD Item.zero
def stepB (t : Tr) (b : Nat) (best : Int) : Int := if (t.leaf b).length = 0 then best else if best < 0 then b else if less (hdK t b).key (hdK t best.toNat).key then b else best
def bestN (t : Tr) : Nat → Int
  | 0 => -1
  | k + 1 => stepB t k (bestN t k)
def leastT (t : Tr) : Int := bestN t 16
theorem bestN_at (t : Tr) : ∀ k, bestN t k = -1 ∨ ∃ j, j < k ∧ bestN t k = (j : Nat) ∧ 0 < (t.leaf j).length
  | 0 => .inl rfl
  | k + 1 => by
    unfold bestN stepB
    split
    · rcases bestN_at t k with h | ⟨j, h1, h2, h3⟩
      · exact .inl h
      · exact .inr ⟨j, by omega, h2, h3⟩
    · split
      · exact .inr ⟨k, by omega, rfl, by omega⟩
      · split
        · exact .inr ⟨k, by omega, rfl, by omega⟩
        · rcases bestN_at t k with h | ⟨j, h1, h2, h3⟩
          · exact .inl h
          · exact .inr ⟨j, by omega, h2, h3⟩
theorem leC_all {t : Tr} {p : AV → Bool} (h1 : ∀ l : List Item, p (lA l) = true) : (leC t).all p = true := List.all_eq_true.2 fun d hd => by obtain ⟨l, rfl⟩ := leC_mem hd; exact h1 l
theorem leC_ltA {t : Tr} {m : Nat} : (leC t).all (ltA m) = true := leC_all fun _ => rfl
theorem leC_sure {t : Tr} : (leC t).all sure = true := leC_all fun _ => rfl
theorem leC_take {t : Tr} : (leC t).take 16 = leC t := List.take_of_length_le (by rw [leC_len]; exact Nat.le_refl _)
theorem leC_ro {t : Tr} {H : List AObj} : (leC t).map (ro1 H) = leC t := by
  have : ∀ l : List AV, (∀ d ∈ l, ro1 H d = d) → l.map (ro1 H) = l := fun l h => by
    conv => rhs; rw [← List.map_id l]
    exact List.map_congr_left h
  refine this _ fun d hd => ?_
  obtain ⟨l, rfl⟩ := leC_mem hd; rfl
theorem u_le {R : Type} {t : Tr} {i : Nat} {K1 : AV → Option R} (h : i < 16) : nthE (leC t) i K1 = K1 (lA (t.leaf i)) := by
  simp [nthE, leC, List.getElem?_map, List.getElem?_range h]
theorem set_le {t : Tr} {i : Nat} {l : List Item} : (leC t).set i (SL (l.map (flA Item.cells))) = leC (t.setL i l) := by
  rw [leC, set_map (α := Nat)]
  unfold leC Tr.setL
  refine List.map_congr_left fun j _ => ?_
  dsimp only
  split <;> rfl
theorem zle_len : zc_a16_sl_api_Item.length = 16 := _root_.id rfl
theorem zle_set {t : Tr} : setCells zc_a16_sl_api_Item 0 (leC t) = leC t := setCells_all (by rw [leC_len]; rfl)
theorem hd_get {l : List Item} (h : 0 < l.length) : l[0] = l.headD Item.zero := by cases l with | nil => simp at h | cons => rfl
theorem less_def {a b : Bytes} : Op.bytesLess a b = less a b := _root_.id rfl
theorem least_s (m : Nat) (t : Tr) (hm : 16 < m) : span_least m (.agg (leC t)) = some (nA (leastT t), []) := by
  rw [span_least_eq]
  simp (config := {maxSteps := 4000000, implicitDefEqProofs := false}) (disch := omega) only [go_sem, leC_sure, leC_take, leC_ltA, leC_len, leC_ro]
  refine iter_go (ι := {k : Nat // k ≤ 16}) (fun k => ⟨[⟨1, ty_a16_sl_api_Item, 0, leC t⟩], [(1, OP 0 0), (3, nA (bestN t k.1)), (6, .agg (leC t)), (7, nA k.1)]⟩) (fun k => 16 - k.1) (fun _ => some (nA (leastT t), [])) ?_ ⟨0, Nat.zero_le _⟩ (by dsimp only; omega)
  rintro kx hkx ⟨k, hk⟩ kc hkc
  dsimp only at hkc ⊢
  rw [span_least_b1_eq]
  by_cases hlt : k < 16
  · have hlt' : (k : Int) < 16 := by omega
    have step := hkc ⟨k + 1, by omega⟩ (by dsimp only; omega)
    dsimp only at step
    rw [show bestN t (k + 1) = stepB t k (bestN t k) from rfl] at step
    unfold stepB at step
    have hb := bestN_at t k
    generalize bestN t k = best at *
    by_cases h0 : 0 < (t.leaf k).length
    · have h0' : (0 : Int) < ((t.leaf k).length : Int) := by omega
      rw [if_neg (by omega)] at step
      rcases hb with rfl | ⟨j, hj, rfl, hj0⟩
      · rw [if_pos (by omega)] at step
        simp (config := {maxSteps := 4000000, implicitDefEqProofs := false}) (disch := omega) only [go_sem, hlt', u_le, h0', span_least_r2_eq, span_least_r3_eq, w_i64, leC_ltA]
        exact step
      · have hj16 : j < 16 := by omega
        rw [if_neg (by omega), natInt] at step
        have hj16' : decide ((j : Int) < 16) = true := decide_eq_true (by omega)
        have hjn : ¬ (j : Int) < 0 := by omega
        have hj0' : (0 : Int) < ((t.leaf j).length : Int) := by omega
        simp (config := {maxSteps := 4000000, implicitDefEqProofs := false}) (disch := omega) only [go_sem, hlt', u_le, h0', hj0', hjn, u_nthM, fl_it, h0, hj0, hd_get, hj16, less_def, leC_lt1]
        unfold hdK at step
        cases hl : less ((t.leaf k).headD Item.zero).key ((t.leaf j).headD Item.zero).key with
        | false =>
          rw [hl, if_neg (by decide)] at step
          simp (config := {maxSteps := 4000000, implicitDefEqProofs := false}) (disch := omega) only [go_sem, span_least_r2_eq, span_least_r3_eq, w_i64, leC_ltA, hj16', hj16, leC_lt1]
          exact step
        | true =>
          rw [hl, if_pos rfl] at step
          simp (config := {maxSteps := 4000000, implicitDefEqProofs := false}) (disch := omega) only [go_sem, span_least_r2_eq, span_least_r3_eq, w_i64, leC_ltA, hj16', hj16, leC_lt1]
          exact step
    · have h0' : ¬ (0 : Int) < ((t.leaf k).length : Int) := by omega
      rw [if_pos (by omega)] at step
      simp (config := {maxSteps := 4000000, implicitDefEqProofs := false}) (disch := omega) only [go_sem, hlt', u_le, h0', span_least_r2_eq, span_least_r3_eq, w_i64, leC_ltA]
      exact step
  · have hlt' : ¬ (k : Int) < 16 := by omega
    have : k = 16 := by omega
    subst this
    simp (config := {maxSteps := 4000000, implicitDefEqProofs := false}) (disch := omega) only [go_sem, hlt', hkx, span_least_r1_eq]
    rfl
def frO (u : Tr) : AObj := ⟨1, ty_a16_sl_api_Item, 0, leC u⟩
def hcl (t : Tr) (lo hi : Bytes) (most : Int) (acc : List Item) : List AObj := [⟨1, ty_api_Trunk, 0, tC t⟩, ⟨1, ty_string, 0, [sA lo]⟩, ⟨1, ty_string, 0, [sA hi]⟩, ⟨1, ty_int, 0, [nA most]⟩, ⟨1, ty_sl_api_Item, 0, [OW 6 acc.length]⟩, ⟨1, ty_api_Trunk, 0, tC t⟩, ⟨2, ty_api_Item, 5, acc.map (flA Item.cells)⟩]
def stopB (hi : Bytes) (most : Int) (x : Item) (acc : List Item) : Bool := decide (most ≤ acc.length) || (!hi.isEmpty && !less x.key hi)
def takeX (lo : Bytes) (x : Item) (acc : List Item) : List Item := if less x.key lo then acc else acc ++ [x]
section
variable {t u : Tr} {lo hi : Bytes} {most : Int} {acc : List Item}
theorem right_s (m : Nat) (t : Tr) (lo hi : Bytes) (hm : 2 < m) (h : t.Ok) : span_right m (tA t) (SL [sA lo, sA hi]) = some (nA (if mayT t then (if patB lo && patB hi then 0 else 3) else 1), []) := by
  rw [span_right_eq]
  have hM := trunk_May_e m t h
  rw [tA_def] at hM ⊢
  simp (config := {maxSteps := 4000000, implicitDefEqProofs := false}) (disch := omega) only [go_sem, hM]
  cases hmay : mayT t with
  | false => simp (config := {maxSteps := 4000000, implicitDefEqProofs := false}) only [go_sem, ]
  | true =>
    simp (config := {maxSteps := 4000000, implicitDefEqProofs := false}) only [go_sem, ]
    obtain ⟨q, rfl⟩ : ∃ q, m = q + 3 := ⟨m - 3, by omega⟩
    rw [iterC, span_right_b1_eq]
    have h1 := key_Pattern_e (q + 3) lo
    have h2 := key_Pattern_e (q + 3) hi
    simp (config := {maxSteps := 4000000, implicitDefEqProofs := false}) (disch := omega) only [go_sem, h1, w_i64]
    cases hf : patB lo with
    | false => simp (config := {maxSteps := 4000000, implicitDefEqProofs := false}) only [go_sem, ]
    | true =>
      simp (config := {maxSteps := 4000000, implicitDefEqProofs := false}) (disch := omega) only [go_sem, ]
      rw [iterC, span_right_b1_eq]
      simp (config := {maxSteps := 4000000, implicitDefEqProofs := false}) (disch := omega) only [go_sem, h2, w_i64]
      cases ht : patB hi with
      | false => simp (config := {maxSteps := 4000000, implicitDefEqProofs := false}) only [go_sem, ]
      | true =>
        simp (config := {maxSteps := 4000000, implicitDefEqProofs := false}) (disch := omega) only [go_sem, ]
        rw [iterC, span_right_b1_eq]
        simp (config := {maxSteps := 4000000, implicitDefEqProofs := false}) (disch := omega) only [go_sem, span_right_r1_eq]
def itO (x : Item) : AObj := ⟨1, ty_api_Item, 0, [V (.string ⟨x.key.toArray⟩), V (.int .i64 x.kind), V (.int .i64 x.i), V (.string ⟨x.s.toArray⟩), V (.int .i64 x.ver)]⟩
theorem round_r1 (m : Nat) (v : Bool) (x : Item) (hl : acc.length + 1 ≤ 34359738368) : ScanR_r1 m [] 8 ⟨hcl t lo hi most acc ++ [frO u, itO x], [(5, OP 1 0), (8, .nil), (9, .nil), (11, OP 4 0), (13, OP 8 0), (39, V (.bool v))]⟩ =
    some (if v then (V (.int .i64 0), hcl t lo hi most acc ++ [frO u]) else (V (.bool true), hcl t lo hi most (takeX lo x acc) ++ [frO u])) := by
  rw [ScanR_r1_eq]
  unfold hcl frO itO takeX
  cases v with
  | true => simp (config := {maxSteps := 4000000, implicitDefEqProofs := false}) (disch := omega) only [go_sem, leC_ltA, fl_allA, ScanR_r2_eq, ScanR_r1_eq]
  | false =>
    simp (config := {maxSteps := 4000000, implicitDefEqProofs := false}) (disch := omega) only [go_sem, ScanR_r2_eq, less_def]
    cases hk : less x.key lo with
    | true => simp (config := {maxSteps := 4000000, implicitDefEqProofs := false}) (disch := omega) only [go_sem, leC_ltA, fl_allA]
    | false =>
      simp (config := {maxSteps := 4000000, implicitDefEqProofs := false}) (disch := omega) only [go_sem, leC_ltA, fl_allA, fl_all5, hl, fl_it]
      rw [decide_eq_true (by omega), whenE_t, List.map_append]; rfl
theorem round_s (m : Nat) (n : Int) (x : Item) (hl : acc.length + 1 ≤ 34359738368) : ScanR m [] (iA x) (nA n) (OP 0 0) (OP 1 0) (OP 2 0) (OP 3 0) (OP 4 0) (hcl t lo hi most acc ++ [frO u]) =
    some (if stopB hi most x acc then (V (.int .i64 0), hcl t lo hi most acc ++ [frO u]) else (V (.bool true), hcl t lo hi most (takeX lo x acc) ++ [frO u])) := by
  rw [ScanR_eq]
  have hz : setCells zc_api_Item 0 [V (.string ⟨x.key.toArray⟩), V (.int .i64 x.kind), V (.int .i64 x.i), V (.string ⟨x.s.toArray⟩), V (.int .i64 x.ver)] = [V (.string ⟨x.key.toArray⟩), V (.int .i64 x.kind), V (.int .i64 x.i), V (.string ⟨x.s.toArray⟩), V (.int .i64 x.ver)] := rfl
  have r := fun v => round_r1 (t := t) (u := u) (lo := lo) (hi := hi) (most := most) m v x hl
  unfold stopB
  unfold hcl frO itO at r
  unfold hcl frO
  dsimp only [List.cons_append, List.nil_append] at r ⊢
  simp (config := {maxSteps := 4000000, implicitDefEqProofs := false}) (disch := omega) only [go_sem, iA_def, hz, r]
  by_cases h1 : most ≤ acc.length
  · simp [h1]
  · rw [if_neg h1]
    cases hi with
    | nil => simp [h1]
    | cons c hi' =>
      simp only [h1, less_def]
      cases hk : less x.key (c :: hi') <;> simp
theorem allA_s (m : Nat) (Y : AV) (hm : 16 < m) : AllA m [] Y (OP 5 0) (hcl t lo hi most acc) = some (TU [Y, OP 7 0, nA 0, nA (leastT t)], hcl t lo hi most acc ++ [frO t]) := by
  rw [AllA_eq]
  have hL := least_s m t hm
  unfold hcl frO
  simp (config := {maxSteps := 4000000, implicitDefEqProofs := false}) (disch := omega) only [go_sem, tC_take16, zle_len, zle_set, leC_sure, leC_len, leC_take, leC_ltA, leC_lt1, leC_ro, hL]
theorem allB_s (m : Nat) (Y a3 a4 : AV) (b : Int) (H : List AObj) : AllB m [] Y a3 a4 (nA b) H = some (TU [Y, a3, a4, nA b, bA (decide (0 ≤ b))], H) := by
  rw [AllB_eq]
  simp (config := {maxSteps := 4000000, implicitDefEqProofs := false}) only [go_sem, ]
theorem allC_s (m : Nat) (Y : AV) (n : Int) (b : Nat) (hb : b < 16) (h0 : 0 < (u.leaf b).length) : AllC m [] Y (OP 7 0) (nA n) (nA b) (hcl t lo hi most acc ++ [frO u]) = some (TU [Y, OP 7 0, nA n, nA b, Y, nA n, iA (hdK u b)], hcl t lo hi most acc ++ [frO u]) := by
  rw [AllC_eq]
  have hb' : decide ((b : Int) < 16) = true := decide_eq_true (by omega)
  have hg := hd_get h0
  unfold hcl frO hdK
  simp (config := {maxSteps := 4000000, implicitDefEqProofs := false}) (disch := omega) only [go_sem, hb, hb', u_le, u_nthM, h0, hg, iA_def, fl_it]
theorem allD_s (m : Nat) (Y a3 a4 a5 : AV) (v : Bool) (H : List AObj) : AllD m [] Y a3 a4 a5 (bA v) H = some (TU [Y, a3, a4, a5, bA (!v)], H) := by
  rw [AllD_eq]
  simp (config := {maxSteps := 4000000, implicitDefEqProofs := false}) only [go_sem, ]
theorem allE_s (m : Nat) (Y : AV) (n : Int) (b : Nat) (hb : b < 16) (h0 : 0 < (u.leaf b).length) (hn : 0 ≤ n) (hn2 : n ≤ 1000000000) : AllE m [] Y (OP 7 0) (nA n) (nA b) (hcl t lo hi most acc ++ [frO u]) = some (TU [Y, OP 7 0, nA (n + 1), nA b], hcl t lo hi most acc ++ [frO (u.setL b (u.leaf b).tail)]) := by
  rw [AllE_eq]
  have hb' : decide ((b : Int) < 16) = true := decide_eq_true (by omega)
  unfold hcl frO
  have hc : cutE ((u.leaf b).map (flA Item.cells)) 1 ((u.leaf b).length : Int) = ((u.leaf b).tail).map (flA Item.cells) := by
    unfold cutE
    rw [Int.toNat_natCast, List.take_of_length_le (by rw [List.length_map]; exact Nat.le_refl _)]
    show _root_.List.drop 1 _ = _
    rw [← List.map_drop, List.drop_one]
  simp (config := {maxSteps := 4000000, implicitDefEqProofs := false}) (disch := omega) only [go_sem, hb, hb', u_le, h0, w_i64, leC_len, set_le]
  rw [fl_all5, whenE_t, decide_eq_true (by omega), decide_eq_true (by omega), Bool.true_and, whenE_t, decide_eq_true (by omega), whenE_t, hc, set_le]
theorem allF_s (m : Nat) (Y a4 a5 : AV) (hm : 16 < m) : AllF m [] Y (OP 7 0) a4 a5 (hcl t lo hi most acc ++ [frO u]) = some (TU [Y, OP 7 0, a4, nA (leastT u)], hcl t lo hi most acc ++ [frO u]) := by
  rw [AllF_eq]
  have hL := least_s m u hm
  unfold hcl frO
  simp (config := {maxSteps := 4000000, implicitDefEqProofs := false}) (disch := omega) only [go_sem, leC_take, leC_ltA, leC_lt1, leC_ro, leC_sure, leC_len, hL]
theorem u_bs2 {R : Type} {x y : ByteArray} {K1 : AV → Option R} : buildSE (some (ty_string, 1)) 2 [(0, V (.string x)), (1, V (.string y))] K1 = K1 (SL [V (.string x), V (.string y)]) := _root_.id rfl
def bx5 (t : Tr) (lo hi : Bytes) (most : Int) : List AObj := [⟨1, ty_api_Trunk, 0, tC t⟩, ⟨1, ty_string, 0, [sA lo]⟩, ⟨1, ty_string, 0, [sA hi]⟩, ⟨1, ty_int, 0, [nA most]⟩, ⟨1, ty_sl_api_Item, 0, [V (.slice none 0 0)]⟩]
theorem scanA_s (m : Nat) (hm : 2 < m) (h : t.Ok) (h1 : mayT t = true) (h2 : patB lo = true) (h3 : patB hi = true) : ScanA m [] (tA t) (sA lo) (sA hi) (nA most) [] = some (TU [OP 0 0, OP 1 0, OP 2 0, OP 3 0, OP 4 0], bx5 t lo hi most) := by
  rw [ScanA_eq]
  have hR := right_s m t lo hi hm h
  rw [h1, h2, h3, if_pos rfl, if_pos (by decide)] at hR
  rw [tA_def] at hR ⊢
  have e1 : zc_sl_api_Item = [V (.slice none 0 0)] := rfl
  simp (config := {maxSteps := 4000000, implicitDefEqProofs := false}) (disch := omega) only [go_sem, hR, e1, u_bs2]
  rfl
theorem scanB_s (m : Nat) : ScanB m [] (OP 0 0) (OP 1 0) (OP 2 0) (OP 3 0) (OP 4 0) (bx5 t lo hi most) = some (TU [OP 0 0, OP 1 0, OP 2 0, OP 3 0, OP 4 0, CL (.func 90) 0 [OP 5 0]], bx5 t lo hi most ++ [⟨1, ty_api_Trunk, 0, tC t⟩]) := by
  rw [ScanB_eq]
  unfold bx5
  simp (config := {maxSteps := 4000000, implicitDefEqProofs := false}) (disch := omega) only [go_sem, span_all_eq]
  rfl
theorem scanC_s (m : Nat) (D : List Deferred) : ScanC m D (OP 4 0) (hcl t lo hi most acc) = some (TU [lA acc, nA 0], hcl t lo hi most acc) := by
  rw [ScanC_eq]
  unfold hcl
  simp (config := {maxSteps := 4000000, implicitDefEqProofs := false}) (disch := omega) only [go_sem, List.take_length]
  simp [ro1]
end
theorem scan_err (m : Nat) (t : Tr) (lo hi : Bytes) (most : Int) (hm : 2 < m) (h : t.Ok) (h1 : (mayT t && (patB lo && patB hi)) = false) : span_Scan m (tA t) (sA lo) (sA hi) (nA most) = some (TU [lA [], nA (if mayT t then 3 else 1)], []) := by
  rw [span_Scan_eq]
  have hR := right_s m t lo hi hm h
  rw [tA_def] at hR ⊢
  cases hmay : mayT t with
  | false =>
    rw [hmay, if_neg (by decide)] at hR
    simp (config := {maxSteps := 4000000, implicitDefEqProofs := false}) (disch := omega) only [go_sem, hR, u_bs2]
  | true =>
    rw [hmay, Bool.true_and] at h1
    rw [hmay, if_pos rfl, if_neg (by rw [h1]; decide)] at hR
    simp (config := {maxSteps := 4000000, implicitDefEqProofs := false}) (disch := omega) only [go_sem, hR, u_bs2]
end Go.Proofs.YtoeajbhlkccekaaDoor

namespace Go.Proofs.YtoeajbhlkccekaaDoor
open Go.RowKit
set_option maxRecDepth 100000
def regO : Code → List Oper | .region _ ops _ => ops.toList | _ => []
def opAt (k : Nat) (c : Code) : Oper := (regO c).getD k ⟨none, .move (.tmp 0), 0, "", #[], none⟩
noncomputable def itC : Code := (Tryd.f90.body).getD .skip
noncomputable def itR : Code := cdL (cdL (cdL (cdL (cdR (cdL (cdL (endC 3 itC)))))))
noncomputable def scC : Code := (Tryd.f49.body).getD .skip
theorem it_shape : endC 3 itC = .block 0 (.loop (.seq (.seq AllB_c (.cond (.tmp 11) .skip (.exit 0))) (.seq (.block 1 (.seq (.seq (.region 5 (regO AllC_c ++ opAt 7 itR :: regO AllD_c).toArray false) (.cond (.tmp 22) .ret .skip)) AllE_c)) AllF_c))) := by kernel_rfl
theorem allC_shape : AllC_c = .region 5 (regO AllC_c).toArray false := by kernel_rfl
theorem allD_shape : AllD_c = .region 5 (regO AllD_c).toArray false := by kernel_rfl
theorem yop_op : (opAt 7 itR).op = .call { callee := .value (.tmp 14), args := #[.tmp 15, .tmp 20], argTypes := #[3, 58] } := by kernel_rfl
theorem yop_dst : (opAt 7 itR).dst = some 21 := by kernel_rfl
theorem yop_gd : (opAt 7 itR).guard = none := by kernel_rfl
theorem gdC : ((regO AllC_c).all fun o => o.guard.isNone) = true := by kernel_rfl
theorem gdD : ((regO AllD_c).all fun o => o.guard.isNone) = true := by kernel_rfl
theorem sc_shape : endC 3 scC = .seq (.seq ScanB_c (.block 0 (.rangeFunc (.tmp 23) #[24, 25] (.region 6 (regO (cdL ScanR_c)).toArray false) (cdR ScanR_c)))) ScanC_c := by kernel_rfl
theorem scR_shape : ScanR_c = .seq (.region 6 (regO (cdL ScanR_c)).toArray false) (cdR ScanR_c) := by kernel_rfl
theorem scR_flat : flatC (cdR ScanR_c) = true := by kernel_rfl
def cntN (u : Tr) : Nat → Nat
  | 0 => 0
  | k + 1 => cntN u k + (u.leaf k).length
def cntT (u : Tr) : Nat := cntN u 16
def pop (u : Tr) (b : Nat) : Tr := u.setL b (u.leaf b).tail
theorem cntN_pop (u : Tr) (b : Nat) (h : 0 < (u.leaf b).length) : ∀ k, cntN (pop u b) k + (if b < k then 1 else 0) = cntN u k
  | 0 => by simp [cntN]
  | k + 1 => by
    have ih := cntN_pop u b h k
    unfold cntN
    rcases Nat.lt_trichotomy b k with h1 | h1 | h1
    · rw [if_pos h1] at ih
      rw [if_pos (by omega), show (pop u b).leaf k = u.leaf k from if_neg (by omega)]
      omega
    · subst h1
      rw [if_neg (by omega)] at ih
      rw [if_pos (by omega), show (pop u b).leaf b = (u.leaf b).tail from if_pos rfl, List.length_tail]
      omega
    · rw [if_neg (by omega)] at ih
      rw [if_neg (by omega), show (pop u b).leaf k = u.leaf k from if_neg (by omega)]
      omega
theorem cnt_pop {u : Tr} {b : Nat} (hb : b < 16) (h : 0 < (u.leaf b).length) : cntT (pop u b) + 1 = cntT u := by
  have := cntN_pop u b h 16
  rw [if_pos hb] at this
  exact this
theorem cnt_pos {u : Tr} {b : Nat} (hb : b < 16) (h : 0 < (u.leaf b).length) : 0 < cntT u := by have := cnt_pop hb h; omega
def runM (lo hi : Bytes) (most : Int) : Nat → Tr → List Item → List Item
  | 0, _, acc => acc
  | n + 1, u, acc => if leastT u < 0 then acc else if stopB hi most (hdK u (leastT u).toNat) acc then acc else runM lo hi most n (pop u (leastT u).toNat) (takeX lo (hdK u (leastT u).toNat) acc)
theorem fr_args {S : SS} {μ : List Value} {N : Nat} {args : List AV} {vs : List Value} (hl : vs.length = args.length) (hargs : args.length ≤ N) (hv : ∀ (j : Nat) (d : AV) (v : Value), args[j]? = some d → vs[j]? = some v → rep S μ d v) :
    Fr S μ (F0 N) (argsT 0 args) { tmps := vs.toArray ++ Array.replicate (N - vs.toArray.size) undef, defers := [] } := by
  refine ⟨by simp; omega, rfl, fun i => ?_⟩
  rw [get_argsT]
  simp only [Nat.zero_le, if_true, Nat.sub_zero]
  cases hd : args[i]? with
  | none => trivial
  | some d =>
    have hi : i < vs.length := by rw [hl]; exact (List.getElem?_eq_some_iff.1 hd).1
    have := hv i d vs[i] hd (List.getElem?_eq_getElem hi)
    simp only [Option.getD_some]
    have e : (vs.toArray ++ Array.replicate (N - vs.toArray.size) undef).getD i undef = vs[i] := by
      rw [Array.getD_eq_getD_getElem?, Array.getElem?_append_left (by simpa using hi)]
      simp [hi]
    rw [e]; exact this
def numV : Value → Nat | .int _ i => i.toNat | _ => 0
abbrev T0s : Tm := [(4, OP 0 0), (5, OP 1 0), (6, OP 2 0), (7, OP 3 0), (11, OP 4 0)]
noncomputable abbrev recS (fn D : Nat) (tm : Array Value) : Loop := ⟨.ready, none, fn, tm, [24, 25].toArray, .region 6 (regO (cdL ScanR_c)).toArray false, cdR ScanR_c, D⟩
section
variable {t u : Tr} {lo hi : Bytes} {most : Int} {acc : List Item} {w w' w1 : World} {S S' S1 : SS} {μ μ' μ1 : List Value} {l D fn d : Nat} {tm : Array Value}
theorem hcl_len : (hcl t lo hi most acc).length = 7 := rfl
theorem hcl_ok : (hcl t lo hi most acc).all (ltO 7) = true := by
  have h1 : (tC t).all (ltA 7) = true := tC_ltA
  have h2 : (acc.map (flA Item.cells)).all (ltA 7) = true := by rw [List.all_map]; exact List.all_eq_true.2 fun _ _ => rfl
  simp only [hcl, List.all_cons, List.all_nil, ltO, h1, h2]
  rfl
theorem round_w (n : Int) (x : Item) {vs : List Value} (hl1 : acc.length + 1 ≤ 34359738368) (hr : Rel w S μ (hcl t lo hi most acc ++ [frO u])) (hf : Fr S μ (F0 49) T0s ⟨tm, []⟩) (hg : GOk GG S) (hl : w.heap[l]? = some (.loop (recS fn D tm)))
    (h1 : vs.length = 2) (hv : ∀ (j : Nat) (d : AV) (v : Value), [nA n, iA x][j]? = some d → vs[j]? = some v → rep S μ d v) :
    YieldAt Fence.wide d Tryd.prog l vs.toArray w (YPost l (recS fn D tm) w S μ (hcl t lo hi most acc ++ [frO u]) fun e H2 =>
      (stopB hi most x acc = true ∧ e = .exit 0 ∧ H2 = hcl t lo hi most acc ++ [frO u]) ∨ (stopB hi most x acc = false ∧ e = .normal ∧ H2 = hcl t lo hi most (takeX lo x acc) ++ [frO u])) := by
  have hx := round_s (t := t) (u := u) (lo := lo) (hi := hi) (most := most) (acc := acc) 1000 n x hl1
  have hR : ∀ {X : AV} {H' : List AObj}, ScanR 1000 [] (iA x) (nA n) (OP 0 0) (OP 1 0) (OP 2 0) (OP 3 0) (OP 4 0) (hcl t lo hi most acc ++ [frO u]) = some (X, H') →
      YieldAt Fence.wide d Tryd.prog l vs.toArray w (YPost l (recS fn D tm) w S μ (hcl t lo hi most acc ++ [frO u]) fun e H2 => X = xA e ∧ H2 = H') := by
    intro X H' q
    unfold ScanR at q
    rw [scR_shape] at q
    exact round_exec (ScanR_hE 1000) rfl hr hf hg (by decide) hl (by rw [h1]; rfl) rfl hv scR_flat rfl q
  have ym : ∀ {Q Q' : Exit → List AObj → Prop}, (∀ e H2, Q e H2 → Q' e H2) → YieldAt Fence.wide d Tryd.prog l vs.toArray w (YPost l (recS fn D tm) w S μ (hcl t lo hi most acc ++ [frO u]) Q) → YieldAt Fence.wide d Tryd.prog l vs.toArray w (YPost l (recS fn D tm) w S μ (hcl t lo hi most acc ++ [frO u]) Q') := by
    rintro Q Q' hq ⟨fn, tmps, asg, bd, y1, y2⟩
    refine ⟨fn, tmps, asg, bd, y1, y2.mono ?_⟩
    rintro e w' ⟨w2, S', μ', H', x, q, rest⟩
    exact ⟨w2, S', μ', H', x, hq _ _ q, rest⟩
  cases hs : stopB hi most x acc with
  | true =>
    rw [hs, if_pos rfl] at hx
    refine ym ?_ (hR hx)
    rintro e H2 ⟨q1, q2⟩
    refine .inl ⟨rfl, ?_, q2⟩
    cases e <;> simp [xA] at q1
    rename_i i
    have : i = 0 := by omega
    rw [this]
  | false =>
    rw [hs, if_neg (by decide)] at hx
    refine ym ?_ (hR hx)
    rintro e H2 ⟨q1, q2⟩
    refine .inr ⟨rfl, ?_, q2⟩
    cases e <;> simp [xA] at q1
    rfl
abbrev TI (l : Nat) (k : Int) (b : Int) : Tm := [(0, V (.func (.yield l) #[] #[])), (3, OP 7 0), (4, nA k), (5, nA b)]
def ItI (t : Tr) (lo hi : Bytes) (most : Int) (l fn D : Nat) (tm : Array Value) (w1 : World) (S1 : SS) (μ1 : List Value) (a : Act) (w : World) : Prop :=
  ∃ (k : Nat) (u : Tr) (acc : List Item) (S : SS) (μ : List Value), Rel w S μ (hcl t lo hi most acc ++ [frO u]) ∧ Fr S μ (F0 31) (TI l k (leastT u)) a ∧ GOk GG S ∧ Step 7 w1 S1 μ1 (hcl t lo hi most []) w S μ (hcl t lo hi most acc ++ [frO u]) ∧
    w.heap[l]? = some (.loop (recS fn D tm)) ∧ cntT u + k = cntT t ∧ acc.length ≤ k ∧ runM lo hi most (cntT u) u acc = runM lo hi most (cntT t) t []
def itQ (t : Tr) (lo hi : Bytes) (most : Int) (e : Exit) (H2 : List AObj) : Prop := (e = .normal ∨ e = .exit 0) ∧ H2 = hcl t lo hi most (runM lo hi most (cntT t) t [])
theorem runM_done (h : leastT u < 0) : ∀ n acc, runM lo hi most n u acc = acc
  | 0, acc => rfl
  | n + 1, acc => by unfold runM; rw [if_pos h]
theorem drop_front (hr : Rel w S μ (hcl t lo hi most acc ++ [frO u])) : Rel w S (μ.take 7) (hcl t lo hi most acc) ∧ Step 7 w S μ (hcl t lo hi most acc ++ [frO u]) w S (μ.take 7) (hcl t lo hi most acc) := by
  have hle : HLe (hcl t lo hi most acc ++ [frO u]) (hcl t lo hi most acc) := by
    have := HLe.take (hcl t lo hi most acc ++ [frO u]) 7
    rwa [List.take_left' hcl_len] at this
  exact ⟨hr.le hle hcl_ok, Le.step (s := ⟨hcl t lo hi most acc ++ [frO u], []⟩) (s' := ⟨hcl t lo hi most acc, []⟩) ⟨hle, hcl_ok, trivial⟩ (Nat.le_refl _) w S μ⟩
theorem slotV {T : Tm} {N : FS} {a : Act} {i : Nat} {v : Value} (hf : Fr S μ N T a) (h : get T i = V v) : a.tmps.getD i undef = v := by
  have := hf.slot i
  rw [h] at this
  exact this.1
theorem it_calls (hm : 0 < d) {us : List Value} (hr : Rel w1 S1 μ1 (hcl t lo hi most [])) (hf : Fr S1 μ1 (F0 49) T0s ⟨tm, []⟩) (hg : GOk GG S1) (hl : w1.heap[l]? = some (.loop (recS fn D tm))) (hus : us.length = 1)
    (hu : ∀ (j : Nat) (x : AV) (v : Value), [OP 5 0][j]? = some x → us[j]? = some v → rep S1 μ1 x v) (hc : cntT t ≤ 1000000000) :
    CallsIn Fence.wide d Tryd.prog 90 (.func (.yield l) #[] #[] :: us).toArray w1 fun e w' => ∃ v, e = .returned v ∧ IPost l (recS fn D tm) w1 S1 μ1 (hcl t lo hi most []) (itQ t lo hi most) w' := by
  have hnl : ∀ r cs t p, (Obj.loop r) ≠ .cells cs t p := fun _ _ _ _ e => by cases e
  refine callsIn_of_wp Tryd.func90 rfl trivial ?_
  have hfr0 : Fr S1 μ1 (F0 31) (argsT 0 [V (.func (.yield l) #[] #[]), OP 5 0]) { tmps := (.func (.yield l) #[] #[] :: us).toArray ++ Array.replicate (31 - (.func (.yield l) #[] #[] :: us).toArray.size) undef, defers := [] } :=
    fr_args (by simp [hus]) (by simp) (by
      intro j x v hx hv
      cases j with
      | zero => simp at hx hv; subst hx hv; exact ⟨rfl, rfl⟩
      | succ j => exact hu j x v (by simpa using hx) (by simpa using hv))
  rw [Tryd.ntmps90]
  have hA := allA_s (t := t) (lo := lo) (hi := hi) (most := most) (acc := []) 1000 (V (.func (.yield l) #[] #[])) (by decide)
  refine exec_farW (n := 7) MIX (AllA_hE 1000) 3 itC AllA_h ⟨hcl t lo hi most [], argsT 0 [V (.func (.yield l) #[] #[]), OP 5 0]⟩ (by kernel_rfl) hA hr hfr0 hg ?_ (Nat.le_refl _)
  rintro a w ⟨S, μ, _, hrA, hfA, hgA, hstA⟩
  rw [it_shape]
  refine wpIn_block ?_
  refine wpIn_loop (ItI t lo hi most l fn D tm w1 S1 μ1) (fun a _ => cntT t - numV (a.tmps.getD 4 undef)) ⟨0, t, [], S, μ, hrA, hfA, hgA, hstA, hstA.keeps hr hl (hnl _), by omega, Nat.le_refl _, rfl⟩ ?_
  rintro a w ⟨k, u, acc, S, μ, hr2, hf2, hg2, hst2, hl2, hcnt, hacc, hrun⟩
  have h4 : a.tmps.getD 4 undef = .int .i64 k := slotV hf2 rfl
  refine wpIn_seq (wpIn_seq (wpIn_mono (part_w (rs := [0, 3, 4, 5, 11]) MIX (AllB_hE 1000) (allB_s 1000 (V (.func (.yield l) #[] #[])) (OP 7 0) (nA k) (leastT u) (hcl t lo hi most acc ++ [frO u])) hr2 hf2 hg2) ?_))
  rintro e a3 w3 ⟨rfl, S3, μ3, hr3, hf3, hg3, hst3⟩
  have hl3 := hst3.keeps hr2 hl2 (hnl _)
  have hst3' := hst2.trans (hst3.less (show 7 ≤ (hcl t lo hi most acc ++ [frO u]).length by simp [hcl]))
  have h11 : a3.eval (.tmp 11) = .bool (decide (0 ≤ leastT u)) := slotV hf3 rfl
  refine wpIn_cond (t := decide (0 ≤ leastT u)) h11 ?_
  by_cases hb : 0 ≤ leastT u
  · rw [decide_eq_true hb]
    rw [if_pos rfl]
    refine wpIn_skip ?_
    simp only [Exit.then]
    obtain ⟨b, hbb⟩ : ∃ b : Nat, leastT u = b := ⟨(leastT u).toNat, by omega⟩
    have hbn : b < 16 ∧ 0 < (u.leaf b).length := by
      rcases bestN_at u 16 with q | ⟨j, q1, q2, q3⟩
      · rw [leastT, q] at hbb; omega
      · have : leastT u = j := q2
        have : j = b := by omega
        subst this
        exact ⟨q1, q3⟩
    obtain ⟨hb16, hb0⟩ := hbn
    rw [hbb] at hf3
    have hk1 : k + 1 ≤ cntT t := by have := cnt_pos hb16 hb0; omega
    refine wpIn_seq ?_
    refine wpIn_block ?_
    refine wpIn_seq ?_
    refine wpIn_seq ?_
    refine wpIn_region_lit ?_
    have hC := allC_s (t := t) (u := u) (lo := lo) (hi := hi) (most := most) (acc := acc) 1000 (V (.func (.yield l) #[] #[])) k b hb16 hb0
    unfold AllC at hC
    rw [allC_shape] at hC
    refine part_ops (rs := [0, 3, 4, 5, 14, 15, 20]) (AllC_hE 1000) rfl gdC hC hr3 (hf3.some (by simp [_root_.Go.Proofs.YtoeajbhlkccekaaDoor.get])) hg3 ?_
    rintro a4 w4 ⟨S4, μ4, hr4, hf4, hg4, hst4⟩
    have hl4 := hst4.keeps hr3 hl3 (hnl _)
    have hst4' := hst3'.trans (hst4.less (show 7 ≤ (hcl t lo hi most acc ++ [frO u]).length by simp [hcl]))
    have hfc4 : Fr S4 μ4 (F0 49) T0s ⟨tm, []⟩ := hf.ext (Step.toExt hr hst4')
    unfold wpListIn
    rw [if_pos (by simp [Region.wanted, yop_gd])]
    have e15 := hf4.slot 15
    have e20 := hf4.slot 20
    have hy := round_w (d := d - 1) (t := t) (u := u) (lo := lo) (hi := hi) (most := most) (acc := acc) (fn := fn) (D := D) (tm := tm) k (hdK u b) (vs := [a4.tmps.getD 15 undef, a4.tmps.getD 20 undef]) (by omega) hr4 hfc4 hg4 hl4 rfl (by
      intro j x v hx hv
      match j, hx, hv with
      | 0, hx, hv => simp at hx hv; subst hx hv; simpa [_root_.Go.Proofs.YtoeajbhlkccekaaDoor.get] using e15
      | 1, hx, hv => simp at hx hv; subst hx hv; simpa [_root_.Go.Proofs.YtoeajbhlkccekaaDoor.get] using e20)
    refine yield_op (R := YPost l (recS fn D tm) w4 S4 μ4 (hcl t lo hi most acc ++ [frO u]) _) yop_op (slotV hf4 rfl) (by simpa [Act.eval] using hy) ?_
    rintro e w' ⟨w5, S5, μ5, H5, x, hq5, hr5, hst5, hl5, hx5⟩
    have hst5' := hst4'.trans (hst5.less (show 7 ≤ (hcl t lo hi most acc ++ [frO u]).length by simp [hcl]))
    have hg5 := hg4.ext hst5.still
    have hf5 := hf4.ext (Step.toExt hr4 hst5)
    rw [yop_dst]
    have hD : ∀ v, exec Tryd.prog GG (AllD_env 1000) 1000 ⟨31, []⟩ (.region 5 (regO AllD_c).toArray false) AllD_h ⟨hcl t lo hi most acc ++ [frO u], [(0, V (.func (.yield l) #[] #[])), (3, OP 7 0), (4, nA k), (5, nA b), (21, bA v)]⟩ (nslFK [0, 3, 4, 5, 22]) = some (TU [V (.func (.yield l) #[] #[]), OP 7 0, nA k, nA b, bA (!v)], hcl t lo hi most acc ++ [frO u]) := by
      intro v
      have h := allD_s 1000 (V (.func (.yield l) #[] #[])) (OP 7 0) (nA k) (nA b) v (hcl t lo hi most acc ++ [frO u])
      unfold AllD at h
      rw [allD_shape] at h
      exact h
    rcases hq5 with ⟨hs, rfl, rfl⟩ | ⟨hs, rfl, rfl⟩
    · obtain ⟨cj, hcj, rfl, rfl⟩ : ∃ c, jumpOf (.exit 0) = some c ∧ e = .returned (.bool false) ∧ w' = w5.putObj l (.loop { recS fn D tm with state := .done, pending := some c }) := by
        rcases hx5 with ⟨q, _⟩ | q
        · cases q
        · exact q
      refine ⟨_, rfl, ?_⟩
      have hll5 := (Array.getElem?_eq_some_iff.1 hl5).1
      have hrd := hr5.touch (w' := w5.putObj l (.loop { recS fn D tm with state := .done, pending := some cj })) l (NoCells.of hl5 (hnl _)) (putObj_other _ _ _)
      have hld : (w5.putObj l (.loop { recS fn D tm with state := .done, pending := some cj })).heap[l]? = some (.loop { recS fn D tm with state := .done, pending := some cj }) := World.putObj_heap_same hll5
      have hput := hf5.put (some 21) (fun i e => by cases e; decide) (v := bA false) (u := .bool false) ⟨rfl, rfl⟩
      refine part_all (rs := [0, 3, 4, 5, 22]) (AllD_hE 1000) rfl gdD (hD false) hrd (hput.some (by simp [_root_.Go.Proofs.YtoeajbhlkccekaaDoor.get, ASt.set, tput])) hg5 ?_
      rintro a6 w6 ⟨S6, μ6, hr6, hf6, hg6, hst6⟩
      simp only [Exit.then]
      refine wpIn_cond (t := true) (slotV hf6 rfl) ?_
      rw [if_pos rfl]
      refine wpIn_ret ?_
      simp only [Exit.then, Exit.inBlock]
      have hl6 := hst6.keeps hrd hld (hnl _)
      have hsw := Step.swap hr5 hst6 hl5 (hnl _)
      have hr6' := hr6.touch (w' := w6.putObj l (.loop (recS fn D tm))) l (NoCells.of hl6 (hnl _)) (putObj_other _ _ _)
      obtain ⟨d1, d2⟩ := drop_front hr6'
      refine ⟨hf6.nodef, _, results_none rfl _ _ _, _, rfl, w6.putObj l (.loop (recS fn D tm)), S6, _, hcl t lo hi most acc, .exit 0, ⟨.inr rfl, ?_⟩, d1, (hst5'.trans (hsw.less (show 7 ≤ (hcl t lo hi most acc ++ [frO u]).length by simp [hcl]))).trans d2, World.putObj_heap_same (Array.getElem?_eq_some_iff.1 hl6).1, .inr ⟨cj, hcj, ?_⟩⟩
      · rw [← hrun]
        obtain ⟨n0, hn0⟩ : ∃ n0, cntT u = n0 + 1 := ⟨cntT u - 1, by have := cnt_pos hb16 hb0; omega⟩
        rw [hn0]
        unfold runM
        rw [hbb, if_neg (by omega), Int.toNat_natCast, hs, if_pos rfl]
      · rw [putObj_putObj, putObj_self hl6]
    · obtain ⟨rfl, rfl⟩ : e = .returned (.bool true) ∧ w' = w5 := by
        rcases hx5 with ⟨_, q1, q2⟩ | ⟨c, q, _⟩
        · exact ⟨q1, q2⟩
        · cases q
      refine ⟨_, rfl, ?_⟩
      have hput := hf5.put (some 21) (fun i e => by cases e; decide) (v := bA true) (u := .bool true) ⟨rfl, rfl⟩
      have hD2 := hD true
      have hacc2 : (takeX lo (hdK u b) acc).length ≤ k + 1 := by
        unfold takeX
        split
        · omega
        · simp only [List.length_append, List.length_cons, List.length_nil]; omega
      have hrun2 : runM lo hi most (cntT (pop u b)) (pop u b) (takeX lo (hdK u b) acc) = runM lo hi most (cntT t) t [] := by
        rw [← hrun, ← cnt_pop hb16 hb0]
        conv => rhs; unfold runM
        rw [hbb, if_neg (by omega), Int.toNat_natCast, hs, if_neg (by decide)]
      generalize takeX lo (hdK u b) acc = acc2 at *
      have hD' : exec Tryd.prog GG (AllD_env 1000) 1000 ⟨31, []⟩ (.region 5 (regO AllD_c).toArray false) AllD_h ⟨hcl t lo hi most acc2 ++ [frO u], [(0, V (.func (.yield l) #[] #[])), (3, OP 7 0), (4, nA k), (5, nA b), (21, bA true)]⟩ (nslFK [0, 3, 4, 5, 22]) = some (TU [V (.func (.yield l) #[] #[]), OP 7 0, nA k, nA b, bA (!true)], hcl t lo hi most acc2 ++ [frO u]) := by
        have h := allD_s 1000 (V (.func (.yield l) #[] #[])) (OP 7 0) (nA k) (nA b) true (hcl t lo hi most acc2 ++ [frO u])
        unfold AllD at h
        rw [allD_shape] at h
        exact h
      refine part_all (rs := [0, 3, 4, 5, 22]) (AllD_hE 1000) rfl gdD hD' hr5 (hput.some (by simp [_root_.Go.Proofs.YtoeajbhlkccekaaDoor.get, ASt.set, tput])) hg5 ?_
      rintro a6 w6 ⟨S6, μ6, hr6, hf6, hg6, hst6⟩
      simp only [Exit.then]
      refine wpIn_cond (t := false) (slotV hf6 rfl) ?_
      rw [if_neg (by decide)]
      refine wpIn_skip ?_
      have e7 := hst5'.trans (hst6.less (show 7 ≤ (hcl t lo hi most acc2 ++ [frO u]).length by simp [hcl]))
      have hl6 := hst6.keeps hr5 hl5 (hnl _)
      have hkn : (k : Int) ≤ 1000000000 := by omega
      refine wpIn_mono (part_w (rs := [0, 3, 4, 5]) MIX (AllE_hE 1000) (allE_s (t := t) (u := u) (lo := lo) (hi := hi) (most := most) (acc := acc2) 1000 (V (.func (.yield l) #[] #[])) k b hb16 hb0 (by omega) hkn) hr6 (hf6.some (by simp [_root_.Go.Proofs.YtoeajbhlkccekaaDoor.get])) hg6) ?_
      rintro e8 a8 w8 ⟨rfl, S8, μ8, hr8, hf8, hg8, hst8⟩
      have hl8 := hst8.keeps hr6 hl6 (hnl _)
      have e8 := e7.trans (hst8.less (show 7 ≤ (hcl t lo hi most acc2 ++ [frO u]).length by simp [hcl]))
      simp only [Exit.inBlock, Exit.then]
      refine wpIn_mono (part_w (rs := [0, 3, 4, 5]) MIX (AllF_hE 1000) (allF_s (t := t) (u := pop u b) (lo := lo) (hi := hi) (most := most) (acc := acc2) 1000 (V (.func (.yield l) #[] #[])) (nA ((k : Int) + 1)) (nA b) (by decide)) hr8 (hf8.some (by simp [_root_.Go.Proofs.YtoeajbhlkccekaaDoor.get])) hg8) ?_
      rintro e9 a9 w9 ⟨rfl, S9, μ9, hr9, hf9, hg9, hst9⟩
      have hl9 := hst9.keeps hr8 hl8 (hnl _)
      have e9 := e8.trans (hst9.less (show 7 ≤ (hcl t lo hi most acc2 ++ [frO (pop u b)]).length by simp [hcl]))
      have h49 : a9.tmps.getD 4 undef = .int .i64 ((k : Int) + 1) := slotV hf9 rfl
      refine ⟨⟨k + 1, pop u b, acc2, S9, μ9, hr9, hf9.some (by simp [_root_.Go.Proofs.YtoeajbhlkccekaaDoor.get]), hg9, e9, hl9, by have := cnt_pop hb16 hb0; omega, hacc2, hrun2⟩, ?_⟩
      rw [h49, h4]
      simp only [numV]
      omega
  · rw [decide_eq_false hb]
    refine wpIn_exit ?_
    simp only [Exit.then, Exit.inBlock, ↓reduceIte]
    obtain ⟨d1, d2⟩ := drop_front hr3
    refine ⟨hf3.nodef, _, results_none rfl _ _ _, _, rfl, w3, S3, _, hcl t lo hi most acc, .normal, ⟨.inl rfl, ?_⟩, d1, hst3'.trans d2, hl3, .inl ⟨rfl, rfl⟩⟩
    rw [← hrun, runM_done (by omega)]
def scanT (lo hi : Bytes) (most : Int) (t : Tr) : List Item := runM lo hi most (cntT t) t []
theorem raw_some {n : Nat} {rs : List Nat} {e : Exit} {s : ASt} {ds : List AV} {H' : List AObj} (h : rawFK Tryd.prog n (rs.map ResultVar.tmp) e s = some (TU ds, H')) : (e = .normal ∨ e = .ret) ∧ ro s.H (oneOf (rs.map (get s.T))) = TU ds ∧ s.H = H' := by
  have key : ∀ (rs : List Nat) (K : List AV → RO), resEK Tryd.prog s.H s.T (rs.map ResultVar.tmp) K = K (rs.map (get s.T)) := by
    intro rs
    induction rs with
    | nil => intro K; rfl
    | cons r rs ih =>
      intro K
      rw [resEK_eq]
      show resE Tryd.prog s.H s.T (rs.map ResultVar.tmp) (fun ds => K (get s.T r :: ds)) = _
      rw [← resEK_eq, ih]
      rfl
  cases e with
  | normal =>
    have h : resEK Tryd.prog s.H s.T (rs.map ResultVar.tmp) _ = some (TU ds, H') := h
    rw [key] at h
    injection h with h
    injection h with h1 h2
    exact ⟨.inl rfl, h1, h2⟩
  | ret =>
    have h : resEK Tryd.prog s.H s.T (rs.map ResultVar.tmp) _ = some (TU ds, H') := h
    rw [key] at h
    injection h with h
    injection h with h1 h2
    exact ⟨.inr rfl, h1, h2⟩
  | exit id => cases h
  | goto l => cases h
  | panic ch =>
    exfalso
    have h : chE ch (fun u => some (PN u, s.H)) = some (TU ds, H') := h
    unfold chE at h
    split at h <;> cases h
  | outgrown => cases h
theorem scan_c (h : t.Ok) (h1 : mayT t = true) (h2 : patB lo = true) (h3 : patB hi = true) (hc : cntT t ≤ 1000000000) : ACp Tryd.prog GG 49 [tA t, sA lo, sA hi, nA most] (TU [lA (scanT lo hi most t), nA 0]) := by
  have hnd : ∀ r cs t p, (Obj.deferred r) ≠ .cells cs t p := fun _ _ _ _ e => by cases e
  refine ⟨by kernel_rfl, ?_⟩
  intro w S μ vs hr hg hlen hv
  have hμ : μ = [] := List.eq_nil_of_length_eq_zero hr.len
  subst hμ
  refine (callsIn_wide (n := 5)).1 ?_
  refine callsIn_of_wp_marks Tryd.func49 rfl trivial ?_
  rw [Tryd.ntmps49]
  have hfr := fr_args (S := S) (μ := []) (N := 49) (args := [tA t, sA lo, sA hi, nA most]) (vs := vs) hlen (by simp) hv
  refine exec_farW (n := 0) MIX (ScanA_hE 1000) 3 scC ScanA_h ⟨[], argsT 0 [tA t, sA lo, sA hi, nA most]⟩ (by kernel_rfl) (scanA_s (lo := lo) (hi := hi) (most := most) 1000 (by decide) h h1 h2 h3) hr hfr hg ?_ (Nat.le_refl _)
  rintro a2 w2 ⟨S2, μ2, _, hr2, hf2, hg2, hst2⟩
  rw [sc_shape]
  refine wpIn_seq (wpIn_seq (wpIn_mono (part_w (rs := [4, 5, 6, 7, 11, 23]) MIX (ScanB_hE 1000) (scanB_s (t := t) (lo := lo) (hi := hi) (most := most) 1000) hr2 hf2 hg2) ?_))
  rintro e a3 w3 ⟨rfl, S3, μ3, hr3, hf3, hg3, hst3⟩
  simp only [Exit.then]
  obtain ⟨r1, r2⟩ := hr3.nilRow none ty_api_Item 5
  have hx : Ext S3 μ3 S3 (μ3 ++ [.slice none 0 0]) := ext_add S3 μ3 _
  obtain ⟨r3, r4⟩ := r1.recell (j := 4) (off := 0) (ob := ⟨1, ty_sl_api_Item, 0, [V (.slice none 0 0)]⟩) (d := V (.slice none 0 0)) (d' := OW 6 0) rfl rfl rfl (fun u hu => ⟨none, 0, 0, none, 0, by
    have e1 : μ3.length = 6 := hr3.len
    rw [List.getElem?_append_right (by omega), e1]; rfl, Nat.le_refl _, hu.1, fun _ => ⟨rfl, rfl⟩⟩)
  have hf3' := hf3.ext hx
  have hst3' : Step 0 w S [] [] w3 S3 (μ3 ++ [.slice none 0 0]) (hcl t lo hi most []) := ((hst2.trans (hst3.less (Nat.zero_le _))).trans (r2.less (Nat.zero_le _))).trans (r4.less (Nat.zero_le _))
  have r3' : Rel w3 S3 (μ3 ++ [.slice none 0 0]) (hcl t lo hi most []) := r3
  refine wpIn_block ?_
  have hlaw := range_law (d := 4) (P := Tryd.prog) (G := GG) (g := .tmp 23) (ps := [24, 25]) (assign := .region 6 (regO (cdL ScanR_c)).toArray false) (body := cdR ScanR_c) (N := 49) (f := 90) (caps := [OP 5 0]) (q2 := 0) (Q := itQ t lo hi most) r3' hf3' hg3 rfl (by kernel_rfl) ?_
  refine wpIn_mono hlaw ?_
  · rintro e a5 w5 ⟨S5, μ5, H5, ⟨he, rfl⟩, hr5, hst5, hf5, hD5, hsz⟩
    have hn5 : Exit.inBlock 0 (Exit.then (ScanC_c.wpIn (FL none) 5 Tryd.prog (bodyPostM Fence.wide 5 Tryd.prog Tryd.f49 (CPost w S [] [] fun r H' => r = TU [lA (scanT lo hi most t), nA 0] ∧ H' = []))) (bodyPostM Fence.wide 5 Tryd.prog Tryd.f49 (CPost w S [] [] fun r H' => r = TU [lA (scanT lo hi most t), nA 0] ∧ H' = []))) .normal a5 w5 → Exit.inBlock 0 (Exit.then (ScanC_c.wpIn (FL none) 5 Tryd.prog (bodyPostM Fence.wide 5 Tryd.prog Tryd.f49 (CPost w S [] [] fun r H' => r = TU [lA (scanT lo hi most t), nA 0] ∧ H' = []))) (bodyPostM Fence.wide 5 Tryd.prog Tryd.f49 (CPost w S [] [] fun r H' => r = TU [lA (scanT lo hi most t), nA 0] ∧ H' = []))) e a5 w5 := by
      intro q
      rcases he with rfl | rfl
      · exact q
      · exact q
    refine hn5 ?_
    simp only [Exit.inBlock, Exit.then]
    have hst5' := hst3'.trans (hst5.less (Nat.zero_le _))
    have hx := scanC_s (t := t) (lo := lo) (hi := hi) (most := most) (acc := scanT lo hi most t) 1000 [⟨.collected w3.heap.size, #[]⟩]
    refine wpIn_wide.2 (wp_mono (exec_ok (n := 7) MIX (ScanC_hE 1000) ScanC_c ScanC_h ⟨hcl t lo hi most (scanT lo hi most t), [(11, OP 4 0)]⟩ _ (Nat.le_refl _) hx w5 S5 μ5 a5 hr5 (hf5.some (by simp [_root_.Go.Proofs.YtoeajbhlkccekaaDoor.get])) (hg3.ext hst5.still)) ?_)
    rintro e a6 w6 ⟨s6, S6, μ6, hq6, hr6, hf6, hst6⟩
    obtain ⟨he6, hX6, hH6⟩ := raw_some (rs := [8, 9]) hq6
    have hend := mark_end (P := Tryd.prog) (d := 5) (fnn := Tryd.f49) (rs := [8, 9]) (X := TU [lA (scanT lo hi most t), nA 0]) rfl hr6 hf6 (hst6.keeps hr5 hD5 (hnd _)) hX6 rfl (hst5'.trans (hst6.less (Nat.zero_le _))) hst3'.size
    rcases he6 with rfl | rfl
    · exact hend
    · exact hend
  · intro l D fn w1 us hr1 hl1 hus hu
    exact it_calls (by decide) hr1 ⟨hf3'.size, rfl, (hf3'.some (T' := T0s) (by simp [_root_.Go.Proofs.YtoeajbhlkccekaaDoor.get])).slot⟩ hg3 hl1 hus hu hc
end
end Go.Proofs.YtoeajbhlkccekaaDoor

namespace Go.Proofs.YtoeajbhlkccekaaDoor
open Go.RowKit
set_option maxRecDepth 20000
theorem cntN_le {t : Tr} (h : t.Ok) : ∀ k, cntN t k ≤ k * 1000000
  | 0 => Nat.le_refl _
  | k + 1 => by
    have := cntN_le h k
    have := h.len k
    unfold cntN
    omega
theorem cnt_le {t : Tr} (h : t.Ok) : cntT t ≤ 16000000 := cntN_le h 16
def okS (lo hi : Bytes) (t : Tr) : Bool := mayT t && (patB lo && patB hi)
def scanR (lo hi : Bytes) (most : Int) (t : Tr) : List Item := if okS lo hi t then scanT lo hi most t else []
def scanE (lo hi : Bytes) (t : Tr) : Int := if okS lo hi t then 0 else if mayT t then 3 else 1
theorem cl_scan (t : Tr) (lo hi : Bytes) (most : Int) (h : t.Ok) : ACp Tryd.prog GG 49 [tA t, sA lo, sA hi, nA most] (TU [lA (scanR lo hi most t), nA (scanE lo hi t)]) := by
  unfold scanR scanE
  cases hk : okS lo hi t with
  | true =>
    unfold okS at hk
    simp only [Bool.and_eq_true] at hk
    exact scan_c h hk.1 hk.2.1 hk.2.2 (Nat.le_trans (cnt_le h) (by decide))
  | false =>
    refine span_Scan_ok 1000 _ _ [] (show span_Scan_t 1000 [tA t, sA lo, sA hi, nA most] = _ from ?_)
    exact scan_err 1000 t lo hi most (by decide) h hk
noncomputable def span_ScanQ_t (m : Nat) : List AV → RO := orac (ι := Tr × Bytes × Bytes × Int) (fun p => [tA p.1, sA p.2.1, sA p.2.2.1, nA p.2.2.2]) (fun p => TU [lA (scanR p.2.1 p.2.2.1 p.2.2.2 p.1), nA (scanE p.2.1 p.2.2.1 p.1)]) (fun p => p.1.Ok)
theorem span_ScanQ_ok (m : Nat) : ∀ args X H', span_ScanQ_t m args = some (X, H') → ACp Tryd.prog GG 49 args X := orac_ok (by
  rintro ⟨t, lo, hi, most⟩ h
  exact cl_scan t lo hi most h)
def LeEq (t u : Tr) : Prop := ∀ i, i < 16 → t.leaf i = u.leaf i
theorem cntN_eq {t u : Tr} (h : LeEq t u) : ∀ k, k ≤ 16 → cntN t k = cntN u k
  | 0, _ => rfl
  | k + 1, hk => by unfold cntN; rw [cntN_eq h k (by omega), h k (by omega)]
theorem bestN_eq {t u : Tr} (h : LeEq t u) : ∀ k, k ≤ 16 → bestN t k = bestN u k
  | 0, _ => rfl
  | k + 1, hk => by
    have ih := bestN_eq h k (by omega)
    have e2 : hdK t k = hdK u k := by unfold hdK; rw [h k (by omega)]
    have hb := bestN_at u k
    unfold bestN stepB
    rw [ih, h k (by omega), e2]
    rcases hb with q | ⟨j, q1, q2, q3⟩
    · rw [q]; simp
    · rw [q2, Int.toNat_natCast]
      have : hdK t j = hdK u j := by unfold hdK; rw [h j (by omega)]
      rw [this]
theorem pop_eq {t u : Tr} (h : LeEq t u) (b : Nat) (hb : b < 16) : LeEq (pop t b) (pop u b) := fun i hi => by
  unfold pop Tr.setL
  dsimp only
  rw [h b hb, h i hi]
theorem runM_eq {lo hi : Bytes} {most : Int} : ∀ (n : Nat) {t u : Tr} (h : LeEq t u) (acc : List Item), runM lo hi most n t acc = runM lo hi most n u acc
  | 0, t, u, h, acc => rfl
  | n + 1, t, u, h, acc => by
    have e1 : leastT t = leastT u := bestN_eq h 16 (Nat.le_refl _)
    unfold runM
    rw [e1]
    by_cases h0 : leastT u < 0
    · rw [if_pos h0, if_pos h0]
    · rw [if_neg h0, if_neg h0]
      have hb : (leastT u).toNat < 16 := by
        rcases bestN_at u 16 with q | ⟨j, q1, q2, q3⟩
        · unfold leastT at h0 ⊢; omega
        · unfold leastT at h0 ⊢; omega
      have e2 : hdK t (leastT u).toNat = hdK u (leastT u).toNat := by unfold hdK; rw [h _ hb]
      rw [e2]
      split
      · rfl
      · exact runM_eq n (pop_eq h _ hb) _
theorem scanR_eq {t u : Tr} (h : t.Eq16 u) (lo hi : Bytes) (most : Int) : scanR lo hi most t = scanR lo hi most u ∧ scanE lo hi t = scanE lo hi u := by
  have hl : LeEq t u := fun i hi => (h i hi).1
  have e1 : okS lo hi t = okS lo hi u := by unfold okS; rw [mayT_eq h]
  unfold scanR scanE
  rw [e1, mayT_eq h]
  refine ⟨?_, rfl⟩
  split
  · unfold scanT
    rw [show cntT t = cntT u from cntN_eq hl 16 (Nat.le_refl _)]
    exact runM_eq _ hl _
  · rfl
theorem span_ScanQ_e (m : Nat) (t : Tr) (lo hi : Bytes) (most : Int) (h : t.Ok) : span_ScanQ_t m [tA t, sA lo, sA hi, nA most] = some (TU [lA (scanR lo hi most t), nA (scanE lo hi t)], []) := orac_eq (ι := Tr × Bytes × Bytes × Int) (by
  rintro ⟨t, lo, hi, q⟩ ⟨u, lo', hi', q'⟩ e
  dsimp only at e ⊢
  simp only [List.cons.injEq, and_true] at e
  obtain ⟨e1, e2, e3, e4⟩ := e
  have h2 := sA_inj e2
  have h3 := sA_inj e3
  have h4 := nA_inj e4
  rw [← h2, ← h3, ← h4, (scanR_eq (tA_inj e1) lo hi q).1, (scanR_eq (tA_inj e1) lo hi q).2]) (i := (t, lo, hi, most)) h
end Go.Proofs.YtoeajbhlkccekaaDoor
