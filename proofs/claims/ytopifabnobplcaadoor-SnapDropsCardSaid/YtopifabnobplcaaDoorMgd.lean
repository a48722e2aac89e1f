/-
  Texts laid together, part 4 of 6: laws of a walk over data, contracts of functions, each whole by itself.
-/
import Derived.Test.YtopifabnobplcaaDoorMgc
import Derived.KernelRfl
import Derived.WalkKit
import Derived.OwnWalk
namespace Go.Proofs.YtopifabnobplcaaDoor
open Go.RowKit
set_option linter.unusedVariables false
set_option linter.unusedSimpArgs false
set_option maxRecDepth 20000
theorem fl_it (x : Item) : flA Item.cells x = .agg [V (.string ⟨x.key.toArray⟩), V (.int .i64 x.kind), V (.int .i64 x.i), V (.string ⟨x.s.toArray⟩), V (.int .i64 x.ver)] := _root_.id rfl
theorem allC_it (l : List Item) : allC 5 (l.map (flA Item.cells)) = True := allC_mapEq fun x => rfl
def foldA (l : List Item) (k : Nat) : List AV := ((l.take k).map Item.one).map (flA Item.cells)
theorem foldA_all (l : List Item) (k : Nat) : allC 5 (foldA l k) = True := allC_it _
theorem lt_it (l : List Item) (m : Nat) : (l.map (flA Item.cells)).all (ltA m) = true := by
  simp only [List.all_map, List.all_eq_true, Function.comp_apply]
  exact fun x _ => rfl
theorem lt_fold (l : List Item) (k m : Nat) : (foldA l k).all (ltA m) = true := lt_it _ m
theorem foldA_zero (l : List Item) : foldA l 0 = [] := _root_.id rfl
theorem foldA_len (l : List Item) {k : Nat} (h : k ≤ l.length) : (foldA l k).length = k := by simp [foldA]; omega
theorem foldA_succ (l : List Item) {k : Nat} (h : k < l.length) : foldA l k ++ [iA l[k].one] = foldA l (k + 1) := by
  unfold foldA
  rw [List.take_succ_eq_append_getElem h, List.map_append, List.map_append]
  rfl
theorem foldA_full (l : List Item) {k : Nat} (h : ¬ k < l.length) : foldA l k = (l.map Item.one).map (flA Item.cells) := by
  unfold foldA
  rw [List.take_of_length_le (by omega)]
attribute [local go_sem ↓] str_size pk_tt pk_ff hold_one hold_two gO_some gA_tt gA_tf gA_ft gA_ff cA_true cA_false yP_n yP_r yK_n yK_r yQ_n yQ_r yC_nil yC_tmp yC_cell yo_nil yo_cons yo_none yo_guard yo_guardN ys_move ys_assign ys_pick ys_bin ys_un ys_build ys_buildSlice ys_load ys_nilCheck ys_conv ys_extract ys_fieldAddr ys_field ys_indexAddr ys_index ys_slice ys_len ys_alloc ys_box ys_store ys_call ys_append ys_makeFunc ys_callv yd_nil yd_alloc yd_store yd_move yg_move yd_assign yg_assign yd_pick yg_pick yd_bin yg_bin yd_un yg_un yd_build yg_build yd_buildSlice yg_buildSlice yd_load yg_load yd_nilCheck yg_nilCheck yd_conv yg_conv yd_extract yg_extract yd_fieldAddr yg_fieldAddr yd_field yg_field yd_indexAddr yg_indexAddr yd_index yg_index yd_slice yg_slice yd_len yg_len yd_call yg_call ixA_eq sl_es sl_row sl_nil ap_eq bs_eq bl_eq cv_eq ixV_agg thenA_n thenA_r thenA_x inB_n inB_r inB_x loop_r loop_x dstAt_zero dstAt_succ retP_n retP_r
attribute [local go_sem] hle_nil hle_cons oO_one oO_two oO_three oO_nil r1_r0 r1_r1 r1_r2 r1_r3 ro_OW roA_OW go_some al_some okX_f okX_t tells regOnly cv_cl cap0_V cap0_OP cap0_ptr ixA_s ixA_p ixA_o szOf_one szOf_two ixV_str ixW_some sl_str slE_some apE_nil apE_row bsE_one flE_some pget_zero pget_succ blE_some fil_nil fil_cons filB_some cvE_some cv_str' str_list str_cut str_data cut_all cut_to s_eql s_neq s_add s_lss s_geq s_leq s_gtr lt1 set_some set_none get_cons ev_tmp ev_const ev_func ev_global glob_cons cv_int cv_bool cv_str cv_slice cv_ptr cv_agg one_int one_bool one_str one_slice one_ptr b_add b_sub b_mul b_quo b_rem b_and b_or b_xor b_andNot b_shl b_shr b_eql b_neq b_lss b_leq b_gtr b_geq b_str b_beq b_bne u_not u_neg g_tt g_tf g_ft g_ff c_true c_false ex_tu nth_zero nth_succ nthO_zero nthO_succ l_ptr l_ptrV l_ptrS l_op cP_one pP_one oc_one oc_agg st_op f_ptr f_op fv_agg co_agg co_V co_slice co_OW co_OP co_ptr sure_V sure_slice sure_OW sure_OP sure_ptr sure_agg sc_nil sc_cons ixS ixSW ixSN bsV_nil bsV_cons el_slice el_row el_nil len_str len_slice len_row len_nil asI_none asI_some nil_op nil_ptr ro_int ro_bool ro_str ro_nils ro_slice ro_ptr ro_OP ro_OW ro_agg ro_tu roA_agg roA_V roA_slice roA_OW roA_OP roA_ptr r1_int r1_bool r1_str r1_nils r1_slice r1_ptr r1_OP resA_one resA_two resA_three noT_V noT_agg noT_slice noT_OW noT_OP noT_ptr noT_nil argsT_nil argsT_cons allC_nil allC_cons allC_append hle_nil hle_cons le_nil le_cons tT_V tT_SL tT_ptr tT_OW tT_OP tT_agg tT_TU tA_V tA_SL tA_ptr tA_OW tA_OP tA_agg t1_V t1_SL t1_ptr t1_OW t1_OP tO_mk get_cons beq_self_eq_true Nat.zero_lt_succ Nat.lt_add_one true_or or_true Bool.or_self Nat.zero_add Nat.add_zero Nat.mul_one Int.toNat_natCast Int.natCast_zero Int.natCast_add Int.cast_ofNat_Int or_false false_or or_true true_or Nat.sub_zero Int.natCast_nonneg Int.toNat_zero Bool.true_and Bool.and_true Bool.false_and Bool.and_false Bool.true_or Bool.or_true Bool.false_or Bool.or_false Bool.not_true Bool.not_false Bool.not_not true_and and_true false_and and_false not_true_eq_false not_false_eq_true eq_self decide_true decide_false ne_eq implies_true forall_const true_implies false_implies Bool.true_eq_false Bool.false_eq_true List.map_cons List.map_nil List.all_cons List.all_nil List.length_cons List.length_nil List.length_map List.length_append List.nil_append List.cons_append List.set_cons_zero List.set_cons_succ List.set_nil List.drop_zero List.drop_succ_cons List.drop_nil List.take_zero List.take_succ_cons List.take_nil Option.map_some Option.map_none Option.isSome_some tk_3 tk_9 tk_31 tk_32 tk_35 tk_68 tf_35_0 tf_35_1 tf_66_2 tf_68_0 tf_68_1 tf_68_2 ts_9 ts_31 ts_32 ts_33 ta_9 ta_31 ta_32 ta_33 tq_31 tq_55 ti_3 tz_68 tv_3 tv_5 tu_9 tv_9 tv_24 iA_def fl_it allC_it foldA_all lt_it lt_fold
set_option maxHeartbeats 400000 in
theorem short_d {G : Gl} (s : Bytes) : ACp Tryd.prog G 59 [sA s] (sA (s.take 60)) := by
  refine acp_of_wpC (c := _) Tryd.func59 rfl (by kernel_rfl) [.tmp 2] rfl _ Tryd.ntmps59 (Nat.le_of_ble_eq_true rfl) rfl ?_
  repeat' (first | (with_reducible refine aq ?_) | (with_reducible refine yr (by kernel_rfl) (Nat.le_of_ble_eq_true rfl) ?_) | (with_reducible refine yx MIX (by kernel_rfl) (by kernel_rfl) (by kernel_rfl) (Nat.le_of_ble_eq_true rfl) ?_) | (with_reducible refine yc ?_) | (with_reducible refine yseq ?_) | (with_reducible refine awp_block ?_) | (with_reducible refine awp_ret ?_) | (with_reducible refine awp_exit ?_) | (with_reducible refine awp_skip ?_) | (with_reducible refine yr1 (by kernel_rfl) (Nat.le_of_ble_eq_true rfl) ?_) | (with_reducible refine yx1 MIX (by kernel_rfl) (by kernel_rfl) (by kernel_rfl) (Nat.le_of_ble_eq_true rfl) ?_) | (simp only [go_sem, ↓reduceIte, Nat.reduceEqDiff, Nat.reduceAdd, Nat.reduceSub, Nat.reduceMul, Nat.reduceLeDiff, Nat.reduceLT, Int.reduceEq, Int.reduceNe, Int.reduceLT, Int.reduceLE, Int.reduceAdd, Int.reduceSub, Int.reduceMul, Int.reduceNeg, Int.reduceToNat, reduceCtorEq]) | ((with_reducible refine cA_t (by first | with_reducible assumption | (simp only [decide_eq_true_eq, decide_eq_false_iff_not]; first | with_reducible assumption | omega)) (fun h => ?_)) <;> (try rewrite [h]) <;> clear h) | ((with_reducible refine cA_f (by first | with_reducible assumption | (simp only [decide_eq_true_eq, decide_eq_false_iff_not]; first | with_reducible assumption | omega)) (fun h => ?_)) <;> (try rewrite [h]) <;> clear h) | ((with_reducible refine gA_t (by first | with_reducible assumption | (simp only [decide_eq_true_eq, decide_eq_false_iff_not]; first | with_reducible assumption | omega)) (fun h => ?_)) <;> (try rewrite [h]) <;> clear h) | ((with_reducible refine gA_f (by first | with_reducible assumption | (simp only [decide_eq_true_eq, decide_eq_false_iff_not]; first | with_reducible assumption | omega)) (fun h => ?_)) <;> (try rewrite [h]) <;> clear h) | ((with_reducible refine pk_t (by first | with_reducible assumption | (simp only [decide_eq_true_eq, decide_eq_false_iff_not]; first | with_reducible assumption | omega)) (fun h => ?_)) <;> (try rewrite [h]) <;> clear h) | ((with_reducible refine pk_f (by first | with_reducible assumption | (simp only [decide_eq_true_eq, decide_eq_false_iff_not]; first | with_reducible assumption | omega)) (fun h => ?_)) <;> (try rewrite [h]) <;> clear h) | (with_reducible refine pk_if ?_) | ((with_reducible refine cA_split (fun h => ?_) (fun h => ?_)) <;> (try rewrite [h]) <;> (try simp (disch := omega) only [w_i64, w_u64, tdiv_pos, tmod_pos, nth_map, foldA_len] at h) <;> (try simp only [decide_eq_true_eq, decide_eq_false_iff_not, Bool.not_eq_true, Bool.not_eq_false, Bool.not_eq_true', Bool.not_eq_false', not_true_eq_false, not_false_eq_true] at h) <;> (try (exfalso; omega))) | ((with_reducible refine gA_split (fun h => ?_) (fun h => ?_)) <;> (try rewrite [h]) <;> (try simp (disch := omega) only [w_i64, w_u64, tdiv_pos, tmod_pos, nth_map, foldA_len] at h) <;> (try simp only [decide_eq_true_eq, decide_eq_false_iff_not, Bool.not_eq_true, Bool.not_eq_false, Bool.not_eq_true', Bool.not_eq_false', not_true_eq_false, not_false_eq_true] at h) <;> (try (exfalso; omega))) | (simp (disch := omega) only [w_i64, w_u64, tdiv_pos, tmod_pos, nth_map, foldA_len]) | (with_reducible refine And.intro (by first | with_reducible assumption | rfl | omega) ?_) | (with_reducible refine And.intro ?_ ?_))
  rw [List.take_of_length_le (by omega)]
set_option maxHeartbeats 400000 in
theorem one_d {G : Gl} (x : Item) : ACp Tryd.prog G 49 [iA x] (iA x.one) := by
  refine acp_of_wpC (c := _) Tryd.func49 rfl (by kernel_rfl) [.cell 2 68] rfl _ Tryd.ntmps49 (Nat.le_of_ble_eq_true rfl) rfl ?_
  repeat' (first | (refine call_pure (short_d _) rfl ?_) | (with_reducible refine aq ?_) | (with_reducible refine yr (by kernel_rfl) (Nat.le_of_ble_eq_true rfl) ?_) | (with_reducible refine yx MIX (by kernel_rfl) (by kernel_rfl) (by kernel_rfl) (Nat.le_of_ble_eq_true rfl) ?_) | (with_reducible refine yc ?_) | (with_reducible refine yseq ?_) | (with_reducible refine awp_block ?_) | (with_reducible refine awp_ret ?_) | (with_reducible refine awp_exit ?_) | (with_reducible refine awp_skip ?_) | (with_reducible refine yr1 (by kernel_rfl) (Nat.le_of_ble_eq_true rfl) ?_) | (with_reducible refine yx1 MIX (by kernel_rfl) (by kernel_rfl) (by kernel_rfl) (Nat.le_of_ble_eq_true rfl) ?_) | (simp only [go_sem, ↓reduceIte, Nat.reduceEqDiff, Nat.reduceAdd, Nat.reduceSub, Nat.reduceMul, Nat.reduceLeDiff, Nat.reduceLT, Int.reduceEq, Int.reduceNe, Int.reduceLT, Int.reduceLE, Int.reduceAdd, Int.reduceSub, Int.reduceMul, Int.reduceNeg, Int.reduceToNat, reduceCtorEq]) | ((with_reducible refine cA_t (by first | with_reducible assumption | (simp only [decide_eq_true_eq, decide_eq_false_iff_not]; first | with_reducible assumption | omega)) (fun h => ?_)) <;> (try rewrite [h]) <;> clear h) | ((with_reducible refine cA_f (by first | with_reducible assumption | (simp only [decide_eq_true_eq, decide_eq_false_iff_not]; first | with_reducible assumption | omega)) (fun h => ?_)) <;> (try rewrite [h]) <;> clear h) | ((with_reducible refine gA_t (by first | with_reducible assumption | (simp only [decide_eq_true_eq, decide_eq_false_iff_not]; first | with_reducible assumption | omega)) (fun h => ?_)) <;> (try rewrite [h]) <;> clear h) | ((with_reducible refine gA_f (by first | with_reducible assumption | (simp only [decide_eq_true_eq, decide_eq_false_iff_not]; first | with_reducible assumption | omega)) (fun h => ?_)) <;> (try rewrite [h]) <;> clear h) | ((with_reducible refine pk_t (by first | with_reducible assumption | (simp only [decide_eq_true_eq, decide_eq_false_iff_not]; first | with_reducible assumption | omega)) (fun h => ?_)) <;> (try rewrite [h]) <;> clear h) | ((with_reducible refine pk_f (by first | with_reducible assumption | (simp only [decide_eq_true_eq, decide_eq_false_iff_not]; first | with_reducible assumption | omega)) (fun h => ?_)) <;> (try rewrite [h]) <;> clear h) | (with_reducible refine pk_if ?_) | ((with_reducible refine cA_split (fun h => ?_) (fun h => ?_)) <;> (try rewrite [h]) <;> (try simp (disch := omega) only [w_i64, w_u64, tdiv_pos, tmod_pos, nth_map, foldA_len] at h) <;> (try simp only [decide_eq_true_eq, decide_eq_false_iff_not, Bool.not_eq_true, Bool.not_eq_false, Bool.not_eq_true', Bool.not_eq_false', not_true_eq_false, not_false_eq_true] at h) <;> (try (exfalso; omega))) | ((with_reducible refine gA_split (fun h => ?_) (fun h => ?_)) <;> (try rewrite [h]) <;> (try simp (disch := omega) only [w_i64, w_u64, tdiv_pos, tmod_pos, nth_map, foldA_len] at h) <;> (try simp only [decide_eq_true_eq, decide_eq_false_iff_not, Bool.not_eq_true, Bool.not_eq_false, Bool.not_eq_true', Bool.not_eq_false', not_true_eq_false, not_false_eq_true] at h) <;> (try (exfalso; omega))) | (simp (disch := omega) only [w_i64, w_u64, tdiv_pos, tmod_pos, nth_map, foldA_len]) | (with_reducible refine And.intro (by first | with_reducible assumption | rfl | omega) ?_) | (with_reducible refine And.intro ?_ ?_))
  · exact rfl
  · have e : x.one.s = x.s := List.take_of_length_le (by omega)
    rw [e]
    rfl
set_option maxHeartbeats 400000 in
theorem items_d {G : Gl} (l : List Item) (hl : l.length ≤ maxLen) : ACp Tryd.prog G 41 [lA l] (lA (fewL l)) := by
  refine acp_of_wpC (c := _) Tryd.func41 rfl (by kernel_rfl) [.tmp 2] rfl _ Tryd.ntmps41 (Nat.le_of_ble_eq_true rfl) rfl ?_
  unfold lA
  have hq : (l.take 66).length ≤ 66 := by rw [List.length_take]; exact Nat.min_le_left ..
  repeat' (first | (with_reducible refine aq ?_) | (with_reducible refine yr (by kernel_rfl) (Nat.le_of_ble_eq_true rfl) ?_) | (with_reducible refine yx MIX (by kernel_rfl) (by kernel_rfl) (by kernel_rfl) (Nat.le_of_ble_eq_true rfl) ?_) | (with_reducible refine yc ?_) | (with_reducible refine yseq ?_) | (with_reducible refine awp_block ?_) | (with_reducible refine awp_ret ?_) | (with_reducible refine awp_exit ?_) | (with_reducible refine awp_skip ?_) | (with_reducible refine yr1 (by kernel_rfl) (Nat.le_of_ble_eq_true rfl) ?_) | (with_reducible refine yx1 MIX (by kernel_rfl) (by kernel_rfl) (by kernel_rfl) (Nat.le_of_ble_eq_true rfl) ?_) | (simp only [go_sem, ↓reduceIte, Nat.reduceEqDiff, Nat.reduceAdd, Nat.reduceSub, Nat.reduceMul, Nat.reduceLeDiff, Nat.reduceLT, Int.reduceEq, Int.reduceNe, Int.reduceLT, Int.reduceLE, Int.reduceAdd, Int.reduceSub, Int.reduceMul, Int.reduceNeg, Int.reduceToNat, reduceCtorEq]) | ((with_reducible refine cA_t (by first | with_reducible assumption | (simp only [decide_eq_true_eq, decide_eq_false_iff_not]; first | with_reducible assumption | omega)) (fun h => ?_)) <;> (try rewrite [h]) <;> clear h) | ((with_reducible refine cA_f (by first | with_reducible assumption | (simp only [decide_eq_true_eq, decide_eq_false_iff_not]; first | with_reducible assumption | omega)) (fun h => ?_)) <;> (try rewrite [h]) <;> clear h) | ((with_reducible refine gA_t (by first | with_reducible assumption | (simp only [decide_eq_true_eq, decide_eq_false_iff_not]; first | with_reducible assumption | omega)) (fun h => ?_)) <;> (try rewrite [h]) <;> clear h) | ((with_reducible refine gA_f (by first | with_reducible assumption | (simp only [decide_eq_true_eq, decide_eq_false_iff_not]; first | with_reducible assumption | omega)) (fun h => ?_)) <;> (try rewrite [h]) <;> clear h) | ((with_reducible refine pk_t (by first | with_reducible assumption | (simp only [decide_eq_true_eq, decide_eq_false_iff_not]; first | with_reducible assumption | omega)) (fun h => ?_)) <;> (try rewrite [h]) <;> clear h) | ((with_reducible refine pk_f (by first | with_reducible assumption | (simp only [decide_eq_true_eq, decide_eq_false_iff_not]; first | with_reducible assumption | omega)) (fun h => ?_)) <;> (try rewrite [h]) <;> clear h) | (with_reducible refine pk_if ?_) | ((with_reducible refine cA_split (fun h => ?_) (fun h => ?_)) <;> (try rewrite [h]) <;> (try simp (disch := omega) only [w_i64, w_u64, tdiv_pos, tmod_pos, nth_map, foldA_len] at h) <;> (try simp only [decide_eq_true_eq, decide_eq_false_iff_not, Bool.not_eq_true, Bool.not_eq_false, Bool.not_eq_true', Bool.not_eq_false', not_true_eq_false, not_false_eq_true] at h) <;> (try (exfalso; omega))) | ((with_reducible refine gA_split (fun h => ?_) (fun h => ?_)) <;> (try rewrite [h]) <;> (try simp (disch := omega) only [w_i64, w_u64, tdiv_pos, tmod_pos, nth_map, foldA_len] at h) <;> (try simp only [decide_eq_true_eq, decide_eq_false_iff_not, Bool.not_eq_true, Bool.not_eq_false, Bool.not_eq_true', Bool.not_eq_false', not_true_eq_false, not_false_eq_true] at h) <;> (try (exfalso; omega))) | (simp (disch := omega) only [w_i64, w_u64, tdiv_pos, tmod_pos, nth_map, foldA_len]) | (with_reducible refine And.intro (by first | with_reducible assumption | rfl | omega) ?_) | (with_reducible refine And.intro ?_ ?_))
  all_goals
    refine awp_row 3 68 5 rfl (Nat.le_refl _) ?_
    refine awp_loop (ι := {k : Nat // k ≤ (l.take 66).length}) (fun k => ⟨[⟨2, 68, 5, foldA (l.take 66) k.1⟩], [(0, SL ((l.take 66).map (flA Item.cells))), (3, OW 0 k.1), (4, V (.int .i64 k.1))]⟩) (fun k => 66 - k.1) ⟨0, Nat.zero_le _⟩ ?_ (Nat.zero_le _) ?_
  any_goals ((refine le_mk ?_ ?_ ?_ <;> (try simp (disch := omega) only [go_sem, ↓reduceIte, Nat.reduceEqDiff, Nat.reduceAdd, Nat.reduceSub, Nat.reduceMul, Nat.reduceLeDiff, Nat.reduceLT, Int.reduceEq, Int.reduceNe, Int.reduceLT, Int.reduceLE, Int.reduceAdd, Int.reduceSub, Int.reduceMul, Int.reduceNeg, Int.reduceToNat, reduceCtorEq, w_i64, w_u64, tdiv_pos, tmod_pos, nth_map, foldA_len, List.map_take, foldA_zero])))
  any_goals (rintro ⟨k, hk⟩; dsimp only; repeat' (first | (refine call_pure (one_d _) rfl ?_) | (refine loop_n ⟨k + 1, by omega⟩ ?_ (Nat.zero_le _) (by dsimp only; omega)) | (refine le_mk ?_ ?_ ?_ <;> (try simp (disch := omega) only [go_sem, ↓reduceIte, Nat.reduceEqDiff, Nat.reduceAdd, Nat.reduceSub, Nat.reduceMul, Nat.reduceLeDiff, Nat.reduceLT, Int.reduceEq, Int.reduceNe, Int.reduceLT, Int.reduceLE, Int.reduceAdd, Int.reduceSub, Int.reduceMul, Int.reduceNeg, Int.reduceToNat, reduceCtorEq, w_i64, w_u64, tdiv_pos, tmod_pos, nth_map, foldA_len])) | (with_reducible refine aq ?_) | (with_reducible refine yr (by kernel_rfl) (Nat.le_of_ble_eq_true rfl) ?_) | (with_reducible refine yx MIX (by kernel_rfl) (by kernel_rfl) (by kernel_rfl) (Nat.le_of_ble_eq_true rfl) ?_) | (with_reducible refine yc ?_) | (with_reducible refine yseq ?_) | (with_reducible refine awp_block ?_) | (with_reducible refine awp_ret ?_) | (with_reducible refine awp_exit ?_) | (with_reducible refine awp_skip ?_) | (with_reducible refine yr1 (by kernel_rfl) (Nat.le_of_ble_eq_true rfl) ?_) | (with_reducible refine yx1 MIX (by kernel_rfl) (by kernel_rfl) (by kernel_rfl) (Nat.le_of_ble_eq_true rfl) ?_) | (simp only [go_sem, ↓reduceIte, Nat.reduceEqDiff, Nat.reduceAdd, Nat.reduceSub, Nat.reduceMul, Nat.reduceLeDiff, Nat.reduceLT, Int.reduceEq, Int.reduceNe, Int.reduceLT, Int.reduceLE, Int.reduceAdd, Int.reduceSub, Int.reduceMul, Int.reduceNeg, Int.reduceToNat, reduceCtorEq]) | ((with_reducible refine cA_t (by first | with_reducible assumption | (simp only [decide_eq_true_eq, decide_eq_false_iff_not]; first | with_reducible assumption | omega)) (fun h => ?_)) <;> (try rewrite [h]) <;> clear h) | ((with_reducible refine cA_f (by first | with_reducible assumption | (simp only [decide_eq_true_eq, decide_eq_false_iff_not]; first | with_reducible assumption | omega)) (fun h => ?_)) <;> (try rewrite [h]) <;> clear h) | ((with_reducible refine gA_t (by first | with_reducible assumption | (simp only [decide_eq_true_eq, decide_eq_false_iff_not]; first | with_reducible assumption | omega)) (fun h => ?_)) <;> (try rewrite [h]) <;> clear h) | ((with_reducible refine gA_f (by first | with_reducible assumption | (simp only [decide_eq_true_eq, decide_eq_false_iff_not]; first | with_reducible assumption | omega)) (fun h => ?_)) <;> (try rewrite [h]) <;> clear h) | ((with_reducible refine pk_t (by first | with_reducible assumption | (simp only [decide_eq_true_eq, decide_eq_false_iff_not]; first | with_reducible assumption | omega)) (fun h => ?_)) <;> (try rewrite [h]) <;> clear h) | ((with_reducible refine pk_f (by first | with_reducible assumption | (simp only [decide_eq_true_eq, decide_eq_false_iff_not]; first | with_reducible assumption | omega)) (fun h => ?_)) <;> (try rewrite [h]) <;> clear h) | (with_reducible refine pk_if ?_) | ((with_reducible refine cA_split (fun h => ?_) (fun h => ?_)) <;> (try rewrite [h]) <;> (try simp (disch := omega) only [w_i64, w_u64, tdiv_pos, tmod_pos, nth_map, foldA_len] at h) <;> (try simp only [decide_eq_true_eq, decide_eq_false_iff_not, Bool.not_eq_true, Bool.not_eq_false, Bool.not_eq_true', Bool.not_eq_false', not_true_eq_false, not_false_eq_true] at h) <;> (try (exfalso; omega))) | ((with_reducible refine gA_split (fun h => ?_) (fun h => ?_)) <;> (try rewrite [h]) <;> (try simp (disch := omega) only [w_i64, w_u64, tdiv_pos, tmod_pos, nth_map, foldA_len] at h) <;> (try simp only [decide_eq_true_eq, decide_eq_false_iff_not, Bool.not_eq_true, Bool.not_eq_false, Bool.not_eq_true', Bool.not_eq_false', not_true_eq_false, not_false_eq_true] at h) <;> (try (exfalso; omega))) | (simp (disch := omega) only [w_i64, w_u64, tdiv_pos, tmod_pos, nth_map, foldA_len]) | (with_reducible refine And.intro (by first | with_reducible assumption | rfl | omega) ?_) | (with_reducible refine And.intro ?_ ?_)))
  · exact congrArg (AObj.mk 2 68 5) (foldA_succ _ _).symm
  · rw [foldA_full _ (by omega)]; rfl
  · rw [List.take_of_length_le (by rw [List.length_map]; omega)]
  · exact congrArg (AObj.mk 2 68 5) (foldA_succ _ _).symm
  · rw [foldA_full _ (by omega)]; rfl
end Go.Proofs.YtopifabnobplcaaDoor

namespace Go.Proofs.YtopifabnobplcaaDoor
open Go.RowKit
set_option linter.unusedVariables false
set_option linter.unusedSimpArgs false
set_option maxRecDepth 20000
structure Tr where
  leaf : Nat → List Item
  ver : Nat → Int
def Tr.zero : Tr := ⟨fun _ => [], fun _ => 0⟩
def Tr.setL (t : Tr) (k : Nat) (l : List Item) : Tr := ⟨fun i => if i = k then l else t.leaf i, t.ver⟩
def Tr.setV (t : Tr) (k : Nat) (v : Int) : Tr := ⟨t.leaf, fun i => if i = k then v else t.ver i⟩
def leC (t : Tr) : List AV := (List.range 16).map fun i => lA (t.leaf i)
def veC (t : Tr) : List AV := (List.range 16).map fun i => nA (t.ver i)
def tC (t : Tr) : List AV := leC t ++ veC t
def zC : List AV := List.replicate 16 (V (.slice none 0 0)) ++ List.replicate 16 (nA 0)
def tA (t : Tr) : AV := .agg (tC t)
theorem tA_def (t : Tr) : tA t = .agg (tC t) := _root_.id rfl
section
variable {t u : Tr} {i k m : Nat} {K1 : AV → Prop} {H : List AObj}
theorem leC_len : (leC t).length = 16 := by simp [leC]
theorem veC_len : (veC t).length = 16 := by simp [veC]
theorem tC_len : (tC t).length = 32 := by simp [tC, leC_len, veC_len]
theorem zC_len : zC.length = 32 := _root_.id rfl
theorem tC_mem {d : AV} (h : d ∈ tC t) : (∃ l : List Item, d = lA l) ∨ ∃ n, d = nA n := by
  simp only [tC, leC, veC, List.mem_append, List.mem_map] at h
  rcases h with ⟨i, _, rfl⟩ | ⟨i, _, rfl⟩
  · exact .inl ⟨_, rfl⟩
  · exact .inr ⟨_, rfl⟩
theorem tC_all {p : AV → Bool} (h1 : ∀ l : List Item, p (lA l) = true) (h2 : ∀ n, p (nA n) = true) : (tC t).all p = true := List.all_eq_true.2 fun d hd => by
  rcases tC_mem hd with ⟨l, rfl⟩ | ⟨n, rfl⟩
  · exact h1 l
  · exact h2 n
theorem tC_sure : (tC t).all sure = true := tC_all (fun _ => rfl) fun _ => rfl
theorem tC_lt1 : (tC t).all (lt1 m) = true := tC_all (fun _ => rfl) fun _ => rfl
theorem tC_ltA : (tC t).all (ltA m) = true := tC_all (fun _ => rfl) fun _ => rfl
theorem leC_mem {d : AV} (h : d ∈ leC t) : ∃ l : List Item, d = lA l := by
  simp only [leC, List.mem_map] at h
  obtain ⟨i, _, rfl⟩ := h
  exact ⟨_, rfl⟩
theorem leC_lt1 : (leC t).all (lt1 m) = true := List.all_eq_true.2 fun d hd => by obtain ⟨l, rfl⟩ := leC_mem hd; rfl
theorem tC_ro : (tC t).map (ro1 H) = tC t := by
  have : ∀ l : List AV, (∀ d ∈ l, ro1 H d = d) → l.map (ro1 H) = l := fun l h => by
    conv => rhs; rw [← List.map_id l]
    exact List.map_congr_left h
  refine this _ fun d hd => ?_
  rcases tC_mem hd with ⟨l, rfl⟩ | ⟨n, rfl⟩ <;> rfl
theorem zC_sure : zC.all sure = true := by decide
theorem zC_ltA : zC.all (ltA m) = true := _root_.id rfl
theorem zC_lt1 : zC.all (lt1 m) = true := _root_.id rfl
theorem lA_def (l : List Item) : lA l = SL (l.map (flA Item.cells)) := _root_.id rfl
theorem zC_ro : zC.map (ro1 H) = tC Tr.zero := _root_.id rfl
theorem tC_take : (tC t).take 32 = tC t := List.take_of_length_le (by rw [tC_len]; exact Nat.le_refl _)
theorem zC_take : zC.take 32 = zC := _root_.id rfl
theorem tC_take16 : (tC t).take 16 = leC t := by rw [tC, List.take_append_of_le_length (by rw [leC_len]; exact Nat.le_refl _), List.take_of_length_le (by rw [leC_len]; exact Nat.le_refl _)]
theorem nth_le (h : i < 16) : nth (leC t) i K1 = K1 (lA (t.leaf i)) := by
  simp [nth, leC, List.getElem?_map, List.getElem?_range h]
theorem nth_tl (h : i < 16) : nth (tC t) i K1 = K1 (lA (t.leaf i)) := by
  have e := nth_le (t := t) (K1 := K1) h
  rw [← e]
  unfold nth tC
  rw [List.getElem?_append_left (by rw [leC_len]; exact h)]
theorem nth_tv (h : 16 ≤ i) (h2 : i < 32) : nth (tC t) i K1 = K1 (nA (t.ver (i - 16))) := by
  simp only [nth, tC]
  rw [List.getElem?_append_right (by rw [leC_len]; exact h), leC_len]
  simp [veC, List.getElem?_map, List.getElem?_range (show i - 16 < 16 by omega)]
theorem set_map {α β : Type} (f : Nat → β) (n k : Nat) (x : β) : ((List.range n).map f).set k x = (List.range n).map fun i => if i = k then x else f i := by
  refine List.ext_getElem? fun j => ?_
  rw [List.getElem?_set]
  simp only [List.length_map, List.length_range, List.getElem?_map]
  by_cases hj : j < n
  · rw [List.getElem?_range hj]
    by_cases e : k = j
    · subst e; simp [hj]
    · simp [e, Ne.symm e]
  · rw [List.getElem?_eq_none (by simpa using hj)]
    by_cases e : k = j
    · subst e; simp [hj]
    · simp [e]
theorem set_tl {l : List Item} (h : i < 16) : (tC t).set i (SL (l.map (flA Item.cells))) = tC (t.setL i l) := by
  rw [tC, List.set_append_left _ _ (by rw [leC_len]; exact h)]
  show (leC t).set i _ ++ veC t = leC (t.setL i l) ++ veC t
  congr 1
  rw [leC, set_map (α := Nat)]
  unfold leC Tr.setL
  refine List.map_congr_left fun j _ => ?_
  dsimp only
  split <;> rfl
theorem set_tv {v : Int} (h : 16 ≤ i) (h2 : i < 32) : (tC t).set i (V (.int .i64 v)) = tC (t.setV (i - 16) v) := by
  rw [tC, List.set_append_right _ _ (by rw [leC_len]; exact h), leC_len]
  show leC t ++ (veC t).set (i - 16) _ = leC t ++ veC (t.setV (i - 16) v)
  congr 1
  rw [veC, set_map (α := Nat)]
  unfold veC Tr.setV
  refine List.map_congr_left fun j _ => ?_
  dsimp only
  split <;> rfl
theorem setCells_all {α : Type} {xs l : List α} (h : xs.length = l.length) : setCells l 0 xs = xs := by
  refine List.ext_getElem? fun j => ?_
  rw [setCells_get xs l 0 (by omega)]
  split
  · simp
  · rename_i hn
    rw [List.getElem?_eq_none (by omega), List.getElem?_eq_none (by omega)]
theorem sc_tt : setCells (tC t) 0 (tC u) = tC u := setCells_all (by rw [tC_len, tC_len])
theorem sc_zt : setCells zC 0 (tC u) = tC u := setCells_all (by rw [tC_len, zC_len])
theorem sc_tz : setCells (tC t) 0 zC = zC := setCells_all (by rw [tC_len, zC_len])
theorem sc_zz : setCells zC 0 zC = zC := _root_.id rfl
theorem add16 : 16 + k - 16 = k := by omega
end
theorem tz_T : zeroC Tryd.prog 35 = some zC := tz_35
def fewT (t : Tr) (k : Nat) : Tr := ⟨fun i => if i < k then fewL (t.leaf i) else t.leaf i, t.ver⟩
theorem fewT_zero (t : Tr) : fewT t 0 = t := by simp [fewT]
theorem fewT_succ (t : Tr) (k : Nat) : (fewT t k).setL k (fewL ((fewT t k).leaf k)) = fewT t (k + 1) := by
  simp only [fewT, Tr.setL, Nat.lt_irrefl, if_false]
  congr 1
  funext i
  by_cases h : i = k
  · subst h; simp
  · by_cases h2 : i < k
    · simp [h, h2, show i < k + 1 by omega]
    · simp [h, h2, show ¬ i < k + 1 by omega]
theorem fewT_leaf (t : Tr) (k : Nat) : (fewT t k).leaf k = t.leaf k := by simp [fewT]
attribute [local go_sem ↓] str_size pk_tt pk_ff hold_one hold_two gO_some gA_tt gA_tf gA_ft gA_ff cA_true cA_false yP_n yP_r yK_n yK_r yQ_n yQ_r yC_nil yC_tmp yC_cell yo_nil yo_cons yo_none yo_guard yo_guardN ys_move ys_assign ys_pick ys_bin ys_un ys_build ys_buildSlice ys_load ys_nilCheck ys_conv ys_extract ys_fieldAddr ys_field ys_indexAddr ys_index ys_slice ys_len ys_alloc ys_box ys_store ys_call ys_append ys_makeFunc ys_callv yd_nil yd_alloc yd_store yd_move yg_move yd_assign yg_assign yd_pick yg_pick yd_bin yg_bin yd_un yg_un yd_build yg_build yd_buildSlice yg_buildSlice yd_load yg_load yd_nilCheck yg_nilCheck yd_conv yg_conv yd_extract yg_extract yd_fieldAddr yg_fieldAddr yd_field yg_field yd_indexAddr yg_indexAddr yd_index yg_index yd_slice yg_slice yd_len yg_len yd_call yg_call ixA_eq sl_es sl_row sl_nil ap_eq bs_eq bl_eq cv_eq ixV_agg thenA_n thenA_r thenA_x inB_n inB_r inB_x loop_r loop_x dstAt_zero dstAt_succ retP_n retP_r
attribute [local go_sem] hle_nil hle_cons oO_one oO_two oO_three oO_nil r1_r0 r1_r1 r1_r2 r1_r3 ro_OW roA_OW go_some al_some okX_f okX_t tells regOnly cv_cl cap0_V cap0_OP cap0_ptr ixA_s ixA_p ixA_o szOf_one szOf_two ixV_str ixW_some sl_str slE_some apE_nil apE_row bsE_one flE_some pget_zero pget_succ blE_some fil_nil fil_cons filB_some cvE_some cv_str' str_list str_cut str_data cut_all cut_to s_eql s_neq s_add s_lss s_geq s_leq s_gtr lt1 set_some set_none get_cons ev_tmp ev_const ev_func ev_global glob_cons cv_int cv_bool cv_str cv_slice cv_ptr cv_agg one_int one_bool one_str one_slice one_ptr b_add b_sub b_mul b_quo b_rem b_and b_or b_xor b_andNot b_shl b_shr b_eql b_neq b_lss b_leq b_gtr b_geq b_str b_beq b_bne u_not u_neg g_tt g_tf g_ft g_ff c_true c_false ex_tu nth_zero nth_succ nthO_zero nthO_succ l_ptr l_ptrV l_ptrS l_op cP_one pP_one oc_one oc_agg st_op f_ptr f_op fv_agg co_agg co_V co_slice co_OW co_OP co_ptr sure_V sure_slice sure_OW sure_OP sure_ptr sure_agg sc_nil sc_cons ixS ixSW ixSN bsV_nil bsV_cons el_slice el_row el_nil len_str len_slice len_row len_nil asI_none asI_some nil_op nil_ptr ro_int ro_bool ro_str ro_nils ro_slice ro_ptr ro_OP ro_OW ro_agg ro_tu roA_agg roA_V roA_slice roA_OW roA_OP roA_ptr r1_int r1_bool r1_str r1_nils r1_slice r1_ptr r1_OP resA_one resA_two resA_three noT_V noT_agg noT_slice noT_OW noT_OP noT_ptr noT_nil argsT_nil argsT_cons allC_nil allC_cons allC_append hle_nil hle_cons le_nil le_cons tT_V tT_SL tT_ptr tT_OW tT_OP tT_agg tT_TU tA_V tA_SL tA_ptr tA_OW tA_OP tA_agg t1_V t1_SL t1_ptr t1_OW t1_OP tO_mk get_cons beq_self_eq_true Nat.zero_lt_succ Nat.lt_add_one true_or or_true Bool.or_self Nat.zero_add Nat.add_zero Nat.mul_one Int.toNat_natCast Int.natCast_zero Int.natCast_add Int.cast_ofNat_Int or_false false_or or_true true_or Nat.sub_zero Int.natCast_nonneg Int.toNat_zero Bool.true_and Bool.and_true Bool.false_and Bool.and_false Bool.true_or Bool.or_true Bool.false_or Bool.or_false Bool.not_true Bool.not_false Bool.not_not true_and and_true false_and and_false not_true_eq_false not_false_eq_true eq_self decide_true decide_false ne_eq implies_true forall_const true_implies false_implies Bool.true_eq_false Bool.false_eq_true List.map_cons List.map_nil List.all_cons List.all_nil List.length_cons List.length_nil List.length_map List.length_append List.nil_append List.cons_append List.set_cons_zero List.set_cons_succ List.set_nil List.drop_zero List.drop_succ_cons List.drop_nil List.take_zero List.take_succ_cons List.take_nil Option.map_some Option.map_none Option.isSome_some tk_3 tk_9 tk_31 tk_32 tk_35 tk_68 tf_35_0 tf_35_1 tf_66_2 tf_68_0 tf_68_1 tf_68_2 ts_9 ts_31 ts_32 ts_33 ta_9 ta_31 ta_32 ta_33 tq_31 tq_55 ti_3 tz_68 tv_3 tv_5 tu_9 tv_9 tv_24 iA_def fl_it allC_it foldA_all lt_it lt_fold lA_def leC_lt1 tC_len zC_len tC_sure tC_lt1 tC_ltA zC_ltA zC_lt1 tC_ro zC_sure zC_ro tC_take zC_take tC_take16 sc_tt sc_zt sc_tz sc_zz add16 tz_T tA_def
set_option maxHeartbeats 400000 in
theorem few_d {G : Gl} (t : Tr) (hl : ∀ i, (t.leaf i).length ≤ maxLen) : ACp Tryd.prog G 27 [tA t] (tA (fewT t 16)) := by
  refine acp_of_wpC (c := _) Tryd.func27 rfl (by kernel_rfl) [.cell 2 35] rfl _ Tryd.ntmps27 (Nat.le_of_ble_eq_true rfl) rfl ?_
  repeat' (first | (with_reducible refine aq ?_) | (with_reducible refine yr (by kernel_rfl) (Nat.le_of_ble_eq_true rfl) ?_) | (with_reducible refine yx MIX (by kernel_rfl) (by kernel_rfl) (by kernel_rfl) (Nat.le_of_ble_eq_true rfl) ?_) | (with_reducible refine yc ?_) | (with_reducible refine yseq ?_) | (with_reducible refine awp_block ?_) | (with_reducible refine awp_ret ?_) | (with_reducible refine awp_exit ?_) | (with_reducible refine awp_skip ?_) | (with_reducible refine yr1 (by kernel_rfl) (Nat.le_of_ble_eq_true rfl) ?_) | (with_reducible refine yx1 MIX (by kernel_rfl) (by kernel_rfl) (by kernel_rfl) (Nat.le_of_ble_eq_true rfl) ?_) | (simp only [go_sem, ↓reduceIte, Nat.reduceEqDiff, Nat.reduceAdd, Nat.reduceSub, Nat.reduceMul, Nat.reduceLeDiff, Nat.reduceLT, Int.reduceEq, Int.reduceNe, Int.reduceLT, Int.reduceLE, Int.reduceAdd, Int.reduceSub, Int.reduceMul, Int.reduceNeg, Int.reduceToNat, reduceCtorEq]) | ((with_reducible refine cA_t (by first | with_reducible assumption | (simp only [decide_eq_true_eq, decide_eq_false_iff_not]; first | with_reducible assumption | omega)) (fun h => ?_)) <;> (try rewrite [h]) <;> clear h) | ((with_reducible refine cA_f (by first | with_reducible assumption | (simp only [decide_eq_true_eq, decide_eq_false_iff_not]; first | with_reducible assumption | omega)) (fun h => ?_)) <;> (try rewrite [h]) <;> clear h) | ((with_reducible refine gA_t (by first | with_reducible assumption | (simp only [decide_eq_true_eq, decide_eq_false_iff_not]; first | with_reducible assumption | omega)) (fun h => ?_)) <;> (try rewrite [h]) <;> clear h) | ((with_reducible refine gA_f (by first | with_reducible assumption | (simp only [decide_eq_true_eq, decide_eq_false_iff_not]; first | with_reducible assumption | omega)) (fun h => ?_)) <;> (try rewrite [h]) <;> clear h) | ((with_reducible refine pk_t (by first | with_reducible assumption | (simp only [decide_eq_true_eq, decide_eq_false_iff_not]; first | with_reducible assumption | omega)) (fun h => ?_)) <;> (try rewrite [h]) <;> clear h) | ((with_reducible refine pk_f (by first | with_reducible assumption | (simp only [decide_eq_true_eq, decide_eq_false_iff_not]; first | with_reducible assumption | omega)) (fun h => ?_)) <;> (try rewrite [h]) <;> clear h) | (with_reducible refine pk_if ?_) | ((with_reducible refine cA_split (fun h => ?_) (fun h => ?_)) <;> (try rewrite [h]) <;> (try simp (disch := omega) only [w_i64, w_u64, tdiv_pos, tmod_pos, nth_map, foldA_len, nth_le, nth_tl, nth_tv, set_tl, set_tv] at h) <;> (try simp only [decide_eq_true_eq, decide_eq_false_iff_not, Bool.not_eq_true, Bool.not_eq_false, Bool.not_eq_true', Bool.not_eq_false', not_true_eq_false, not_false_eq_true] at h) <;> (try (exfalso; omega))) | ((with_reducible refine gA_split (fun h => ?_) (fun h => ?_)) <;> (try rewrite [h]) <;> (try simp (disch := omega) only [w_i64, w_u64, tdiv_pos, tmod_pos, nth_map, foldA_len, nth_le, nth_tl, nth_tv, set_tl, set_tv] at h) <;> (try simp only [decide_eq_true_eq, decide_eq_false_iff_not, Bool.not_eq_true, Bool.not_eq_false, Bool.not_eq_true', Bool.not_eq_false', not_true_eq_false, not_false_eq_true] at h) <;> (try (exfalso; omega))) | (simp (disch := omega) only [w_i64, w_u64, tdiv_pos, tmod_pos, nth_map, foldA_len, nth_le, nth_tl, nth_tv, set_tl, set_tv]) | (with_reducible refine And.intro (by first | with_reducible assumption | rfl | omega) ?_) | (with_reducible refine And.intro ?_ ?_))
  refine awp_loop (ι := {k : Nat // k ≤ 16}) (fun k => ⟨[⟨1, 35, 0, tC (fewT t k.1)⟩, ⟨1, 35, 0, zC⟩], [(3, V (.int .i64 k.1)), (2, OP 1 0), (1, OP 0 0)]⟩) (fun k => 16 - k.1) ⟨0, Nat.zero_le _⟩ ?_ (Nat.zero_le _) ?_
  · (refine le_mk ?_ ?_ ?_ <;> (try simp (disch := omega) only [go_sem, ↓reduceIte, Nat.reduceEqDiff, Nat.reduceAdd, Nat.reduceSub, Nat.reduceMul, Nat.reduceLeDiff, Nat.reduceLT, Int.reduceEq, Int.reduceNe, Int.reduceLT, Int.reduceLE, Int.reduceAdd, Int.reduceSub, Int.reduceMul, Int.reduceNeg, Int.reduceToNat, reduceCtorEq, w_i64, w_u64, tdiv_pos, tmod_pos, nth_map, foldA_len, nth_le, nth_tl, nth_tv, set_tl, set_tv, fewT_zero]))
  rintro ⟨k, hk⟩
  dsimp only
  repeat' (first | (refine call_pure (items_d _ (by rw [fewT_leaf]; exact hl k)) rfl ?_) | (refine loop_n ⟨k + 1, by omega⟩ ?_ (Nat.zero_le _) (by dsimp only; omega)) | (refine le_mk ?_ ?_ ?_ <;> (try simp (disch := omega) only [go_sem, ↓reduceIte, Nat.reduceEqDiff, Nat.reduceAdd, Nat.reduceSub, Nat.reduceMul, Nat.reduceLeDiff, Nat.reduceLT, Int.reduceEq, Int.reduceNe, Int.reduceLT, Int.reduceLE, Int.reduceAdd, Int.reduceSub, Int.reduceMul, Int.reduceNeg, Int.reduceToNat, reduceCtorEq, w_i64, w_u64, tdiv_pos, tmod_pos, nth_map, foldA_len, nth_le, nth_tl, nth_tv, set_tl, set_tv, fewT_succ])) | (with_reducible refine aq ?_) | (with_reducible refine yr (by kernel_rfl) (Nat.le_of_ble_eq_true rfl) ?_) | (with_reducible refine yx MIX (by kernel_rfl) (by kernel_rfl) (by kernel_rfl) (Nat.le_of_ble_eq_true rfl) ?_) | (with_reducible refine yc ?_) | (with_reducible refine yseq ?_) | (with_reducible refine awp_block ?_) | (with_reducible refine awp_ret ?_) | (with_reducible refine awp_exit ?_) | (with_reducible refine awp_skip ?_) | (with_reducible refine yr1 (by kernel_rfl) (Nat.le_of_ble_eq_true rfl) ?_) | (with_reducible refine yx1 MIX (by kernel_rfl) (by kernel_rfl) (by kernel_rfl) (Nat.le_of_ble_eq_true rfl) ?_) | (simp only [go_sem, ↓reduceIte, Nat.reduceEqDiff, Nat.reduceAdd, Nat.reduceSub, Nat.reduceMul, Nat.reduceLeDiff, Nat.reduceLT, Int.reduceEq, Int.reduceNe, Int.reduceLT, Int.reduceLE, Int.reduceAdd, Int.reduceSub, Int.reduceMul, Int.reduceNeg, Int.reduceToNat, reduceCtorEq]) | ((with_reducible refine cA_t (by first | with_reducible assumption | (simp only [decide_eq_true_eq, decide_eq_false_iff_not]; first | with_reducible assumption | omega)) (fun h => ?_)) <;> (try rewrite [h]) <;> clear h) | ((with_reducible refine cA_f (by first | with_reducible assumption | (simp only [decide_eq_true_eq, decide_eq_false_iff_not]; first | with_reducible assumption | omega)) (fun h => ?_)) <;> (try rewrite [h]) <;> clear h) | ((with_reducible refine gA_t (by first | with_reducible assumption | (simp only [decide_eq_true_eq, decide_eq_false_iff_not]; first | with_reducible assumption | omega)) (fun h => ?_)) <;> (try rewrite [h]) <;> clear h) | ((with_reducible refine gA_f (by first | with_reducible assumption | (simp only [decide_eq_true_eq, decide_eq_false_iff_not]; first | with_reducible assumption | omega)) (fun h => ?_)) <;> (try rewrite [h]) <;> clear h) | ((with_reducible refine pk_t (by first | with_reducible assumption | (simp only [decide_eq_true_eq, decide_eq_false_iff_not]; first | with_reducible assumption | omega)) (fun h => ?_)) <;> (try rewrite [h]) <;> clear h) | ((with_reducible refine pk_f (by first | with_reducible assumption | (simp only [decide_eq_true_eq, decide_eq_false_iff_not]; first | with_reducible assumption | omega)) (fun h => ?_)) <;> (try rewrite [h]) <;> clear h) | (with_reducible refine pk_if ?_) | ((with_reducible refine cA_split (fun h => ?_) (fun h => ?_)) <;> (try rewrite [h]) <;> (try simp (disch := omega) only [w_i64, w_u64, tdiv_pos, tmod_pos, nth_map, foldA_len, nth_le, nth_tl, nth_tv, set_tl, set_tv] at h) <;> (try simp only [decide_eq_true_eq, decide_eq_false_iff_not, Bool.not_eq_true, Bool.not_eq_false, Bool.not_eq_true', Bool.not_eq_false', not_true_eq_false, not_false_eq_true] at h) <;> (try (exfalso; omega))) | ((with_reducible refine gA_split (fun h => ?_) (fun h => ?_)) <;> (try rewrite [h]) <;> (try simp (disch := omega) only [w_i64, w_u64, tdiv_pos, tmod_pos, nth_map, foldA_len, nth_le, nth_tl, nth_tv, set_tl, set_tv] at h) <;> (try simp only [decide_eq_true_eq, decide_eq_false_iff_not, Bool.not_eq_true, Bool.not_eq_false, Bool.not_eq_true', Bool.not_eq_false', not_true_eq_false, not_false_eq_true] at h) <;> (try (exfalso; omega))) | (simp (disch := omega) only [w_i64, w_u64, tdiv_pos, tmod_pos, nth_map, foldA_len, nth_le, nth_tl, nth_tv, set_tl, set_tv]) | (with_reducible refine And.intro (by first | with_reducible assumption | rfl | omega) ?_) | (with_reducible refine And.intro ?_ ?_))
  obtain rfl : k = 16 := by omega
  rfl
end Go.Proofs.YtopifabnobplcaaDoor

namespace Go.Proofs.YtopifabnobplcaaDoor
open Go.RowKit
set_option linter.unusedVariables false
set_option linter.unusedSimpArgs false
set_option maxRecDepth 20000
def bucketK (k : Bytes) : Int := if keyB k then ((k.getD 0 0).toNat : Int) % 16 else -1
def fitB (b ver : Int) (x : Item) : Bool := decide (bucketK x.key = b) && decide (x.ver ≤ ver)
def fitsB (b : Int) (l : List Item) (ver : Int) : Bool := leafB l && decide (0 ≤ ver) && decide (ver ≤ 2147483647) && l.all (fitB b ver)
def mayT (t : Tr) : Bool := (List.range 16).all fun i => fitsB i (t.leaf i) (t.ver i)
theorem fits_no {b : Int} {l : List Item} {ver : Int} {k : Nat} {h : k < l.length} (h1 : fitB b ver l[k] = false) : fitsB b l ver = false := by
  have : l.all (fitB b ver) = false := List.all_eq_false.2 ⟨l[k], List.getElem_mem h, by simp [h1]⟩
  simp [fitsB, this]
theorem key_pos {k : Bytes} (h : keyB k = true) : 0 < k.length := by
  cases k with
  | nil => simp [keyB] at h
  | cons a r => simp
theorem leafB_def (l : List Item) : leafB l = ((chk l).1 == 0) := _root_.id rfl
theorem allTk {α : Type} {p : α → Bool} {l : List α} {k : Nat} (h : k < l.length) (h1 : (l.take k).all p = true) (h2 : p l[k] = true) : (l.take (k + 1)).all p = true := by
  rw [List.take_succ_eq_append_getElem h, List.all_append, h1]; simp [h2]
theorem may_no {t : Tr} {k : Nat} (hk : k < 16) (h : fitsB k (t.leaf k) (t.ver k) = false) : mayT t = false := List.all_eq_false.2 ⟨k, List.mem_range.2 hk, by simp [h]⟩
attribute [local go_sem ↓] str_size pk_tt pk_ff hold_one hold_two gO_some gA_tt gA_tf gA_ft gA_ff cA_true cA_false yP_n yP_r yK_n yK_r yQ_n yQ_r yC_nil yC_tmp yC_cell yo_nil yo_cons yo_none yo_guard yo_guardN ys_move ys_assign ys_pick ys_bin ys_un ys_build ys_buildSlice ys_load ys_nilCheck ys_conv ys_extract ys_fieldAddr ys_field ys_indexAddr ys_index ys_slice ys_len ys_alloc ys_box ys_store ys_call ys_append ys_makeFunc ys_callv yd_nil yd_alloc yd_store yd_move yg_move yd_assign yg_assign yd_pick yg_pick yd_bin yg_bin yd_un yg_un yd_build yg_build yd_buildSlice yg_buildSlice yd_load yg_load yd_nilCheck yg_nilCheck yd_conv yg_conv yd_extract yg_extract yd_fieldAddr yg_fieldAddr yd_field yg_field yd_indexAddr yg_indexAddr yd_index yg_index yd_slice yg_slice yd_len yg_len yd_call yg_call ixA_eq sl_es sl_row sl_nil ap_eq bs_eq bl_eq cv_eq ixV_agg thenA_n thenA_r thenA_x inB_n inB_r inB_x loop_r loop_x dstAt_zero dstAt_succ retP_n retP_r
attribute [local go_sem] hle_nil hle_cons oO_one oO_two oO_three oO_nil r1_r0 r1_r1 r1_r2 r1_r3 ro_OW roA_OW go_some al_some okX_f okX_t tells regOnly cv_cl cap0_V cap0_OP cap0_ptr ixA_s ixA_p ixA_o szOf_one szOf_two ixV_str ixW_some sl_str slE_some apE_nil apE_row bsE_one flE_some pget_zero pget_succ blE_some fil_nil fil_cons filB_some cvE_some cv_str' str_list str_cut str_data cut_all cut_to s_eql s_neq s_add s_lss s_geq s_leq s_gtr lt1 set_some set_none get_cons ev_tmp ev_const ev_func ev_global glob_cons cv_int cv_bool cv_str cv_slice cv_ptr cv_agg one_int one_bool one_str one_slice one_ptr b_add b_sub b_mul b_quo b_rem b_and b_or b_xor b_andNot b_shl b_shr b_eql b_neq b_lss b_leq b_gtr b_geq b_str b_beq b_bne u_not u_neg g_tt g_tf g_ft g_ff c_true c_false ex_tu nth_zero nth_succ nthO_zero nthO_succ l_ptr l_ptrV l_ptrS l_op cP_one pP_one oc_one oc_agg st_op f_ptr f_op fv_agg co_agg co_V co_slice co_OW co_OP co_ptr sure_V sure_slice sure_OW sure_OP sure_ptr sure_agg sc_nil sc_cons ixS ixSW ixSN bsV_nil bsV_cons el_slice el_row el_nil len_str len_slice len_row len_nil asI_none asI_some nil_op nil_ptr ro_int ro_bool ro_str ro_nils ro_slice ro_ptr ro_OP ro_OW ro_agg ro_tu roA_agg roA_V roA_slice roA_OW roA_OP roA_ptr r1_int r1_bool r1_str r1_nils r1_slice r1_ptr r1_OP resA_one resA_two resA_three noT_V noT_agg noT_slice noT_OW noT_OP noT_ptr noT_nil argsT_nil argsT_cons allC_nil allC_cons allC_append hle_nil hle_cons le_nil le_cons tT_V tT_SL tT_ptr tT_OW tT_OP tT_agg tT_TU tA_V tA_SL tA_ptr tA_OW tA_OP tA_agg t1_V t1_SL t1_ptr t1_OW t1_OP tO_mk get_cons beq_self_eq_true Nat.zero_lt_succ Nat.lt_add_one true_or or_true Bool.or_self Nat.zero_add Nat.add_zero Nat.mul_one Int.toNat_natCast Int.natCast_zero Int.natCast_add Int.cast_ofNat_Int or_false false_or or_true true_or Nat.sub_zero Int.natCast_nonneg Int.toNat_zero Bool.true_and Bool.and_true Bool.false_and Bool.and_false Bool.true_or Bool.or_true Bool.false_or Bool.or_false Bool.not_true Bool.not_false Bool.not_not true_and and_true false_and and_false not_true_eq_false not_false_eq_true eq_self decide_true decide_false ne_eq implies_true forall_const true_implies false_implies Bool.true_eq_false Bool.false_eq_true List.map_cons List.map_nil List.all_cons List.all_nil List.length_cons List.length_nil List.length_map List.length_append List.nil_append List.cons_append List.set_cons_zero List.set_cons_succ List.set_nil List.drop_zero List.drop_succ_cons List.drop_nil List.take_zero List.take_succ_cons List.take_nil Option.map_some Option.map_none Option.isSome_some tk_3 tk_9 tk_31 tk_32 tk_35 tk_68 tf_35_0 tf_35_1 tf_66_2 tf_68_0 tf_68_1 tf_68_2 ts_9 ts_31 ts_32 ts_33 ta_9 ta_31 ta_32 ta_33 tq_31 tq_55 ti_3 tz_68 tv_3 tv_5 tu_9 tv_9 tv_24 iA_def fl_it allC_it foldA_all lt_it lt_fold lA_def leC_lt1 tC_len zC_len tC_sure tC_lt1 tC_ltA zC_ltA zC_lt1 tC_ro zC_sure zC_ro tC_take zC_take tC_take16 sc_tt sc_zt sc_tz sc_zz add16 tz_T tA_def
set_option maxHeartbeats 400000 in
theorem bucket_d {G : Gl} (hG : SigG G) (k : Bytes) : ACp Tryd.prog G 51 [sA k] (nA (bucketK k)) := by
  have hb := UInt8.toNat_lt (k.getD 0 0)
  have hp := @key_pos k
  refine acp_of_wpC (c := _) Tryd.func51 rfl (by kernel_rfl) [.tmp 2] rfl _ Tryd.ntmps51 (Nat.le_of_ble_eq_true rfl) rfl ?_
  repeat' (first | (refine call_pure (cl_keyis _ hG) rfl ?_) | (with_reducible refine aq ?_) | (with_reducible refine yr (by kernel_rfl) (Nat.le_of_ble_eq_true rfl) ?_) | (with_reducible refine yx MIX (by kernel_rfl) (by kernel_rfl) (by kernel_rfl) (Nat.le_of_ble_eq_true rfl) ?_) | (with_reducible refine yc ?_) | (with_reducible refine yseq ?_) | (with_reducible refine awp_block ?_) | (with_reducible refine awp_ret ?_) | (with_reducible refine awp_exit ?_) | (with_reducible refine awp_skip ?_) | (with_reducible refine yr1 (by kernel_rfl) (Nat.le_of_ble_eq_true rfl) ?_) | (with_reducible refine yx1 MIX (by kernel_rfl) (by kernel_rfl) (by kernel_rfl) (Nat.le_of_ble_eq_true rfl) ?_) | (simp only [go_sem, ↓reduceIte, Nat.reduceEqDiff, Nat.reduceAdd, Nat.reduceSub, Nat.reduceMul, Nat.reduceLeDiff, Nat.reduceLT, Int.reduceEq, Int.reduceNe, Int.reduceLT, Int.reduceLE, Int.reduceAdd, Int.reduceSub, Int.reduceMul, Int.reduceNeg, Int.reduceToNat, reduceCtorEq]) | ((with_reducible refine cA_t (by first | with_reducible assumption | (simp only [decide_eq_true_eq, decide_eq_false_iff_not]; first | with_reducible assumption | omega)) (fun h => ?_)) <;> (try rewrite [h]) <;> clear h) | ((with_reducible refine cA_f (by first | with_reducible assumption | (simp only [decide_eq_true_eq, decide_eq_false_iff_not]; first | with_reducible assumption | omega)) (fun h => ?_)) <;> (try rewrite [h]) <;> clear h) | ((with_reducible refine gA_t (by first | with_reducible assumption | (simp only [decide_eq_true_eq, decide_eq_false_iff_not]; first | with_reducible assumption | omega)) (fun h => ?_)) <;> (try rewrite [h]) <;> clear h) | ((with_reducible refine gA_f (by first | with_reducible assumption | (simp only [decide_eq_true_eq, decide_eq_false_iff_not]; first | with_reducible assumption | omega)) (fun h => ?_)) <;> (try rewrite [h]) <;> clear h) | ((with_reducible refine pk_t (by first | with_reducible assumption | (simp only [decide_eq_true_eq, decide_eq_false_iff_not]; first | with_reducible assumption | omega)) (fun h => ?_)) <;> (try rewrite [h]) <;> clear h) | ((with_reducible refine pk_f (by first | with_reducible assumption | (simp only [decide_eq_true_eq, decide_eq_false_iff_not]; first | with_reducible assumption | omega)) (fun h => ?_)) <;> (try rewrite [h]) <;> clear h) | (with_reducible refine pk_if ?_) | ((with_reducible refine cA_split (fun h => ?_) (fun h => ?_)) <;> (try rewrite [h]) <;> (try simp (disch := omega) only [w_i64, w_u64, tdiv_pos, tmod_pos, nth_map, foldA_len, nth_le, nth_tl, nth_tv, set_tl, set_tv] at h) <;> (try simp only [decide_eq_true_eq, decide_eq_false_iff_not, Bool.not_eq_true, Bool.not_eq_false, Bool.not_eq_true', Bool.not_eq_false', not_true_eq_false, not_false_eq_true] at h) <;> (try (exfalso; omega))) | ((with_reducible refine gA_split (fun h => ?_) (fun h => ?_)) <;> (try rewrite [h]) <;> (try simp (disch := omega) only [w_i64, w_u64, tdiv_pos, tmod_pos, nth_map, foldA_len, nth_le, nth_tl, nth_tv, set_tl, set_tv] at h) <;> (try simp only [decide_eq_true_eq, decide_eq_false_iff_not, Bool.not_eq_true, Bool.not_eq_false, Bool.not_eq_true', Bool.not_eq_false', not_true_eq_false, not_false_eq_true] at h) <;> (try (exfalso; omega))) | (simp (disch := omega) only [w_i64, w_u64, tdiv_pos, tmod_pos, nth_map, foldA_len, nth_le, nth_tl, nth_tv, set_tl, set_tv]) | (with_reducible refine And.intro (by first | with_reducible assumption | rfl | omega) ?_) | (with_reducible refine And.intro ?_ ?_))
  · rw [bucketK, h]; rfl
  · have := hp h; omega
  · rw [bucketK, h]; rfl
set_option maxHeartbeats 400000 in
theorem mayLeaf_d {G : Gl} (hG : SigG G) (b : Int) (l : List Item) (ver : Int) (hl : l.length ≤ 34359738368) : ACp Tryd.prog G 45 [nA b, lA l, nA ver] (bA (fitsB b l ver)) := by
  refine acp_of_wpC (c := _) Tryd.func45 rfl (by kernel_rfl) [.tmp 6] rfl _ Tryd.ntmps45 (Nat.le_of_ble_eq_true rfl) rfl ?_
  repeat' (first | (refine call_pure (cl_check _ hG hl) rfl ?_) | (with_reducible refine aq ?_) | (with_reducible refine yr (by kernel_rfl) (Nat.le_of_ble_eq_true rfl) ?_) | (with_reducible refine yx MIX (by kernel_rfl) (by kernel_rfl) (by kernel_rfl) (Nat.le_of_ble_eq_true rfl) ?_) | (with_reducible refine yc ?_) | (with_reducible refine yseq ?_) | (with_reducible refine awp_block ?_) | (with_reducible refine awp_ret ?_) | (with_reducible refine awp_exit ?_) | (with_reducible refine awp_skip ?_) | (with_reducible refine yr1 (by kernel_rfl) (Nat.le_of_ble_eq_true rfl) ?_) | (with_reducible refine yx1 MIX (by kernel_rfl) (by kernel_rfl) (by kernel_rfl) (Nat.le_of_ble_eq_true rfl) ?_) | (simp only [go_sem, ↓reduceIte, Nat.reduceEqDiff, Nat.reduceAdd, Nat.reduceSub, Nat.reduceMul, Nat.reduceLeDiff, Nat.reduceLT, Int.reduceEq, Int.reduceNe, Int.reduceLT, Int.reduceLE, Int.reduceAdd, Int.reduceSub, Int.reduceMul, Int.reduceNeg, Int.reduceToNat, reduceCtorEq]) | ((with_reducible refine cA_t (by first | with_reducible assumption | (simp only [decide_eq_true_eq, decide_eq_false_iff_not]; first | with_reducible assumption | omega)) (fun h => ?_)) <;> (try rewrite [h]) <;> clear h) | ((with_reducible refine cA_f (by first | with_reducible assumption | (simp only [decide_eq_true_eq, decide_eq_false_iff_not]; first | with_reducible assumption | omega)) (fun h => ?_)) <;> (try rewrite [h]) <;> clear h) | ((with_reducible refine gA_t (by first | with_reducible assumption | (simp only [decide_eq_true_eq, decide_eq_false_iff_not]; first | with_reducible assumption | omega)) (fun h => ?_)) <;> (try rewrite [h]) <;> clear h) | ((with_reducible refine gA_f (by first | with_reducible assumption | (simp only [decide_eq_true_eq, decide_eq_false_iff_not]; first | with_reducible assumption | omega)) (fun h => ?_)) <;> (try rewrite [h]) <;> clear h) | ((with_reducible refine pk_t (by first | with_reducible assumption | (simp only [decide_eq_true_eq, decide_eq_false_iff_not]; first | with_reducible assumption | omega)) (fun h => ?_)) <;> (try rewrite [h]) <;> clear h) | ((with_reducible refine pk_f (by first | with_reducible assumption | (simp only [decide_eq_true_eq, decide_eq_false_iff_not]; first | with_reducible assumption | omega)) (fun h => ?_)) <;> (try rewrite [h]) <;> clear h) | (with_reducible refine pk_if ?_) | ((with_reducible refine cA_split (fun h => ?_) (fun h => ?_)) <;> (try rewrite [h]) <;> (try simp (disch := omega) only [w_i64, w_u64, tdiv_pos, tmod_pos, nth_map, foldA_len, nth_le, nth_tl, nth_tv, set_tl, set_tv] at h) <;> (try simp only [decide_eq_true_eq, decide_eq_false_iff_not, Bool.not_eq_true, Bool.not_eq_false, Bool.not_eq_true', Bool.not_eq_false', not_true_eq_false, not_false_eq_true] at h) <;> (try (exfalso; omega))) | ((with_reducible refine gA_split (fun h => ?_) (fun h => ?_)) <;> (try rewrite [h]) <;> (try simp (disch := omega) only [w_i64, w_u64, tdiv_pos, tmod_pos, nth_map, foldA_len, nth_le, nth_tl, nth_tv, set_tl, set_tv] at h) <;> (try simp only [decide_eq_true_eq, decide_eq_false_iff_not, Bool.not_eq_true, Bool.not_eq_false, Bool.not_eq_true', Bool.not_eq_false', not_true_eq_false, not_false_eq_true] at h) <;> (try (exfalso; omega))) | (simp (disch := omega) only [w_i64, w_u64, tdiv_pos, tmod_pos, nth_map, foldA_len, nth_le, nth_tl, nth_tv, set_tl, set_tv]) | (with_reducible refine And.intro (by first | with_reducible assumption | rfl | omega) ?_) | (with_reducible refine And.intro ?_ ?_))
  · rw [fitsB, leafB_def, show ((chk l).1 == 0) = false by simpa using fun e => h (by omega)]; rfl
  · rw [fitsB, show decide (0 ≤ ver) = false by simp; omega]; simp
  · rw [fitsB, show decide (ver ≤ 2147483647) = false by simp; omega]; simp
  rename_i h1 h2
  have hc : (chk l).1 = 0 := by omega
  refine awp_loop (ι := {k : Nat // k ≤ l.length ∧ (l.take k).all (fitB b ver) = true}) (fun k => ⟨[], [(28, V (.int .i64 k.1)), (27, V (.int .i64 l.length)), (26, SL (l.map (flA Item.cells))), (2, V (.int .i64 ver)), (0, V (.int .i64 b))]⟩) (fun k => l.length - k.1) ⟨0, Nat.zero_le _, rfl⟩ ?_ (Nat.zero_le _) ?_
  · (refine le_mk ?_ ?_ ?_ <;> (try simp (disch := omega) only [go_sem, ↓reduceIte, Nat.reduceEqDiff, Nat.reduceAdd, Nat.reduceSub, Nat.reduceMul, Nat.reduceLeDiff, Nat.reduceLT, Int.reduceEq, Int.reduceNe, Int.reduceLT, Int.reduceLE, Int.reduceAdd, Int.reduceSub, Int.reduceMul, Int.reduceNeg, Int.reduceToNat, reduceCtorEq, w_i64, w_u64, tdiv_pos, tmod_pos, nth_map, foldA_len, nth_le, nth_tl, nth_tv, set_tl, set_tv]))
  rintro ⟨k, hk, hall⟩
  dsimp only
  repeat' (first | (refine call_pure (bucket_d hG _) rfl ?_) | (refine loop_n ⟨k + 1, by omega, ?_⟩ ?_ (Nat.zero_le _) (by dsimp only; omega)) | (refine le_mk ?_ ?_ ?_ <;> (try simp (disch := omega) only [go_sem, ↓reduceIte, Nat.reduceEqDiff, Nat.reduceAdd, Nat.reduceSub, Nat.reduceMul, Nat.reduceLeDiff, Nat.reduceLT, Int.reduceEq, Int.reduceNe, Int.reduceLT, Int.reduceLE, Int.reduceAdd, Int.reduceSub, Int.reduceMul, Int.reduceNeg, Int.reduceToNat, reduceCtorEq, w_i64, w_u64, tdiv_pos, tmod_pos, nth_map, foldA_len, nth_le, nth_tl, nth_tv, set_tl, set_tv])) | (with_reducible refine aq ?_) | (with_reducible refine yr (by kernel_rfl) (Nat.le_of_ble_eq_true rfl) ?_) | (with_reducible refine yx MIX (by kernel_rfl) (by kernel_rfl) (by kernel_rfl) (Nat.le_of_ble_eq_true rfl) ?_) | (with_reducible refine yc ?_) | (with_reducible refine yseq ?_) | (with_reducible refine awp_block ?_) | (with_reducible refine awp_ret ?_) | (with_reducible refine awp_exit ?_) | (with_reducible refine awp_skip ?_) | (with_reducible refine yr1 (by kernel_rfl) (Nat.le_of_ble_eq_true rfl) ?_) | (with_reducible refine yx1 MIX (by kernel_rfl) (by kernel_rfl) (by kernel_rfl) (Nat.le_of_ble_eq_true rfl) ?_) | (simp only [go_sem, ↓reduceIte, Nat.reduceEqDiff, Nat.reduceAdd, Nat.reduceSub, Nat.reduceMul, Nat.reduceLeDiff, Nat.reduceLT, Int.reduceEq, Int.reduceNe, Int.reduceLT, Int.reduceLE, Int.reduceAdd, Int.reduceSub, Int.reduceMul, Int.reduceNeg, Int.reduceToNat, reduceCtorEq]) | ((with_reducible refine cA_t (by first | with_reducible assumption | (simp only [decide_eq_true_eq, decide_eq_false_iff_not]; first | with_reducible assumption | omega)) (fun h => ?_)) <;> (try rewrite [h]) <;> clear h) | ((with_reducible refine cA_f (by first | with_reducible assumption | (simp only [decide_eq_true_eq, decide_eq_false_iff_not]; first | with_reducible assumption | omega)) (fun h => ?_)) <;> (try rewrite [h]) <;> clear h) | ((with_reducible refine gA_t (by first | with_reducible assumption | (simp only [decide_eq_true_eq, decide_eq_false_iff_not]; first | with_reducible assumption | omega)) (fun h => ?_)) <;> (try rewrite [h]) <;> clear h) | ((with_reducible refine gA_f (by first | with_reducible assumption | (simp only [decide_eq_true_eq, decide_eq_false_iff_not]; first | with_reducible assumption | omega)) (fun h => ?_)) <;> (try rewrite [h]) <;> clear h) | ((with_reducible refine pk_t (by first | with_reducible assumption | (simp only [decide_eq_true_eq, decide_eq_false_iff_not]; first | with_reducible assumption | omega)) (fun h => ?_)) <;> (try rewrite [h]) <;> clear h) | ((with_reducible refine pk_f (by first | with_reducible assumption | (simp only [decide_eq_true_eq, decide_eq_false_iff_not]; first | with_reducible assumption | omega)) (fun h => ?_)) <;> (try rewrite [h]) <;> clear h) | (with_reducible refine pk_if ?_) | ((with_reducible refine cA_split (fun h => ?_) (fun h => ?_)) <;> (try rewrite [h]) <;> (try simp (disch := omega) only [w_i64, w_u64, tdiv_pos, tmod_pos, nth_map, foldA_len, nth_le, nth_tl, nth_tv, set_tl, set_tv] at h) <;> (try simp only [decide_eq_true_eq, decide_eq_false_iff_not, Bool.not_eq_true, Bool.not_eq_false, Bool.not_eq_true', Bool.not_eq_false', not_true_eq_false, not_false_eq_true] at h) <;> (try (exfalso; omega))) | ((with_reducible refine gA_split (fun h => ?_) (fun h => ?_)) <;> (try rewrite [h]) <;> (try simp (disch := omega) only [w_i64, w_u64, tdiv_pos, tmod_pos, nth_map, foldA_len, nth_le, nth_tl, nth_tv, set_tl, set_tv] at h) <;> (try simp only [decide_eq_true_eq, decide_eq_false_iff_not, Bool.not_eq_true, Bool.not_eq_false, Bool.not_eq_true', Bool.not_eq_false', not_true_eq_false, not_false_eq_true] at h) <;> (try (exfalso; omega))) | (simp (disch := omega) only [w_i64, w_u64, tdiv_pos, tmod_pos, nth_map, foldA_len, nth_le, nth_tl, nth_tv, set_tl, set_tv]) | (with_reducible refine And.intro (by first | with_reducible assumption | rfl | omega) ?_) | (with_reducible refine And.intro ?_ ?_))
  · rw [fits_no (k := k) (h := by omega) (by simp [fitB, h])]
  · rw [fits_no (k := k) (h := by omega) (by simp [fitB]; omega)]
  · refine allTk (by omega) hall ?_
    rw [fitB, Bool.and_eq_true, decide_eq_true_eq, decide_eq_true_eq]
    constructor <;> omega
  · rw [List.take_of_length_le (by omega)] at hall
    rw [fitsB, leafB_def, hc, hall, show decide (0 ≤ ver) = true by simp; omega, show decide (ver ≤ 2147483647) = true by simp; omega]
    rfl
set_option maxHeartbeats 400000 in
theorem may_d {G : Gl} (hG : SigG G) (t : Tr) (hl : ∀ i, (t.leaf i).length ≤ 34359738368) : ACp Tryd.prog G 33 [tA t] (bA (mayT t)) := by
  refine acp_of_wpC (c := _) Tryd.func33 rfl (by kernel_rfl) [.tmp 2] rfl _ Tryd.ntmps33 (Nat.le_of_ble_eq_true rfl) rfl ?_
  repeat' (first | (with_reducible refine aq ?_) | (with_reducible refine yr (by kernel_rfl) (Nat.le_of_ble_eq_true rfl) ?_) | (with_reducible refine yx MIX (by kernel_rfl) (by kernel_rfl) (by kernel_rfl) (Nat.le_of_ble_eq_true rfl) ?_) | (with_reducible refine yc ?_) | (with_reducible refine yseq ?_) | (with_reducible refine awp_block ?_) | (with_reducible refine awp_ret ?_) | (with_reducible refine awp_exit ?_) | (with_reducible refine awp_skip ?_) | (with_reducible refine yr1 (by kernel_rfl) (Nat.le_of_ble_eq_true rfl) ?_) | (with_reducible refine yx1 MIX (by kernel_rfl) (by kernel_rfl) (by kernel_rfl) (Nat.le_of_ble_eq_true rfl) ?_) | (simp only [go_sem, ↓reduceIte, Nat.reduceEqDiff, Nat.reduceAdd, Nat.reduceSub, Nat.reduceMul, Nat.reduceLeDiff, Nat.reduceLT, Int.reduceEq, Int.reduceNe, Int.reduceLT, Int.reduceLE, Int.reduceAdd, Int.reduceSub, Int.reduceMul, Int.reduceNeg, Int.reduceToNat, reduceCtorEq]) | ((with_reducible refine cA_t (by first | with_reducible assumption | (simp only [decide_eq_true_eq, decide_eq_false_iff_not]; first | with_reducible assumption | omega)) (fun h => ?_)) <;> (try rewrite [h]) <;> clear h) | ((with_reducible refine cA_f (by first | with_reducible assumption | (simp only [decide_eq_true_eq, decide_eq_false_iff_not]; first | with_reducible assumption | omega)) (fun h => ?_)) <;> (try rewrite [h]) <;> clear h) | ((with_reducible refine gA_t (by first | with_reducible assumption | (simp only [decide_eq_true_eq, decide_eq_false_iff_not]; first | with_reducible assumption | omega)) (fun h => ?_)) <;> (try rewrite [h]) <;> clear h) | ((with_reducible refine gA_f (by first | with_reducible assumption | (simp only [decide_eq_true_eq, decide_eq_false_iff_not]; first | with_reducible assumption | omega)) (fun h => ?_)) <;> (try rewrite [h]) <;> clear h) | ((with_reducible refine pk_t (by first | with_reducible assumption | (simp only [decide_eq_true_eq, decide_eq_false_iff_not]; first | with_reducible assumption | omega)) (fun h => ?_)) <;> (try rewrite [h]) <;> clear h) | ((with_reducible refine pk_f (by first | with_reducible assumption | (simp only [decide_eq_true_eq, decide_eq_false_iff_not]; first | with_reducible assumption | omega)) (fun h => ?_)) <;> (try rewrite [h]) <;> clear h) | (with_reducible refine pk_if ?_) | ((with_reducible refine cA_split (fun h => ?_) (fun h => ?_)) <;> (try rewrite [h]) <;> (try simp (disch := omega) only [w_i64, w_u64, tdiv_pos, tmod_pos, nth_map, foldA_len, nth_le, nth_tl, nth_tv, set_tl, set_tv] at h) <;> (try simp only [decide_eq_true_eq, decide_eq_false_iff_not, Bool.not_eq_true, Bool.not_eq_false, Bool.not_eq_true', Bool.not_eq_false', not_true_eq_false, not_false_eq_true] at h) <;> (try (exfalso; omega))) | ((with_reducible refine gA_split (fun h => ?_) (fun h => ?_)) <;> (try rewrite [h]) <;> (try simp (disch := omega) only [w_i64, w_u64, tdiv_pos, tmod_pos, nth_map, foldA_len, nth_le, nth_tl, nth_tv, set_tl, set_tv] at h) <;> (try simp only [decide_eq_true_eq, decide_eq_false_iff_not, Bool.not_eq_true, Bool.not_eq_false, Bool.not_eq_true', Bool.not_eq_false', not_true_eq_false, not_false_eq_true] at h) <;> (try (exfalso; omega))) | (simp (disch := omega) only [w_i64, w_u64, tdiv_pos, tmod_pos, nth_map, foldA_len, nth_le, nth_tl, nth_tv, set_tl, set_tv]) | (with_reducible refine And.intro (by first | with_reducible assumption | rfl | omega) ?_) | (with_reducible refine And.intro ?_ ?_))
  refine awp_loop (ι := {k : Nat // k ≤ 16 ∧ (List.range k).all (fun i => fitsB i (t.leaf i) (t.ver i)) = true}) (fun k => ⟨[⟨1, 35, 0, tC t⟩], [(7, V (.int .i64 k.1)), (6, .agg (leC t)), (1, OP 0 0)]⟩) (fun k => 16 - k.1) ⟨0, Nat.zero_le _, rfl⟩ ?_ (Nat.zero_le _) ?_
  · (refine le_mk ?_ ?_ ?_ <;> (try simp (disch := omega) only [go_sem, ↓reduceIte, Nat.reduceEqDiff, Nat.reduceAdd, Nat.reduceSub, Nat.reduceMul, Nat.reduceLeDiff, Nat.reduceLT, Int.reduceEq, Int.reduceNe, Int.reduceLT, Int.reduceLE, Int.reduceAdd, Int.reduceSub, Int.reduceMul, Int.reduceNeg, Int.reduceToNat, reduceCtorEq, w_i64, w_u64, tdiv_pos, tmod_pos, nth_map, foldA_len, nth_le, nth_tl, nth_tv, set_tl, set_tv]))
  rintro ⟨k, hk, hall⟩
  dsimp only
  repeat' (first | (refine call_pure (mayLeaf_d hG _ _ _ (hl k)) rfl ?_) | (refine loop_n ⟨k + 1, by omega, ?_⟩ ?_ (Nat.zero_le _) (by dsimp only; omega)) | (refine le_mk ?_ ?_ ?_ <;> (try simp (disch := omega) only [go_sem, ↓reduceIte, Nat.reduceEqDiff, Nat.reduceAdd, Nat.reduceSub, Nat.reduceMul, Nat.reduceLeDiff, Nat.reduceLT, Int.reduceEq, Int.reduceNe, Int.reduceLT, Int.reduceLE, Int.reduceAdd, Int.reduceSub, Int.reduceMul, Int.reduceNeg, Int.reduceToNat, reduceCtorEq, w_i64, w_u64, tdiv_pos, tmod_pos, nth_map, foldA_len, nth_le, nth_tl, nth_tv, set_tl, set_tv])) | (with_reducible refine aq ?_) | (with_reducible refine yr (by kernel_rfl) (Nat.le_of_ble_eq_true rfl) ?_) | (with_reducible refine yx MIX (by kernel_rfl) (by kernel_rfl) (by kernel_rfl) (Nat.le_of_ble_eq_true rfl) ?_) | (with_reducible refine yc ?_) | (with_reducible refine yseq ?_) | (with_reducible refine awp_block ?_) | (with_reducible refine awp_ret ?_) | (with_reducible refine awp_exit ?_) | (with_reducible refine awp_skip ?_) | (with_reducible refine yr1 (by kernel_rfl) (Nat.le_of_ble_eq_true rfl) ?_) | (with_reducible refine yx1 MIX (by kernel_rfl) (by kernel_rfl) (by kernel_rfl) (Nat.le_of_ble_eq_true rfl) ?_) | (simp only [go_sem, ↓reduceIte, Nat.reduceEqDiff, Nat.reduceAdd, Nat.reduceSub, Nat.reduceMul, Nat.reduceLeDiff, Nat.reduceLT, Int.reduceEq, Int.reduceNe, Int.reduceLT, Int.reduceLE, Int.reduceAdd, Int.reduceSub, Int.reduceMul, Int.reduceNeg, Int.reduceToNat, reduceCtorEq]) | ((with_reducible refine cA_t (by first | with_reducible assumption | (simp only [decide_eq_true_eq, decide_eq_false_iff_not]; first | with_reducible assumption | omega)) (fun h => ?_)) <;> (try rewrite [h]) <;> clear h) | ((with_reducible refine cA_f (by first | with_reducible assumption | (simp only [decide_eq_true_eq, decide_eq_false_iff_not]; first | with_reducible assumption | omega)) (fun h => ?_)) <;> (try rewrite [h]) <;> clear h) | ((with_reducible refine gA_t (by first | with_reducible assumption | (simp only [decide_eq_true_eq, decide_eq_false_iff_not]; first | with_reducible assumption | omega)) (fun h => ?_)) <;> (try rewrite [h]) <;> clear h) | ((with_reducible refine gA_f (by first | with_reducible assumption | (simp only [decide_eq_true_eq, decide_eq_false_iff_not]; first | with_reducible assumption | omega)) (fun h => ?_)) <;> (try rewrite [h]) <;> clear h) | ((with_reducible refine pk_t (by first | with_reducible assumption | (simp only [decide_eq_true_eq, decide_eq_false_iff_not]; first | with_reducible assumption | omega)) (fun h => ?_)) <;> (try rewrite [h]) <;> clear h) | ((with_reducible refine pk_f (by first | with_reducible assumption | (simp only [decide_eq_true_eq, decide_eq_false_iff_not]; first | with_reducible assumption | omega)) (fun h => ?_)) <;> (try rewrite [h]) <;> clear h) | (with_reducible refine pk_if ?_) | ((with_reducible refine cA_split (fun h => ?_) (fun h => ?_)) <;> (try rewrite [h]) <;> (try simp (disch := omega) only [w_i64, w_u64, tdiv_pos, tmod_pos, nth_map, foldA_len, nth_le, nth_tl, nth_tv, set_tl, set_tv] at h) <;> (try simp only [decide_eq_true_eq, decide_eq_false_iff_not, Bool.not_eq_true, Bool.not_eq_false, Bool.not_eq_true', Bool.not_eq_false', not_true_eq_false, not_false_eq_true] at h) <;> (try (exfalso; omega))) | ((with_reducible refine gA_split (fun h => ?_) (fun h => ?_)) <;> (try rewrite [h]) <;> (try simp (disch := omega) only [w_i64, w_u64, tdiv_pos, tmod_pos, nth_map, foldA_len, nth_le, nth_tl, nth_tv, set_tl, set_tv] at h) <;> (try simp only [decide_eq_true_eq, decide_eq_false_iff_not, Bool.not_eq_true, Bool.not_eq_false, Bool.not_eq_true', Bool.not_eq_false', not_true_eq_false, not_false_eq_true] at h) <;> (try (exfalso; omega))) | (simp (disch := omega) only [w_i64, w_u64, tdiv_pos, tmod_pos, nth_map, foldA_len, nth_le, nth_tl, nth_tv, set_tl, set_tv]) | (with_reducible refine And.intro (by first | with_reducible assumption | rfl | omega) ?_) | (with_reducible refine And.intro ?_ ?_))
  · rw [may_no (by omega) h]
  · rw [List.all_append, hall]
    simp [h]
  · obtain rfl : k = 16 := by omega
    rw [mayT, hall]
end Go.Proofs.YtopifabnobplcaaDoor

namespace Go.Proofs.YtopifabnobplcaaDoor
open Go.RowKit
set_option linter.unusedVariables false
set_option linter.unusedSimpArgs false
set_option maxRecDepth 20000
attribute [local go_sem ↓] str_size pk_tt pk_ff hold_one hold_two gO_some gA_tt gA_tf gA_ft gA_ff cA_true cA_false yP_n yP_r yK_n yK_r yQ_n yQ_r yC_nil yC_tmp yC_cell yo_nil yo_cons yo_none yo_guard yo_guardN ys_move ys_assign ys_pick ys_bin ys_un ys_build ys_buildSlice ys_load ys_nilCheck ys_conv ys_extract ys_fieldAddr ys_field ys_indexAddr ys_index ys_slice ys_len ys_alloc ys_box ys_store ys_call ys_append ys_makeFunc ys_callv yd_nil yd_alloc yd_store yd_move yg_move yd_assign yg_assign yd_pick yg_pick yd_bin yg_bin yd_un yg_un yd_build yg_build yd_buildSlice yg_buildSlice yd_load yg_load yd_nilCheck yg_nilCheck yd_conv yg_conv yd_extract yg_extract yd_fieldAddr yg_fieldAddr yd_field yg_field yd_indexAddr yg_indexAddr yd_index yg_index yd_slice yg_slice yd_len yg_len yd_call yg_call ixA_eq sl_es sl_row sl_nil ap_eq bs_eq bl_eq cv_eq ixV_agg thenA_n thenA_r thenA_x inB_n inB_r inB_x loop_r loop_x dstAt_zero dstAt_succ retP_n retP_r
attribute [local go_sem] hle_nil hle_cons oO_one oO_two oO_three oO_nil r1_r0 r1_r1 r1_r2 r1_r3 ro_OW roA_OW go_some al_some okX_f okX_t tells regOnly cv_cl cap0_V cap0_OP cap0_ptr ixA_s ixA_p ixA_o szOf_one szOf_two ixV_str ixW_some sl_str slE_some apE_nil apE_row bsE_one flE_some pget_zero pget_succ blE_some fil_nil fil_cons filB_some cvE_some cv_str' str_list str_cut str_data cut_all cut_to s_eql s_neq s_add s_lss s_geq s_leq s_gtr lt1 set_some set_none get_cons ev_tmp ev_const ev_func ev_global glob_cons cv_int cv_bool cv_str cv_slice cv_ptr cv_agg one_int one_bool one_str one_slice one_ptr b_add b_sub b_mul b_quo b_rem b_and b_or b_xor b_andNot b_shl b_shr b_eql b_neq b_lss b_leq b_gtr b_geq b_str b_beq b_bne u_not u_neg g_tt g_tf g_ft g_ff c_true c_false ex_tu nth_zero nth_succ nthO_zero nthO_succ l_ptr l_ptrV l_ptrS l_op cP_one pP_one oc_one oc_agg st_op f_ptr f_op fv_agg co_agg co_V co_slice co_OW co_OP co_ptr sure_V sure_slice sure_OW sure_OP sure_ptr sure_agg sc_nil sc_cons ixS ixSW ixSN bsV_nil bsV_cons el_slice el_row el_nil len_str len_slice len_row len_nil asI_none asI_some nil_op nil_ptr ro_int ro_bool ro_str ro_nils ro_slice ro_ptr ro_OP ro_OW ro_agg ro_tu roA_agg roA_V roA_slice roA_OW roA_OP roA_ptr r1_int r1_bool r1_str r1_nils r1_slice r1_ptr r1_OP resA_one resA_two resA_three noT_V noT_agg noT_slice noT_OW noT_OP noT_ptr noT_nil argsT_nil argsT_cons allC_nil allC_cons allC_append hle_nil hle_cons le_nil le_cons tT_V tT_SL tT_ptr tT_OW tT_OP tT_agg tT_TU tA_V tA_SL tA_ptr tA_OW tA_OP tA_agg t1_V t1_SL t1_ptr t1_OW t1_OP tO_mk get_cons beq_self_eq_true Nat.zero_lt_succ Nat.lt_add_one true_or or_true Bool.or_self Nat.zero_add Nat.add_zero Nat.mul_one Int.toNat_natCast Int.natCast_zero Int.natCast_add Int.cast_ofNat_Int or_false false_or or_true true_or Nat.sub_zero Int.natCast_nonneg Int.toNat_zero Bool.true_and Bool.and_true Bool.false_and Bool.and_false Bool.true_or Bool.or_true Bool.false_or Bool.or_false Bool.not_true Bool.not_false Bool.not_not true_and and_true false_and and_false not_true_eq_false not_false_eq_true eq_self decide_true decide_false ne_eq implies_true forall_const true_implies false_implies Bool.true_eq_false Bool.false_eq_true List.map_cons List.map_nil List.all_cons List.all_nil List.length_cons List.length_nil List.length_map List.length_append List.nil_append List.cons_append List.set_cons_zero List.set_cons_succ List.set_nil List.drop_zero List.drop_succ_cons List.drop_nil List.take_zero List.take_succ_cons List.take_nil Option.map_some Option.map_none Option.isSome_some tk_3 tk_9 tk_31 tk_32 tk_35 tk_68 tf_35_0 tf_35_1 tf_66_2 tf_68_0 tf_68_1 tf_68_2 ts_9 ts_31 ts_32 ts_33 ta_9 ta_31 ta_32 ta_33 tq_31 tq_55 ti_3 tz_68 tv_3 tv_5 tu_9 tv_9 tv_24 iA_def fl_it allC_it foldA_all lt_it lt_fold lA_def leC_lt1 tC_len zC_len tC_sure tC_lt1 tC_ltA zC_ltA zC_lt1 tC_ro zC_sure zC_ro tC_take zC_take tC_take16 sc_tt sc_zt sc_tz sc_zz add16 tz_T tA_def
theorem item_key {x : Item} (h : itemB x = true) : keyB x.key = true := by
  simp only [itemB, Bool.and_eq_true] at h
  exact h.1.1.1.1
end Go.Proofs.YtopifabnobplcaaDoor

namespace Go.Proofs.YtopifabnobplcaaDoor
open Go.RowKit
set_option linter.unusedVariables false
set_option linter.unusedSimpArgs false
set_option maxRecDepth 20000
attribute [local go_sem ↓] str_size pk_tt pk_ff hold_one hold_two gO_some gA_tt gA_tf gA_ft gA_ff cA_true cA_false yP_n yP_r yK_n yK_r yQ_n yQ_r yC_nil yC_tmp yC_cell yo_nil yo_cons yo_none yo_guard yo_guardN ys_move ys_assign ys_pick ys_bin ys_un ys_build ys_buildSlice ys_load ys_nilCheck ys_conv ys_extract ys_fieldAddr ys_field ys_indexAddr ys_index ys_slice ys_len ys_alloc ys_box ys_store ys_call ys_append ys_makeFunc ys_callv yd_nil yd_alloc yd_store yd_move yg_move yd_assign yg_assign yd_pick yg_pick yd_bin yg_bin yd_un yg_un yd_build yg_build yd_buildSlice yg_buildSlice yd_load yg_load yd_nilCheck yg_nilCheck yd_conv yg_conv yd_extract yg_extract yd_fieldAddr yg_fieldAddr yd_field yg_field yd_indexAddr yg_indexAddr yd_index yg_index yd_slice yg_slice yd_len yg_len yd_call yg_call ixA_eq sl_es sl_row sl_nil ap_eq bs_eq bl_eq cv_eq ixV_agg thenA_n thenA_r thenA_x inB_n inB_r inB_x loop_r loop_x dstAt_zero dstAt_succ retP_n retP_r
attribute [local go_sem] hle_nil hle_cons oO_one oO_two oO_three oO_nil r1_r0 r1_r1 r1_r2 r1_r3 ro_OW roA_OW go_some al_some okX_f okX_t tells regOnly cv_cl cap0_V cap0_OP cap0_ptr ixA_s ixA_p ixA_o szOf_one szOf_two ixV_str ixW_some sl_str slE_some apE_nil apE_row bsE_one flE_some pget_zero pget_succ blE_some fil_nil fil_cons filB_some cvE_some cv_str' str_list str_cut str_data cut_all cut_to s_eql s_neq s_add s_lss s_geq s_leq s_gtr lt1 set_some set_none get_cons ev_tmp ev_const ev_func ev_global glob_cons cv_int cv_bool cv_str cv_slice cv_ptr cv_agg one_int one_bool one_str one_slice one_ptr b_add b_sub b_mul b_quo b_rem b_and b_or b_xor b_andNot b_shl b_shr b_eql b_neq b_lss b_leq b_gtr b_geq b_str b_beq b_bne u_not u_neg g_tt g_tf g_ft g_ff c_true c_false ex_tu nth_zero nth_succ nthO_zero nthO_succ l_ptr l_ptrV l_ptrS l_op cP_one pP_one oc_one oc_agg st_op f_ptr f_op fv_agg co_agg co_V co_slice co_OW co_OP co_ptr sure_V sure_slice sure_OW sure_OP sure_ptr sure_agg sc_nil sc_cons ixS ixSW ixSN bsV_nil bsV_cons el_slice el_row el_nil len_str len_slice len_row len_nil asI_none asI_some nil_op nil_ptr ro_int ro_bool ro_str ro_nils ro_slice ro_ptr ro_OP ro_OW ro_agg ro_tu roA_agg roA_V roA_slice roA_OW roA_OP roA_ptr r1_int r1_bool r1_str r1_nils r1_slice r1_ptr r1_OP resA_one resA_two resA_three noT_V noT_agg noT_slice noT_OW noT_OP noT_ptr noT_nil argsT_nil argsT_cons allC_nil allC_cons allC_append hle_nil hle_cons le_nil le_cons tT_V tT_SL tT_ptr tT_OW tT_OP tT_agg tT_TU tA_V tA_SL tA_ptr tA_OW tA_OP tA_agg t1_V t1_SL t1_ptr t1_OW t1_OP tO_mk get_cons beq_self_eq_true Nat.zero_lt_succ Nat.lt_add_one true_or or_true Bool.or_self Nat.zero_add Nat.add_zero Nat.mul_one Int.toNat_natCast Int.natCast_zero Int.natCast_add Int.cast_ofNat_Int or_false false_or or_true true_or Nat.sub_zero Int.natCast_nonneg Int.toNat_zero Bool.true_and Bool.and_true Bool.false_and Bool.and_false Bool.true_or Bool.or_true Bool.false_or Bool.or_false Bool.not_true Bool.not_false Bool.not_not true_and and_true false_and and_false not_true_eq_false not_false_eq_true eq_self decide_true decide_false ne_eq implies_true forall_const true_implies false_implies Bool.true_eq_false Bool.false_eq_true List.map_cons List.map_nil List.all_cons List.all_nil List.length_cons List.length_nil List.length_map List.length_append List.nil_append List.cons_append List.set_cons_zero List.set_cons_succ List.set_nil List.drop_zero List.drop_succ_cons List.drop_nil List.take_zero List.take_succ_cons List.take_nil Option.map_some Option.map_none Option.isSome_some tk_3 tk_9 tk_31 tk_32 tk_35 tk_68 tf_35_0 tf_35_1 tf_66_2 tf_68_0 tf_68_1 tf_68_2 ts_9 ts_31 ts_32 ts_33 ta_9 ta_31 ta_32 ta_33 tq_31 tq_55 ti_3 tz_68 tv_3 tv_5 tu_9 tv_9 tv_24 iA_def fl_it allC_it foldA_all lt_it lt_fold lA_def leC_lt1 tC_len zC_len tC_sure tC_lt1 tC_ltA zC_ltA zC_lt1 tC_ro zC_sure zC_ro tC_take zC_take tC_take16 sc_tt sc_zt sc_tz sc_zz add16 tz_T tA_def
end Go.Proofs.YtopifabnobplcaaDoor

namespace Go.Proofs.YtopifabnobplcaaDoor
open Go.RowKit
set_option linter.unusedVariables false
set_option linter.unusedSimpArgs false
set_option maxRecDepth 20000
def sumTo (f : Nat → Nat) : Nat → Nat
  | 0 => 0
  | k + 1 => sumTo f k + f k
theorem sumTo_le {f : Nat → Nat} {m : Nat} (h : ∀ i, f i ≤ m) : ∀ k, sumTo f k ≤ k * m
  | 0 => by simp [sumTo]
  | k + 1 => by have := sumTo_le h k; have := h k; rw [sumTo, Nat.succ_mul]; omega
def countT (t : Tr) : Nat := if mayT t then sumTo (fun i => (t.leaf i).length) 16 else 0
def weightT (t : Tr) : Nat := if mayT t then sumTo (fun i => weightP (t.leaf i)) 16 else 0
def unlikeAt (a b : Tr) (i : Nat) : Bool := decide (¬ a.ver i = b.ver i) || !decide (a.leaf i = b.leaf i)
def unlikeL (a b : Tr) (k : Nat) : List Nat := (List.range k).filter (unlikeAt a b)
def nLs (l : List Nat) : List AV := l.map fun (i : Nat) => nA (i : Int)
theorem nLs_len (l : List Nat) : (nLs l).length = l.length := by simp [nLs]
theorem unlikeL_le (a b : Tr) (k : Nat) : (unlikeL a b k).length ≤ k := by
  have := List.length_filter_le (unlikeAt a b) (List.range k)
  rwa [List.length_range] at this
theorem unlikeL_succ (a b : Tr) (k : Nat) : unlikeL a b (k + 1) = unlikeL a b k ++ (if unlikeAt a b k then [k] else []) := by
  rw [unlikeL, List.range_succ, List.filter_append]
  simp [unlikeL, List.filter_cons]
attribute [local go_sem ↓] str_size pk_tt pk_ff hold_one hold_two gO_some gA_tt gA_tf gA_ft gA_ff cA_true cA_false yP_n yP_r yK_n yK_r yQ_n yQ_r yC_nil yC_tmp yC_cell yo_nil yo_cons yo_none yo_guard yo_guardN ys_move ys_assign ys_pick ys_bin ys_un ys_build ys_buildSlice ys_load ys_nilCheck ys_conv ys_extract ys_fieldAddr ys_field ys_indexAddr ys_index ys_slice ys_len ys_alloc ys_box ys_store ys_call ys_append ys_makeFunc ys_callv yd_nil yd_alloc yd_store yd_move yg_move yd_assign yg_assign yd_pick yg_pick yd_bin yg_bin yd_un yg_un yd_build yg_build yd_buildSlice yg_buildSlice yd_load yg_load yd_nilCheck yg_nilCheck yd_conv yg_conv yd_extract yg_extract yd_fieldAddr yg_fieldAddr yd_field yg_field yd_indexAddr yg_indexAddr yd_index yg_index yd_slice yg_slice yd_len yg_len yd_call yg_call ixA_eq sl_es sl_row sl_nil ap_eq bs_eq bl_eq cv_eq ixV_agg thenA_n thenA_r thenA_x inB_n inB_r inB_x loop_r loop_x dstAt_zero dstAt_succ retP_n retP_r
attribute [local go_sem] hle_nil hle_cons oO_one oO_two oO_three oO_nil r1_r0 r1_r1 r1_r2 r1_r3 ro_OW roA_OW go_some al_some okX_f okX_t tells regOnly cv_cl cap0_V cap0_OP cap0_ptr ixA_s ixA_p ixA_o szOf_one szOf_two ixV_str ixW_some sl_str slE_some apE_nil apE_row bsE_one flE_some pget_zero pget_succ blE_some fil_nil fil_cons filB_some cvE_some cv_str' str_list str_cut str_data cut_all cut_to s_eql s_neq s_add s_lss s_geq s_leq s_gtr lt1 set_some set_none get_cons ev_tmp ev_const ev_func ev_global glob_cons cv_int cv_bool cv_str cv_slice cv_ptr cv_agg one_int one_bool one_str one_slice one_ptr b_add b_sub b_mul b_quo b_rem b_and b_or b_xor b_andNot b_shl b_shr b_eql b_neq b_lss b_leq b_gtr b_geq b_str b_beq b_bne u_not u_neg g_tt g_tf g_ft g_ff c_true c_false ex_tu nth_zero nth_succ nthO_zero nthO_succ l_ptr l_ptrV l_ptrS l_op cP_one pP_one oc_one oc_agg st_op f_ptr f_op fv_agg co_agg co_V co_slice co_OW co_OP co_ptr sure_V sure_slice sure_OW sure_OP sure_ptr sure_agg sc_nil sc_cons ixS ixSW ixSN bsV_nil bsV_cons el_slice el_row el_nil len_str len_slice len_row len_nil asI_none asI_some nil_op nil_ptr ro_int ro_bool ro_str ro_nils ro_slice ro_ptr ro_OP ro_OW ro_agg ro_tu roA_agg roA_V roA_slice roA_OW roA_OP roA_ptr r1_int r1_bool r1_str r1_nils r1_slice r1_ptr r1_OP resA_one resA_two resA_three noT_V noT_agg noT_slice noT_OW noT_OP noT_ptr noT_nil argsT_nil argsT_cons allC_nil allC_cons allC_append hle_nil hle_cons le_nil le_cons tT_V tT_SL tT_ptr tT_OW tT_OP tT_agg tT_TU tA_V tA_SL tA_ptr tA_OW tA_OP tA_agg t1_V t1_SL t1_ptr t1_OW t1_OP tO_mk get_cons beq_self_eq_true Nat.zero_lt_succ Nat.lt_add_one true_or or_true Bool.or_self Nat.zero_add Nat.add_zero Nat.mul_one Int.toNat_natCast Int.natCast_zero Int.natCast_add Int.cast_ofNat_Int or_false false_or or_true true_or Nat.sub_zero Int.natCast_nonneg Int.toNat_zero Bool.true_and Bool.and_true Bool.false_and Bool.and_false Bool.true_or Bool.or_true Bool.false_or Bool.or_false Bool.not_true Bool.not_false Bool.not_not true_and and_true false_and and_false not_true_eq_false not_false_eq_true eq_self decide_true decide_false ne_eq implies_true forall_const true_implies false_implies Bool.true_eq_false Bool.false_eq_true List.map_cons List.map_nil List.all_cons List.all_nil List.length_cons List.length_nil List.length_map List.length_append List.nil_append List.cons_append List.set_cons_zero List.set_cons_succ List.set_nil List.drop_zero List.drop_succ_cons List.drop_nil List.take_zero List.take_succ_cons List.take_nil Option.map_some Option.map_none Option.isSome_some tk_3 tk_9 tk_31 tk_32 tk_35 tk_68 tf_35_0 tf_35_1 tf_66_2 tf_68_0 tf_68_1 tf_68_2 ts_9 ts_31 ts_32 ts_33 ta_9 ta_31 ta_32 ta_33 tq_31 tq_55 ti_3 tz_68 tv_3 tv_5 tu_9 tv_9 tv_24 iA_def fl_it allC_it foldA_all lt_it lt_fold lA_def leC_lt1 tC_len zC_len tC_sure tC_lt1 tC_ltA zC_ltA zC_lt1 tC_ro zC_sure zC_ro tC_take zC_take tC_take16 sc_tt sc_zt sc_tz sc_zz add16 tz_T tA_def
set_option maxHeartbeats 400000 in
theorem count_d {G : Gl} (hG : SigG G) (t : Tr) (hl : ∀ i, (t.leaf i).length ≤ 1000000) : ACp Tryd.prog G 36 [tA t] (nA (countT t)) := by
  have hl' : ∀ i, (t.leaf i).length ≤ 34359738368 := fun i => Nat.le_trans (hl i) (by decide)
  refine acp_of_wpC (c := _) Tryd.func36 rfl (by kernel_rfl) [.tmp 2] rfl _ Tryd.ntmps36 (Nat.le_of_ble_eq_true rfl) rfl ?_
  repeat' (first | (refine call_pure (may_d hG _ hl') (by (simp (disch := omega) only [go_sem, ↓reduceIte, Nat.reduceEqDiff, Nat.reduceAdd, Nat.reduceSub, Nat.reduceMul, Nat.reduceLeDiff, Nat.reduceLT, Int.reduceEq, Int.reduceNe, Int.reduceLT, Int.reduceLE, Int.reduceAdd, Int.reduceSub, Int.reduceMul, Int.reduceNeg, Int.reduceToNat, reduceCtorEq, w_i64, w_u64, tdiv_pos, tmod_pos, nth_map, foldA_len, nth_le, nth_tl, nth_tv, set_tl, set_tv])) ?_) | (with_reducible refine aq ?_) | (with_reducible refine yr (by kernel_rfl) (Nat.le_of_ble_eq_true rfl) ?_) | (with_reducible refine yx MIX (by kernel_rfl) (by kernel_rfl) (by kernel_rfl) (Nat.le_of_ble_eq_true rfl) ?_) | (with_reducible refine yc ?_) | (with_reducible refine yseq ?_) | (with_reducible refine awp_block ?_) | (with_reducible refine awp_ret ?_) | (with_reducible refine awp_exit ?_) | (with_reducible refine awp_skip ?_) | (with_reducible refine yr1 (by kernel_rfl) (Nat.le_of_ble_eq_true rfl) ?_) | (with_reducible refine yx1 MIX (by kernel_rfl) (by kernel_rfl) (by kernel_rfl) (Nat.le_of_ble_eq_true rfl) ?_) | (simp only [go_sem, ↓reduceIte, Nat.reduceEqDiff, Nat.reduceAdd, Nat.reduceSub, Nat.reduceMul, Nat.reduceLeDiff, Nat.reduceLT, Int.reduceEq, Int.reduceNe, Int.reduceLT, Int.reduceLE, Int.reduceAdd, Int.reduceSub, Int.reduceMul, Int.reduceNeg, Int.reduceToNat, reduceCtorEq]) | ((with_reducible refine cA_t (by first | with_reducible assumption | (simp only [decide_eq_true_eq, decide_eq_false_iff_not]; first | with_reducible assumption | omega)) (fun h => ?_)) <;> (try rewrite [h]) <;> clear h) | ((with_reducible refine cA_f (by first | with_reducible assumption | (simp only [decide_eq_true_eq, decide_eq_false_iff_not]; first | with_reducible assumption | omega)) (fun h => ?_)) <;> (try rewrite [h]) <;> clear h) | ((with_reducible refine gA_t (by first | with_reducible assumption | (simp only [decide_eq_true_eq, decide_eq_false_iff_not]; first | with_reducible assumption | omega)) (fun h => ?_)) <;> (try rewrite [h]) <;> clear h) | ((with_reducible refine gA_f (by first | with_reducible assumption | (simp only [decide_eq_true_eq, decide_eq_false_iff_not]; first | with_reducible assumption | omega)) (fun h => ?_)) <;> (try rewrite [h]) <;> clear h) | ((with_reducible refine pk_t (by first | with_reducible assumption | (simp only [decide_eq_true_eq, decide_eq_false_iff_not]; first | with_reducible assumption | omega)) (fun h => ?_)) <;> (try rewrite [h]) <;> clear h) | ((with_reducible refine pk_f (by first | with_reducible assumption | (simp only [decide_eq_true_eq, decide_eq_false_iff_not]; first | with_reducible assumption | omega)) (fun h => ?_)) <;> (try rewrite [h]) <;> clear h) | (with_reducible refine pk_if ?_) | ((with_reducible refine cA_split (fun h => ?_) (fun h => ?_)) <;> (try rewrite [h]) <;> (try simp (disch := omega) only [w_i64, w_u64, tdiv_pos, tmod_pos, nth_map, foldA_len, nth_le, nth_tl, nth_tv, set_tl, set_tv] at h) <;> (try simp only [decide_eq_true_eq, decide_eq_false_iff_not, Bool.not_eq_true, Bool.not_eq_false, Bool.not_eq_true', Bool.not_eq_false', not_true_eq_false, not_false_eq_true] at h) <;> (try (exfalso; omega))) | ((with_reducible refine gA_split (fun h => ?_) (fun h => ?_)) <;> (try rewrite [h]) <;> (try simp (disch := omega) only [w_i64, w_u64, tdiv_pos, tmod_pos, nth_map, foldA_len, nth_le, nth_tl, nth_tv, set_tl, set_tv] at h) <;> (try simp only [decide_eq_true_eq, decide_eq_false_iff_not, Bool.not_eq_true, Bool.not_eq_false, Bool.not_eq_true', Bool.not_eq_false', not_true_eq_false, not_false_eq_true] at h) <;> (try (exfalso; omega))) | (simp (disch := omega) only [w_i64, w_u64, tdiv_pos, tmod_pos, nth_map, foldA_len, nth_le, nth_tl, nth_tv, set_tl, set_tv]) | (with_reducible refine And.intro (by first | with_reducible assumption | rfl | omega) ?_) | (with_reducible refine And.intro ?_ ?_))
  · rw [countT, h]; rfl
  have hm := h
  clear h
  refine awp_loop (ι := {k : Nat // k ≤ 16}) (fun k => ⟨[⟨1, 35, 0, tC t⟩], [(11, V (.int .i64 k.1)), (10, .agg (leC t)), (3, V (.int .i64 (sumTo (fun i => (t.leaf i).length) k.1))), (1, OP 0 0)]⟩) (fun k => 16 - k.1) ⟨0, Nat.zero_le _⟩ ?_ (Nat.zero_le _) ?_
  · (refine le_mk ?_ ?_ ?_ <;> (try simp (disch := omega) only [go_sem, ↓reduceIte, Nat.reduceEqDiff, Nat.reduceAdd, Nat.reduceSub, Nat.reduceMul, Nat.reduceLeDiff, Nat.reduceLT, Int.reduceEq, Int.reduceNe, Int.reduceLT, Int.reduceLE, Int.reduceAdd, Int.reduceSub, Int.reduceMul, Int.reduceNeg, Int.reduceToNat, reduceCtorEq, w_i64, w_u64, tdiv_pos, tmod_pos, nth_map, foldA_len, nth_le, nth_tl, nth_tv, set_tl, set_tv, sumTo]))
  rintro ⟨k, hk⟩
  have hs := sumTo_le hl k
  have hlk := hl k
  dsimp only
  repeat' (first | (refine loop_n ⟨k + 1, by omega⟩ ?_ (Nat.zero_le _) (by dsimp only; omega)) | (refine le_mk ?_ ?_ ?_ <;> (try simp (disch := omega) only [go_sem, ↓reduceIte, Nat.reduceEqDiff, Nat.reduceAdd, Nat.reduceSub, Nat.reduceMul, Nat.reduceLeDiff, Nat.reduceLT, Int.reduceEq, Int.reduceNe, Int.reduceLT, Int.reduceLE, Int.reduceAdd, Int.reduceSub, Int.reduceMul, Int.reduceNeg, Int.reduceToNat, reduceCtorEq, w_i64, w_u64, tdiv_pos, tmod_pos, nth_map, foldA_len, nth_le, nth_tl, nth_tv, set_tl, set_tv])) | (with_reducible refine aq ?_) | (with_reducible refine yr (by kernel_rfl) (Nat.le_of_ble_eq_true rfl) ?_) | (with_reducible refine yx MIX (by kernel_rfl) (by kernel_rfl) (by kernel_rfl) (Nat.le_of_ble_eq_true rfl) ?_) | (with_reducible refine yc ?_) | (with_reducible refine yseq ?_) | (with_reducible refine awp_block ?_) | (with_reducible refine awp_ret ?_) | (with_reducible refine awp_exit ?_) | (with_reducible refine awp_skip ?_) | (with_reducible refine yr1 (by kernel_rfl) (Nat.le_of_ble_eq_true rfl) ?_) | (with_reducible refine yx1 MIX (by kernel_rfl) (by kernel_rfl) (by kernel_rfl) (Nat.le_of_ble_eq_true rfl) ?_) | (simp only [go_sem, ↓reduceIte, Nat.reduceEqDiff, Nat.reduceAdd, Nat.reduceSub, Nat.reduceMul, Nat.reduceLeDiff, Nat.reduceLT, Int.reduceEq, Int.reduceNe, Int.reduceLT, Int.reduceLE, Int.reduceAdd, Int.reduceSub, Int.reduceMul, Int.reduceNeg, Int.reduceToNat, reduceCtorEq]) | ((with_reducible refine cA_t (by first | with_reducible assumption | (simp only [decide_eq_true_eq, decide_eq_false_iff_not]; first | with_reducible assumption | omega)) (fun h => ?_)) <;> (try rewrite [h]) <;> clear h) | ((with_reducible refine cA_f (by first | with_reducible assumption | (simp only [decide_eq_true_eq, decide_eq_false_iff_not]; first | with_reducible assumption | omega)) (fun h => ?_)) <;> (try rewrite [h]) <;> clear h) | ((with_reducible refine gA_t (by first | with_reducible assumption | (simp only [decide_eq_true_eq, decide_eq_false_iff_not]; first | with_reducible assumption | omega)) (fun h => ?_)) <;> (try rewrite [h]) <;> clear h) | ((with_reducible refine gA_f (by first | with_reducible assumption | (simp only [decide_eq_true_eq, decide_eq_false_iff_not]; first | with_reducible assumption | omega)) (fun h => ?_)) <;> (try rewrite [h]) <;> clear h) | ((with_reducible refine pk_t (by first | with_reducible assumption | (simp only [decide_eq_true_eq, decide_eq_false_iff_not]; first | with_reducible assumption | omega)) (fun h => ?_)) <;> (try rewrite [h]) <;> clear h) | ((with_reducible refine pk_f (by first | with_reducible assumption | (simp only [decide_eq_true_eq, decide_eq_false_iff_not]; first | with_reducible assumption | omega)) (fun h => ?_)) <;> (try rewrite [h]) <;> clear h) | (with_reducible refine pk_if ?_) | ((with_reducible refine cA_split (fun h => ?_) (fun h => ?_)) <;> (try rewrite [h]) <;> (try simp (disch := omega) only [w_i64, w_u64, tdiv_pos, tmod_pos, nth_map, foldA_len, nth_le, nth_tl, nth_tv, set_tl, set_tv] at h) <;> (try simp only [decide_eq_true_eq, decide_eq_false_iff_not, Bool.not_eq_true, Bool.not_eq_false, Bool.not_eq_true', Bool.not_eq_false', not_true_eq_false, not_false_eq_true] at h) <;> (try (exfalso; omega))) | ((with_reducible refine gA_split (fun h => ?_) (fun h => ?_)) <;> (try rewrite [h]) <;> (try simp (disch := omega) only [w_i64, w_u64, tdiv_pos, tmod_pos, nth_map, foldA_len, nth_le, nth_tl, nth_tv, set_tl, set_tv] at h) <;> (try simp only [decide_eq_true_eq, decide_eq_false_iff_not, Bool.not_eq_true, Bool.not_eq_false, Bool.not_eq_true', Bool.not_eq_false', not_true_eq_false, not_false_eq_true] at h) <;> (try (exfalso; omega))) | (simp (disch := omega) only [w_i64, w_u64, tdiv_pos, tmod_pos, nth_map, foldA_len, nth_le, nth_tl, nth_tv, set_tl, set_tv]) | (with_reducible refine And.intro (by first | with_reducible assumption | rfl | omega) ?_) | (with_reducible refine And.intro ?_ ?_))
  · rw [sumTo, Int.natCast_add]
  · obtain rfl : k = 16 := by omega
    rw [countT, hm]; rfl
set_option maxHeartbeats 400000 in
theorem weight_d {G : Gl} (hG : SigG G) (t : Tr) (hl : ∀ i, (t.leaf i).length ≤ 1000000) (hw : ∀ i, weightP (t.leaf i) ≤ 1000000000) (hn : ∀ i, ∀ x ∈ t.leaf i, NumOk x) : ACp Tryd.prog G 35 [tA t] (nA (weightT t)) := by
  have hl' : ∀ i, (t.leaf i).length ≤ 34359738368 := fun i => Nat.le_trans (hl i) (by decide)
  refine acp_of_wpC (c := _) Tryd.func35 rfl (by kernel_rfl) [.tmp 2] rfl _ Tryd.ntmps35 (Nat.le_of_ble_eq_true rfl) rfl ?_
  repeat' (first | (refine call_pure (may_d hG _ hl') (by (simp (disch := omega) only [go_sem, ↓reduceIte, Nat.reduceEqDiff, Nat.reduceAdd, Nat.reduceSub, Nat.reduceMul, Nat.reduceLeDiff, Nat.reduceLT, Int.reduceEq, Int.reduceNe, Int.reduceLT, Int.reduceLE, Int.reduceAdd, Int.reduceSub, Int.reduceMul, Int.reduceNeg, Int.reduceToNat, reduceCtorEq, w_i64, w_u64, tdiv_pos, tmod_pos, nth_map, foldA_len, nth_le, nth_tl, nth_tv, set_tl, set_tv])) ?_) | (with_reducible refine aq ?_) | (with_reducible refine yr (by kernel_rfl) (Nat.le_of_ble_eq_true rfl) ?_) | (with_reducible refine yx MIX (by kernel_rfl) (by kernel_rfl) (by kernel_rfl) (Nat.le_of_ble_eq_true rfl) ?_) | (with_reducible refine yc ?_) | (with_reducible refine yseq ?_) | (with_reducible refine awp_block ?_) | (with_reducible refine awp_ret ?_) | (with_reducible refine awp_exit ?_) | (with_reducible refine awp_skip ?_) | (with_reducible refine yr1 (by kernel_rfl) (Nat.le_of_ble_eq_true rfl) ?_) | (with_reducible refine yx1 MIX (by kernel_rfl) (by kernel_rfl) (by kernel_rfl) (Nat.le_of_ble_eq_true rfl) ?_) | (simp only [go_sem, ↓reduceIte, Nat.reduceEqDiff, Nat.reduceAdd, Nat.reduceSub, Nat.reduceMul, Nat.reduceLeDiff, Nat.reduceLT, Int.reduceEq, Int.reduceNe, Int.reduceLT, Int.reduceLE, Int.reduceAdd, Int.reduceSub, Int.reduceMul, Int.reduceNeg, Int.reduceToNat, reduceCtorEq]) | ((with_reducible refine cA_t (by first | with_reducible assumption | (simp only [decide_eq_true_eq, decide_eq_false_iff_not]; first | with_reducible assumption | omega)) (fun h => ?_)) <;> (try rewrite [h]) <;> clear h) | ((with_reducible refine cA_f (by first | with_reducible assumption | (simp only [decide_eq_true_eq, decide_eq_false_iff_not]; first | with_reducible assumption | omega)) (fun h => ?_)) <;> (try rewrite [h]) <;> clear h) | ((with_reducible refine gA_t (by first | with_reducible assumption | (simp only [decide_eq_true_eq, decide_eq_false_iff_not]; first | with_reducible assumption | omega)) (fun h => ?_)) <;> (try rewrite [h]) <;> clear h) | ((with_reducible refine gA_f (by first | with_reducible assumption | (simp only [decide_eq_true_eq, decide_eq_false_iff_not]; first | with_reducible assumption | omega)) (fun h => ?_)) <;> (try rewrite [h]) <;> clear h) | ((with_reducible refine pk_t (by first | with_reducible assumption | (simp only [decide_eq_true_eq, decide_eq_false_iff_not]; first | with_reducible assumption | omega)) (fun h => ?_)) <;> (try rewrite [h]) <;> clear h) | ((with_reducible refine pk_f (by first | with_reducible assumption | (simp only [decide_eq_true_eq, decide_eq_false_iff_not]; first | with_reducible assumption | omega)) (fun h => ?_)) <;> (try rewrite [h]) <;> clear h) | (with_reducible refine pk_if ?_) | ((with_reducible refine cA_split (fun h => ?_) (fun h => ?_)) <;> (try rewrite [h]) <;> (try simp (disch := omega) only [w_i64, w_u64, tdiv_pos, tmod_pos, nth_map, foldA_len, nth_le, nth_tl, nth_tv, set_tl, set_tv] at h) <;> (try simp only [decide_eq_true_eq, decide_eq_false_iff_not, Bool.not_eq_true, Bool.not_eq_false, Bool.not_eq_true', Bool.not_eq_false', not_true_eq_false, not_false_eq_true] at h) <;> (try (exfalso; omega))) | ((with_reducible refine gA_split (fun h => ?_) (fun h => ?_)) <;> (try rewrite [h]) <;> (try simp (disch := omega) only [w_i64, w_u64, tdiv_pos, tmod_pos, nth_map, foldA_len, nth_le, nth_tl, nth_tv, set_tl, set_tv] at h) <;> (try simp only [decide_eq_true_eq, decide_eq_false_iff_not, Bool.not_eq_true, Bool.not_eq_false, Bool.not_eq_true', Bool.not_eq_false', not_true_eq_false, not_false_eq_true] at h) <;> (try (exfalso; omega))) | (simp (disch := omega) only [w_i64, w_u64, tdiv_pos, tmod_pos, nth_map, foldA_len, nth_le, nth_tl, nth_tv, set_tl, set_tv]) | (with_reducible refine And.intro (by first | with_reducible assumption | rfl | omega) ?_) | (with_reducible refine And.intro ?_ ?_))
  · rw [weightT, h]; rfl
  have hm := h
  clear h
  refine awp_loop (ι := {k : Nat // k ≤ 16}) (fun k => ⟨[⟨1, 35, 0, tC t⟩], [(11, V (.int .i64 k.1)), (10, .agg (leC t)), (3, V (.int .i64 (sumTo (fun i => weightP (t.leaf i)) k.1))), (1, OP 0 0)]⟩) (fun k => 16 - k.1) ⟨0, Nat.zero_le _⟩ ?_ (Nat.zero_le _) ?_
  · (refine le_mk ?_ ?_ ?_ <;> (try simp (disch := omega) only [go_sem, ↓reduceIte, Nat.reduceEqDiff, Nat.reduceAdd, Nat.reduceSub, Nat.reduceMul, Nat.reduceLeDiff, Nat.reduceLT, Int.reduceEq, Int.reduceNe, Int.reduceLT, Int.reduceLE, Int.reduceAdd, Int.reduceSub, Int.reduceMul, Int.reduceNeg, Int.reduceToNat, reduceCtorEq, w_i64, w_u64, tdiv_pos, tmod_pos, nth_map, foldA_len, nth_le, nth_tl, nth_tv, set_tl, set_tv, sumTo]))
  rintro ⟨k, hk⟩
  have hs := sumTo_le hw k
  have hlk := hw k
  dsimp only
  repeat' (first | (refine call_pure (cl_weight _ hG (hn _) (hl _)) rfl ?_) | (refine loop_n ⟨k + 1, by omega⟩ ?_ (Nat.zero_le _) (by dsimp only; omega)) | (refine le_mk ?_ ?_ ?_ <;> (try simp (disch := omega) only [go_sem, ↓reduceIte, Nat.reduceEqDiff, Nat.reduceAdd, Nat.reduceSub, Nat.reduceMul, Nat.reduceLeDiff, Nat.reduceLT, Int.reduceEq, Int.reduceNe, Int.reduceLT, Int.reduceLE, Int.reduceAdd, Int.reduceSub, Int.reduceMul, Int.reduceNeg, Int.reduceToNat, reduceCtorEq, w_i64, w_u64, tdiv_pos, tmod_pos, nth_map, foldA_len, nth_le, nth_tl, nth_tv, set_tl, set_tv])) | (with_reducible refine aq ?_) | (with_reducible refine yr (by kernel_rfl) (Nat.le_of_ble_eq_true rfl) ?_) | (with_reducible refine yx MIX (by kernel_rfl) (by kernel_rfl) (by kernel_rfl) (Nat.le_of_ble_eq_true rfl) ?_) | (with_reducible refine yc ?_) | (with_reducible refine yseq ?_) | (with_reducible refine awp_block ?_) | (with_reducible refine awp_ret ?_) | (with_reducible refine awp_exit ?_) | (with_reducible refine awp_skip ?_) | (with_reducible refine yr1 (by kernel_rfl) (Nat.le_of_ble_eq_true rfl) ?_) | (with_reducible refine yx1 MIX (by kernel_rfl) (by kernel_rfl) (by kernel_rfl) (Nat.le_of_ble_eq_true rfl) ?_) | (simp only [go_sem, ↓reduceIte, Nat.reduceEqDiff, Nat.reduceAdd, Nat.reduceSub, Nat.reduceMul, Nat.reduceLeDiff, Nat.reduceLT, Int.reduceEq, Int.reduceNe, Int.reduceLT, Int.reduceLE, Int.reduceAdd, Int.reduceSub, Int.reduceMul, Int.reduceNeg, Int.reduceToNat, reduceCtorEq]) | ((with_reducible refine cA_t (by first | with_reducible assumption | (simp only [decide_eq_true_eq, decide_eq_false_iff_not]; first | with_reducible assumption | omega)) (fun h => ?_)) <;> (try rewrite [h]) <;> clear h) | ((with_reducible refine cA_f (by first | with_reducible assumption | (simp only [decide_eq_true_eq, decide_eq_false_iff_not]; first | with_reducible assumption | omega)) (fun h => ?_)) <;> (try rewrite [h]) <;> clear h) | ((with_reducible refine gA_t (by first | with_reducible assumption | (simp only [decide_eq_true_eq, decide_eq_false_iff_not]; first | with_reducible assumption | omega)) (fun h => ?_)) <;> (try rewrite [h]) <;> clear h) | ((with_reducible refine gA_f (by first | with_reducible assumption | (simp only [decide_eq_true_eq, decide_eq_false_iff_not]; first | with_reducible assumption | omega)) (fun h => ?_)) <;> (try rewrite [h]) <;> clear h) | ((with_reducible refine pk_t (by first | with_reducible assumption | (simp only [decide_eq_true_eq, decide_eq_false_iff_not]; first | with_reducible assumption | omega)) (fun h => ?_)) <;> (try rewrite [h]) <;> clear h) | ((with_reducible refine pk_f (by first | with_reducible assumption | (simp only [decide_eq_true_eq, decide_eq_false_iff_not]; first | with_reducible assumption | omega)) (fun h => ?_)) <;> (try rewrite [h]) <;> clear h) | (with_reducible refine pk_if ?_) | ((with_reducible refine cA_split (fun h => ?_) (fun h => ?_)) <;> (try rewrite [h]) <;> (try simp (disch := omega) only [w_i64, w_u64, tdiv_pos, tmod_pos, nth_map, foldA_len, nth_le, nth_tl, nth_tv, set_tl, set_tv] at h) <;> (try simp only [decide_eq_true_eq, decide_eq_false_iff_not, Bool.not_eq_true, Bool.not_eq_false, Bool.not_eq_true', Bool.not_eq_false', not_true_eq_false, not_false_eq_true] at h) <;> (try (exfalso; omega))) | ((with_reducible refine gA_split (fun h => ?_) (fun h => ?_)) <;> (try rewrite [h]) <;> (try simp (disch := omega) only [w_i64, w_u64, tdiv_pos, tmod_pos, nth_map, foldA_len, nth_le, nth_tl, nth_tv, set_tl, set_tv] at h) <;> (try simp only [decide_eq_true_eq, decide_eq_false_iff_not, Bool.not_eq_true, Bool.not_eq_false, Bool.not_eq_true', Bool.not_eq_false', not_true_eq_false, not_false_eq_true] at h) <;> (try (exfalso; omega))) | (simp (disch := omega) only [w_i64, w_u64, tdiv_pos, tmod_pos, nth_map, foldA_len, nth_le, nth_tl, nth_tv, set_tl, set_tv]) | (with_reducible refine And.intro (by first | with_reducible assumption | rfl | omega) ?_) | (with_reducible refine And.intro ?_ ?_))
  · rw [sumTo, Int.natCast_add]
  · obtain rfl : k = 16 := by omega
    rw [weightT, hm]; rfl
end Go.Proofs.YtopifabnobplcaaDoor

namespace Go.Proofs.YtopifabnobplcaaDoor
open Go.RowKit
set_option linter.unusedVariables false
set_option linter.unusedSimpArgs false
set_option maxRecDepth 20000
def unlikeT (a b : Tr) : List Nat × Nat := if mayT a && mayT b then (unlikeL a b 16, 0) else ([], 1)
theorem u_yes {a b : Tr} {k : Nat} (h : unlikeAt a b k = true) : unlikeL a b (k + 1) = unlikeL a b k ++ [k] := by rw [unlikeL_succ, h]; rfl
theorem u_no {a b : Tr} {k : Nat} (h : unlikeAt a b k = false) : unlikeL a b (k + 1) = unlikeL a b k := by rw [unlikeL_succ, h]; exact List.append_nil _
theorem nLs_app (l : List Nat) (k : Nat) : nLs (l ++ [k]) = nLs l ++ [nA (k : Int)] := by simp [nLs]
attribute [local go_sem ↓] str_size pk_tt pk_ff hold_one hold_two gO_some gA_tt gA_tf gA_ft gA_ff cA_true cA_false yP_n yP_r yK_n yK_r yQ_n yQ_r yC_nil yC_tmp yC_cell yo_nil yo_cons yo_none yo_guard yo_guardN ys_move ys_assign ys_pick ys_bin ys_un ys_build ys_buildSlice ys_load ys_nilCheck ys_conv ys_extract ys_fieldAddr ys_field ys_indexAddr ys_index ys_slice ys_len ys_alloc ys_box ys_store ys_call ys_append ys_makeFunc ys_callv yd_nil yd_alloc yd_store yd_move yg_move yd_assign yg_assign yd_pick yg_pick yd_bin yg_bin yd_un yg_un yd_build yg_build yd_buildSlice yg_buildSlice yd_load yg_load yd_nilCheck yg_nilCheck yd_conv yg_conv yd_extract yg_extract yd_fieldAddr yg_fieldAddr yd_field yg_field yd_indexAddr yg_indexAddr yd_index yg_index yd_slice yg_slice yd_len yg_len yd_call yg_call ixA_eq sl_es sl_row sl_nil ap_eq bs_eq bl_eq cv_eq ixV_agg thenA_n thenA_r thenA_x inB_n inB_r inB_x loop_r loop_x dstAt_zero dstAt_succ retP_n retP_r
attribute [local go_sem] hle_nil hle_cons oO_one oO_two oO_three oO_nil r1_r0 r1_r1 r1_r2 r1_r3 ro_OW roA_OW go_some al_some okX_f okX_t tells regOnly cv_cl cap0_V cap0_OP cap0_ptr ixA_s ixA_p ixA_o szOf_one szOf_two ixV_str ixW_some sl_str slE_some apE_nil apE_row bsE_one flE_some pget_zero pget_succ blE_some fil_nil fil_cons filB_some cvE_some cv_str' str_list str_cut str_data cut_all cut_to s_eql s_neq s_add s_lss s_geq s_leq s_gtr lt1 set_some set_none get_cons ev_tmp ev_const ev_func ev_global glob_cons cv_int cv_bool cv_str cv_slice cv_ptr cv_agg one_int one_bool one_str one_slice one_ptr b_add b_sub b_mul b_quo b_rem b_and b_or b_xor b_andNot b_shl b_shr b_eql b_neq b_lss b_leq b_gtr b_geq b_str b_beq b_bne u_not u_neg g_tt g_tf g_ft g_ff c_true c_false ex_tu nth_zero nth_succ nthO_zero nthO_succ l_ptr l_ptrV l_ptrS l_op cP_one pP_one oc_one oc_agg st_op f_ptr f_op fv_agg co_agg co_V co_slice co_OW co_OP co_ptr sure_V sure_slice sure_OW sure_OP sure_ptr sure_agg sc_nil sc_cons ixS ixSW ixSN bsV_nil bsV_cons el_slice el_row el_nil len_str len_slice len_row len_nil asI_none asI_some nil_op nil_ptr ro_int ro_bool ro_str ro_nils ro_slice ro_ptr ro_OP ro_OW ro_agg ro_tu roA_agg roA_V roA_slice roA_OW roA_OP roA_ptr r1_int r1_bool r1_str r1_nils r1_slice r1_ptr r1_OP resA_one resA_two resA_three noT_V noT_agg noT_slice noT_OW noT_OP noT_ptr noT_nil argsT_nil argsT_cons allC_nil allC_cons allC_append hle_nil hle_cons le_nil le_cons tT_V tT_SL tT_ptr tT_OW tT_OP tT_agg tT_TU tA_V tA_SL tA_ptr tA_OW tA_OP tA_agg t1_V t1_SL t1_ptr t1_OW t1_OP tO_mk get_cons beq_self_eq_true Nat.zero_lt_succ Nat.lt_add_one true_or or_true Bool.or_self Nat.zero_add Nat.add_zero Nat.mul_one Int.toNat_natCast Int.natCast_zero Int.natCast_add Int.cast_ofNat_Int or_false false_or or_true true_or Nat.sub_zero Int.natCast_nonneg Int.toNat_zero Bool.true_and Bool.and_true Bool.false_and Bool.and_false Bool.true_or Bool.or_true Bool.false_or Bool.or_false Bool.not_true Bool.not_false Bool.not_not true_and and_true false_and and_false not_true_eq_false not_false_eq_true eq_self decide_true decide_false ne_eq implies_true forall_const true_implies false_implies Bool.true_eq_false Bool.false_eq_true List.map_cons List.map_nil List.all_cons List.all_nil List.length_cons List.length_nil List.length_map List.length_append List.nil_append List.cons_append List.set_cons_zero List.set_cons_succ List.set_nil List.drop_zero List.drop_succ_cons List.drop_nil List.take_zero List.take_succ_cons List.take_nil Option.map_some Option.map_none Option.isSome_some tk_3 tk_9 tk_31 tk_32 tk_35 tk_68 tf_35_0 tf_35_1 tf_66_2 tf_68_0 tf_68_1 tf_68_2 ts_9 ts_31 ts_32 ts_33 ta_9 ta_31 ta_32 ta_33 tq_31 tq_55 ti_3 tz_68 tv_3 tv_5 tu_9 tv_9 tv_24 iA_def fl_it allC_it foldA_all lt_it lt_fold lA_def leC_lt1 tC_len zC_len tC_sure tC_lt1 tC_ltA zC_ltA zC_lt1 tC_ro zC_sure zC_ro tC_take zC_take tC_take16 sc_tt sc_zt sc_tz sc_zz add16 tz_T tA_def
end Go.Proofs.YtopifabnobplcaaDoor

namespace Go.Proofs.YtopifabnobplcaaDoor
open Go.RowKit
set_option linter.unusedVariables false
set_option linter.unusedSimpArgs false
def Tr.Eq16 (t u : Tr) : Prop := ∀ i, i < 16 → t.leaf i = u.leaf i ∧ t.ver i = u.ver i
theorem map_range_inj {α β : Type} {f g : Nat → β} {n : Nat} (h : (List.range n).map f = (List.range n).map g) : ∀ i, i < n → f i = g i := fun i hi => by
  have := congrArg (fun l => l[i]?) h
  simpa [List.getElem?_map, List.getElem?_range hi] using this
theorem tA_inj {t u : Tr} (h : tA t = tA u) : t.Eq16 u := by
  unfold tA tC at h
  injection h with h
  obtain ⟨h1, h2⟩ := List.append_inj h (by rw [leC_len, leC_len])
  intro i hi
  exact ⟨lA_inj (map_range_inj (α := Nat) h1 i hi), nA_inj (map_range_inj (α := Nat) h2 i hi)⟩
theorem tA_eq {t u : Tr} (h : t.Eq16 u) : tA t = tA u := by
  unfold tA tC leC veC
  congr 2
  · exact List.map_congr_left fun i hi => by rw [(h i (List.mem_range.1 hi)).1]
  · exact List.map_congr_left fun i hi => by rw [(h i (List.mem_range.1 hi)).2]
theorem all_range_congr {f g : Nat → Bool} {n : Nat} (h : ∀ i, i < n → f i = g i) : (List.range n).all f = (List.range n).all g := by
  rw [Bool.eq_iff_iff, List.all_eq_true, List.all_eq_true]
  exact ⟨fun q i hi => by rw [← h i (List.mem_range.1 hi)]; exact q i hi, fun q i hi => by rw [h i (List.mem_range.1 hi)]; exact q i hi⟩
theorem mayT_eq {t u : Tr} (h : t.Eq16 u) : mayT t = mayT u := all_range_congr fun i hi => by rw [(h i hi).1, (h i hi).2]
theorem sumTo_eq {f g : Nat → Nat} : ∀ {n : Nat}, (∀ i, i < n → f i = g i) → sumTo f n = sumTo g n
  | 0, _ => rfl
  | n + 1, h => by
    unfold sumTo
    rw [sumTo_eq fun i hi => h i (Nat.lt_succ_of_lt hi), h n (Nat.lt_succ_self n)]
theorem countT_eq {t u : Tr} (h : t.Eq16 u) : countT t = countT u := by
  unfold countT
  rw [mayT_eq h, sumTo_eq fun i hi => by rw [(h i hi).1]]
theorem weightT_eq {t u : Tr} (h : t.Eq16 u) : weightT t = weightT u := by
  unfold weightT
  rw [mayT_eq h, sumTo_eq fun i hi => by rw [(h i hi).1]]
def Tr.Ok (t : Tr) : Prop := ∀ i, (t.leaf i).length ≤ 1000000 ∧ (∀ x ∈ t.leaf i, x.key.length ≤ maxLen ∧ NumOk x) ∧ weightP (t.leaf i) ≤ 1000000000
theorem Tr.Ok.len {t : Tr} (h : t.Ok) : ∀ i, (t.leaf i).length ≤ 1000000 := fun i => (h i).1
theorem Tr.Ok.len2 {t : Tr} (h : t.Ok) : ∀ i, (t.leaf i).length ≤ 34359738368 := fun i => Nat.le_trans (h i).1 (by decide)
noncomputable def trunk_May_t (m : Nat) : List AV → RO := orac (ι := Tr) (fun t => [tA t]) (fun t => bA (mayT t)) Tr.Ok
theorem trunk_May_ok (m : Nat) : ∀ args X H', trunk_May_t m args = some (X, H') → ACp Tryd.prog GG 33 args X := orac_ok fun t h => may_d sigGG t h.len2
theorem trunk_May_e (m : Nat) (t : Tr) (h : t.Ok) : trunk_May_t m [tA t] = some (bA (mayT t), []) := orac_eq (ι := Tr) (by
  intro t u e
  rw [mayT_eq (tA_inj (List.cons.inj e).1)]) (i := t) h
noncomputable def trunk_Count_t (m : Nat) : List AV → RO := orac (ι := Tr) (fun t => [tA t]) (fun t => nA (countT t)) Tr.Ok
theorem trunk_Count_ok (m : Nat) : ∀ args X H', trunk_Count_t m args = some (X, H') → ACp Tryd.prog GG 36 args X := orac_ok fun t h => count_d sigGG t h.len
theorem trunk_Count_e (m : Nat) (t : Tr) (h : t.Ok) : trunk_Count_t m [tA t] = some (nA (countT t), []) := orac_eq (ι := Tr) (by
  intro t u e
  rw [countT_eq (tA_inj (List.cons.inj e).1)]) (i := t) h
noncomputable def trunk_Weight_t (m : Nat) : List AV → RO := orac (ι := Tr) (fun t => [tA t]) (fun t => nA (weightT t)) Tr.Ok
theorem trunk_Weight_ok (m : Nat) : ∀ args X H', trunk_Weight_t m args = some (X, H') → ACp Tryd.prog GG 35 args X := orac_ok fun t h => weight_d sigGG t h.len (fun i => (h i).2.2) fun i x hx => ((h i).2.1 x hx).2
theorem trunk_Weight_e (m : Nat) (t : Tr) (h : t.Ok) : trunk_Weight_t m [tA t] = some (nA (weightT t), []) := orac_eq (ι := Tr) (by
  intro t u e
  rw [weightT_eq (tA_inj (List.cons.inj e).1)]) (i := t) h
theorem tA_few {t u : Tr} (h : t.Eq16 u) : tA (fewT t 16) = tA (fewT u 16) := tA_eq fun i hi => by
  simp only [fewT, hi, if_true]
  rw [(h i hi).1, (h i hi).2]
  exact ⟨rfl, rfl⟩
noncomputable def plenumlaw10_Few_t (m : Nat) : List AV → RO := orac (ι := Tr) (fun t => [tA t]) (fun t => tA (fewT t 16)) (fun t => ∀ i, (t.leaf i).length ≤ maxLen)
theorem plenumlaw10_Few_ok (m : Nat) : ∀ args X H', plenumlaw10_Few_t m args = some (X, H') → ACp Tryd.prog GG 27 args X := orac_ok fun t h => few_d t h
theorem plenumlaw10_Few_e (m : Nat) (t : Tr) (h : ∀ i, (t.leaf i).length ≤ maxLen) : plenumlaw10_Few_t m [tA t] = some (tA (fewT t 16), []) := orac_eq (ι := Tr) (by
  intro t u e
  exact tA_few (tA_inj (List.cons.inj e).1)) (i := t) h
end Go.Proofs.YtopifabnobplcaaDoor

namespace Go.Proofs.YtopifabnobplcaaDoor
open Go.RowKit
set_option linter.unusedVariables false
set_option linter.unusedSimpArgs false
set_option maxRecDepth 100000
theorem ac_of_wpAdd {P : Program} {G : Gl} {f : FuncId} {fn : Func} {c : Code} {args : List AV} {H : List AObj} {X : AV} {Y : List AObj} (hf : P.funcs[f]? = some fn) (hb : fn.body = some c) (hc : callIs P f = true) (rs : List ResultVar) (hrs : fn.results.toList = rs) (N : Nat) (hN : fn.ntmps = N) (hargs : args.length ≤ N)
    (h : AWp P G N H.length c (fun e s => e = .ret ∧ s.H = H ++ Y ∧ resC P s.H s.T rs fun ds => oneOf ds = X) ⟨H, argsT 0 args⟩) : AC P G f args H (Is X (H ++ Y)) := by
  subst hN
  refine ⟨hc, fun w S μ vs hr hg hl hv => ?_⟩
  refine calls_of_wp hf hb ?_
  have hfr : Fr S μ fn.ntmps (argsT 0 args) { tmps := vs.toArray ++ Array.replicate (fn.ntmps - vs.toArray.size) undef, defers := [] } := by
    refine ⟨by simp; omega, rfl, fun i => ?_⟩
    rw [get_argsT]
    simp only [Nat.zero_le, if_true, Nat.sub_zero]
    cases hd : args[i]? with
    | none => trivial
    | some d =>
      have hi : i < vs.length := by rw [hl]; exact (List.getElem?_eq_some_iff.1 hd).1
      have := hv i d vs[i] hd (List.getElem?_eq_getElem hi)
      simp only [Option.getD_some]
      have e : (vs.toArray ++ Array.replicate (fn.ntmps - vs.toArray.size) undef).getD i undef = vs[i] := by
        rw [Array.getD_eq_getD_getElem?, Array.getElem?_append_left (by simpa using hi)]
        simp [hi]
      rw [e]; exact this
  refine wp_mono (h w S μ _ hr hfr hg) ?_
  rintro e a' w' ⟨s', S', μ', ⟨rfl, hH, hK⟩, hr', hf', hst⟩
  obtain ⟨v, r, hrun, hrep, hX⟩ := resultsC_run (K := fun r => r = X) hrs hr' hf' hK
  subst hX
  exact ⟨hf'.nodef, v, hrun, v, _, s'.H, S', μ', rfl, ⟨rfl, hH⟩, hr', hrep, hst⟩
theorem clone_cons (x : AV) (es : List AV) (H : List AObj) (hz : allCE 36 (x :: es) = true) (hl : (x :: es).length ≤ 34359738368) :
    AC Tryd.prog GG 29 [SL (x :: es)] H (Is (OW H.length (x :: es).length) (H ++ [⟨2, 40, 36, x :: es⟩])) := by
  have hx : exec Tryd.prog GG [] 0 8 ((Tryd.f29.body).getD .skip) .n ⟨H, argsT 0 [SL (x :: es)]⟩ (fun e s => match e with | .ret => some (get s.T 2, s.H) | _ => none) = appE (some (40, 36)) H ZV (SL (x :: es)) (fun d H' => some (d, H')) :=
    (execK_eq (P := Tryd.prog) (G := GG) (E := []) (M := 0) (N := 8) _ _ _ _).symm.trans (by kernel_rfl)
  have h2 : exec Tryd.prog GG [] 0 8 ((Tryd.f29.body).getD .skip) .n ⟨H, argsT 0 [SL (x :: es)]⟩ (fun e s => match e with | .ret => some (get s.T 2, s.H) | _ => none) = some (OW H.length (x :: es).length, H ++ [⟨2, 40, 36, x :: es⟩]) := by
    rw [hx, u_appZ, u_elS, hz, whenE_t, show decide ((x :: es).length ≤ 34359738368) = true by simpa using hl, whenE_t]
  refine ac_of_wpAdd Tryd.func29 rfl (by kernel_rfl) [.tmp 2] rfl 8 Tryd.ntmps29 (Nat.le_of_ble_eq_true rfl) (AWp.mono (exec_ok MIX (by intro f e h; cases h) _ .n ⟨H, argsT 0 [SL (x :: es)]⟩ _ (Nat.le_refl _) h2) fun e s q => ?_)
  cases e with
  | ret =>
    injection q with q
    injection q with q1 q2
    exact ⟨rfl, q2, q1⟩
  | normal => cases q
  | exit id => cases q
  | goto l => cases q
  | panic ch => cases q
  | outgrown => cases q
theorem clone_nil (H : List AObj) : AC Tryd.prog GG 29 [SL []] H (Is (OW H.length 0) (H ++ [⟨2, 40, 36, []⟩])) := by
  refine ⟨by kernel_rfl, fun w S μ vs hr hg hl hv => ?_⟩
  obtain ⟨v, rfl⟩ : ∃ v, vs = [v] := by
    match vs, hl with
    | [v], _ => exact ⟨v, rfl⟩
  obtain ⟨A, c, rfl, _, _, _⟩ := hv 0 _ _ rfl rfl
  have fin : ∀ A' w', Below w.heap.size w w' → CPost w S μ H (Is (OW H.length 0) (H ++ [⟨2, 40, 36, []⟩])) (.returned (.slice A' 0 0)) w' := by
    intro A' w' hb
    obtain ⟨h1, h2⟩ := hr.grow (S' := S) hb (fun _ _ _ q => q) (fun _ _ _ q => .inl q) (fun b j d q hb' => absurd (hr.still_lt q) (by omega))
    obtain ⟨h3, h4⟩ := h1.nilRow A' 40 36
    refine ⟨_, _, _, S, _, rfl, ⟨rfl, rfl⟩, h3, ?_, h2.trans h4⟩
    refine ⟨A', 0, 0, A', 0, ?_, Nat.le_refl _, rfl, fun _ => ⟨rfl, rfl⟩⟩
    rw [← hr.len]; simp
  cases A with
  | none =>
    have hq : ∀ w, (binOp .eql 22 (.slice none 0 c) (.slice none 0 0)).run Tryd.prog w = .ok (.bool true) w := fun w => by
      simp only [binOp]
      rw [Sem.run_bind, run_equal_slice_nil (P := Tryd.prog) w _ _ none 0 c Tryd.underlying22]
      rfl
    go_enter Tryd.func29, Tryd.ntmps29
    go_wp2
    go_ret
    exact fin none _ (Below.refl _ _)
  | some a =>
    have hq : ∀ w, (binOp .eql 22 (.slice (some a) 0 c) (.slice none 0 0)).run Tryd.prog w = .ok (.bool false) w := fun w => by
      simp only [binOp]
      rw [Sem.run_bind, run_equal_slice_nil (P := Tryd.prog) w _ _ (some a) 0 c Tryd.underlying22]
      rfl
    go_enter Tryd.func29, Tryd.ntmps29
    go_wp2
    go_ret
    exact fin _ _ ((Below.refl _ w).alloc (Nat.le_refl _) _)
noncomputable def slices_Clone_Snap_t (m : Nat) : List AV → Nat → RO
  | [.slice es []], n => whenE (allCE 36 es && decide (es.length ≤ 34359738368)) (some (OW n es.length, [⟨2, 40, 36, es⟩]))
  | _, _ => none
theorem slices_Clone_Snap_inv {m n : Nat} {args : List AV} {X : AV} {Y : List AObj} (h : slices_Clone_Snap_t m args n = some (X, Y)) : ∃ es, args = [SL es] ∧ allCE 36 es = true ∧ es.length ≤ 34359738368 ∧ X = OW n es.length ∧ Y = [⟨2, 40, 36, es⟩] := by
  unfold slices_Clone_Snap_t at h
  split at h
  · obtain ⟨h1, h2⟩ := whenE_some h
    rw [Bool.and_eq_true, decide_eq_true_eq] at h1
    injection h2 with h2
    injection h2 with h2 h3
    exact ⟨_, rfl, h1.1, h1.2, h2.symm, h3.symm⟩
  · cases h
theorem slices_Clone_Snap_ok (m : Nat) : ∀ args H X Y, slices_Clone_Snap_t m args H.length = some (X, Y) → AC Tryd.prog GG 29 args H (Is X (H ++ Y)) := by
  intro args H X Y h
  obtain ⟨es, rfl, h1, h2, rfl, rfl⟩ := slices_Clone_Snap_inv h
  cases es with
  | nil => exact clone_nil H
  | cons x es => exact clone_cons x es H h1 h2
theorem slices_Clone_Snap_e (m n : Nat) (es : List AV) (hz : allCE 36 es = true) (hl : es.length ≤ 34359738368) : slices_Clone_Snap_t m [SL es] n = some (OW n es.length, [⟨2, 40, 36, es⟩]) := by
  show whenE (allCE 36 es && decide (es.length ≤ 34359738368)) _ = _
  rw [hz, show decide (es.length ≤ 34359738368) = true by simpa using hl]
  rfl
end Go.Proofs.YtopifabnobplcaaDoor

namespace Go.Proofs.YtopifabnobplcaaDoor
open Go.RowKit
set_option linter.unusedVariables false
set_option maxRecDepth 100000
def ty_api_Item : TypeId := 68
def ty_api_Snap : TypeId := 40
def ty_api_Store : TypeId := 37
def ty_api_Trunk : TypeId := 35
def ty_int : TypeId := 3
def ty_sl_api_Snap : TypeId := 22
def zc_api_Snap : List AV := [(V (.int .i64 0)), (V (.slice none 0 0)), (V (.slice none 0 0)), (V (.slice none 0 0)), (V (.slice none 0 0)), (V (.slice none 0 0)), (V (.slice none 0 0)), (V (.slice none 0 0)), (V (.slice none 0 0)), (V (.slice none 0 0)), (V (.slice none 0 0)), (V (.slice none 0 0)), (V (.slice none 0 0)), (V (.slice none 0 0)), (V (.slice none 0 0)), (V (.slice none 0 0)), (V (.slice none 0 0)), (V (.int .i64 0)), (V (.int .i64 0)), (V (.int .i64 0)), (V (.int .i64 0)), (V (.int .i64 0)), (V (.int .i64 0)), (V (.int .i64 0)), (V (.int .i64 0)), (V (.int .i64 0)), (V (.int .i64 0)), (V (.int .i64 0)), (V (.int .i64 0)), (V (.int .i64 0)), (V (.int .i64 0)), (V (.int .i64 0)), (V (.int .i64 0)), (V (.int .i64 0)), (V (.int .i64 0)), (V (.int .i64 0))]
def zc_api_Store : List AV := [(V (.slice none 0 0)), (V (.slice none 0 0)), (V (.slice none 0 0)), (V (.slice none 0 0)), (V (.slice none 0 0)), (V (.slice none 0 0)), (V (.slice none 0 0)), (V (.slice none 0 0)), (V (.slice none 0 0)), (V (.slice none 0 0)), (V (.slice none 0 0)), (V (.slice none 0 0)), (V (.slice none 0 0)), (V (.slice none 0 0)), (V (.slice none 0 0)), (V (.slice none 0 0)), (V (.int .i64 0)), (V (.int .i64 0)), (V (.int .i64 0)), (V (.int .i64 0)), (V (.int .i64 0)), (V (.int .i64 0)), (V (.int .i64 0)), (V (.int .i64 0)), (V (.int .i64 0)), (V (.int .i64 0)), (V (.int .i64 0)), (V (.int .i64 0)), (V (.int .i64 0)), (V (.int .i64 0)), (V (.int .i64 0)), (V (.int .i64 0)), (V (.int .i64 0)), (V (.int .i64 0)), (V (.int .i64 0))]
def pl_api_Snap : List (Nat × Nat) := [(0, 1), (1, 35)]
def pl_api_Store : List (Nat × Nat) := [(0, 32), (32, 1), (33, 1), (34, 1)]
noncomputable def slices_Equal_Item_c : Code := (Tryd.f44.body).getD .skip
def slices_Equal_Item_h : Hint := (.two .n (.two (.two .n (.two (.two .n .n) .n)) (.join [] (.two .n (.one (.lp [] [0, 1, 12, 13] [4] (.two .n (.two (.two .n .n) (.two (.one (.two .n (.two .n (.two (.two .n .n) .n)))) .n)))))) (.two .n .n))))
noncomputable def slices_Equal_Item_env (m : Nat) : Env := []
noncomputable abbrev slices_Equal_Item_fin : KO (AV × List AObj) := tellFK Tryd.prog [.tmp 4]
noncomputable def slices_Equal_Item_r1 (m : Nat) (s : ASt) : RO := joinW Tryd.prog GG (slices_Equal_Item_env m) m 26 (cdR (cdR (cdR slices_Equal_Item_c))) slices_Equal_Item_h.r.r.r s (slices_Equal_Item_fin)
noncomputable def slices_Equal_Item_b1 (m : Nat) (s : ASt) (kc : ASt → RO) (kx : KO (AV × List AObj)) : RO := bodyW Tryd.prog GG (slices_Equal_Item_env m) m 26 (cdL (cdL (cdR (cdL (cdR (cdR slices_Equal_Item_c)))))) slices_Equal_Item_h.r.r.l.r.c.c [0, 1, 12, 13] [4] s kc kx
noncomputable def slices_Equal_Item (m : Nat) (t0 t1 : AV) : RO := exec Tryd.prog GG (slices_Equal_Item_env m) m 26 slices_Equal_Item_c slices_Equal_Item_h ⟨[], argsT 0 [t0, t1]⟩ (slices_Equal_Item_fin)
theorem slices_Equal_Item_r1_eq (m : Nat) (H : List AObj) : slices_Equal_Item_r1 m ⟨H, []⟩ =
  tellK H (ro H (V (.bool true))) := by
  refine (joinW_eq Tryd.prog GG (slices_Equal_Item_env m) m 26 (cdR (cdR (cdR slices_Equal_Item_c))) slices_Equal_Item_h.r.r.r ⟨H, []⟩ (slices_Equal_Item_fin)).trans ?_
  kernel_rfl
theorem slices_Equal_Item_b1_eq (m : Nat) (H : List AObj) (t0 t1 t12 t13 : AV) (kc : ASt → RO) (kx : KO (AV × List AObj)) : slices_Equal_Item_b1 m ⟨H, [(0, t0), (1, t1), (12, t12), (13, t13)]⟩ kc kx =
  binE none false false .lss t13 t12 fun t14 =>
  condE t14 (
   idxSE 7 H t0 t13 fun t18 =>
   loadE 7 H t18 fun t19 =>
   idxSE 7 H t1 t13 fun t22 =>
   loadE 7 H t22 fun t23 =>
   binE (some [.s, .i .i64, .i .i64, .s, .i .i64]) false false .neq t19 t23 fun t24 =>
   condE t24 (
    kx .ret ⟨H, [(4, (V (.bool false)))]⟩) (
    binE none false false .add t13 (V (.int .i64 1)) fun t25 =>
    backE H.length H [(0, t0), (1, t1), (12, t12), (13, t25)] kc)) (
   kx (.exit 0) ⟨H, [(4, .nil)]⟩) := by
  refine (bodyW_eq Tryd.prog GG (slices_Equal_Item_env m) m 26 (cdL (cdL (cdR (cdL (cdR (cdR slices_Equal_Item_c)))))) slices_Equal_Item_h.r.r.l.r.c.c [0, 1, 12, 13] [4] ⟨H, [(0, t0), (1, t1), (12, t12), (13, t13)]⟩ kc kx).trans ?_
  kernel_rfl
theorem slices_Equal_Item_eq (m : Nat) (t0 t1 : AV) : slices_Equal_Item m t0 t1 =
  lenE false true [] t0 fun t7 =>
  lenE false true [] t1 fun t9 =>
  binE none false false .neq t7 t9 fun t10 =>
  condE t10 (
   tellK [] (ro [] (V (.bool false)))) (
   lenE false true [] t0 fun t12 =>
   iterC m (slices_Equal_Item_b1 m) ⟨[], [(0, t0), (1, t1), (12, t12), (13, (V (.int .i64 0)))]⟩ (blockX 0 (seqX (fun s => slices_Equal_Item_r1 m ⟨s.H, []⟩) (slices_Equal_Item_fin)))) := by
  refine (tellX Tryd.prog GG (slices_Equal_Item_env m) m 26 slices_Equal_Item_c slices_Equal_Item_h ⟨[], argsT 0 [t0, t1]⟩ [.tmp 4]).trans ?_
  kernel_rfl
noncomputable def slices_Equal_Item_t (m : Nat) : List AV → RO | [t0, t1] => slices_Equal_Item m t0 t1 | _ => none
theorem slices_Equal_Item_ok (m : Nat) : ∀ args X H', slices_Equal_Item_t m args = some (X, H') → ACp Tryd.prog GG 44 args X := by
  intro args X H' h
  unfold slices_Equal_Item_t at h
  split at h
  · exact tell_okK MIX (by intro f e h; cases h) (f := 44) (c := slices_Equal_Item_c) Tryd.func44 rfl (by kernel_rfl) _ rfl Tryd.ntmps44 (Nat.le_of_ble_eq_true rfl) slices_Equal_Item_h h
  · cases h
noncomputable def trunk_Unlike_c : Code := (Tryd.f32.body).getD .skip
def trunk_Unlike_h : Hint := (.two .n (.join [2, 3] (.two .n (.two (.two .n .n) .n)) (.two .n (.join [6] (.two .n (.one (.lp [(6, ty_int, 1)] [2, 3, 6, 16] [6] (.two .n (.two (.two .n .n) (.join [2, 3, 6, 16] (.one (.two .n (.join [2, 3, 6, 7, 16, 39] .n (.two .n .n)))) .n)))))) (.two .n .n)))))
noncomputable def trunk_Unlike_env (m : Nat) : Env := [(33, .tell (trunk_May_t m)), (44, .tell (slices_Equal_Item_t m))]
noncomputable abbrev trunk_Unlike_fin : KO (AV × List AObj) := tellFK Tryd.prog [.tmp 4, .tmp 5]
noncomputable def trunk_Unlike_r4 (m : Nat) (n0 : Nat) (kc : ASt → RO) (kx : KO (AV × List AObj)) (s : ASt) : RO := joinW Tryd.prog GG (trunk_Unlike_env m) m 46 (cdR (cdR (cdR (cdL (cdL (cdR (cdL (cdR (cdR (cdR trunk_Unlike_c)))))))))) trunk_Unlike_h.r.r.r.l.r.c.c.r.r.r s (backW n0 [2, 3, 6, 16] [6] kc kx)
noncomputable def trunk_Unlike_r3 (m : Nat) (n0 : Nat) (kc : ASt → RO) (kx : KO (AV × List AObj)) (s : ASt) : RO := joinW Tryd.prog GG (trunk_Unlike_env m) m 46 (cdR (cdR (cdL (cdL (cdR (cdR (cdL (cdL (cdR (cdL (cdR (cdR (cdR trunk_Unlike_c))))))))))))) trunk_Unlike_h.r.r.r.l.r.c.c.r.r.l.c.r.r s (blockX 1 (seqX (fun s => trunk_Unlike_r4 m n0 kc kx ⟨s.H, [(2, gt s.T 2), (3, gt s.T 3), (6, gt s.T 6), (16, gt s.T 16)]⟩) (backW n0 [2, 3, 6, 16] [6] kc kx)))
noncomputable def trunk_Unlike_r2 (m : Nat) (s : ASt) : RO := joinW Tryd.prog GG (trunk_Unlike_env m) m 46 (cdR (cdR (cdR (cdR trunk_Unlike_c)))) trunk_Unlike_h.r.r.r.r s (trunk_Unlike_fin)
noncomputable def trunk_Unlike_b1 (m : Nat) (s : ASt) (kc : ASt → RO) (kx : KO (AV × List AObj)) : RO := bodyW Tryd.prog GG (trunk_Unlike_env m) m 46 (cdL (cdL (cdR (cdL (cdR (cdR (cdR trunk_Unlike_c))))))) trunk_Unlike_h.r.r.r.l.r.c.c [2, 3, 6, 16] [6] s kc kx
noncomputable def trunk_Unlike_r1 (m : Nat) (s : ASt) : RO := joinW Tryd.prog GG (trunk_Unlike_env m) m 46 (cdR (cdR trunk_Unlike_c)) trunk_Unlike_h.r.r s (trunk_Unlike_fin)
noncomputable def trunk_Unlike (m : Nat) (t0 t1 : AV) : RO := exec Tryd.prog GG (trunk_Unlike_env m) m 46 trunk_Unlike_c trunk_Unlike_h ⟨[], argsT 0 [t0, t1]⟩ (trunk_Unlike_fin)
theorem trunk_Unlike_r4_eq (m : Nat) (n0 : Nat) (kc : ASt → RO) (kx : KO (AV × List AObj)) (H : List AObj) (t2 t3 t6 t16 : AV) : trunk_Unlike_r4 m n0 kc kx ⟨H, [(2, t2), (3, t3), (6, t6), (16, t16)]⟩ =
  binE none false false .add t16 (V (.int .i64 1)) fun t44 =>
  backE n0 H [(2, t2), (3, t3), (6, t6), (16, t44)] kc := by
  refine (joinW_eq Tryd.prog GG (trunk_Unlike_env m) m 46 (cdR (cdR (cdR (cdL (cdL (cdR (cdL (cdR (cdR (cdR trunk_Unlike_c)))))))))) trunk_Unlike_h.r.r.r.l.r.c.c.r.r.r ⟨H, [(2, t2), (3, t3), (6, t6), (16, t16)]⟩ (backW n0 [2, 3, 6, 16] [6] kc kx)).trans ?_
  kernel_rfl
theorem trunk_Unlike_r3_eq (m : Nat) (n0 : Nat) (kc : ASt → RO) (kx : KO (AV × List AObj)) (H : List AObj) (t2 t3 t6 t7 t16 t39 : AV) : trunk_Unlike_r3 m n0 kc kx ⟨H, [(2, t2), (3, t3), (6, t6), (7, t7), (16, t16), (39, t39)]⟩ =
  condE t39 (
   buildSE (some (ty_int, 1)) 1 [(0, t7)] fun t42 =>
   appE (some (ty_int, 1)) H t6 t42 fun t43 H2 =>
   trunk_Unlike_r4 m n0 kc kx ⟨H2, [(2, t2), (3, t3), (6, t43), (16, t16)]⟩) (
   trunk_Unlike_r4 m n0 kc kx ⟨H, [(2, t2), (3, t3), (6, t6), (16, t16)]⟩) := by
  refine (joinW_eq Tryd.prog GG (trunk_Unlike_env m) m 46 (cdR (cdR (cdL (cdL (cdR (cdR (cdL (cdL (cdR (cdL (cdR (cdR (cdR trunk_Unlike_c))))))))))))) trunk_Unlike_h.r.r.r.l.r.c.c.r.r.l.c.r.r ⟨H, [(2, t2), (3, t3), (6, t6), (7, t7), (16, t16), (39, t39)]⟩ (blockX 1 (seqX (fun s => trunk_Unlike_r4 m n0 kc kx ⟨s.H, [(2, gt s.T 2), (3, gt s.T 3), (6, gt s.T 6), (16, gt s.T 16)]⟩) (backW n0 [2, 3, 6, 16] [6] kc kx)))).trans ?_
  kernel_rfl
theorem trunk_Unlike_r2_eq (m : Nat) (H : List AObj) (t6 : AV) : trunk_Unlike_r2 m ⟨H, [(6, t6)]⟩ =
  tellK H (ro H (TU [noT t6, noT (V (.int .i64 0))])) := by
  refine (joinW_eq Tryd.prog GG (trunk_Unlike_env m) m 46 (cdR (cdR (cdR (cdR trunk_Unlike_c)))) trunk_Unlike_h.r.r.r.r ⟨H, [(6, t6)]⟩ (trunk_Unlike_fin)).trans ?_
  kernel_rfl
theorem trunk_Unlike_b1_eq (m : Nat) (H : List AObj) (t2 t3 t6 t16 : AV) (kc : ASt → RO) (kx : KO (AV × List AObj)) : trunk_Unlike_b1 m ⟨H, [(2, t2), (3, t3), (6, t6), (16, t16)]⟩ kc kx =
  binE none false false .lss t16 (V (.int .i64 16)) fun t17 =>
  condE t17 (
   fieldE (some (16, 18)) t2 fun t20 =>
   idxPE 16 1 t20 t16 fun t21 =>
   loadE 1 H t21 fun t22 =>
   fieldE (some (16, 18)) t3 fun t24 =>
   idxPE 16 1 t24 t16 fun t25 =>
   loadE 1 H t25 fun t26 =>
   binE none false false .neq t22 t26 fun t27 =>
   condE t27 (
    trunk_Unlike_r3 m H.length kc kx ⟨H, [(2, t2), (3, t3), (6, t6), (7, t16), (16, t16), (39, (V (.bool true)))]⟩) (
    fieldE (some (0, 18)) t2 fun t30 =>
    idxPE 16 1 t30 t16 fun t31 =>
    loadE 1 H t31 fun t32 =>
    fieldE (some (0, 18)) t3 fun t34 =>
    idxPE 16 1 t34 t16 fun t35 =>
    loadE 1 H t35 fun t36 =>
    tellE (slices_Equal_Item m (ro H t32) (ro H t36)) [(ro H t32), (ro H t36)] fun t37 =>
    unE .not t37 fun t38 =>
    trunk_Unlike_r3 m H.length kc kx ⟨H, [(2, t2), (3, t3), (6, t6), (7, t16), (16, t16), (39, t38)]⟩)) (
   kx (.exit 0) ⟨H, [(6, t6)]⟩) := by
  refine (bodyW_eq Tryd.prog GG (trunk_Unlike_env m) m 46 (cdL (cdL (cdR (cdL (cdR (cdR (cdR trunk_Unlike_c))))))) trunk_Unlike_h.r.r.r.l.r.c.c [2, 3, 6, 16] [6] ⟨H, [(2, t2), (3, t3), (6, t6), (16, t16)]⟩ kc kx).trans ?_
  kernel_rfl
theorem trunk_Unlike_r1_eq (m : Nat) (H : List AObj) (t2 t3 : AV) : trunk_Unlike_r1 m ⟨H, [(2, t2), (3, t3)]⟩ =
  rowE (V (.slice none 0 0)) ty_int 1 H fun t6 H2 =>
  iterC m (trunk_Unlike_b1 m) ⟨H2, [(2, t2), (3, t3), (6, t6), (16, (V (.int .i64 0)))]⟩ (blockX 0 (seqX (fun s => trunk_Unlike_r2 m ⟨s.H, [(6, gt s.T 6)]⟩) (trunk_Unlike_fin))) := by
  refine (joinW_eq Tryd.prog GG (trunk_Unlike_env m) m 46 (cdR (cdR trunk_Unlike_c)) trunk_Unlike_h.r.r ⟨H, [(2, t2), (3, t3)]⟩ (trunk_Unlike_fin)).trans ?_
  kernel_rfl
theorem trunk_Unlike_eq (m : Nat) (t0 t1 : AV) : trunk_Unlike m t0 t1 =
  boxE ty_api_Trunk [] t0 fun t2 H1 =>
  boxE ty_api_Trunk H1 t1 fun t3 H2 =>
  loadE 34 H2 t2 fun t8 =>
  tellE (trunk_May_t m [(ro H2 t8)]) [(ro H2 t8)] fun t9 =>
  unE .not t9 fun t10 =>
  condE t10 (
   tellK H2 (ro H2 (TU [noT (V (.slice none 0 0)), noT (V (.int .i64 1))]))) (
   loadE 34 H2 t3 fun t12 =>
   tellE (trunk_May_t m [(ro H2 t12)]) [(ro H2 t12)] fun t13 =>
   unE .not t13 fun t14 =>
   condE t14 (
   tellK H2 (ro H2 (TU [noT (V (.slice none 0 0)), noT (V (.int .i64 1))]))) (
   trunk_Unlike_r1 m ⟨H2, [(2, t2), (3, t3)]⟩)) := by
  refine (tellX Tryd.prog GG (trunk_Unlike_env m) m 46 trunk_Unlike_c trunk_Unlike_h ⟨[], argsT 0 [t0, t1]⟩ [.tmp 4, .tmp 5]).trans ?_
  kernel_rfl
noncomputable def trunk_Unlike_t (m : Nat) : List AV → RO | [t0, t1] => trunk_Unlike m t0 t1 | _ => none
theorem trunk_Unlike_ok (m : Nat) : ∀ args X H', trunk_Unlike_t m args = some (X, H') → ACp Tryd.prog GG 32 args X := by
  intro args X H' h
  unfold trunk_Unlike_t at h
  split at h
  · exact tell_okK MIX (by
    intro f e h
    simp only [trunk_Unlike_env, Prod.mk.injEq, List.mem_cons, List.not_mem_nil, or_false] at h
    rcases h with ⟨rfl, rfl⟩ | ⟨rfl, rfl⟩
    · exact trunk_May_ok m
    · exact slices_Equal_Item_ok m) (f := 32) (c := trunk_Unlike_c) Tryd.func32 rfl (by kernel_rfl) _ rfl Tryd.ntmps32 (Nat.le_of_ble_eq_true rfl) trunk_Unlike_h h
  · cases h
noncomputable def plenumref10_Fits_c : Code := (Tryd.f47.body).getD .skip
def plenumref10_Fits_h : Hint := (.two .n (.join [1, 2] (.two .n (.one (.lp [] [0, 1, 2, 7] [1, 2, 6] (.two (.two .n (.two .n .n)) (.two (.one (.two .n (.two (.two .n .n) .n))) .n))))) (.two .n .n)))
noncomputable def plenumref10_Fits_env (m : Nat) : Env := [(54, .tell (plenumref08_Is_t m)), (55, .tell (plenumref09_Is_t m))]
noncomputable abbrev plenumref10_Fits_fin : KO (AV × List AObj) := tellFK Tryd.prog [.tmp 6]
noncomputable def plenumref10_Fits_r1 (m : Nat) (s : ASt) : RO := joinW Tryd.prog GG (plenumref10_Fits_env m) m 52 (cdR (cdR plenumref10_Fits_c)) plenumref10_Fits_h.r.r s (plenumref10_Fits_fin)
noncomputable def plenumref10_Fits_b1 (m : Nat) (s : ASt) (kc : ASt → RO) (kx : KO (AV × List AObj)) : RO := bodyW Tryd.prog GG (plenumref10_Fits_env m) m 52 (cdL (cdL (cdR (cdL (cdR plenumref10_Fits_c))))) plenumref10_Fits_h.r.l.r.c.c [0, 1, 2, 7] [1, 2, 6] s kc kx
noncomputable def plenumref10_Fits (m : Nat) (t0 t1 t2 : AV) : RO := exec Tryd.prog GG (plenumref10_Fits_env m) m 52 plenumref10_Fits_c plenumref10_Fits_h ⟨[], argsT 0 [t0, t1, t2]⟩ (plenumref10_Fits_fin)
theorem plenumref10_Fits_r1_eq (m : Nat) (H : List AObj) (t1 t2 : AV) : plenumref10_Fits_r1 m ⟨H, [(1, t1), (2, t2)]⟩ =
  tellE (plenumref09_Is_t m [(ro H t1)]) [(ro H t1)] fun t43 =>
  condE t43 (
   binE none false false .leq (V (.int .i64 0)) t2 fun t46 =>
   condE t46 (
   binE none false false .leq t2 (V (.int .i64 2147483647)) fun t50 =>
   tellK H (ro H t50)) (
   tellK H (ro H (V (.bool false))))) (
   tellK H (ro H (V (.bool false)))) := by
  refine (joinW_eq Tryd.prog GG (plenumref10_Fits_env m) m 52 (cdR (cdR plenumref10_Fits_c)) plenumref10_Fits_h.r.r ⟨H, [(1, t1), (2, t2)]⟩ (plenumref10_Fits_fin)).trans ?_
  kernel_rfl
theorem plenumref10_Fits_b1_eq (m : Nat) (H : List AObj) (t0 t1 t2 t7 : AV) (kc : ASt → RO) (kx : KO (AV × List AObj)) : plenumref10_Fits_b1 m ⟨H, [(0, t0), (1, t1), (2, t2), (7, t7)]⟩ kc kx =
  lenE false true H t1 fun t10 =>
  binE none false false .lss t7 t10 fun t11 =>
  condE t11 (
   idxSE 7 H t1 t7 fun t16 =>
   fieldE (some (0, 1)) t16 fun t17 =>
   loadE 1 H t17 fun t18 =>
   tellE (plenumref08_Is_t m [(ro H t18)]) [(ro H t18)] fun t19 =>
   unE .not t19 fun t20 =>
   condE t20 (
    kx .ret ⟨H, [(1, t1), (2, t2), (6, (V (.bool false)))]⟩) (
    idxSE 7 H t1 t7 fun t24 =>
    fieldE (some (0, 1)) t24 fun t25 =>
    loadE 1 H t25 fun t26 =>
    idxVE true none t26 (V (.int .i64 0)) fun t27 =>
    convE false (some .i64) true t27 fun t28 =>
    binE none false false .rem t28 (V (.int .i64 16)) fun t29 =>
    binE none false false .neq t29 t0 fun t31 =>
    condE t31 (
    kx .ret ⟨H, [(1, t1), (2, t2), (6, (V (.bool false)))]⟩) (
    idxSE 7 H t1 t7 fun t36 =>
    fieldE (some (4, 1)) t36 fun t37 =>
    loadE 1 H t37 fun t38 =>
    binE none false false .gtr t38 t2 fun t40 =>
    condE t40 (
    kx .ret ⟨H, [(1, t1), (2, t2), (6, (V (.bool false)))]⟩) (
    binE none false false .add t7 (V (.int .i64 1)) fun t13 =>
    backE H.length H [(0, t0), (1, t1), (2, t2), (7, t13)] kc)))) (
   kx (.exit 0) ⟨H, [(1, t1), (2, t2), (6, .nil)]⟩) := by
  refine (bodyW_eq Tryd.prog GG (plenumref10_Fits_env m) m 52 (cdL (cdL (cdR (cdL (cdR plenumref10_Fits_c))))) plenumref10_Fits_h.r.l.r.c.c [0, 1, 2, 7] [1, 2, 6] ⟨H, [(0, t0), (1, t1), (2, t2), (7, t7)]⟩ kc kx).trans ?_
  kernel_rfl
theorem plenumref10_Fits_eq (m : Nat) (t0 t1 t2 : AV) : plenumref10_Fits m t0 t1 t2 =
  iterC m (plenumref10_Fits_b1 m) ⟨[], [(0, t0), (1, t1), (2, t2), (7, (V (.int .i64 0)))]⟩ (blockX 0 (seqX (fun s => plenumref10_Fits_r1 m ⟨s.H, [(1, gt s.T 1), (2, gt s.T 2)]⟩) (plenumref10_Fits_fin))) := by
  refine (tellX Tryd.prog GG (plenumref10_Fits_env m) m 52 plenumref10_Fits_c plenumref10_Fits_h ⟨[], argsT 0 [t0, t1, t2]⟩ [.tmp 6]).trans ?_
  kernel_rfl
noncomputable def plenumref10_Fits_t (m : Nat) : List AV → RO | [t0, t1, t2] => plenumref10_Fits m t0 t1 t2 | _ => none
theorem plenumref10_Fits_ok (m : Nat) : ∀ args X H', plenumref10_Fits_t m args = some (X, H') → ACp Tryd.prog GG 47 args X := by
  intro args X H' h
  unfold plenumref10_Fits_t at h
  split at h
  · exact tell_okK MIX (by
    intro f e h
    simp only [plenumref10_Fits_env, Prod.mk.injEq, List.mem_cons, List.not_mem_nil, or_false] at h
    rcases h with ⟨rfl, rfl⟩ | ⟨rfl, rfl⟩
    · exact plenumref08_Is_ok m
    · exact plenumref09_Is_ok m) (f := 47) (c := plenumref10_Fits_c) Tryd.func47 rfl (by kernel_rfl) _ rfl Tryd.ntmps47 (Nat.le_of_ble_eq_true rfl) plenumref10_Fits_h h
  · cases h
noncomputable def plenumref10_May_c : Code := (Tryd.f37.body).getD .skip
def plenumref10_May_h : Hint := (.two .n (.join [] (.two .n (.one (.lp [] [1, 3] [2] (.two (.two .n (.two .n .n)) (.two (.one (.two .n (.two (.two .n .n) .n))) .n))))) (.two .n .n)))
noncomputable def plenumref10_May_env (m : Nat) : Env := [(47, .tell (plenumref10_Fits_t m))]
noncomputable abbrev plenumref10_May_fin : KO (AV × List AObj) := tellFK Tryd.prog [.tmp 2]
noncomputable def plenumref10_May_r1 (m : Nat) (s : ASt) : RO := joinW Tryd.prog GG (plenumref10_May_env m) m 19 (cdR (cdR plenumref10_May_c)) plenumref10_May_h.r.r s (plenumref10_May_fin)
noncomputable def plenumref10_May_b1 (m : Nat) (s : ASt) (kc : ASt → RO) (kx : KO (AV × List AObj)) : RO := bodyW Tryd.prog GG (plenumref10_May_env m) m 19 (cdL (cdL (cdR (cdL (cdR plenumref10_May_c))))) plenumref10_May_h.r.l.r.c.c [1, 3] [2] s kc kx
noncomputable def plenumref10_May (m : Nat) (t0 : AV) : RO := exec Tryd.prog GG (plenumref10_May_env m) m 19 plenumref10_May_c plenumref10_May_h ⟨[], argsT 0 [t0]⟩ (plenumref10_May_fin)
theorem plenumref10_May_b1_eq (m : Nat) (H : List AObj) (t1 t3 : AV) (kc : ASt → RO) (kx : KO (AV × List AObj)) : plenumref10_May_b1 m ⟨H, [(1, t1), (3, t3)]⟩ kc kx =
  binE none false false .lss t3 (V (.int .i64 16)) fun t5 =>
  condE t5 (
   fieldE (some (0, 18)) t1 fun t10 =>
   idxPE 16 1 t10 t3 fun t11 =>
   loadE 1 H t11 fun t12 =>
   fieldE (some (16, 18)) t1 fun t14 =>
   idxPE 16 1 t14 t3 fun t15 =>
   loadE 1 H t15 fun t16 =>
   tellE (plenumref10_Fits m (ro H t3) (ro H t12) (ro H t16)) [(ro H t3), (ro H t12), (ro H t16)] fun t17 =>
   unE .not t17 fun t18 =>
   condE t18 (
    kx .ret ⟨H, [(2, (V (.bool false)))]⟩) (
    binE none false false .add t3 (V (.int .i64 1)) fun t7 =>
    backE H.length H [(1, t1), (3, t7)] kc)) (
   kx (.exit 0) ⟨H, [(2, .nil)]⟩) := by
  refine (bodyW_eq Tryd.prog GG (plenumref10_May_env m) m 19 (cdL (cdL (cdR (cdL (cdR plenumref10_May_c))))) plenumref10_May_h.r.l.r.c.c [1, 3] [2] ⟨H, [(1, t1), (3, t3)]⟩ kc kx).trans ?_
  kernel_rfl
theorem plenumref10_May_eq (m : Nat) (t0 : AV) : plenumref10_May m t0 =
  boxE ty_api_Trunk [] t0 fun t1 H1 =>
  iterC m (plenumref10_May_b1 m) ⟨H1, [(1, t1), (3, (V (.int .i64 0)))]⟩ (blockX 0 (seqX (fun s => plenumref10_May_r1 m ⟨s.H, []⟩) (plenumref10_May_fin))) := by
  refine (tellX Tryd.prog GG (plenumref10_May_env m) m 19 plenumref10_May_c plenumref10_May_h ⟨[], argsT 0 [t0]⟩ [.tmp 2]).trans ?_
  kernel_rfl
noncomputable def plenumref10_May_t (m : Nat) : List AV → RO | [t0] => plenumref10_May m t0 | _ => none
theorem plenumref10_May_ok (m : Nat) : ∀ args X H', plenumref10_May_t m args = some (X, H') → ACp Tryd.prog GG 37 args X := by
  intro args X H' h
  unfold plenumref10_May_t at h
  split at h
  · exact tell_okK MIX (by
    intro f e h
    simp only [plenumref10_May_env, Prod.mk.injEq, List.mem_cons, List.not_mem_nil, or_false] at h
    obtain ⟨rfl, rfl⟩ := h
    · exact plenumref10_Fits_ok m) (f := 37) (c := plenumref10_May_c) Tryd.func37 rfl (by kernel_rfl) _ rfl Tryd.ntmps37 (Nat.le_of_ble_eq_true rfl) plenumref10_May_h h
  · cases h
noncomputable def plenumref10_All_c : Code := (Tryd.f40.body).getD .skip
def plenumref10_All_h : Hint := (.two .n (.two .n (.join [3] (.two .n (.one (.lp [(3, ty_api_Item, 5)] [1, 3, 4] [3] (.two (.two .n (.two .n .n)) (.two (.one .n) .n))))) (.two .n .n))))
noncomputable def plenumref10_All_env (m : Nat) : Env := []
noncomputable abbrev plenumref10_All_fin : KO (AV × List AObj) := tellFK Tryd.prog [.tmp 2]
noncomputable def plenumref10_All_r1 (m : Nat) (s : ASt) : RO := joinW Tryd.prog GG (plenumref10_All_env m) m 16 (cdR (cdR (cdR plenumref10_All_c))) plenumref10_All_h.r.r.r s (plenumref10_All_fin)
noncomputable def plenumref10_All_b1 (m : Nat) (s : ASt) (kc : ASt → RO) (kx : KO (AV × List AObj)) : RO := bodyW Tryd.prog GG (plenumref10_All_env m) m 16 (cdL (cdL (cdR (cdL (cdR (cdR plenumref10_All_c)))))) plenumref10_All_h.r.r.l.r.c.c [1, 3, 4] [3] s kc kx
noncomputable def plenumref10_All (m : Nat) (t0 : AV) : RO := exec Tryd.prog GG (plenumref10_All_env m) m 16 plenumref10_All_c plenumref10_All_h ⟨[], argsT 0 [t0]⟩ (plenumref10_All_fin)
theorem plenumref10_All_r1_eq (m : Nat) (H : List AObj) (t3 : AV) : plenumref10_All_r1 m ⟨H, [(3, t3)]⟩ =
  tellK H (ro H t3) := by
  refine (joinW_eq Tryd.prog GG (plenumref10_All_env m) m 16 (cdR (cdR (cdR plenumref10_All_c))) plenumref10_All_h.r.r.r ⟨H, [(3, t3)]⟩ (plenumref10_All_fin)).trans ?_
  kernel_rfl
theorem plenumref10_All_b1_eq (m : Nat) (H : List AObj) (t1 t3 t4 : AV) (kc : ASt → RO) (kx : KO (AV × List AObj)) : plenumref10_All_b1 m ⟨H, [(1, t1), (3, t3), (4, t4)]⟩ kc kx =
  binE none false false .lss t4 (V (.int .i64 16)) fun t6 =>
  condE t6 (
   fieldE (some (0, 18)) t1 fun t11 =>
   idxPE 16 1 t11 t4 fun t12 =>
   loadE 1 H t12 fun t13 =>
   appE (some (ty_api_Item, 5)) H t3 t13 fun t14 H2 =>
   binE none false false .add t4 (V (.int .i64 1)) fun t8 =>
   backE H.length H2 [(1, t1), (3, t14), (4, t8)] kc) (
   kx (.exit 0) ⟨H, [(3, t3)]⟩) := by
  refine (bodyW_eq Tryd.prog GG (plenumref10_All_env m) m 16 (cdL (cdL (cdR (cdL (cdR (cdR plenumref10_All_c)))))) plenumref10_All_h.r.r.l.r.c.c [1, 3, 4] [3] ⟨H, [(1, t1), (3, t3), (4, t4)]⟩ kc kx).trans ?_
  kernel_rfl
theorem plenumref10_All_eq (m : Nat) (t0 : AV) : plenumref10_All m t0 =
  boxE ty_api_Trunk [] t0 fun t1 H1 =>
  rowE (V (.slice none 0 0)) ty_api_Item 5 H1 fun t3 H2 =>
  iterC m (plenumref10_All_b1 m) ⟨H2, [(1, t1), (3, t3), (4, (V (.int .i64 0)))]⟩ (blockX 0 (seqX (fun s => plenumref10_All_r1 m ⟨s.H, [(3, gt s.T 3)]⟩) (plenumref10_All_fin))) := by
  refine (tellX Tryd.prog GG (plenumref10_All_env m) m 16 plenumref10_All_c plenumref10_All_h ⟨[], argsT 0 [t0]⟩ [.tmp 2]).trans ?_
  kernel_rfl
noncomputable def plenumref10_All_t (m : Nat) : List AV → RO | [t0] => plenumref10_All m t0 | _ => none
theorem plenumref10_All_ok (m : Nat) : ∀ args X H', plenumref10_All_t m args = some (X, H') → ACp Tryd.prog GG 40 args X := by
  intro args X H' h
  unfold plenumref10_All_t at h
  split at h
  · exact tell_okK MIX (by intro f e h; cases h) (f := 40) (c := plenumref10_All_c) Tryd.func40 rfl (by kernel_rfl) _ rfl Tryd.ntmps40 (Nat.le_of_ble_eq_true rfl) plenumref10_All_h h
  · cases h
noncomputable def plenumref10_Same_c : Code := (Tryd.f31.body).getD .skip
def plenumref10_Same_h : Hint := (.two .n (.join [] (.two .n (.one (.lp [] [2, 3, 5] [4] (.two (.two .n (.two .n .n)) (.two (.one (.two .n (.two (.two .n .n) .n))) .n))))) (.two .n .n)))
noncomputable def plenumref10_Same_env (m : Nat) : Env := [(24, .tell (plenumref09_Same_t m))]
noncomputable abbrev plenumref10_Same_fin : KO (AV × List AObj) := tellFK Tryd.prog [.tmp 4]
noncomputable def plenumref10_Same_r1 (m : Nat) (s : ASt) : RO := joinW Tryd.prog GG (plenumref10_Same_env m) m 31 (cdR (cdR plenumref10_Same_c)) plenumref10_Same_h.r.r s (plenumref10_Same_fin)
noncomputable def plenumref10_Same_b1 (m : Nat) (s : ASt) (kc : ASt → RO) (kx : KO (AV × List AObj)) : RO := bodyW Tryd.prog GG (plenumref10_Same_env m) m 31 (cdL (cdL (cdR (cdL (cdR plenumref10_Same_c))))) plenumref10_Same_h.r.l.r.c.c [2, 3, 5] [4] s kc kx
noncomputable def plenumref10_Same (m : Nat) (t0 t1 : AV) : RO := exec Tryd.prog GG (plenumref10_Same_env m) m 31 plenumref10_Same_c plenumref10_Same_h ⟨[], argsT 0 [t0, t1]⟩ (plenumref10_Same_fin)
theorem plenumref10_Same_b1_eq (m : Nat) (H : List AObj) (t2 t3 t5 : AV) (kc : ASt → RO) (kx : KO (AV × List AObj)) : plenumref10_Same_b1 m ⟨H, [(2, t2), (3, t3), (5, t5)]⟩ kc kx =
  binE none false false .lss t5 (V (.int .i64 16)) fun t7 =>
  condE t7 (
   fieldE (some (16, 18)) t2 fun t11 =>
   idxPE 16 1 t11 t5 fun t12 =>
   loadE 1 H t12 fun t13 =>
   fieldE (some (16, 18)) t3 fun t15 =>
   idxPE 16 1 t15 t5 fun t16 =>
   loadE 1 H t16 fun t17 =>
   binE none false false .neq t13 t17 fun t18 =>
   condE t18 (
    kx .ret ⟨H, [(4, (V (.bool false)))]⟩) (
    fieldE (some (0, 18)) t2 fun t21 =>
    idxPE 16 1 t21 t5 fun t22 =>
    loadE 1 H t22 fun t23 =>
    fieldE (some (0, 18)) t3 fun t25 =>
    idxPE 16 1 t25 t5 fun t26 =>
    loadE 1 H t26 fun t27 =>
    tellE (plenumref09_Same_t m [(ro H t23), (ro H t27)]) [(ro H t23), (ro H t27)] fun t28 =>
    unE .not t28 fun t29 =>
    condE t29 (
    kx .ret ⟨H, [(4, (V (.bool false)))]⟩) (
    binE none false false .add t5 (V (.int .i64 1)) fun t9 =>
    backE H.length H [(2, t2), (3, t3), (5, t9)] kc))) (
   kx (.exit 0) ⟨H, [(4, .nil)]⟩) := by
  refine (bodyW_eq Tryd.prog GG (plenumref10_Same_env m) m 31 (cdL (cdL (cdR (cdL (cdR plenumref10_Same_c))))) plenumref10_Same_h.r.l.r.c.c [2, 3, 5] [4] ⟨H, [(2, t2), (3, t3), (5, t5)]⟩ kc kx).trans ?_
  kernel_rfl
theorem plenumref10_Same_eq (m : Nat) (t0 t1 : AV) : plenumref10_Same m t0 t1 =
  boxE ty_api_Trunk [] t0 fun t2 H1 =>
  boxE ty_api_Trunk H1 t1 fun t3 H2 =>
  iterC m (plenumref10_Same_b1 m) ⟨H2, [(2, t2), (3, t3), (5, (V (.int .i64 0)))]⟩ (blockX 0 (seqX (fun s => plenumref10_Same_r1 m ⟨s.H, []⟩) (plenumref10_Same_fin))) := by
  refine (tellX Tryd.prog GG (plenumref10_Same_env m) m 31 plenumref10_Same_c plenumref10_Same_h ⟨[], argsT 0 [t0, t1]⟩ [.tmp 4]).trans ?_
  kernel_rfl
noncomputable def plenumref10_Same_t (m : Nat) : List AV → RO | [t0, t1] => plenumref10_Same m t0 t1 | _ => none
theorem plenumref10_Same_ok (m : Nat) : ∀ args X H', plenumref10_Same_t m args = some (X, H') → ACp Tryd.prog GG 31 args X := by
  intro args X H' h
  unfold plenumref10_Same_t at h
  split at h
  · exact tell_okK MIX (by
    intro f e h
    simp only [plenumref10_Same_env, Prod.mk.injEq, List.mem_cons, List.not_mem_nil, or_false] at h
    obtain ⟨rfl, rfl⟩ := h
    · exact plenumref09_Same_ok m) (f := 31) (c := plenumref10_Same_c) Tryd.func31 rfl (by kernel_rfl) _ rfl Tryd.ntmps31 (Nat.le_of_ble_eq_true rfl) plenumref10_Same_h h
  · cases h
noncomputable def store_within_c : Code := (Tryd.f34.body).getD .skip
def store_within_h : Hint := (.two .n (.two .n .n))
noncomputable def store_within_env (m : Nat) : Env := []
noncomputable abbrev store_within_fin : KO (AV × List AObj) := tellFK Tryd.prog [.tmp 4]
noncomputable def store_within (m : Nat) (t0 t1 : AV) : RO := exec Tryd.prog GG (store_within_env m) m 12 store_within_c store_within_h ⟨[], argsT 0 [t0, t1]⟩ (store_within_fin)
theorem store_within_eq (m : Nat) (t0 t1 : AV) : store_within m t0 t1 =
  binE none false false .geq t0 (V (.int .i64 0)) fun t6 =>
  condE t6 (
   binE none false false .leq t0 t1 fun t10 =>
   tellK [] (ro [] t10)) (
   tellK [] (ro [] (V (.bool false)))) := by
  refine (tellX Tryd.prog GG (store_within_env m) m 12 store_within_c store_within_h ⟨[], argsT 0 [t0, t1]⟩ [.tmp 4]).trans ?_
  kernel_rfl
noncomputable def store_within_t (m : Nat) : List AV → RO | [t0, t1] => store_within m t0 t1 | _ => none
theorem store_within_ok (m : Nat) : ∀ args X H', store_within_t m args = some (X, H') → ACp Tryd.prog GG 34 args X := by
  intro args X H' h
  unfold store_within_t at h
  split at h
  · exact tell_okK MIX (by intro f e h; cases h) (f := 34) (c := store_within_c) Tryd.func34 rfl (by kernel_rfl) _ rfl Tryd.ntmps34 (Nat.le_of_ble_eq_true rfl) store_within_h h
  · cases h
noncomputable def store_May_c : Code := (Tryd.f25.body).getD .skip
def store_May_h : Hint := (.two .n (.join [1] (.two .n (.two (.two .n .n) .n)) (.join [1] (.two .n (.one (.lp [] [1, 29, 30] [1, 2] (.two .n (.two (.two .n .n) (.two (.one (.two .n (.two .n (.two (.two .n .n) .n)))) .n)))))) (.two .n .n))))
noncomputable def store_May_env (m : Nat) : Env := [(33, .tell (trunk_May_t m)), (34, .tell (store_within_t m)), (35, .tell (trunk_Weight_t m)), (36, .tell (trunk_Count_t m))]
noncomputable abbrev store_May_fin : KO (AV × List AObj) := tellFK Tryd.prog [.tmp 2]
noncomputable def store_May_r2 (m : Nat) (s : ASt) : RO := joinW Tryd.prog GG (store_May_env m) m 52 (cdR (cdR (cdR store_May_c))) store_May_h.r.r.r s (store_May_fin)
noncomputable def store_May_b1 (m : Nat) (s : ASt) (kc : ASt → RO) (kx : KO (AV × List AObj)) : RO := bodyW Tryd.prog GG (store_May_env m) m 52 (cdL (cdL (cdR (cdL (cdR (cdR store_May_c)))))) store_May_h.r.r.l.r.c.c [1, 29, 30] [1, 2] s kc kx
noncomputable def store_May_r1 (m : Nat) (s : ASt) : RO := joinW Tryd.prog GG (store_May_env m) m 52 (cdR (cdR store_May_c)) store_May_h.r.r s (store_May_fin)
noncomputable def store_May (m : Nat) (t0 : AV) : RO := exec Tryd.prog GG (store_May_env m) m 52 store_May_c store_May_h ⟨[], argsT 0 [t0]⟩ (store_May_fin)
theorem store_May_r2_eq (m : Nat) (H : List AObj) (t1 : AV) : store_May_r2 m ⟨H, [(1, t1)]⟩ =
  fieldE (some (0, 34)) t1 fun t38 =>
  loadE 34 H t38 fun t39 =>
  tellE (trunk_Weight_t m [(ro H t39)]) [(ro H t39)] fun t40 =>
  fieldE (some (33, 1)) t1 fun t41 =>
  loadE 1 H t41 fun t42 =>
  binE none false false .leq t40 t42 fun t43 =>
  condE t43 (
   fieldE (some (0, 34)) t1 fun t45 =>
   loadE 34 H t45 fun t46 =>
   tellE (trunk_Count_t m [(ro H t46)]) [(ro H t46)] fun t47 =>
   fieldE (some (34, 1)) t1 fun t48 =>
   loadE 1 H t48 fun t49 =>
   binE none false false .leq t47 t49 fun t50 =>
   tellK H (ro H t50)) (
   tellK H (ro H (V (.bool false)))) := by
  refine (joinW_eq Tryd.prog GG (store_May_env m) m 52 (cdR (cdR (cdR store_May_c))) store_May_h.r.r.r ⟨H, [(1, t1)]⟩ (store_May_fin)).trans ?_
  kernel_rfl
theorem store_May_b1_eq (m : Nat) (H : List AObj) (t1 t29 t30 : AV) (kc : ASt → RO) (kx : KO (AV × List AObj)) : store_May_b1 m ⟨H, [(1, t1), (29, t29), (30, t30)]⟩ kc kx =
  binE none false false .lss t30 (V (.int .i64 16)) fun t31 =>
  condE t31 (
   idxVE false (some (16, 1)) t29 t30 fun t32 =>
   fieldE (some (32, 1)) t1 fun t34 =>
   loadE 1 H t34 fun t35 =>
   binE none false false .gtr t32 t35 fun t36 =>
   condE t36 (
    kx .ret ⟨H, [(1, t1), (2, (V (.bool false)))]⟩) (
    binE none false false .add t30 (V (.int .i64 1)) fun t37 =>
    backE H.length H [(1, t1), (29, t29), (30, t37)] kc)) (
   kx (.exit 0) ⟨H, [(1, t1), (2, .nil)]⟩) := by
  refine (bodyW_eq Tryd.prog GG (store_May_env m) m 52 (cdL (cdL (cdR (cdL (cdR (cdR store_May_c)))))) store_May_h.r.r.l.r.c.c [1, 29, 30] [1, 2] ⟨H, [(1, t1), (29, t29), (30, t30)]⟩ kc kx).trans ?_
  kernel_rfl
theorem store_May_r1_eq (m : Nat) (H : List AObj) (t1 : AV) : store_May_r1 m ⟨H, [(1, t1)]⟩ =
  fieldE (some (0, 34)) t1 fun t27 =>
  fieldE (some (16, 18)) t27 fun t28 =>
  loadE 18 H t28 fun t29 =>
  iterC m (store_May_b1 m) ⟨H, [(1, t1), (29, t29), (30, (V (.int .i64 0)))]⟩ (blockX 0 (seqX (fun s => store_May_r2 m ⟨s.H, [(1, gt s.T 1)]⟩) (store_May_fin))) := by
  refine (joinW_eq Tryd.prog GG (store_May_env m) m 52 (cdR (cdR store_May_c)) store_May_h.r.r ⟨H, [(1, t1)]⟩ (store_May_fin)).trans ?_
  kernel_rfl
theorem store_May_eq (m : Nat) (t0 : AV) : store_May m t0 =
  boxE ty_api_Store [] t0 fun t1 H1 =>
  fieldE (some (0, 34)) t1 fun t5 =>
  loadE 34 H1 t5 fun t6 =>
  tellE (trunk_May_t m [(ro H1 t6)]) [(ro H1 t6)] fun t7 =>
  unE .not t7 fun t8 =>
  condE t8 (
   tellK H1 (ro H1 (V (.bool false)))) (
   fieldE (some (32, 1)) t1 fun t10 =>
   loadE 1 H1 t10 fun t11 =>
   tellE (store_within m (ro H1 t11) (V (.int .i64 2147483647))) [(ro H1 t11), (V (.int .i64 2147483647))] fun t12 =>
   unE .not t12 fun t13 =>
   condE t13 (
   tellK H1 (ro H1 (V (.bool false)))) (
   fieldE (some (33, 1)) t1 fun t16 =>
   loadE 1 H1 t16 fun t17 =>
   tellE (store_within m (ro H1 t17) (V (.int .i64 65536))) [(ro H1 t17), (V (.int .i64 65536))] fun t18 =>
   unE .not t18 fun t19 =>
   condE t19 (
   tellK H1 (ro H1 (V (.bool false)))) (
   fieldE (some (34, 1)) t1 fun t22 =>
   loadE 1 H1 t22 fun t23 =>
   tellE (store_within m (ro H1 t23) (V (.int .i64 1024))) [(ro H1 t23), (V (.int .i64 1024))] fun t24 =>
   unE .not t24 fun t25 =>
   condE t25 (
   tellK H1 (ro H1 (V (.bool false)))) (
   store_May_r1 m ⟨H1, [(1, t1)]⟩)))) := by
  refine (tellX Tryd.prog GG (store_May_env m) m 52 store_May_c store_May_h ⟨[], argsT 0 [t0]⟩ [.tmp 2]).trans ?_
  kernel_rfl
noncomputable def store_May_t (m : Nat) : List AV → RO | [t0] => store_May m t0 | _ => none
theorem store_May_ok (m : Nat) : ∀ args X H', store_May_t m args = some (X, H') → ACp Tryd.prog GG 25 args X := by
  intro args X H' h
  unfold store_May_t at h
  split at h
  · exact tell_okK MIX (by
    intro f e h
    simp only [store_May_env, Prod.mk.injEq, List.mem_cons, List.not_mem_nil, or_false] at h
    rcases h with ⟨rfl, rfl⟩ | ⟨rfl, rfl⟩ | ⟨rfl, rfl⟩ | ⟨rfl, rfl⟩
    · exact trunk_May_ok m
    · exact store_within_ok m
    · exact trunk_Weight_ok m
    · exact trunk_Count_ok m) (f := 25) (c := store_May_c) Tryd.func25 rfl (by kernel_rfl) _ rfl Tryd.ntmps25 (Nat.le_of_ble_eq_true rfl) store_May_h h
  · cases h
noncomputable def plenumlaw13_Few_c : Code := (Tryd.f12.body).getD .skip
def plenumlaw13_Few_h : Hint := (.two .n (.two .n (.two .n .n)))
noncomputable def plenumlaw13_Few_env (m : Nat) : Env := [(27, .tell (plenumlaw10_Few_t m))]
noncomputable abbrev plenumlaw13_Few_fin : KO (AV × List AObj) := tellFK Tryd.prog [.cell 2 37]
noncomputable def plenumlaw13_Few (m : Nat) (t0 : AV) : RO := exec Tryd.prog GG (plenumlaw13_Few_env m) m 8 plenumlaw13_Few_c plenumlaw13_Few_h ⟨[], argsT 0 [t0]⟩ (plenumlaw13_Few_fin)
theorem plenumlaw13_Few_eq (m : Nat) (t0 : AV) : plenumlaw13_Few m t0 =
  boxE ty_api_Store [] t0 fun t1 H1 =>
  allocE (some zc_api_Store) ty_api_Store H1 fun t2 H2 =>
  fieldE (some (0, 34)) t1 fun t3 =>
  loadE 34 H2 t3 fun t4 =>
  tellE (plenumlaw10_Few_t m [(ro H2 t4)]) [(ro H2 t4)] fun t5 =>
  fieldE (some (0, 34)) t1 fun t6 =>
  storeE 34 H2 t6 t5 fun H3 =>
  loadE 37 H3 t1 fun t7 =>
  storeE 37 H3 t2 t7 fun H4 =>
  loadE 37 H4 t2 fun t9000 =>
  tellK H4 (ro H4 t9000) := by
  refine (tellX Tryd.prog GG (plenumlaw13_Few_env m) m 8 plenumlaw13_Few_c plenumlaw13_Few_h ⟨[], argsT 0 [t0]⟩ [.cell 2 37]).trans ?_
  kernel_rfl
noncomputable def plenumlaw13_Few_t (m : Nat) : List AV → RO | [t0] => plenumlaw13_Few m t0 | _ => none
theorem plenumlaw13_Few_ok (m : Nat) : ∀ args X H', plenumlaw13_Few_t m args = some (X, H') → ACp Tryd.prog GG 12 args X := by
  intro args X H' h
  unfold plenumlaw13_Few_t at h
  split at h
  · exact tell_okK MIX (by
    intro f e h
    simp only [plenumlaw13_Few_env, Prod.mk.injEq, List.mem_cons, List.not_mem_nil, or_false] at h
    obtain ⟨rfl, rfl⟩ := h
    · exact plenumlaw10_Few_ok m) (f := 12) (c := plenumlaw13_Few_c) Tryd.func12 rfl (by kernel_rfl) _ rfl Tryd.ntmps12 (Nat.le_of_ble_eq_true rfl) plenumlaw13_Few_h h
  · cases h
noncomputable def plenumref13_in_c : Code := (Tryd.f38.body).getD .skip
def plenumref13_in_h : Hint := (.two .n (.two .n .n))
noncomputable def plenumref13_in_env (m : Nat) : Env := []
noncomputable abbrev plenumref13_in_fin : KO (AV × List AObj) := tellFK Tryd.prog [.tmp 4]
noncomputable def plenumref13_in (m : Nat) (t0 t1 : AV) : RO := exec Tryd.prog GG (plenumref13_in_env m) m 12 plenumref13_in_c plenumref13_in_h ⟨[], argsT 0 [t0, t1]⟩ (plenumref13_in_fin)
theorem plenumref13_in_eq (m : Nat) (t0 t1 : AV) : plenumref13_in m t0 t1 =
  binE none false false .leq (V (.int .i64 0)) t0 fun t6 =>
  condE t6 (
   binE none false false .leq t0 t1 fun t10 =>
   tellK [] (ro [] t10)) (
   tellK [] (ro [] (V (.bool false)))) := by
  refine (tellX Tryd.prog GG (plenumref13_in_env m) m 12 plenumref13_in_c plenumref13_in_h ⟨[], argsT 0 [t0, t1]⟩ [.tmp 4]).trans ?_
  kernel_rfl
noncomputable def plenumref13_in_t (m : Nat) : List AV → RO | [t0, t1] => plenumref13_in m t0 t1 | _ => none
theorem plenumref13_in_ok (m : Nat) : ∀ args X H', plenumref13_in_t m args = some (X, H') → ACp Tryd.prog GG 38 args X := by
  intro args X H' h
  unfold plenumref13_in_t at h
  split at h
  · exact tell_okK MIX (by intro f e h; cases h) (f := 38) (c := plenumref13_in_c) Tryd.func38 rfl (by kernel_rfl) _ rfl Tryd.ntmps38 (Nat.le_of_ble_eq_true rfl) plenumref13_in_h h
  · cases h
noncomputable def plenumref13_Weight_c : Code := (Tryd.f39.body).getD .skip
def plenumref13_Weight_h : Hint := (.two .n (.two .n (.two .n (.join [3] (.two .n (.one (.lp [] [3, 4, 5] [3] (.two (.two .n (.two .n .n)) (.two (.one .n) .n))))) (.two .n .n)))))
noncomputable def plenumref13_Weight_env (m : Nat) : Env := [(40, .tell (plenumref10_All_t m)), (48, .tell (plenumref07_Encode_t m))]
noncomputable abbrev plenumref13_Weight_fin : KO (AV × List AObj) := tellFK Tryd.prog [.tmp 2]
noncomputable def plenumref13_Weight_r1 (m : Nat) (s : ASt) : RO := joinW Tryd.prog GG (plenumref13_Weight_env m) m 31 (cdR (cdR (cdR (cdR plenumref13_Weight_c)))) plenumref13_Weight_h.r.r.r.r s (plenumref13_Weight_fin)
noncomputable def plenumref13_Weight_b1 (m : Nat) (s : ASt) (kc : ASt → RO) (kx : KO (AV × List AObj)) : RO := bodyW Tryd.prog GG (plenumref13_Weight_env m) m 31 (cdL (cdL (cdR (cdL (cdR (cdR (cdR plenumref13_Weight_c))))))) plenumref13_Weight_h.r.r.r.l.r.c.c [3, 4, 5] [3] s kc kx
noncomputable def plenumref13_Weight (m : Nat) (t0 : AV) : RO := exec Tryd.prog GG (plenumref13_Weight_env m) m 31 plenumref13_Weight_c plenumref13_Weight_h ⟨[], argsT 0 [t0]⟩ (plenumref13_Weight_fin)
theorem plenumref13_Weight_r1_eq (m : Nat) (H : List AObj) (t3 : AV) : plenumref13_Weight_r1 m ⟨H, [(3, t3)]⟩ =
  tellK H (ro H t3) := by
  refine (joinW_eq Tryd.prog GG (plenumref13_Weight_env m) m 31 (cdR (cdR (cdR (cdR plenumref13_Weight_c)))) plenumref13_Weight_h.r.r.r.r ⟨H, [(3, t3)]⟩ (plenumref13_Weight_fin)).trans ?_
  kernel_rfl
theorem plenumref13_Weight_b1_eq (m : Nat) (H : List AObj) (t3 t4 t5 : AV) (kc : ASt → RO) (kx : KO (AV × List AObj)) : plenumref13_Weight_b1 m ⟨H, [(3, t3), (4, t4), (5, t5)]⟩ kc kx =
  lenE false true H t4 fun t10 =>
  binE none false false .lss t5 t10 fun t11 =>
  condE t11 (
   idxSE 7 H t4 t5 fun t17 =>
   fieldE (some (0, 1)) t17 fun t18 =>
   loadE 1 H t18 fun t19 =>
   lenE true false H t19 fun t20 =>
   idxSE 7 H t4 t5 fun t23 =>
   fieldE (some (1, 5)) t23 fun t24 =>
   loadE 5 H t24 fun t25 =>
   tellE (plenumref07_Encode_t m [(ro H t25)]) [(ro H t25)] fun t26 =>
   lenE true false H t26 fun t27 =>
   binE none false false .add t20 t27 fun t28 =>
   binE none false false .add t3 t28 fun t29 =>
   binE none false false .add t5 (V (.int .i64 1)) fun t13 =>
   backE H.length H [(3, t29), (4, t4), (5, t13)] kc) (
   kx (.exit 0) ⟨H, [(3, t3)]⟩) := by
  refine (bodyW_eq Tryd.prog GG (plenumref13_Weight_env m) m 31 (cdL (cdL (cdR (cdL (cdR (cdR (cdR plenumref13_Weight_c))))))) plenumref13_Weight_h.r.r.r.l.r.c.c [3, 4, 5] [3] ⟨H, [(3, t3), (4, t4), (5, t5)]⟩ kc kx).trans ?_
  kernel_rfl
theorem plenumref13_Weight_eq (m : Nat) (t0 : AV) : plenumref13_Weight m t0 =
  boxE ty_api_Trunk [] t0 fun t1 H1 =>
  loadE 34 H1 t1 fun t6 =>
  tellE (plenumref10_All m (ro H1 t6)) [(ro H1 t6)] fun t7 =>
  iterC m (plenumref13_Weight_b1 m) ⟨H1, [(3, (V (.int .i64 0))), (4, t7), (5, (V (.int .i64 0)))]⟩ (blockX 0 (seqX (fun s => plenumref13_Weight_r1 m ⟨s.H, [(3, gt s.T 3)]⟩) (plenumref13_Weight_fin))) := by
  refine (tellX Tryd.prog GG (plenumref13_Weight_env m) m 31 plenumref13_Weight_c plenumref13_Weight_h ⟨[], argsT 0 [t0]⟩ [.tmp 2]).trans ?_
  kernel_rfl
noncomputable def plenumref13_Weight_t (m : Nat) : List AV → RO | [t0] => plenumref13_Weight m t0 | _ => none
theorem plenumref13_Weight_ok (m : Nat) : ∀ args X H', plenumref13_Weight_t m args = some (X, H') → ACp Tryd.prog GG 39 args X := by
  intro args X H' h
  unfold plenumref13_Weight_t at h
  split at h
  · exact tell_okK MIX (by
    intro f e h
    simp only [plenumref13_Weight_env, Prod.mk.injEq, List.mem_cons, List.not_mem_nil, or_false] at h
    rcases h with ⟨rfl, rfl⟩ | ⟨rfl, rfl⟩
    · exact plenumref10_All_ok m
    · exact plenumref07_Encode_ok m) (f := 39) (c := plenumref13_Weight_c) Tryd.func39 rfl (by kernel_rfl) _ rfl Tryd.ntmps39 (Nat.le_of_ble_eq_true rfl) plenumref13_Weight_h h
  · cases h
noncomputable def plenumref13_May_c : Code := (Tryd.f26.body).getD .skip
def plenumref13_May_h : Hint := (.two .n (.join [1] (.two .n (.two (.two .n .n) .n)) (.join [1] (.two .n (.one (.lp [] [1, 3] [1, 2] (.two (.two .n (.two .n .n)) (.two (.one (.two .n (.two (.two .n .n) .n))) .n))))) (.two .n .n))))
noncomputable def plenumref13_May_env (m : Nat) : Env := [(37, .tell (plenumref10_May_t m)), (38, .tell (plenumref13_in_t m)), (39, .tell (plenumref13_Weight_t m)), (40, .tell (plenumref10_All_t m))]
noncomputable abbrev plenumref13_May_fin : KO (AV × List AObj) := tellFK Tryd.prog [.tmp 2]
noncomputable def plenumref13_May_r2 (m : Nat) (s : ASt) : RO := joinW Tryd.prog GG (plenumref13_May_env m) m 53 (cdR (cdR (cdR plenumref13_May_c))) plenumref13_May_h.r.r.r s (plenumref13_May_fin)
noncomputable def plenumref13_May_b1 (m : Nat) (s : ASt) (kc : ASt → RO) (kx : KO (AV × List AObj)) : RO := bodyW Tryd.prog GG (plenumref13_May_env m) m 53 (cdL (cdL (cdR (cdL (cdR (cdR plenumref13_May_c)))))) plenumref13_May_h.r.r.l.r.c.c [1, 3] [1, 2] s kc kx
noncomputable def plenumref13_May_r1 (m : Nat) (s : ASt) : RO := joinW Tryd.prog GG (plenumref13_May_env m) m 53 (cdR (cdR plenumref13_May_c)) plenumref13_May_h.r.r s (plenumref13_May_fin)
noncomputable def plenumref13_May (m : Nat) (t0 : AV) : RO := exec Tryd.prog GG (plenumref13_May_env m) m 53 plenumref13_May_c plenumref13_May_h ⟨[], argsT 0 [t0]⟩ (plenumref13_May_fin)
theorem plenumref13_May_r2_eq (m : Nat) (H : List AObj) (t1 : AV) : plenumref13_May_r2 m ⟨H, [(1, t1)]⟩ =
  fieldE (some (0, 34)) t1 fun t38 =>
  loadE 34 H t38 fun t39 =>
  tellE (plenumref13_Weight m (ro H t39)) [(ro H t39)] fun t40 =>
  fieldE (some (33, 1)) t1 fun t41 =>
  loadE 1 H t41 fun t42 =>
  binE none false false .leq t40 t42 fun t43 =>
  condE t43 (
   fieldE (some (0, 34)) t1 fun t45 =>
   loadE 34 H t45 fun t46 =>
   tellE (plenumref10_All m (ro H t46)) [(ro H t46)] fun t47 =>
   lenE false true H t47 fun t48 =>
   fieldE (some (34, 1)) t1 fun t49 =>
   loadE 1 H t49 fun t50 =>
   binE none false false .leq t48 t50 fun t51 =>
   tellK H (ro H t51)) (
   tellK H (ro H (V (.bool false)))) := by
  refine (joinW_eq Tryd.prog GG (plenumref13_May_env m) m 53 (cdR (cdR (cdR plenumref13_May_c))) plenumref13_May_h.r.r.r ⟨H, [(1, t1)]⟩ (plenumref13_May_fin)).trans ?_
  kernel_rfl
theorem plenumref13_May_b1_eq (m : Nat) (H : List AObj) (t1 t3 : AV) (kc : ASt → RO) (kx : KO (AV × List AObj)) : plenumref13_May_b1 m ⟨H, [(1, t1), (3, t3)]⟩ kc kx =
  binE none false false .lss t3 (V (.int .i64 16)) fun t27 =>
  condE t27 (
   fieldE (some (0, 34)) t1 fun t31 =>
   fieldE (some (16, 18)) t31 fun t32 =>
   idxPE 16 1 t32 t3 fun t33 =>
   loadE 1 H t33 fun t34 =>
   fieldE (some (32, 1)) t1 fun t35 =>
   loadE 1 H t35 fun t36 =>
   binE none false false .gtr t34 t36 fun t37 =>
   condE t37 (
    kx .ret ⟨H, [(1, t1), (2, (V (.bool false)))]⟩) (
    binE none false false .add t3 (V (.int .i64 1)) fun t29 =>
    backE H.length H [(1, t1), (3, t29)] kc)) (
   kx (.exit 0) ⟨H, [(1, t1), (2, .nil)]⟩) := by
  refine (bodyW_eq Tryd.prog GG (plenumref13_May_env m) m 53 (cdL (cdL (cdR (cdL (cdR (cdR plenumref13_May_c)))))) plenumref13_May_h.r.r.l.r.c.c [1, 3] [1, 2] ⟨H, [(1, t1), (3, t3)]⟩ kc kx).trans ?_
  kernel_rfl
theorem plenumref13_May_r1_eq (m : Nat) (H : List AObj) (t1 : AV) : plenumref13_May_r1 m ⟨H, [(1, t1)]⟩ =
  iterC m (plenumref13_May_b1 m) ⟨H, [(1, t1), (3, (V (.int .i64 0)))]⟩ (blockX 0 (seqX (fun s => plenumref13_May_r2 m ⟨s.H, [(1, gt s.T 1)]⟩) (plenumref13_May_fin))) := by
  refine (joinW_eq Tryd.prog GG (plenumref13_May_env m) m 53 (cdR (cdR plenumref13_May_c)) plenumref13_May_h.r.r ⟨H, [(1, t1)]⟩ (plenumref13_May_fin)).trans ?_
  kernel_rfl
theorem plenumref13_May_eq (m : Nat) (t0 : AV) : plenumref13_May m t0 =
  boxE ty_api_Store [] t0 fun t1 H1 =>
  fieldE (some (0, 34)) t1 fun t4 =>
  loadE 34 H1 t4 fun t5 =>
  tellE (plenumref10_May m (ro H1 t5)) [(ro H1 t5)] fun t6 =>
  unE .not t6 fun t7 =>
  condE t7 (
   tellK H1 (ro H1 (V (.bool false)))) (
   fieldE (some (32, 1)) t1 fun t9 =>
   loadE 1 H1 t9 fun t10 =>
   tellE (plenumref13_in m (ro H1 t10) (V (.int .i64 2147483647))) [(ro H1 t10), (V (.int .i64 2147483647))] fun t11 =>
   unE .not t11 fun t12 =>
   condE t12 (
   tellK H1 (ro H1 (V (.bool false)))) (
   fieldE (some (33, 1)) t1 fun t15 =>
   loadE 1 H1 t15 fun t16 =>
   tellE (plenumref13_in m (ro H1 t16) (V (.int .i64 65536))) [(ro H1 t16), (V (.int .i64 65536))] fun t17 =>
   unE .not t17 fun t18 =>
   condE t18 (
   tellK H1 (ro H1 (V (.bool false)))) (
   fieldE (some (34, 1)) t1 fun t21 =>
   loadE 1 H1 t21 fun t22 =>
   tellE (plenumref13_in m (ro H1 t22) (V (.int .i64 1024))) [(ro H1 t22), (V (.int .i64 1024))] fun t23 =>
   unE .not t23 fun t24 =>
   condE t24 (
   tellK H1 (ro H1 (V (.bool false)))) (
   plenumref13_May_r1 m ⟨H1, [(1, t1)]⟩)))) := by
  refine (tellX Tryd.prog GG (plenumref13_May_env m) m 53 plenumref13_May_c plenumref13_May_h ⟨[], argsT 0 [t0]⟩ [.tmp 2]).trans ?_
  kernel_rfl
noncomputable def plenumref13_May_t (m : Nat) : List AV → RO | [t0] => plenumref13_May m t0 | _ => none
theorem plenumref13_May_ok (m : Nat) : ∀ args X H', plenumref13_May_t m args = some (X, H') → ACp Tryd.prog GG 26 args X := by
  intro args X H' h
  unfold plenumref13_May_t at h
  split at h
  · exact tell_okK MIX (by
    intro f e h
    simp only [plenumref13_May_env, Prod.mk.injEq, List.mem_cons, List.not_mem_nil, or_false] at h
    rcases h with ⟨rfl, rfl⟩ | ⟨rfl, rfl⟩ | ⟨rfl, rfl⟩ | ⟨rfl, rfl⟩
    · exact plenumref10_May_ok m
    · exact plenumref13_in_ok m
    · exact plenumref13_Weight_ok m
    · exact plenumref10_All_ok m) (f := 26) (c := plenumref13_May_c) Tryd.func26 rfl (by kernel_rfl) _ rfl Tryd.ntmps26 (Nat.le_of_ble_eq_true rfl) plenumref13_May_h h
  · cases h
noncomputable def plenumref13_Same_c : Code := (Tryd.f19.body).getD .skip
def plenumref13_Same_h : Hint := (.two .n (.two .n .n))
noncomputable def plenumref13_Same_env (m : Nat) : Env := [(31, .tell (plenumref10_Same_t m))]
noncomputable abbrev plenumref13_Same_fin : KO (AV × List AObj) := tellFK Tryd.prog [.tmp 4]
noncomputable def plenumref13_Same (m : Nat) (t0 t1 : AV) : RO := exec Tryd.prog GG (plenumref13_Same_env m) m 31 plenumref13_Same_c plenumref13_Same_h ⟨[], argsT 0 [t0, t1]⟩ (plenumref13_Same_fin)
theorem plenumref13_Same_eq (m : Nat) (t0 t1 : AV) : plenumref13_Same m t0 t1 =
  boxE ty_api_Store [] t0 fun t2 H1 =>
  boxE ty_api_Store H1 t1 fun t3 H2 =>
  fieldE (some (32, 1)) t2 fun t5 =>
  loadE 1 H2 t5 fun t6 =>
  fieldE (some (32, 1)) t3 fun t7 =>
  loadE 1 H2 t7 fun t8 =>
  binE none false false .eql t6 t8 fun t9 =>
  condE t9 (
   fieldE (some (33, 1)) t2 fun t11 =>
   loadE 1 H2 t11 fun t12 =>
   fieldE (some (33, 1)) t3 fun t13 =>
   loadE 1 H2 t13 fun t14 =>
   binE none false false .eql t12 t14 fun t15 =>
   condE t15 (
   fieldE (some (34, 1)) t2 fun t18 =>
   loadE 1 H2 t18 fun t19 =>
   fieldE (some (34, 1)) t3 fun t20 =>
   loadE 1 H2 t20 fun t21 =>
   binE none false false .eql t19 t21 fun t22 =>
   condE t22 (
   fieldE (some (0, 34)) t2 fun t25 =>
   loadE 34 H2 t25 fun t26 =>
   fieldE (some (0, 34)) t3 fun t27 =>
   loadE 34 H2 t27 fun t28 =>
   tellE (plenumref10_Same m (ro H2 t26) (ro H2 t28)) [(ro H2 t26), (ro H2 t28)] fun t29 =>
   tellK H2 (ro H2 t29)) (
   tellK H2 (ro H2 (V (.bool false))))) (
   tellK H2 (ro H2 (V (.bool false))))) (
   tellK H2 (ro H2 (V (.bool false)))) := by
  refine (tellX Tryd.prog GG (plenumref13_Same_env m) m 31 plenumref13_Same_c plenumref13_Same_h ⟨[], argsT 0 [t0, t1]⟩ [.tmp 4]).trans ?_
  kernel_rfl
noncomputable def plenumref13_Same_t (m : Nat) : List AV → RO | [t0, t1] => plenumref13_Same m t0 t1 | _ => none
theorem plenumref13_Same_ok (m : Nat) : ∀ args X H', plenumref13_Same_t m args = some (X, H') → ACp Tryd.prog GG 19 args X := by
  intro args X H' h
  unfold plenumref13_Same_t at h
  split at h
  · exact tell_okK MIX (by
    intro f e h
    simp only [plenumref13_Same_env, Prod.mk.injEq, List.mem_cons, List.not_mem_nil, or_false] at h
    obtain ⟨rfl, rfl⟩ := h
    · exact plenumref10_Same_ok m) (f := 19) (c := plenumref13_Same_c) Tryd.func19 rfl (by kernel_rfl) _ rfl Tryd.ntmps19 (Nat.le_of_ble_eq_true rfl) plenumref13_Same_h h
  · cases h
noncomputable def snap_Check_c : Code := (Tryd.f9.body).getD .skip
def snap_Check_h : Hint := (.two .n (.two (.two .n (.two (.two .n .n) .n)) (.join [] (.two .n (.one (.lp [] [0, 10, 11, 12] [2, 3] (.two .n (.two (.two .n .n) (.join [0, 10, 11, 12] (.one (.two .n (.join [0, 4, 5, 10, 11, 12] (.join [0, 4, 5, 10, 11, 12, 25] .n (.two (.two .n .n) .n)) (.two (.two .n (.two .n .n)) (.two .n (.join [0, 4, 10, 11, 12, 65] .n (.two (.two .n .n) .n))))))) .n)))))) (.two .n .n))))
noncomputable def snap_Check_env (m : Nat) : Env := [(25, .tell (store_May_t m))]
noncomputable abbrev snap_Check_fin : KO (AV × List AObj) := tellFK Tryd.prog [.tmp 2, .tmp 3]
noncomputable def snap_Check_r7 (m : Nat) (n0 : Nat) (kc : ASt → RO) (kx : KO (AV × List AObj)) (s : ASt) : RO := joinW Tryd.prog GG (snap_Check_env m) m 68 (cdR (cdR (cdR (cdL (cdL (cdR (cdL (cdR (cdR snap_Check_c))))))))) snap_Check_h.r.r.l.r.c.c.r.r.r s (backW n0 [0, 10, 11, 12] [2, 3] kc kx)
noncomputable def snap_Check_r6 (m : Nat) (n0 : Nat) (kc : ASt → RO) (kx : KO (AV × List AObj)) (s : ASt) : RO := joinW Tryd.prog GG (snap_Check_env m) m 68 (cdR (cdR (cdR (cdR (cdR (cdL (cdL (cdR (cdR (cdL (cdL (cdR (cdL (cdR (cdR snap_Check_c))))))))))))))) snap_Check_h.r.r.l.r.c.c.r.r.l.c.r.r.r.r.r s (blockX 1 (seqX (fun s => snap_Check_r7 m n0 kc kx ⟨s.H, [(0, gt s.T 0), (10, gt s.T 10), (11, gt s.T 11), (12, gt s.T 12)]⟩) (backW n0 [0, 10, 11, 12] [2, 3] kc kx)))
noncomputable def snap_Check_r5 (m : Nat) (n0 : Nat) (kc : ASt → RO) (kx : KO (AV × List AObj)) (s : ASt) : RO := joinW Tryd.prog GG (snap_Check_env m) m 68 (cdR (cdR (cdR (cdL (cdL (cdR (cdL (cdR (cdR snap_Check_c))))))))) snap_Check_h.r.r.l.r.c.c.r.r.r s (backW n0 [0, 10, 11, 12] [2, 3] kc kx)
noncomputable def snap_Check_r4 (m : Nat) (n0 : Nat) (kc : ASt → RO) (kx : KO (AV × List AObj)) (s : ASt) : RO := joinW Tryd.prog GG (snap_Check_env m) m 68 (cdR (cdR (cdR (cdL (cdL (cdR (cdL (cdR (cdR snap_Check_c))))))))) snap_Check_h.r.r.l.r.c.c.r.r.r s (backW n0 [0, 10, 11, 12] [2, 3] kc kx)
noncomputable def snap_Check_r3 (m : Nat) (n0 : Nat) (kc : ASt → RO) (kx : KO (AV × List AObj)) (s : ASt) : RO := joinW Tryd.prog GG (snap_Check_env m) m 68 (cdR (cdR (cdL (cdL (cdR (cdR (cdL (cdL (cdR (cdL (cdR (cdR snap_Check_c)))))))))))) snap_Check_h.r.r.l.r.c.c.r.r.l.c.r.r s (blockX 1 (seqX (fun s => snap_Check_r5 m n0 kc kx ⟨s.H, [(0, gt s.T 0), (10, gt s.T 10), (11, gt s.T 11), (12, gt s.T 12)]⟩) (backW n0 [0, 10, 11, 12] [2, 3] kc kx)))
noncomputable def snap_Check_r2 (m : Nat) (n0 : Nat) (kc : ASt → RO) (kx : KO (AV × List AObj)) (s : ASt) : RO := joinW Tryd.prog GG (snap_Check_env m) m 68 (cdR (cdL (cdR (cdL (cdL (cdR (cdR (cdL (cdL (cdR (cdL (cdR (cdR snap_Check_c))))))))))))) snap_Check_h.r.r.l.r.c.c.r.r.l.c.r.l.r s (seqX (fun s => snap_Check_r3 m n0 kc kx ⟨s.H, [(0, gt s.T 0), (4, gt s.T 4), (5, gt s.T 5), (10, gt s.T 10), (11, gt s.T 11), (12, gt s.T 12)]⟩) (blockX 1 (seqX (fun s => snap_Check_r4 m n0 kc kx ⟨s.H, [(0, gt s.T 0), (10, gt s.T 10), (11, gt s.T 11), (12, gt s.T 12)]⟩) (backW n0 [0, 10, 11, 12] [2, 3] kc kx))))
noncomputable def snap_Check_r1 (m : Nat) (s : ASt) : RO := joinW Tryd.prog GG (snap_Check_env m) m 68 (cdR (cdR (cdR snap_Check_c))) snap_Check_h.r.r.r s (snap_Check_fin)
noncomputable def snap_Check_b1 (m : Nat) (s : ASt) (kc : ASt → RO) (kx : KO (AV × List AObj)) : RO := bodyW Tryd.prog GG (snap_Check_env m) m 68 (cdL (cdL (cdR (cdL (cdR (cdR snap_Check_c)))))) snap_Check_h.r.r.l.r.c.c [0, 10, 11, 12] [2, 3] s kc kx
noncomputable def snap_Check (m : Nat) (t0 : AV) : RO := exec Tryd.prog GG (snap_Check_env m) m 68 snap_Check_c snap_Check_h ⟨[], argsT 0 [t0]⟩ (snap_Check_fin)
theorem snap_Check_r7_eq (m : Nat) (n0 : Nat) (kc : ASt → RO) (kx : KO (AV × List AObj)) (H : List AObj) (t0 t10 t11 t12 : AV) : snap_Check_r7 m n0 kc kx ⟨H, [(0, t0), (10, t10), (11, t11), (12, t12)]⟩ =
  binE none false false .add t12 (V (.int .i64 1)) fun t67 =>
  backE n0 H [(0, t0), (10, t10), (11, t11), (12, t67)] kc := by
  refine (joinW_eq Tryd.prog GG (snap_Check_env m) m 68 (cdR (cdR (cdR (cdL (cdL (cdR (cdL (cdR (cdR snap_Check_c))))))))) snap_Check_h.r.r.l.r.c.c.r.r.r ⟨H, [(0, t0), (10, t10), (11, t11), (12, t12)]⟩ (backW n0 [0, 10, 11, 12] [2, 3] kc kx)).trans ?_
  kernel_rfl
theorem snap_Check_r6_eq (m : Nat) (n0 : Nat) (kc : ASt → RO) (kx : KO (AV × List AObj)) (H : List AObj) (t0 t4 t10 t11 t12 t65 : AV) : snap_Check_r6 m n0 kc kx ⟨H, [(0, t0), (4, t4), (10, t10), (11, t11), (12, t12), (65, t65)]⟩ =
  condE t65 (
   kx .ret ⟨H, [(2, (V (.int .i64 3))), (3, t4)]⟩) (
   snap_Check_r7 m n0 kc kx ⟨H, [(0, t0), (10, t10), (11, t11), (12, t12)]⟩) := by
  refine (joinW_eq Tryd.prog GG (snap_Check_env m) m 68 (cdR (cdR (cdR (cdR (cdR (cdL (cdL (cdR (cdR (cdL (cdL (cdR (cdL (cdR (cdR snap_Check_c))))))))))))))) snap_Check_h.r.r.l.r.c.c.r.r.l.c.r.r.r.r.r ⟨H, [(0, t0), (4, t4), (10, t10), (11, t11), (12, t12), (65, t65)]⟩ (blockX 1 (seqX (fun s => snap_Check_r7 m n0 kc kx ⟨s.H, [(0, gt s.T 0), (10, gt s.T 10), (11, gt s.T 11), (12, gt s.T 12)]⟩) (backW n0 [0, 10, 11, 12] [2, 3] kc kx)))).trans ?_
  kernel_rfl
theorem snap_Check_r5_eq (m : Nat) (n0 : Nat) (kc : ASt → RO) (kx : KO (AV × List AObj)) (H : List AObj) (t0 t10 t11 t12 : AV) : snap_Check_r5 m n0 kc kx ⟨H, [(0, t0), (10, t10), (11, t11), (12, t12)]⟩ =
  binE none false false .add t12 (V (.int .i64 1)) fun t67 =>
  backE n0 H [(0, t0), (10, t10), (11, t11), (12, t67)] kc := by
  refine (joinW_eq Tryd.prog GG (snap_Check_env m) m 68 (cdR (cdR (cdR (cdL (cdL (cdR (cdL (cdR (cdR snap_Check_c))))))))) snap_Check_h.r.r.l.r.c.c.r.r.r ⟨H, [(0, t0), (10, t10), (11, t11), (12, t12)]⟩ (backW n0 [0, 10, 11, 12] [2, 3] kc kx)).trans ?_
  kernel_rfl
theorem snap_Check_r4_eq (m : Nat) (n0 : Nat) (kc : ASt → RO) (kx : KO (AV × List AObj)) (H : List AObj) (t0 t10 t11 t12 : AV) : snap_Check_r4 m n0 kc kx ⟨H, [(0, t0), (10, t10), (11, t11), (12, t12)]⟩ =
  binE none false false .add t12 (V (.int .i64 1)) fun t67 =>
  backE n0 H [(0, t0), (10, t10), (11, t11), (12, t67)] kc := by
  refine (joinW_eq Tryd.prog GG (snap_Check_env m) m 68 (cdR (cdR (cdR (cdL (cdL (cdR (cdL (cdR (cdR snap_Check_c))))))))) snap_Check_h.r.r.l.r.c.c.r.r.r ⟨H, [(0, t0), (10, t10), (11, t11), (12, t12)]⟩ (backW n0 [0, 10, 11, 12] [2, 3] kc kx)).trans ?_
  kernel_rfl
theorem snap_Check_r3_eq (m : Nat) (n0 : Nat) (kc : ASt → RO) (kx : KO (AV × List AObj)) (H : List AObj) (t0 t4 t5 t10 t11 t12 : AV) : snap_Check_r3 m n0 kc kx ⟨H, [(0, t0), (4, t4), (5, t5), (10, t10), (11, t11), (12, t12)]⟩ =
  binE none false false .eql t4 (V (.int .i64 0)) fun t28 =>
  condE t28 (
   snap_Check_r5 m n0 kc kx ⟨H, [(0, t0), (10, t10), (11, t11), (12, t12)]⟩) (
   binE none false false .sub t4 (V (.int .i64 1)) fun t31 =>
   idxSE 38 H t0 t31 fun t32 =>
   loadE 38 H t32 fun t33 =>
   allocE (some zc_api_Snap) ty_api_Snap H fun t6 H2 =>
   storeE 38 H2 t6 t33 fun H3 =>
   fieldE (some (0, 1)) t5 fun t34 =>
   loadE 1 H3 t34 fun t35 =>
   fieldE (some (0, 1)) t6 fun t36 =>
   loadE 1 H3 t36 fun t37 =>
   binE none false false .leq t35 t37 fun t38 =>
   condE t38 (
    snap_Check_r6 m n0 kc kx ⟨H3, [(0, t0), (4, t4), (10, t10), (11, t11), (12, t12), (65, (V (.bool true)))]⟩) (
    fieldE (some (1, 37)) t5 fun t40 =>
    fieldE (some (32, 1)) t40 fun t41 =>
    loadE 1 H3 t41 fun t42 =>
    fieldE (some (1, 37)) t6 fun t43 =>
    fieldE (some (32, 1)) t43 fun t44 =>
    loadE 1 H3 t44 fun t45 =>
    binE none false false .lss t42 t45 fun t46 =>
    condE t46 (
    snap_Check_r6 m n0 kc kx ⟨H3, [(0, t0), (4, t4), (10, t10), (11, t11), (12, t12), (65, (V (.bool true)))]⟩) (
    fieldE (some (1, 37)) t5 fun t49 =>
    fieldE (some (33, 1)) t49 fun t50 =>
    loadE 1 H3 t50 fun t51 =>
    fieldE (some (1, 37)) t6 fun t52 =>
    fieldE (some (33, 1)) t52 fun t53 =>
    loadE 1 H3 t53 fun t54 =>
    binE none false false .neq t51 t54 fun t55 =>
    condE t55 (
    snap_Check_r6 m n0 kc kx ⟨H3, [(0, t0), (4, t4), (10, t10), (11, t11), (12, t12), (65, (V (.bool true)))]⟩) (
    fieldE (some (1, 37)) t5 fun t58 =>
    fieldE (some (34, 1)) t58 fun t59 =>
    loadE 1 H3 t59 fun t60 =>
    fieldE (some (1, 37)) t6 fun t61 =>
    fieldE (some (34, 1)) t61 fun t62 =>
    loadE 1 H3 t62 fun t63 =>
    binE none false false .neq t60 t63 fun t64 =>
    snap_Check_r6 m n0 kc kx ⟨H3, [(0, t0), (4, t4), (10, t10), (11, t11), (12, t12), (65, t64)]⟩)))) := by
  refine (joinW_eq Tryd.prog GG (snap_Check_env m) m 68 (cdR (cdR (cdL (cdL (cdR (cdR (cdL (cdL (cdR (cdL (cdR (cdR snap_Check_c)))))))))))) snap_Check_h.r.r.l.r.c.c.r.r.l.c.r.r ⟨H, [(0, t0), (4, t4), (5, t5), (10, t10), (11, t11), (12, t12)]⟩ (blockX 1 (seqX (fun s => snap_Check_r5 m n0 kc kx ⟨s.H, [(0, gt s.T 0), (10, gt s.T 10), (11, gt s.T 11), (12, gt s.T 12)]⟩) (backW n0 [0, 10, 11, 12] [2, 3] kc kx)))).trans ?_
  kernel_rfl
theorem snap_Check_r2_eq (m : Nat) (n0 : Nat) (kc : ASt → RO) (kx : KO (AV × List AObj)) (H : List AObj) (t0 t4 t5 t10 t11 t12 t25 : AV) : snap_Check_r2 m n0 kc kx ⟨H, [(0, t0), (4, t4), (5, t5), (10, t10), (11, t11), (12, t12), (25, t25)]⟩ =
  condE t25 (
   kx .ret ⟨H, [(2, (V (.int .i64 1))), (3, t4)]⟩) (
   snap_Check_r3 m n0 kc kx ⟨H, [(0, t0), (4, t4), (5, t5), (10, t10), (11, t11), (12, t12)]⟩) := by
  refine (joinW_eq Tryd.prog GG (snap_Check_env m) m 68 (cdR (cdL (cdR (cdL (cdL (cdR (cdR (cdL (cdL (cdR (cdL (cdR (cdR snap_Check_c))))))))))))) snap_Check_h.r.r.l.r.c.c.r.r.l.c.r.l.r ⟨H, [(0, t0), (4, t4), (5, t5), (10, t10), (11, t11), (12, t12), (25, t25)]⟩ (seqX (fun s => snap_Check_r3 m n0 kc kx ⟨s.H, [(0, gt s.T 0), (4, gt s.T 4), (5, gt s.T 5), (10, gt s.T 10), (11, gt s.T 11), (12, gt s.T 12)]⟩) (blockX 1 (seqX (fun s => snap_Check_r4 m n0 kc kx ⟨s.H, [(0, gt s.T 0), (10, gt s.T 10), (11, gt s.T 11), (12, gt s.T 12)]⟩) (backW n0 [0, 10, 11, 12] [2, 3] kc kx))))).trans ?_
  kernel_rfl
theorem snap_Check_r1_eq (m : Nat) (H : List AObj) : snap_Check_r1 m ⟨H, []⟩ =
  tellK H (ro H (TU [noT (V (.int .i64 0)), noT (V (.int .i64 0))])) := by
  refine (joinW_eq Tryd.prog GG (snap_Check_env m) m 68 (cdR (cdR (cdR snap_Check_c))) snap_Check_h.r.r.r ⟨H, []⟩ (snap_Check_fin)).trans ?_
  kernel_rfl
theorem snap_Check_b1_eq (m : Nat) (H : List AObj) (t0 t10 t11 t12 : AV) (kc : ASt → RO) (kx : KO (AV × List AObj)) : snap_Check_b1 m ⟨H, [(0, t0), (10, t10), (11, t11), (12, t12)]⟩ kc kx =
  binE none false false .lss t12 t11 fun t13 =>
  condE t13 (
   idxSE 38 H t10 t12 fun t15 =>
   loadE 38 H t15 fun t16 =>
   allocE (some zc_api_Snap) ty_api_Snap H fun t5 H2 =>
   storeE 38 H2 t5 t16 fun H3 =>
   fieldE (some (0, 1)) t5 fun t17 =>
   loadE 1 H3 t17 fun t18 =>
   binE none false false .lss t18 (V (.int .i64 0)) fun t19 =>
   condE t19 (
    snap_Check_r2 m H.length kc kx ⟨H3, [(0, t0), (4, t12), (5, t5), (10, t10), (11, t11), (12, t12), (25, (V (.bool true)))]⟩) (
    fieldE (some (1, 37)) t5 fun t21 =>
    loadE 37 H3 t21 fun t22 =>
    tellE (store_May m (ro H3 t22)) [(ro H3 t22)] fun t23 =>
    unE .not t23 fun t24 =>
    snap_Check_r2 m H.length kc kx ⟨H3, [(0, t0), (4, t12), (5, t5), (10, t10), (11, t11), (12, t12), (25, t24)]⟩)) (
   kx (.exit 0) ⟨H, [(2, .nil), (3, .nil)]⟩) := by
  refine (bodyW_eq Tryd.prog GG (snap_Check_env m) m 68 (cdL (cdL (cdR (cdL (cdR (cdR snap_Check_c)))))) snap_Check_h.r.r.l.r.c.c [0, 10, 11, 12] [2, 3] ⟨H, [(0, t0), (10, t10), (11, t11), (12, t12)]⟩ kc kx).trans ?_
  kernel_rfl
theorem snap_Check_eq (m : Nat) (t0 : AV) : snap_Check m t0 =
  lenE false true [] t0 fun t8 =>
  binE none false false .gtr t8 (V (.int .i64 8)) fun t9 =>
  condE t9 (
   tellK [] (ro [] (TU [noT (V (.int .i64 5)), noT (V (.int .i64 8))]))) (
   lenE false true [] t0 fun t11 =>
   iterC m (snap_Check_b1 m) ⟨[], [(0, t0), (10, t0), (11, t11), (12, (V (.int .i64 0)))]⟩ (blockX 0 (seqX (fun s => snap_Check_r1 m ⟨s.H, []⟩) (snap_Check_fin)))) := by
  refine (tellX Tryd.prog GG (snap_Check_env m) m 68 snap_Check_c snap_Check_h ⟨[], argsT 0 [t0]⟩ [.tmp 2, .tmp 3]).trans ?_
  kernel_rfl
noncomputable def snap_Check_t (m : Nat) : List AV → RO | [t0] => snap_Check m t0 | _ => none
theorem snap_Check_ok (m : Nat) : ∀ args X H', snap_Check_t m args = some (X, H') → ACp Tryd.prog GG 9 args X := by
  intro args X H' h
  unfold snap_Check_t at h
  split at h
  · exact tell_okK MIX (by
    intro f e h
    simp only [snap_Check_env, Prod.mk.injEq, List.mem_cons, List.not_mem_nil, or_false] at h
    obtain ⟨rfl, rfl⟩ := h
    · exact store_May_ok m) (f := 9) (c := snap_Check_c) Tryd.func9 rfl (by kernel_rfl) _ rfl Tryd.ntmps9 (Nat.le_of_ble_eq_true rfl) snap_Check_h h
  · cases h
noncomputable def snap_is_c : Code := (Tryd.f28.body).getD .skip
def snap_is_h : Hint := (.two .n (.two .n (.two .n .n)))
noncomputable def snap_is_env (m : Nat) : Env := [(9, .tell (snap_Check_t m))]
noncomputable abbrev snap_is_fin : KO (AV × List AObj) := tellFK Tryd.prog [.tmp 2]
noncomputable def snap_is (m : Nat) (t0 : AV) : RO := exec Tryd.prog GG (snap_is_env m) m 12 snap_is_c snap_is_h ⟨[], argsT 0 [t0]⟩ (snap_is_fin)
theorem snap_is_eq (m : Nat) (t0 : AV) : snap_is m t0 =
  tellE (snap_Check m (ro [] t0)) [(ro [] t0)] fun t7 =>
  extE t7 0 fun t8 =>
  extE t7 1 fun t9 =>
  binE none false false .eql t8 (V (.int .i64 0)) fun t11 =>
  tellK [] (ro [] t11) := by
  refine (tellX Tryd.prog GG (snap_is_env m) m 12 snap_is_c snap_is_h ⟨[], argsT 0 [t0]⟩ [.tmp 2]).trans ?_
  kernel_rfl
noncomputable def snap_is_t (m : Nat) : List AV → RO | [t0] => snap_is m t0 | _ => none
theorem snap_is_ok (m : Nat) : ∀ args X H', snap_is_t m args = some (X, H') → ACp Tryd.prog GG 28 args X := by
  intro args X H' h
  unfold snap_is_t at h
  split at h
  · exact tell_okK MIX (by
    intro f e h
    simp only [snap_is_env, Prod.mk.injEq, List.mem_cons, List.not_mem_nil, or_false] at h
    obtain ⟨rfl, rfl⟩ := h
    · exact snap_Check_ok m) (f := 28) (c := snap_is_c) Tryd.func28 rfl (by kernel_rfl) _ rfl Tryd.ntmps28 (Nat.le_of_ble_eq_true rfl) snap_is_h h
  · cases h
noncomputable def snap_Keep_c : Code := (Tryd.f13.body).getD .skip
def snap_Keep_h : Hint := (.two .n (.two (.two .n (.two (.two .n .n) .n)) (.join [0, 1, 5] (.two .n (.two .n (.two (.two .n .n) .n))) (.two .n (.join [9] (.two .n (.two .n .n)) (.two (.two .n (.two .n (.two (.two .n .n) .n))) (.two .n .n)))))))
noncomputable def snap_Keep_env (m : Nat) : Env := [(28, .tell (snap_is_t m)), (29, .add (slices_Clone_Snap_t m)), (9, .tell (snap_Check_t m))]
noncomputable abbrev snap_Keep_fin : KO (AV × List AObj) := tellFK Tryd.prog [.tmp 6, .tmp 7]
noncomputable def snap_Keep_r2 (m : Nat) (s : ASt) : RO := joinW Tryd.prog GG (snap_Keep_env m) m 50 (cdR (cdR (cdR (cdR (cdR snap_Keep_c))))) snap_Keep_h.r.r.r.r.r s (snap_Keep_fin)
noncomputable def snap_Keep_r1 (m : Nat) (s : ASt) : RO := joinW Tryd.prog GG (snap_Keep_env m) m 50 (cdR (cdR (cdR snap_Keep_c))) snap_Keep_h.r.r.r s (snap_Keep_fin)
noncomputable def snap_Keep (m : Nat) (t0 t1 t2 : AV) : RO := exec Tryd.prog GG (snap_Keep_env m) m 50 snap_Keep_c snap_Keep_h ⟨[], argsT 0 [t0, t1, t2]⟩ (snap_Keep_fin)
theorem snap_Keep_r2_eq (m : Nat) (H : List AObj) (t9 : AV) : snap_Keep_r2 m ⟨H, [(9, t9)]⟩ =
  tellE (snap_Check m (ro H t9)) [(ro H t9)] fun t43 =>
  extE t43 0 fun t44 =>
  extE t43 1 fun t45 =>
  binE none false false .neq t44 (V (.int .i64 0)) fun t47 =>
  condE t47 (
   tellK H (ro H (TU [noT (V (.slice none 0 0)), noT t44]))) (
   tellK H (ro H (TU [noT t9, noT (V (.int .i64 0))]))) := by
  refine (joinW_eq Tryd.prog GG (snap_Keep_env m) m 50 (cdR (cdR (cdR (cdR (cdR snap_Keep_c))))) snap_Keep_h.r.r.r.r.r ⟨H, [(9, t9)]⟩ (snap_Keep_fin)).trans ?_
  kernel_rfl
theorem snap_Keep_r1_eq (m : Nat) (H : List AObj) (t0 t1 t5 : AV) : snap_Keep_r1 m ⟨H, [(0, t0), (1, t1), (5, t5)]⟩ =
  addE (slices_Clone_Snap_t m [(ro H t0)] H.length) H fun t30 H2 =>
  loadE 37 H t5 fun t32 =>
  buildE (some pl_api_Snap) (some zc_api_Snap) [(0, t1), (1, t32)] fun t33 =>
  buildSE (some (ty_api_Snap, 36)) 1 [(0, t33)] fun t34 =>
  appE (some (ty_api_Snap, 36)) H2 t30 t34 fun t35 H3 =>
  lenE false true H3 t35 fun t37 =>
  binE none false false .gtr t37 (V (.int .i64 8)) fun t38 =>
  condE t38 (
   sliceE false (some (ty_api_Snap, 38)) H3 t35 (some (V (.int .i64 1))) none fun t40 =>
   snap_Keep_r2 m ⟨H3, [(9, t40)]⟩) (
   snap_Keep_r2 m ⟨H3, [(9, t35)]⟩) := by
  refine (joinW_eq Tryd.prog GG (snap_Keep_env m) m 50 (cdR (cdR (cdR snap_Keep_c))) snap_Keep_h.r.r.r ⟨H, [(0, t0), (1, t1), (5, t5)]⟩ (snap_Keep_fin)).trans ?_
  kernel_rfl
theorem snap_Keep_eq (m : Nat) (t0 t1 t2 : AV) : snap_Keep m t0 t1 t2 =
  boxE ty_api_Store [] t2 fun t5 H1 =>
  tellE (snap_is m (ro H1 t0)) [(ro H1 t0)] fun t13 =>
  unE .not t13 fun t14 =>
  condE t14 (
   tellK H1 (ro H1 (TU [noT (V (.slice none 0 0)), noT (V (.int .i64 1))]))) (
   lenE false true H1 t0 fun t16 =>
   binE none false false .gtr t16 (V (.int .i64 0)) fun t18 =>
   condE t18 (
    binE none false false .sub t16 (V (.int .i64 1)) fun t23 =>
    idxSE 38 H1 t0 t23 fun t24 =>
    fieldE (some (0, 1)) t24 fun t25 =>
    loadE 1 H1 t25 fun t26 =>
    binE none false false .leq t1 t26 fun t27 =>
    condE t27 (
    tellK H1 (ro H1 (TU [noT (V (.slice none 0 0)), noT (V (.int .i64 18))]))) (
    snap_Keep_r1 m ⟨H1, [(0, t0), (1, t1), (5, t5)]⟩)) (
    snap_Keep_r1 m ⟨H1, [(0, t0), (1, t1), (5, t5)]⟩)) := by
  refine (tellX Tryd.prog GG (snap_Keep_env m) m 50 snap_Keep_c snap_Keep_h ⟨[], argsT 0 [t0, t1, t2]⟩ [.tmp 6, .tmp 7]).trans ?_
  kernel_rfl
noncomputable def snap_Keep_t (m : Nat) : List AV → RO | [t0, t1, t2] => snap_Keep m t0 t1 t2 | _ => none
theorem snap_Keep_ok (m : Nat) : ∀ args X H', snap_Keep_t m args = some (X, H') → ACp Tryd.prog GG 13 args X := by
  intro args X H' h
  unfold snap_Keep_t at h
  split at h
  · exact tell_okK MIX (by
    intro f e h
    simp only [snap_Keep_env, Prod.mk.injEq, List.mem_cons, List.not_mem_nil, or_false] at h
    rcases h with ⟨rfl, rfl⟩ | ⟨rfl, rfl⟩ | ⟨rfl, rfl⟩
    · exact snap_is_ok m
    · exact slices_Clone_Snap_ok m
    · exact snap_Check_ok m) (f := 13) (c := snap_Keep_c) Tryd.func13 rfl (by kernel_rfl) _ rfl Tryd.ntmps13 (Nat.le_of_ble_eq_true rfl) snap_Keep_h h
  · cases h
noncomputable def snap_from_1_c : Code := (Tryd.f43.body).getD .skip
def snap_from_1_h : Hint := (.two .n (.two .n .n))
noncomputable def snap_from_1_env (m : Nat) : Env := []
noncomputable abbrev snap_from_1_fin (n0 : Nat) : KO (AV × List AObj) := keepFK Tryd.prog n0 [.tmp 4]
noncomputable def snap_from_1 (m : Nat) (t0 t1 t2 : AV) (H : List AObj) : RO := exec Tryd.prog GG (snap_from_1_env m) m 12 snap_from_1_c snap_from_1_h ⟨H, argsT 0 [t0, t1, t2]⟩ (snap_from_1_fin H.length)
theorem snap_from_1_eq (m : Nat) (t0 t1 t2 : AV) (H : List AObj) : snap_from_1 m t0 t1 t2 H =
  loadE 1 H t1 fun t5 =>
  idxSE 38 H t5 t0 fun t7 =>
  fieldE (some (0, 1)) t7 fun t8 =>
  loadE 1 H t8 fun t9 =>
  loadE 1 H t2 fun t10 =>
  binE none false false .geq t9 t10 fun t11 =>
  keepK H.length H (ro H t11) := by
  refine (keepX Tryd.prog GG (snap_from_1_env m) m 12 H.length snap_from_1_c snap_from_1_h ⟨H, argsT 0 [t0, t1, t2]⟩ [.tmp 4]).trans ?_
  kernel_rfl
noncomputable def snap_from_1_t (m : Nat) : List AV → List AObj → RO | [t0, t1, t2], H => snap_from_1 m t0 t1 t2 H | _, _ => none
theorem snap_from_1_ok (m : Nat) : ∀ args H X H', snap_from_1_t m args H = some (X, H') → AC Tryd.prog GG 43 args H (Is X H') := by
  intro args H X H' h
  unfold snap_from_1_t at h
  split at h
  · exact keep_okK MIX (by intro f e h; cases h) (f := 43) (c := snap_from_1_c) Tryd.func43 rfl (by kernel_rfl) _ rfl Tryd.ntmps43 (Nat.le_of_ble_eq_true rfl) snap_from_1_h h
  · cases h
noncomputable def sort_Search_c : Code := (Tryd.f42.body).getD .skip
def sort_Search_h : Hint := (.two .n (.two .n (.join [5] (.one (.lp [] [1, 5, 6] [5] (.two (.two .n (.two .n .n)) (.one (.two .n (.two .n (.two .n .n))))))) (.two .n .n))))
noncomputable def sort_Search_env (m : Nat) : Env := [(43, .keep (snap_from_1_t m))]
noncomputable abbrev sort_Search_fin (n0 : Nat) : KO (AV × List AObj) := keepFK Tryd.prog n0 [.tmp 4]
noncomputable def sort_Search_r1 (m : Nat) (n0k : Nat) (s : ASt) : RO := joinW Tryd.prog GG (sort_Search_env m) m 26 (cdR (cdR (cdR sort_Search_c))) sort_Search_h.r.r.r s (sort_Search_fin n0k)
noncomputable def sort_Search_b1 (m : Nat) (s : ASt) (kc : ASt → RO) (kx : KO (AV × List AObj)) : RO := bodyW Tryd.prog GG (sort_Search_env m) m 26 (cdL (cdL (cdL (cdR (cdR sort_Search_c))))) sort_Search_h.r.r.l.c.c [1, 5, 6] [5] s kc kx
noncomputable def sort_Search (m : Nat) (t0 t1 : AV) (H : List AObj) : RO := exec Tryd.prog GG (sort_Search_env m) m 26 sort_Search_c sort_Search_h ⟨H, argsT 0 [t0, t1]⟩ (sort_Search_fin H.length)
theorem sort_Search_r1_eq (m : Nat) (n0k : Nat) (H : List AObj) (t5 : AV) : sort_Search_r1 m n0k ⟨H, [(5, t5)]⟩ =
  keepK n0k H (ro H t5) := by
  refine (joinW_eq Tryd.prog GG (sort_Search_env m) m 26 (cdR (cdR (cdR sort_Search_c))) sort_Search_h.r.r.r ⟨H, [(5, t5)]⟩ (sort_Search_fin n0k)).trans ?_
  kernel_rfl
theorem sort_Search_b1_eq (m : Nat) (H : List AObj) (t1 t5 t6 : AV) (kc : ASt → RO) (kx : KO (AV × List AObj)) : sort_Search_b1 m ⟨H, [(1, t1), (5, t5), (6, t6)]⟩ kc kx =
  binE none false false .lss t5 t6 fun t11 =>
  condE t11 (
   binE none false false .add t5 t6 fun t14 =>
   convE false (some .u64) true t14 fun t15 =>
   binE none false false .shr t15 (V (.int .u64 1)) fun t16 =>
   convE false (some .i64) true t16 fun t17 =>
   callVE (sort_Search_env m) t1 [t17] H fun t20 H2 =>
   unE .not t20 fun t21 =>
   condE t21 (
    binE none false false .add t17 (V (.int .i64 1)) fun t23 =>
    backE H.length H2 [(1, t1), (5, t23), (6, t6)] kc) (
    backE H.length H2 [(1, t1), (5, t5), (6, t17)] kc)) (
   kx (.exit 0) ⟨H, [(5, t5)]⟩) := by
  refine (bodyW_eq Tryd.prog GG (sort_Search_env m) m 26 (cdL (cdL (cdL (cdR (cdR sort_Search_c))))) sort_Search_h.r.r.l.c.c [1, 5, 6] [5] ⟨H, [(1, t1), (5, t5), (6, t6)]⟩ kc kx).trans ?_
  kernel_rfl
theorem sort_Search_eq (m : Nat) (t0 t1 : AV) (H : List AObj) : sort_Search m t0 t1 H =
  iterC m (sort_Search_b1 m) ⟨H, [(1, t1), (5, (V (.int .i64 0))), (6, t0)]⟩ (blockX 0 (seqX (fun s => sort_Search_r1 m H.length ⟨s.H, [(5, gt s.T 5)]⟩) (sort_Search_fin H.length))) := by
  refine (keepX Tryd.prog GG (sort_Search_env m) m 26 H.length sort_Search_c sort_Search_h ⟨H, argsT 0 [t0, t1]⟩ [.tmp 4]).trans ?_
  kernel_rfl
noncomputable def sort_Search_t (m : Nat) : List AV → List AObj → RO | [t0, t1], H => sort_Search m t0 t1 H | _, _ => none
theorem sort_Search_ok (m : Nat) : ∀ args H X H', sort_Search_t m args H = some (X, H') → AC Tryd.prog GG 42 args H (Is X H') := by
  intro args H X H' h
  unfold sort_Search_t at h
  split at h
  · exact keep_okK MIX (by
    intro f e h
    simp only [sort_Search_env, Prod.mk.injEq, List.mem_cons, List.not_mem_nil, or_false] at h
    obtain ⟨rfl, rfl⟩ := h
    · exact snap_from_1_ok m) (f := 42) (c := sort_Search_c) Tryd.func42 rfl (by kernel_rfl) _ rfl Tryd.ntmps42 (Nat.le_of_ble_eq_true rfl) sort_Search_h h
  · cases h
noncomputable def snap_from_c : Code := (Tryd.f30.body).getD .skip
def snap_from_h : Hint := (.two .n (.two .n .n))
noncomputable def snap_from_env (m : Nat) : Env := [(42, .keep (sort_Search_t m))]
noncomputable abbrev snap_from_fin : KO (AV × List AObj) := tellFK Tryd.prog [.tmp 4]
noncomputable def snap_from (m : Nat) (t0 t1 : AV) : RO := exec Tryd.prog GG (snap_from_env m) m 9 snap_from_c snap_from_h ⟨[], argsT 0 [t0, t1]⟩ (snap_from_fin)
theorem snap_from_eq (m : Nat) (t0 t1 : AV) : snap_from m t0 t1 =
  boxE ty_sl_api_Snap [] t0 fun t2 H1 =>
  boxE ty_int H1 t1 fun t3 H2 =>
  loadE 1 H2 t2 fun t5 =>
  lenE false true H2 t5 fun t6 =>
  whenE (([t2, t3] : List AV).all cap0) (
  keepE (sort_Search m (ro H2 t6) (ro H2 (CL (.func 43) 0 [t2, t3])) H2) fun t8 H3 =>
  tellK H3 (ro H3 t8)) := by
  refine (tellX Tryd.prog GG (snap_from_env m) m 9 snap_from_c snap_from_h ⟨[], argsT 0 [t0, t1]⟩ [.tmp 4]).trans ?_
  kernel_rfl
noncomputable def snap_from_t (m : Nat) : List AV → RO | [t0, t1] => snap_from m t0 t1 | _ => none
theorem snap_from_ok (m : Nat) : ∀ args X H', snap_from_t m args = some (X, H') → ACp Tryd.prog GG 30 args X := by
  intro args X H' h
  unfold snap_from_t at h
  split at h
  · exact tell_okK MIX (by
    intro f e h
    simp only [snap_from_env, Prod.mk.injEq, List.mem_cons, List.not_mem_nil, or_false] at h
    obtain ⟨rfl, rfl⟩ := h
    · exact sort_Search_ok m) (f := 30) (c := snap_from_c) Tryd.func30 rfl (by kernel_rfl) _ rfl Tryd.ntmps30 (Nat.le_of_ble_eq_true rfl) snap_from_h h
  · cases h
noncomputable def snap_At_c : Code := (Tryd.f16.body).getD .skip
def snap_At_h : Hint := (.two .n (.two (.two .n (.two (.two .n .n) .n)) (.two .n (.join [0, 4, 6] (.join [0, 4, 6, 26] .n (.two (.two .n .n) .n)) (.two .n .n)))))
noncomputable def snap_At_env (m : Nat) : Env := [(28, .tell (snap_is_t m)), (30, .tell (snap_from_t m))]
noncomputable abbrev snap_At_fin : KO (AV × List AObj) := tellFK Tryd.prog [.cell 4 37, .tmp 5]
noncomputable def snap_At_r2 (m : Nat) (s : ASt) : RO := joinW Tryd.prog GG (snap_At_env m) m 33 (cdR (cdR (cdR (cdR snap_At_c)))) snap_At_h.r.r.r.r s (snap_At_fin)
noncomputable def snap_At_r1 (m : Nat) (s : ASt) : RO := joinW Tryd.prog GG (snap_At_env m) m 33 (cdR (cdL (cdR (cdR (cdR snap_At_c))))) snap_At_h.r.r.r.l.r s (seqX (fun s => snap_At_r2 m ⟨s.H, [(0, gt s.T 0), (4, gt s.T 4), (6, gt s.T 6)]⟩) (snap_At_fin))
noncomputable def snap_At (m : Nat) (t0 t1 : AV) : RO := exec Tryd.prog GG (snap_At_env m) m 33 snap_At_c snap_At_h ⟨[], argsT 0 [t0, t1]⟩ (snap_At_fin)
theorem snap_At_r2_eq (m : Nat) (H : List AObj) (t0 t4 t6 : AV) : snap_At_r2 m ⟨H, [(0, t0), (4, t4), (6, t6)]⟩ =
  idxSE 38 H t0 t6 fun t30 =>
  fieldE (some (1, 37)) t30 fun t31 =>
  loadE 37 H t31 fun t32 =>
  storeE 37 H t4 t32 fun H2 =>
  loadE 37 H2 t4 fun t9000 =>
  tellK H2 (ro H2 (TU [noT t9000, noT (V (.int .i64 0))])) := by
  refine (joinW_eq Tryd.prog GG (snap_At_env m) m 33 (cdR (cdR (cdR (cdR snap_At_c)))) snap_At_h.r.r.r.r ⟨H, [(0, t0), (4, t4), (6, t6)]⟩ (snap_At_fin)).trans ?_
  kernel_rfl
theorem snap_At_r1_eq (m : Nat) (H : List AObj) (t0 t4 t6 t26 : AV) : snap_At_r1 m ⟨H, [(0, t0), (4, t4), (6, t6), (26, t26)]⟩ =
  condE t26 (
   buildE (some pl_api_Store) (some zc_api_Store) [] fun t27 =>
   storeE 37 H t4 t27 fun H2 =>
   loadE 37 H2 t4 fun t9000 =>
   tellK H2 (ro H2 (TU [noT t9000, noT (V (.int .i64 6))]))) (
   snap_At_r2 m ⟨H, [(0, t0), (4, t4), (6, t6)]⟩) := by
  refine (joinW_eq Tryd.prog GG (snap_At_env m) m 33 (cdR (cdL (cdR (cdR (cdR snap_At_c))))) snap_At_h.r.r.r.l.r ⟨H, [(0, t0), (4, t4), (6, t6), (26, t26)]⟩ (seqX (fun s => snap_At_r2 m ⟨s.H, [(0, gt s.T 0), (4, gt s.T 4), (6, gt s.T 6)]⟩) (snap_At_fin))).trans ?_
  kernel_rfl
theorem snap_At_eq (m : Nat) (t0 t1 : AV) : snap_At m t0 t1 =
  allocE (some zc_api_Store) ty_api_Store [] fun t4 H1 =>
  tellE (snap_is m (ro H1 t0)) [(ro H1 t0)] fun t8 =>
  unE .not t8 fun t9 =>
  condE t9 (
   buildE (some pl_api_Store) (some zc_api_Store) [] fun t10 =>
   storeE 37 H1 t4 t10 fun H2 =>
   loadE 37 H2 t4 fun t9000 =>
   tellK H2 (ro H2 (TU [noT t9000, noT (V (.int .i64 1))]))) (
   tellE (snap_from m (ro H1 t0) (ro H1 t1)) [(ro H1 t0), (ro H1 t1)] fun t13 =>
   lenE false true H1 t0 fun t16 =>
   binE none false false .eql t13 t16 fun t17 =>
   condE t17 (
    snap_At_r1 m ⟨H1, [(0, t0), (4, t4), (6, t13), (26, (V (.bool true)))]⟩) (
    idxSE 38 H1 t0 t13 fun t21 =>
    fieldE (some (0, 1)) t21 fun t22 =>
    loadE 1 H1 t22 fun t23 =>
    binE none false false .neq t23 t1 fun t25 =>
    snap_At_r1 m ⟨H1, [(0, t0), (4, t4), (6, t13), (26, t25)]⟩)) := by
  refine (tellX Tryd.prog GG (snap_At_env m) m 33 snap_At_c snap_At_h ⟨[], argsT 0 [t0, t1]⟩ [.cell 4 37, .tmp 5]).trans ?_
  kernel_rfl
noncomputable def snap_At_t (m : Nat) : List AV → RO | [t0, t1] => snap_At m t0 t1 | _ => none
theorem snap_At_ok (m : Nat) : ∀ args X H', snap_At_t m args = some (X, H') → ACp Tryd.prog GG 16 args X := by
  intro args X H' h
  unfold snap_At_t at h
  split at h
  · exact tell_okK MIX (by
    intro f e h
    simp only [snap_At_env, Prod.mk.injEq, List.mem_cons, List.not_mem_nil, or_false] at h
    rcases h with ⟨rfl, rfl⟩ | ⟨rfl, rfl⟩
    · exact snap_is_ok m
    · exact snap_from_ok m) (f := 16) (c := snap_At_c) Tryd.func16 rfl (by kernel_rfl) _ rfl Tryd.ntmps16 (Nat.le_of_ble_eq_true rfl) snap_At_h h
  · cases h
noncomputable def snap_Last_c : Code := (Tryd.f17.body).getD .skip
def snap_Last_h : Hint := (.two .n (.two (.two .n (.two (.two .n .n) .n)) (.join [5] (.two .n (.one (.lp [] [0, 1, 5, 7] [4, 5, 6] (.two (.two .n (.two .n .n)) (.two (.one (.two .n (.two (.two .n .n) .n))) .n))))) (.two .n .n))))
noncomputable def snap_Last_env (m : Nat) : Env := [(28, .tell (snap_is_t m))]
noncomputable abbrev snap_Last_fin : KO (AV × List AObj) := tellFK Tryd.prog [.tmp 4, .cell 5 37, .tmp 6]
noncomputable def snap_Last_r1 (m : Nat) (s : ASt) : RO := joinW Tryd.prog GG (snap_Last_env m) m 37 (cdR (cdR (cdR snap_Last_c))) snap_Last_h.r.r.r s (snap_Last_fin)
noncomputable def snap_Last_b1 (m : Nat) (s : ASt) (kc : ASt → RO) (kx : KO (AV × List AObj)) : RO := bodyW Tryd.prog GG (snap_Last_env m) m 37 (cdL (cdL (cdR (cdL (cdR (cdR snap_Last_c)))))) snap_Last_h.r.r.l.r.c.c [0, 1, 5, 7] [4, 5, 6] s kc kx
noncomputable def snap_Last (m : Nat) (t0 t1 : AV) : RO := exec Tryd.prog GG (snap_Last_env m) m 37 snap_Last_c snap_Last_h ⟨[], argsT 0 [t0, t1]⟩ (snap_Last_fin)
theorem snap_Last_r1_eq (m : Nat) (H : List AObj) (t5 : AV) : snap_Last_r1 m ⟨H, [(5, t5)]⟩ =
  buildE (some pl_api_Store) (some zc_api_Store) [] fun t36 =>
  storeE 37 H t5 t36 fun H2 =>
  loadE 37 H2 t5 fun t9001 =>
  tellK H2 (ro H2 (TU [noT (V (.int .i64 0)), noT t9001, noT (V (.int .i64 6))])) := by
  refine (joinW_eq Tryd.prog GG (snap_Last_env m) m 37 (cdR (cdR (cdR snap_Last_c))) snap_Last_h.r.r.r ⟨H, [(5, t5)]⟩ (snap_Last_fin)).trans ?_
  kernel_rfl
theorem snap_Last_b1_eq (m : Nat) (H : List AObj) (t0 t1 t5 t7 : AV) (kc : ASt → RO) (kx : KO (AV × List AObj)) : snap_Last_b1 m ⟨H, [(0, t0), (1, t1), (5, t5), (7, t7)]⟩ kc kx =
  binE none false false .geq t7 (V (.int .i64 0)) fun t16 =>
  condE t16 (
   idxSE 38 H t0 t7 fun t21 =>
   fieldE (some (0, 1)) t21 fun t22 =>
   loadE 1 H t22 fun t23 =>
   binE none false false .leq t23 t1 fun t25 =>
   condE t25 (
    idxSE 38 H t0 t7 fun t28 =>
    fieldE (some (0, 1)) t28 fun t29 =>
    loadE 1 H t29 fun t30 =>
    idxSE 38 H t0 t7 fun t33 =>
    fieldE (some (1, 37)) t33 fun t34 =>
    loadE 37 H t34 fun t35 =>
    storeE 37 H t5 t35 fun H2 =>
    kx .ret ⟨H2, [(4, t30), (5, t5), (6, (V (.int .i64 0)))]⟩) (
    binE none false false .sub t7 (V (.int .i64 1)) fun t18 =>
    backE H.length H [(0, t0), (1, t1), (5, t5), (7, t18)] kc)) (
   kx (.exit 0) ⟨H, [(4, .nil), (5, t5), (6, .nil)]⟩) := by
  refine (bodyW_eq Tryd.prog GG (snap_Last_env m) m 37 (cdL (cdL (cdR (cdL (cdR (cdR snap_Last_c)))))) snap_Last_h.r.r.l.r.c.c [0, 1, 5, 7] [4, 5, 6] ⟨H, [(0, t0), (1, t1), (5, t5), (7, t7)]⟩ kc kx).trans ?_
  kernel_rfl
theorem snap_Last_eq (m : Nat) (t0 t1 : AV) : snap_Last m t0 t1 =
  allocE (some zc_api_Store) ty_api_Store [] fun t5 H1 =>
  tellE (snap_is m (ro H1 t0)) [(ro H1 t0)] fun t9 =>
  unE .not t9 fun t10 =>
  condE t10 (
   buildE (some pl_api_Store) (some zc_api_Store) [] fun t11 =>
   storeE 37 H1 t5 t11 fun H2 =>
   loadE 37 H2 t5 fun t9001 =>
   tellK H2 (ro H2 (TU [noT (V (.int .i64 0)), noT t9001, noT (V (.int .i64 1))]))) (
   lenE false true H1 t0 fun t13 =>
   binE none false false .sub t13 (V (.int .i64 1)) fun t14 =>
   iterC m (snap_Last_b1 m) ⟨H1, [(0, t0), (1, t1), (5, t5), (7, t14)]⟩ (blockX 0 (seqX (fun s => snap_Last_r1 m ⟨s.H, [(5, gt s.T 5)]⟩) (snap_Last_fin)))) := by
  refine (tellX Tryd.prog GG (snap_Last_env m) m 37 snap_Last_c snap_Last_h ⟨[], argsT 0 [t0, t1]⟩ [.tmp 4, .cell 5 37, .tmp 6]).trans ?_
  kernel_rfl
noncomputable def snap_Last_t (m : Nat) : List AV → RO | [t0, t1] => snap_Last m t0 t1 | _ => none
theorem snap_Last_ok (m : Nat) : ∀ args X H', snap_Last_t m args = some (X, H') → ACp Tryd.prog GG 17 args X := by
  intro args X H' h
  unfold snap_Last_t at h
  split at h
  · exact tell_okK MIX (by
    intro f e h
    simp only [snap_Last_env, Prod.mk.injEq, List.mem_cons, List.not_mem_nil, or_false] at h
    obtain ⟨rfl, rfl⟩ := h
    · exact snap_is_ok m) (f := 17) (c := snap_Last_c) Tryd.func17 rfl (by kernel_rfl) _ rfl Tryd.ntmps17 (Nat.le_of_ble_eq_true rfl) snap_Last_h h
  · cases h
noncomputable def snap_Drop_c : Code := (Tryd.f21.body).getD .skip
def snap_Drop_h : Hint := (.two .n (.two (.two .n (.two (.two .n .n) .n)) (.two .n (.two .n .n))))
noncomputable def snap_Drop_env (m : Nat) : Env := [(28, .tell (snap_is_t m)), (30, .tell (snap_from_t m)), (29, .add (slices_Clone_Snap_t m))]
noncomputable abbrev snap_Drop_fin : KO (AV × List AObj) := tellFK Tryd.prog [.tmp 4, .tmp 5]
noncomputable def snap_Drop (m : Nat) (t0 t1 : AV) : RO := exec Tryd.prog GG (snap_Drop_env m) m 22 snap_Drop_c snap_Drop_h ⟨[], argsT 0 [t0, t1]⟩ (snap_Drop_fin)
theorem snap_Drop_eq (m : Nat) (t0 t1 : AV) : snap_Drop m t0 t1 =
  tellE (snap_is m (ro [] t0)) [(ro [] t0)] fun t8 =>
  unE .not t8 fun t9 =>
  condE t9 (
   tellK [] (ro [] (TU [noT (V (.slice none 0 0)), noT (V (.int .i64 1))]))) (
   tellE (snap_from m (ro [] t0) (ro [] t1)) [(ro [] t0), (ro [] t1)] fun t12 =>
   lenE false true [] t0 fun t14 =>
   binE none false false .sub t14 (V (.int .i64 1)) fun t15 =>
   mmE true (V (.int .i64 0)) t15 fun t16 =>
   mmE false t12 t16 fun t17 =>
   sliceE false (some (ty_api_Snap, 38)) [] t0 (some t17) none fun t20 =>
   addE (slices_Clone_Snap_t m [(ro [] t20)] ([] : List AObj).length) [] fun t21 H1 =>
   tellK H1 (ro H1 (TU [noT t21, noT (V (.int .i64 0))]))) := by
  refine (tellX Tryd.prog GG (snap_Drop_env m) m 22 snap_Drop_c snap_Drop_h ⟨[], argsT 0 [t0, t1]⟩ [.tmp 4, .tmp 5]).trans ?_
  kernel_rfl
noncomputable def snap_Drop_t (m : Nat) : List AV → RO | [t0, t1] => snap_Drop m t0 t1 | _ => none
theorem snap_Drop_ok (m : Nat) : ∀ args X H', snap_Drop_t m args = some (X, H') → ACp Tryd.prog GG 21 args X := by
  intro args X H' h
  unfold snap_Drop_t at h
  split at h
  · exact tell_okK MIX (by
    intro f e h
    simp only [snap_Drop_env, Prod.mk.injEq, List.mem_cons, List.not_mem_nil, or_false] at h
    rcases h with ⟨rfl, rfl⟩ | ⟨rfl, rfl⟩ | ⟨rfl, rfl⟩
    · exact snap_is_ok m
    · exact snap_from_ok m
    · exact slices_Clone_Snap_ok m) (f := 21) (c := snap_Drop_c) Tryd.func21 rfl (by kernel_rfl) _ rfl Tryd.ntmps21 (Nat.le_of_ble_eq_true rfl) snap_Drop_h h
  · cases h
noncomputable def snap_Changed_c : Code := (Tryd.f22.body).getD .skip
def snap_Changed_h : Hint := (.two .n (.two .n (.two (.two .n (.two (.two .n .n) .n)) (.two .n (.two (.two .n (.two (.two .n .n) .n)) (.two .n .n))))))
noncomputable def snap_Changed_env (m : Nat) : Env := [(16, .tell (snap_At_t m)), (32, .tell (trunk_Unlike_t m))]
noncomputable abbrev snap_Changed_fin : KO (AV × List AObj) := tellFK Tryd.prog [.tmp 6, .tmp 7]
noncomputable def snap_Changed (m : Nat) (t0 t1 t2 : AV) : RO := exec Tryd.prog GG (snap_Changed_env m) m 36 snap_Changed_c snap_Changed_h ⟨[], argsT 0 [t0, t1, t2]⟩ (snap_Changed_fin)
theorem snap_Changed_eq (m : Nat) (t0 t1 t2 : AV) : snap_Changed m t0 t1 t2 =
  tellE (snap_At m (ro [] t0) (ro [] t1)) [(ro [] t0), (ro [] t1)] fun t14 =>
  extE t14 0 fun t15 =>
  extE t14 1 fun t16 =>
  allocE (some zc_api_Store) ty_api_Store [] fun t8 H1 =>
  storeE 37 H1 t8 t15 fun H2 =>
  binE none false false .neq t16 (V (.int .i64 0)) fun t18 =>
  condE t18 (
   tellK H2 (ro H2 (TU [noT (V (.slice none 0 0)), noT t16]))) (
   tellE (snap_At m (ro H2 t0) (ro H2 t2)) [(ro H2 t0), (ro H2 t2)] fun t23 =>
   extE t23 0 fun t24 =>
   extE t23 1 fun t25 =>
   allocE (some zc_api_Store) ty_api_Store H2 fun t10 H3 =>
   storeE 37 H3 t10 t24 fun H4 =>
   binE none false false .neq t25 (V (.int .i64 0)) fun t27 =>
   condE t27 (
    tellK H4 (ro H4 (TU [noT (V (.slice none 0 0)), noT t25]))) (
    fieldE (some (0, 34)) t8 fun t29 =>
    loadE 34 H4 t29 fun t30 =>
    fieldE (some (0, 34)) t10 fun t31 =>
    loadE 34 H4 t31 fun t32 =>
    tellE (trunk_Unlike m (ro H4 t30) (ro H4 t32)) [(ro H4 t30), (ro H4 t32)] fun t33 =>
    extE t33 0 fun t34 =>
    extE t33 1 fun t35 =>
    tellK H4 (ro H4 (TU [noT t34, noT t35])))) := by
  refine (tellX Tryd.prog GG (snap_Changed_env m) m 36 snap_Changed_c snap_Changed_h ⟨[], argsT 0 [t0, t1, t2]⟩ [.tmp 6, .tmp 7]).trans ?_
  kernel_rfl
noncomputable def snap_Changed_t (m : Nat) : List AV → RO | [t0, t1, t2] => snap_Changed m t0 t1 t2 | _ => none
theorem snap_Changed_ok (m : Nat) : ∀ args X H', snap_Changed_t m args = some (X, H') → ACp Tryd.prog GG 22 args X := by
  intro args X H' h
  unfold snap_Changed_t at h
  split at h
  · exact tell_okK MIX (by
    intro f e h
    simp only [snap_Changed_env, Prod.mk.injEq, List.mem_cons, List.not_mem_nil, or_false] at h
    rcases h with ⟨rfl, rfl⟩ | ⟨rfl, rfl⟩
    · exact snap_At_ok m
    · exact trunk_Unlike_ok m) (f := 22) (c := snap_Changed_c) Tryd.func22 rfl (by kernel_rfl) _ rfl Tryd.ntmps22 (Nat.le_of_ble_eq_true rfl) snap_Changed_h h
  · cases h
noncomputable def plenumref14_Check_c : Code := (Tryd.f10.body).getD .skip
def plenumref14_Check_h : Hint := (.two .n (.two (.two .n (.two (.two .n .n) .n)) (.join [] (.two .n (.one (.lp [] [0, 4] [2, 3] (.two (.two .n (.two .n .n)) (.join [0, 4] (.one (.join [0, 4] (.join [0, 4, 28] .n (.two (.two .n .n) .n)) (.join [0, 4, 94] .n (.two (.two .n .n) .n)))) .n))))) (.two .n .n))))
noncomputable def plenumref14_Check_env (m : Nat) : Env := [(26, .tell (plenumref13_May_t m))]
noncomputable abbrev plenumref14_Check_fin : KO (AV × List AObj) := tellFK Tryd.prog [.tmp 2, .tmp 3]
noncomputable def plenumref14_Check_r7 (m : Nat) (n0 : Nat) (kc : ASt → RO) (kx : KO (AV × List AObj)) (s : ASt) : RO := joinW Tryd.prog GG (plenumref14_Check_env m) m 96 (cdR (cdR (cdL (cdL (cdR (cdL (cdR (cdR plenumref14_Check_c)))))))) plenumref14_Check_h.r.r.l.r.c.c.r.r s (backW n0 [0, 4] [2, 3] kc kx)
noncomputable def plenumref14_Check_r6 (m : Nat) (n0 : Nat) (kc : ASt → RO) (kx : KO (AV × List AObj)) (s : ASt) : RO := joinW Tryd.prog GG (plenumref14_Check_env m) m 96 (cdR (cdR (cdL (cdL (cdR (cdL (cdR (cdR plenumref14_Check_c)))))))) plenumref14_Check_h.r.r.l.r.c.c.r.r s (backW n0 [0, 4] [2, 3] kc kx)
noncomputable def plenumref14_Check_r5 (m : Nat) (n0 : Nat) (kc : ASt → RO) (kx : KO (AV × List AObj)) (s : ASt) : RO := joinW Tryd.prog GG (plenumref14_Check_env m) m 96 (cdR (cdR (cdL (cdL (cdR (cdL (cdL (cdR (cdL (cdR (cdR plenumref14_Check_c))))))))))) plenumref14_Check_h.r.r.l.r.c.c.r.l.c.r.r s (blockX 1 (seqX (fun s => plenumref14_Check_r7 m n0 kc kx ⟨s.H, [(0, gt s.T 0), (4, gt s.T 4)]⟩) (backW n0 [0, 4] [2, 3] kc kx)))
noncomputable def plenumref14_Check_r4 (m : Nat) (n0 : Nat) (kc : ASt → RO) (kx : KO (AV × List AObj)) (s : ASt) : RO := joinW Tryd.prog GG (plenumref14_Check_env m) m 96 (cdR (cdR (cdL (cdL (cdR (cdL (cdR (cdR plenumref14_Check_c)))))))) plenumref14_Check_h.r.r.l.r.c.c.r.r s (backW n0 [0, 4] [2, 3] kc kx)
noncomputable def plenumref14_Check_r3 (m : Nat) (n0 : Nat) (kc : ASt → RO) (kx : KO (AV × List AObj)) (s : ASt) : RO := joinW Tryd.prog GG (plenumref14_Check_env m) m 96 (cdR (cdL (cdL (cdR (cdL (cdL (cdR (cdL (cdR (cdR plenumref14_Check_c)))))))))) plenumref14_Check_h.r.r.l.r.c.c.r.l.c.r s (blockX 1 (seqX (fun s => plenumref14_Check_r6 m n0 kc kx ⟨s.H, [(0, gt s.T 0), (4, gt s.T 4)]⟩) (backW n0 [0, 4] [2, 3] kc kx)))
noncomputable def plenumref14_Check_r2 (m : Nat) (n0 : Nat) (kc : ASt → RO) (kx : KO (AV × List AObj)) (s : ASt) : RO := joinW Tryd.prog GG (plenumref14_Check_env m) m 96 (cdR (cdL (cdL (cdL (cdR (cdL (cdL (cdR (cdL (cdR (cdR plenumref14_Check_c))))))))))) plenumref14_Check_h.r.r.l.r.c.c.r.l.c.l.r s (seqX (fun s => plenumref14_Check_r3 m n0 kc kx ⟨s.H, [(0, gt s.T 0), (4, gt s.T 4)]⟩) (blockX 1 (seqX (fun s => plenumref14_Check_r4 m n0 kc kx ⟨s.H, [(0, gt s.T 0), (4, gt s.T 4)]⟩) (backW n0 [0, 4] [2, 3] kc kx))))
noncomputable def plenumref14_Check_r1 (m : Nat) (s : ASt) : RO := joinW Tryd.prog GG (plenumref14_Check_env m) m 96 (cdR (cdR (cdR plenumref14_Check_c))) plenumref14_Check_h.r.r.r s (plenumref14_Check_fin)
noncomputable def plenumref14_Check_b1 (m : Nat) (s : ASt) (kc : ASt → RO) (kx : KO (AV × List AObj)) : RO := bodyW Tryd.prog GG (plenumref14_Check_env m) m 96 (cdL (cdL (cdR (cdL (cdR (cdR plenumref14_Check_c)))))) plenumref14_Check_h.r.r.l.r.c.c [0, 4] [2, 3] s kc kx
noncomputable def plenumref14_Check (m : Nat) (t0 : AV) : RO := exec Tryd.prog GG (plenumref14_Check_env m) m 96 plenumref14_Check_c plenumref14_Check_h ⟨[], argsT 0 [t0]⟩ (plenumref14_Check_fin)
theorem plenumref14_Check_r7_eq (m : Nat) (n0 : Nat) (kc : ASt → RO) (kx : KO (AV × List AObj)) (H : List AObj) (t0 t4 : AV) : plenumref14_Check_r7 m n0 kc kx ⟨H, [(0, t0), (4, t4)]⟩ =
  binE none false false .add t4 (V (.int .i64 1)) fun t13 =>
  backE n0 H [(0, t0), (4, t13)] kc := by
  refine (joinW_eq Tryd.prog GG (plenumref14_Check_env m) m 96 (cdR (cdR (cdL (cdL (cdR (cdL (cdR (cdR plenumref14_Check_c)))))))) plenumref14_Check_h.r.r.l.r.c.c.r.r ⟨H, [(0, t0), (4, t4)]⟩ (backW n0 [0, 4] [2, 3] kc kx)).trans ?_
  kernel_rfl
theorem plenumref14_Check_r6_eq (m : Nat) (n0 : Nat) (kc : ASt → RO) (kx : KO (AV × List AObj)) (H : List AObj) (t0 t4 : AV) : plenumref14_Check_r6 m n0 kc kx ⟨H, [(0, t0), (4, t4)]⟩ =
  binE none false false .add t4 (V (.int .i64 1)) fun t13 =>
  backE n0 H [(0, t0), (4, t13)] kc := by
  refine (joinW_eq Tryd.prog GG (plenumref14_Check_env m) m 96 (cdR (cdR (cdL (cdL (cdR (cdL (cdR (cdR plenumref14_Check_c)))))))) plenumref14_Check_h.r.r.l.r.c.c.r.r ⟨H, [(0, t0), (4, t4)]⟩ (backW n0 [0, 4] [2, 3] kc kx)).trans ?_
  kernel_rfl
theorem plenumref14_Check_r5_eq (m : Nat) (n0 : Nat) (kc : ASt → RO) (kx : KO (AV × List AObj)) (H : List AObj) (t0 t4 t94 : AV) : plenumref14_Check_r5 m n0 kc kx ⟨H, [(0, t0), (4, t4), (94, t94)]⟩ =
  condE t94 (
   kx .ret ⟨H, [(2, (V (.int .i64 3))), (3, t4)]⟩) (
   plenumref14_Check_r7 m n0 kc kx ⟨H, [(0, t0), (4, t4)]⟩) := by
  refine (joinW_eq Tryd.prog GG (plenumref14_Check_env m) m 96 (cdR (cdR (cdL (cdL (cdR (cdL (cdL (cdR (cdL (cdR (cdR plenumref14_Check_c))))))))))) plenumref14_Check_h.r.r.l.r.c.c.r.l.c.r.r ⟨H, [(0, t0), (4, t4), (94, t94)]⟩ (blockX 1 (seqX (fun s => plenumref14_Check_r7 m n0 kc kx ⟨s.H, [(0, gt s.T 0), (4, gt s.T 4)]⟩) (backW n0 [0, 4] [2, 3] kc kx)))).trans ?_
  kernel_rfl
theorem plenumref14_Check_r4_eq (m : Nat) (n0 : Nat) (kc : ASt → RO) (kx : KO (AV × List AObj)) (H : List AObj) (t0 t4 : AV) : plenumref14_Check_r4 m n0 kc kx ⟨H, [(0, t0), (4, t4)]⟩ =
  binE none false false .add t4 (V (.int .i64 1)) fun t13 =>
  backE n0 H [(0, t0), (4, t13)] kc := by
  refine (joinW_eq Tryd.prog GG (plenumref14_Check_env m) m 96 (cdR (cdR (cdL (cdL (cdR (cdL (cdR (cdR plenumref14_Check_c)))))))) plenumref14_Check_h.r.r.l.r.c.c.r.r ⟨H, [(0, t0), (4, t4)]⟩ (backW n0 [0, 4] [2, 3] kc kx)).trans ?_
  kernel_rfl
theorem plenumref14_Check_r3_eq (m : Nat) (n0 : Nat) (kc : ASt → RO) (kx : KO (AV × List AObj)) (H : List AObj) (t0 t4 : AV) : plenumref14_Check_r3 m n0 kc kx ⟨H, [(0, t0), (4, t4)]⟩ =
  binE none false false .gtr t4 (V (.int .i64 0)) fun t31 =>
  condE t31 (
   binE none false false .sub t4 (V (.int .i64 1)) fun t35 =>
   idxSE 38 H t0 t35 fun t36 =>
   fieldE (some (0, 1)) t36 fun t37 =>
   loadE 1 H t37 fun t38 =>
   idxSE 38 H t0 t4 fun t41 =>
   fieldE (some (0, 1)) t41 fun t42 =>
   loadE 1 H t42 fun t43 =>
   binE none false false .lss t38 t43 fun t44 =>
   condE t44 (
   binE none false false .sub t4 (V (.int .i64 1)) fun t48 =>
   idxSE 38 H t0 t48 fun t49 =>
   fieldE (some (1, 37)) t49 fun t50 =>
   fieldE (some (32, 1)) t50 fun t51 =>
   loadE 1 H t51 fun t52 =>
   idxSE 38 H t0 t4 fun t55 =>
   fieldE (some (1, 37)) t55 fun t56 =>
   fieldE (some (32, 1)) t56 fun t57 =>
   loadE 1 H t57 fun t58 =>
   binE none false false .leq t52 t58 fun t59 =>
   condE t59 (
   binE none false false .sub t4 (V (.int .i64 1)) fun t64 =>
   idxSE 38 H t0 t64 fun t65 =>
   fieldE (some (1, 37)) t65 fun t66 =>
   fieldE (some (33, 1)) t66 fun t67 =>
   loadE 1 H t67 fun t68 =>
   idxSE 38 H t0 t4 fun t71 =>
   fieldE (some (1, 37)) t71 fun t72 =>
   fieldE (some (33, 1)) t72 fun t73 =>
   loadE 1 H t73 fun t74 =>
   binE none false false .eql t68 t74 fun t75 =>
   condE t75 (
   binE none false false .sub t4 (V (.int .i64 1)) fun t80 =>
   idxSE 38 H t0 t80 fun t81 =>
   fieldE (some (1, 37)) t81 fun t82 =>
   fieldE (some (34, 1)) t82 fun t83 =>
   loadE 1 H t83 fun t84 =>
   idxSE 38 H t0 t4 fun t87 =>
   fieldE (some (1, 37)) t87 fun t88 =>
   fieldE (some (34, 1)) t88 fun t89 =>
   loadE 1 H t89 fun t90 =>
   binE none false false .eql t84 t90 fun t91 =>
   unE .not t91 fun t93 =>
   plenumref14_Check_r5 m n0 kc kx ⟨H, [(0, t0), (4, t4), (94, t93)]⟩) (
   plenumref14_Check_r5 m n0 kc kx ⟨H, [(0, t0), (4, t4), (94, (V (.bool true)))]⟩)) (
   plenumref14_Check_r5 m n0 kc kx ⟨H, [(0, t0), (4, t4), (94, (V (.bool true)))]⟩)) (
   plenumref14_Check_r5 m n0 kc kx ⟨H, [(0, t0), (4, t4), (94, (V (.bool true)))]⟩)) (
   plenumref14_Check_r5 m n0 kc kx ⟨H, [(0, t0), (4, t4), (94, (V (.bool false)))]⟩) := by
  refine (joinW_eq Tryd.prog GG (plenumref14_Check_env m) m 96 (cdR (cdL (cdL (cdR (cdL (cdL (cdR (cdL (cdR (cdR plenumref14_Check_c)))))))))) plenumref14_Check_h.r.r.l.r.c.c.r.l.c.r ⟨H, [(0, t0), (4, t4)]⟩ (blockX 1 (seqX (fun s => plenumref14_Check_r6 m n0 kc kx ⟨s.H, [(0, gt s.T 0), (4, gt s.T 4)]⟩) (backW n0 [0, 4] [2, 3] kc kx)))).trans ?_
  kernel_rfl
theorem plenumref14_Check_r2_eq (m : Nat) (n0 : Nat) (kc : ASt → RO) (kx : KO (AV × List AObj)) (H : List AObj) (t0 t4 t28 : AV) : plenumref14_Check_r2 m n0 kc kx ⟨H, [(0, t0), (4, t4), (28, t28)]⟩ =
  condE t28 (
   kx .ret ⟨H, [(2, (V (.int .i64 1))), (3, t4)]⟩) (
   plenumref14_Check_r3 m n0 kc kx ⟨H, [(0, t0), (4, t4)]⟩) := by
  refine (joinW_eq Tryd.prog GG (plenumref14_Check_env m) m 96 (cdR (cdL (cdL (cdL (cdR (cdL (cdL (cdR (cdL (cdR (cdR plenumref14_Check_c))))))))))) plenumref14_Check_h.r.r.l.r.c.c.r.l.c.l.r ⟨H, [(0, t0), (4, t4), (28, t28)]⟩ (seqX (fun s => plenumref14_Check_r3 m n0 kc kx ⟨s.H, [(0, gt s.T 0), (4, gt s.T 4)]⟩) (blockX 1 (seqX (fun s => plenumref14_Check_r4 m n0 kc kx ⟨s.H, [(0, gt s.T 0), (4, gt s.T 4)]⟩) (backW n0 [0, 4] [2, 3] kc kx))))).trans ?_
  kernel_rfl
theorem plenumref14_Check_r1_eq (m : Nat) (H : List AObj) : plenumref14_Check_r1 m ⟨H, []⟩ =
  tellK H (ro H (TU [noT (V (.int .i64 0)), noT (V (.int .i64 0))])) := by
  refine (joinW_eq Tryd.prog GG (plenumref14_Check_env m) m 96 (cdR (cdR (cdR plenumref14_Check_c))) plenumref14_Check_h.r.r.r ⟨H, []⟩ (plenumref14_Check_fin)).trans ?_
  kernel_rfl
theorem plenumref14_Check_b1_eq (m : Nat) (H : List AObj) (t0 t4 : AV) (kc : ASt → RO) (kx : KO (AV × List AObj)) : plenumref14_Check_b1 m ⟨H, [(0, t0), (4, t4)]⟩ kc kx =
  lenE false true H t0 fun t10 =>
  binE none false false .lss t4 t10 fun t11 =>
  condE t11 (
   idxSE 38 H t0 t4 fun t16 =>
   fieldE (some (0, 1)) t16 fun t17 =>
   loadE 1 H t17 fun t18 =>
   binE none false false .lss t18 (V (.int .i64 0)) fun t19 =>
   condE t19 (
    plenumref14_Check_r2 m H.length kc kx ⟨H, [(0, t0), (4, t4), (28, (V (.bool true)))]⟩) (
    idxSE 38 H t0 t4 fun t23 =>
    fieldE (some (1, 37)) t23 fun t24 =>
    loadE 37 H t24 fun t25 =>
    tellE (plenumref13_May m (ro H t25)) [(ro H t25)] fun t26 =>
    unE .not t26 fun t27 =>
    plenumref14_Check_r2 m H.length kc kx ⟨H, [(0, t0), (4, t4), (28, t27)]⟩)) (
   kx (.exit 0) ⟨H, [(2, .nil), (3, .nil)]⟩) := by
  refine (bodyW_eq Tryd.prog GG (plenumref14_Check_env m) m 96 (cdL (cdL (cdR (cdL (cdR (cdR plenumref14_Check_c)))))) plenumref14_Check_h.r.r.l.r.c.c [0, 4] [2, 3] ⟨H, [(0, t0), (4, t4)]⟩ kc kx).trans ?_
  kernel_rfl
theorem plenumref14_Check_eq (m : Nat) (t0 : AV) : plenumref14_Check m t0 =
  lenE false true [] t0 fun t6 =>
  binE none false false .gtr t6 (V (.int .i64 8)) fun t7 =>
  condE t7 (
   tellK [] (ro [] (TU [noT (V (.int .i64 5)), noT (V (.int .i64 8))]))) (
   iterC m (plenumref14_Check_b1 m) ⟨[], [(0, t0), (4, (V (.int .i64 0)))]⟩ (blockX 0 (seqX (fun s => plenumref14_Check_r1 m ⟨s.H, []⟩) (plenumref14_Check_fin)))) := by
  refine (tellX Tryd.prog GG (plenumref14_Check_env m) m 96 plenumref14_Check_c plenumref14_Check_h ⟨[], argsT 0 [t0]⟩ [.tmp 2, .tmp 3]).trans ?_
  kernel_rfl
noncomputable def plenumref14_Check_t (m : Nat) : List AV → RO | [t0] => plenumref14_Check m t0 | _ => none
theorem plenumref14_Check_ok (m : Nat) : ∀ args X H', plenumref14_Check_t m args = some (X, H') → ACp Tryd.prog GG 10 args X := by
  intro args X H' h
  unfold plenumref14_Check_t at h
  split at h
  · exact tell_okK MIX (by
    intro f e h
    simp only [plenumref14_Check_env, Prod.mk.injEq, List.mem_cons, List.not_mem_nil, or_false] at h
    obtain ⟨rfl, rfl⟩ := h
    · exact plenumref13_May_ok m) (f := 10) (c := plenumref14_Check_c) Tryd.func10 rfl (by kernel_rfl) _ rfl Tryd.ntmps10 (Nat.le_of_ble_eq_true rfl) plenumref14_Check_h h
  · cases h
noncomputable def plenumref14_Is_c : Code := (Tryd.f18.body).getD .skip
def plenumref14_Is_h : Hint := (.two .n (.two .n (.two .n .n)))
noncomputable def plenumref14_Is_env (m : Nat) : Env := [(10, .tell (plenumref14_Check_t m))]
noncomputable abbrev plenumref14_Is_fin : KO (AV × List AObj) := tellFK Tryd.prog [.tmp 2]
noncomputable def plenumref14_Is (m : Nat) (t0 : AV) : RO := exec Tryd.prog GG (plenumref14_Is_env m) m 12 plenumref14_Is_c plenumref14_Is_h ⟨[], argsT 0 [t0]⟩ (plenumref14_Is_fin)
theorem plenumref14_Is_eq (m : Nat) (t0 : AV) : plenumref14_Is m t0 =
  tellE (plenumref14_Check m (ro [] t0)) [(ro [] t0)] fun t7 =>
  extE t7 0 fun t8 =>
  extE t7 1 fun t9 =>
  binE none false false .eql t8 (V (.int .i64 0)) fun t11 =>
  tellK [] (ro [] t11) := by
  refine (tellX Tryd.prog GG (plenumref14_Is_env m) m 12 plenumref14_Is_c plenumref14_Is_h ⟨[], argsT 0 [t0]⟩ [.tmp 2]).trans ?_
  kernel_rfl
noncomputable def plenumref14_Is_t (m : Nat) : List AV → RO | [t0] => plenumref14_Is m t0 | _ => none
theorem plenumref14_Is_ok (m : Nat) : ∀ args X H', plenumref14_Is_t m args = some (X, H') → ACp Tryd.prog GG 18 args X := by
  intro args X H' h
  unfold plenumref14_Is_t at h
  split at h
  · exact tell_okK MIX (by
    intro f e h
    simp only [plenumref14_Is_env, Prod.mk.injEq, List.mem_cons, List.not_mem_nil, or_false] at h
    obtain ⟨rfl, rfl⟩ := h
    · exact plenumref14_Check_ok m) (f := 18) (c := plenumref14_Is_c) Tryd.func18 rfl (by kernel_rfl) _ rfl Tryd.ntmps18 (Nat.le_of_ble_eq_true rfl) plenumref14_Is_h h
  · cases h
noncomputable def plenumref14_At_c : Code := (Tryd.f20.body).getD .skip
def plenumref14_At_h : Hint := (.two .n (.join [] (.two .n (.one (.lp [] [0, 1, 5] [4] (.two (.two .n (.two .n .n)) (.two (.one (.two .n (.two (.two .n .n) .n))) .n))))) (.two .n .n)))
noncomputable def plenumref14_At_env (m : Nat) : Env := []
noncomputable abbrev plenumref14_At_fin : KO (AV × List AObj) := tellFK Tryd.prog [.tmp 4]
noncomputable def plenumref14_At_r1 (m : Nat) (s : ASt) : RO := joinW Tryd.prog GG (plenumref14_At_env m) m 20 (cdR (cdR plenumref14_At_c)) plenumref14_At_h.r.r s (plenumref14_At_fin)
noncomputable def plenumref14_At_b1 (m : Nat) (s : ASt) (kc : ASt → RO) (kx : KO (AV × List AObj)) : RO := bodyW Tryd.prog GG (plenumref14_At_env m) m 20 (cdL (cdL (cdR (cdL (cdR plenumref14_At_c))))) plenumref14_At_h.r.l.r.c.c [0, 1, 5] [4] s kc kx
noncomputable def plenumref14_At (m : Nat) (t0 t1 : AV) : RO := exec Tryd.prog GG (plenumref14_At_env m) m 20 plenumref14_At_c plenumref14_At_h ⟨[], argsT 0 [t0, t1]⟩ (plenumref14_At_fin)
theorem plenumref14_At_r1_eq (m : Nat) (H : List AObj) : plenumref14_At_r1 m ⟨H, []⟩ =
  tellK H (ro H (V (.int .i64 (-1)))) := by
  refine (joinW_eq Tryd.prog GG (plenumref14_At_env m) m 20 (cdR (cdR plenumref14_At_c)) plenumref14_At_h.r.r ⟨H, []⟩ (plenumref14_At_fin)).trans ?_
  kernel_rfl
theorem plenumref14_At_b1_eq (m : Nat) (H : List AObj) (t0 t1 t5 : AV) (kc : ASt → RO) (kx : KO (AV × List AObj)) : plenumref14_At_b1 m ⟨H, [(0, t0), (1, t1), (5, t5)]⟩ kc kx =
  lenE false true H t0 fun t8 =>
  binE none false false .lss t5 t8 fun t9 =>
  condE t9 (
   idxSE 38 H t0 t5 fun t14 =>
   fieldE (some (0, 1)) t14 fun t15 =>
   loadE 1 H t15 fun t16 =>
   binE none false false .eql t16 t1 fun t18 =>
   condE t18 (
    kx .ret ⟨H, [(4, t5)]⟩) (
    binE none false false .add t5 (V (.int .i64 1)) fun t11 =>
    backE H.length H [(0, t0), (1, t1), (5, t11)] kc)) (
   kx (.exit 0) ⟨H, [(4, .nil)]⟩) := by
  refine (bodyW_eq Tryd.prog GG (plenumref14_At_env m) m 20 (cdL (cdL (cdR (cdL (cdR plenumref14_At_c))))) plenumref14_At_h.r.l.r.c.c [0, 1, 5] [4] ⟨H, [(0, t0), (1, t1), (5, t5)]⟩ kc kx).trans ?_
  kernel_rfl
theorem plenumref14_At_eq (m : Nat) (t0 t1 : AV) : plenumref14_At m t0 t1 =
  iterC m (plenumref14_At_b1 m) ⟨[], [(0, t0), (1, t1), (5, (V (.int .i64 0)))]⟩ (blockX 0 (seqX (fun s => plenumref14_At_r1 m ⟨s.H, []⟩) (plenumref14_At_fin))) := by
  refine (tellX Tryd.prog GG (plenumref14_At_env m) m 20 plenumref14_At_c plenumref14_At_h ⟨[], argsT 0 [t0, t1]⟩ [.tmp 4]).trans ?_
  kernel_rfl
noncomputable def plenumref14_At_t (m : Nat) : List AV → RO | [t0, t1] => plenumref14_At m t0 t1 | _ => none
theorem plenumref14_At_ok (m : Nat) : ∀ args X H', plenumref14_At_t m args = some (X, H') → ACp Tryd.prog GG 20 args X := by
  intro args X H' h
  unfold plenumref14_At_t at h
  split at h
  · exact tell_okK MIX (by intro f e h; cases h) (f := 20) (c := plenumref14_At_c) Tryd.func20 rfl (by kernel_rfl) _ rfl Tryd.ntmps20 (Nat.le_of_ble_eq_true rfl) plenumref14_At_h h
  · cases h
noncomputable def plenumref14_Drop_c : Code := (Tryd.f23.body).getD .skip
def plenumref14_Drop_h : Hint := (.two .n (.two .n (.join [5] (.two .n (.one (.lp [(5, ty_api_Snap, 36)] [0, 1, 5, 6] [5] (.two (.two .n (.two .n .n)) (.join [0, 1, 5, 6] (.one (.join [0, 1, 5, 6, 26] .n (.two .n .n))) .n))))) (.two .n .n))))
noncomputable def plenumref14_Drop_env (m : Nat) : Env := []
noncomputable abbrev plenumref14_Drop_fin : KO (AV × List AObj) := tellFK Tryd.prog [.tmp 4]
noncomputable def plenumref14_Drop_r3 (m : Nat) (n0 : Nat) (kc : ASt → RO) (kx : KO (AV × List AObj)) (s : ASt) : RO := joinW Tryd.prog GG (plenumref14_Drop_env m) m 35 (cdR (cdR (cdL (cdL (cdR (cdL (cdR (cdR plenumref14_Drop_c)))))))) plenumref14_Drop_h.r.r.l.r.c.c.r.r s (backW n0 [0, 1, 5, 6] [5] kc kx)
noncomputable def plenumref14_Drop_r2 (m : Nat) (n0 : Nat) (kc : ASt → RO) (kx : KO (AV × List AObj)) (s : ASt) : RO := joinW Tryd.prog GG (plenumref14_Drop_env m) m 35 (cdR (cdL (cdL (cdR (cdL (cdL (cdR (cdL (cdR (cdR plenumref14_Drop_c)))))))))) plenumref14_Drop_h.r.r.l.r.c.c.r.l.c.r s (blockX 1 (seqX (fun s => plenumref14_Drop_r3 m n0 kc kx ⟨s.H, [(0, gt s.T 0), (1, gt s.T 1), (5, gt s.T 5), (6, gt s.T 6)]⟩) (backW n0 [0, 1, 5, 6] [5] kc kx)))
noncomputable def plenumref14_Drop_r1 (m : Nat) (s : ASt) : RO := joinW Tryd.prog GG (plenumref14_Drop_env m) m 35 (cdR (cdR (cdR plenumref14_Drop_c))) plenumref14_Drop_h.r.r.r s (plenumref14_Drop_fin)
noncomputable def plenumref14_Drop_b1 (m : Nat) (s : ASt) (kc : ASt → RO) (kx : KO (AV × List AObj)) : RO := bodyW Tryd.prog GG (plenumref14_Drop_env m) m 35 (cdL (cdL (cdR (cdL (cdR (cdR plenumref14_Drop_c)))))) plenumref14_Drop_h.r.r.l.r.c.c [0, 1, 5, 6] [5] s kc kx
noncomputable def plenumref14_Drop (m : Nat) (t0 t1 : AV) : RO := exec Tryd.prog GG (plenumref14_Drop_env m) m 35 plenumref14_Drop_c plenumref14_Drop_h ⟨[], argsT 0 [t0, t1]⟩ (plenumref14_Drop_fin)
theorem plenumref14_Drop_r3_eq (m : Nat) (n0 : Nat) (kc : ASt → RO) (kx : KO (AV × List AObj)) (H : List AObj) (t0 t1 t5 t6 : AV) : plenumref14_Drop_r3 m n0 kc kx ⟨H, [(0, t0), (1, t1), (5, t5), (6, t6)]⟩ =
  binE none false false .add t6 (V (.int .i64 1)) fun t12 =>
  backE n0 H [(0, t0), (1, t1), (5, t5), (6, t12)] kc := by
  refine (joinW_eq Tryd.prog GG (plenumref14_Drop_env m) m 35 (cdR (cdR (cdL (cdL (cdR (cdL (cdR (cdR plenumref14_Drop_c)))))))) plenumref14_Drop_h.r.r.l.r.c.c.r.r ⟨H, [(0, t0), (1, t1), (5, t5), (6, t6)]⟩ (backW n0 [0, 1, 5, 6] [5] kc kx)).trans ?_
  kernel_rfl
theorem plenumref14_Drop_r2_eq (m : Nat) (n0 : Nat) (kc : ASt → RO) (kx : KO (AV × List AObj)) (H : List AObj) (t0 t1 t5 t6 t26 : AV) : plenumref14_Drop_r2 m n0 kc kx ⟨H, [(0, t0), (1, t1), (5, t5), (6, t6), (26, t26)]⟩ =
  condE t26 (
   idxSE 38 H t0 t6 fun t30 =>
   loadE 38 H t30 fun t31 =>
   buildSE (some (ty_api_Snap, 36)) 1 [(0, t31)] fun t32 =>
   appE (some (ty_api_Snap, 36)) H t5 t32 fun t33 H2 =>
   plenumref14_Drop_r3 m n0 kc kx ⟨H2, [(0, t0), (1, t1), (5, t33), (6, t6)]⟩) (
   plenumref14_Drop_r3 m n0 kc kx ⟨H, [(0, t0), (1, t1), (5, t5), (6, t6)]⟩) := by
  refine (joinW_eq Tryd.prog GG (plenumref14_Drop_env m) m 35 (cdR (cdL (cdL (cdR (cdL (cdL (cdR (cdL (cdR (cdR plenumref14_Drop_c)))))))))) plenumref14_Drop_h.r.r.l.r.c.c.r.l.c.r ⟨H, [(0, t0), (1, t1), (5, t5), (6, t6), (26, t26)]⟩ (blockX 1 (seqX (fun s => plenumref14_Drop_r3 m n0 kc kx ⟨s.H, [(0, gt s.T 0), (1, gt s.T 1), (5, gt s.T 5), (6, gt s.T 6)]⟩) (backW n0 [0, 1, 5, 6] [5] kc kx)))).trans ?_
  kernel_rfl
theorem plenumref14_Drop_r1_eq (m : Nat) (H : List AObj) (t5 : AV) : plenumref14_Drop_r1 m ⟨H, [(5, t5)]⟩ =
  tellK H (ro H t5) := by
  refine (joinW_eq Tryd.prog GG (plenumref14_Drop_env m) m 35 (cdR (cdR (cdR plenumref14_Drop_c))) plenumref14_Drop_h.r.r.r ⟨H, [(5, t5)]⟩ (plenumref14_Drop_fin)).trans ?_
  kernel_rfl
theorem plenumref14_Drop_b1_eq (m : Nat) (H : List AObj) (t0 t1 t5 t6 : AV) (kc : ASt → RO) (kx : KO (AV × List AObj)) : plenumref14_Drop_b1 m ⟨H, [(0, t0), (1, t1), (5, t5), (6, t6)]⟩ kc kx =
  lenE false true H t0 fun t9 =>
  binE none false false .lss t6 t9 fun t10 =>
  condE t10 (
   idxSE 38 H t0 t6 fun t15 =>
   fieldE (some (0, 1)) t15 fun t16 =>
   loadE 1 H t16 fun t17 =>
   binE none false false .geq t17 t1 fun t19 =>
   condE t19 (
    plenumref14_Drop_r2 m H.length kc kx ⟨H, [(0, t0), (1, t1), (5, t5), (6, t6), (26, (V (.bool true)))]⟩) (
    lenE false true H t0 fun t23 =>
    binE none false false .sub t23 (V (.int .i64 1)) fun t24 =>
    binE none false false .eql t6 t24 fun t25 =>
    plenumref14_Drop_r2 m H.length kc kx ⟨H, [(0, t0), (1, t1), (5, t5), (6, t6), (26, t25)]⟩)) (
   kx (.exit 0) ⟨H, [(5, t5)]⟩) := by
  refine (bodyW_eq Tryd.prog GG (plenumref14_Drop_env m) m 35 (cdL (cdL (cdR (cdL (cdR (cdR plenumref14_Drop_c)))))) plenumref14_Drop_h.r.r.l.r.c.c [0, 1, 5, 6] [5] ⟨H, [(0, t0), (1, t1), (5, t5), (6, t6)]⟩ kc kx).trans ?_
  kernel_rfl
theorem plenumref14_Drop_eq (m : Nat) (t0 t1 : AV) : plenumref14_Drop m t0 t1 =
  rowE (V (.slice none 0 0)) ty_api_Snap 36 [] fun t5 H1 =>
  iterC m (plenumref14_Drop_b1 m) ⟨H1, [(0, t0), (1, t1), (5, t5), (6, (V (.int .i64 0)))]⟩ (blockX 0 (seqX (fun s => plenumref14_Drop_r1 m ⟨s.H, [(5, gt s.T 5)]⟩) (plenumref14_Drop_fin))) := by
  refine (tellX Tryd.prog GG (plenumref14_Drop_env m) m 35 plenumref14_Drop_c plenumref14_Drop_h ⟨[], argsT 0 [t0, t1]⟩ [.tmp 4]).trans ?_
  kernel_rfl
noncomputable def plenumref14_Drop_t (m : Nat) : List AV → RO | [t0, t1] => plenumref14_Drop m t0 t1 | _ => none
theorem plenumref14_Drop_ok (m : Nat) : ∀ args X H', plenumref14_Drop_t m args = some (X, H') → ACp Tryd.prog GG 23 args X := by
  intro args X H' h
  unfold plenumref14_Drop_t at h
  split at h
  · exact tell_okK MIX (by intro f e h; cases h) (f := 23) (c := plenumref14_Drop_c) Tryd.func23 rfl (by kernel_rfl) _ rfl Tryd.ntmps23 (Nat.le_of_ble_eq_true rfl) plenumref14_Drop_h h
  · cases h
noncomputable def plenumref14_Same_c : Code := (Tryd.f15.body).getD .skip
def plenumref14_Same_h : Hint := (.two .n (.two (.two .n (.two (.two .n .n) .n)) (.join [] (.two .n (.one (.lp [] [0, 1, 5] [4] (.two (.two .n (.two .n .n)) (.two (.one (.two .n (.two (.two .n .n) .n))) .n))))) (.two .n .n))))
noncomputable def plenumref14_Same_env (m : Nat) : Env := [(19, .tell (plenumref13_Same_t m))]
noncomputable abbrev plenumref14_Same_fin : KO (AV × List AObj) := tellFK Tryd.prog [.tmp 4]
noncomputable def plenumref14_Same_r1 (m : Nat) (s : ASt) : RO := joinW Tryd.prog GG (plenumref14_Same_env m) m 42 (cdR (cdR (cdR plenumref14_Same_c))) plenumref14_Same_h.r.r.r s (plenumref14_Same_fin)
noncomputable def plenumref14_Same_b1 (m : Nat) (s : ASt) (kc : ASt → RO) (kx : KO (AV × List AObj)) : RO := bodyW Tryd.prog GG (plenumref14_Same_env m) m 42 (cdL (cdL (cdR (cdL (cdR (cdR plenumref14_Same_c)))))) plenumref14_Same_h.r.r.l.r.c.c [0, 1, 5] [4] s kc kx
noncomputable def plenumref14_Same (m : Nat) (t0 t1 : AV) : RO := exec Tryd.prog GG (plenumref14_Same_env m) m 42 plenumref14_Same_c plenumref14_Same_h ⟨[], argsT 0 [t0, t1]⟩ (plenumref14_Same_fin)
theorem plenumref14_Same_r1_eq (m : Nat) (H : List AObj) : plenumref14_Same_r1 m ⟨H, []⟩ =
  tellK H (ro H (V (.bool true))) := by
  refine (joinW_eq Tryd.prog GG (plenumref14_Same_env m) m 42 (cdR (cdR (cdR plenumref14_Same_c))) plenumref14_Same_h.r.r.r ⟨H, []⟩ (plenumref14_Same_fin)).trans ?_
  kernel_rfl
theorem plenumref14_Same_b1_eq (m : Nat) (H : List AObj) (t0 t1 t5 : AV) (kc : ASt → RO) (kx : KO (AV × List AObj)) : plenumref14_Same_b1 m ⟨H, [(0, t0), (1, t1), (5, t5)]⟩ kc kx =
  lenE false true H t0 fun t13 =>
  binE none false false .lss t5 t13 fun t14 =>
  condE t14 (
   idxSE 38 H t0 t5 fun t19 =>
   fieldE (some (0, 1)) t19 fun t20 =>
   loadE 1 H t20 fun t21 =>
   idxSE 38 H t1 t5 fun t24 =>
   fieldE (some (0, 1)) t24 fun t25 =>
   loadE 1 H t25 fun t26 =>
   binE none false false .neq t21 t26 fun t27 =>
   condE t27 (
    kx .ret ⟨H, [(4, (V (.bool false)))]⟩) (
    idxSE 38 H t0 t5 fun t31 =>
    fieldE (some (1, 37)) t31 fun t32 =>
    loadE 37 H t32 fun t33 =>
    idxSE 38 H t1 t5 fun t36 =>
    fieldE (some (1, 37)) t36 fun t37 =>
    loadE 37 H t37 fun t38 =>
    tellE (plenumref13_Same m (ro H t33) (ro H t38)) [(ro H t33), (ro H t38)] fun t39 =>
    unE .not t39 fun t40 =>
    condE t40 (
    kx .ret ⟨H, [(4, (V (.bool false)))]⟩) (
    binE none false false .add t5 (V (.int .i64 1)) fun t16 =>
    backE H.length H [(0, t0), (1, t1), (5, t16)] kc))) (
   kx (.exit 0) ⟨H, [(4, .nil)]⟩) := by
  refine (bodyW_eq Tryd.prog GG (plenumref14_Same_env m) m 42 (cdL (cdL (cdR (cdL (cdR (cdR plenumref14_Same_c)))))) plenumref14_Same_h.r.r.l.r.c.c [0, 1, 5] [4] ⟨H, [(0, t0), (1, t1), (5, t5)]⟩ kc kx).trans ?_
  kernel_rfl
theorem plenumref14_Same_eq (m : Nat) (t0 t1 : AV) : plenumref14_Same m t0 t1 =
  lenE false true [] t0 fun t7 =>
  lenE false true [] t1 fun t9 =>
  binE none false false .neq t7 t9 fun t10 =>
  condE t10 (
   tellK [] (ro [] (V (.bool false)))) (
   iterC m (plenumref14_Same_b1 m) ⟨[], [(0, t0), (1, t1), (5, (V (.int .i64 0)))]⟩ (blockX 0 (seqX (fun s => plenumref14_Same_r1 m ⟨s.H, []⟩) (plenumref14_Same_fin)))) := by
  refine (tellX Tryd.prog GG (plenumref14_Same_env m) m 42 plenumref14_Same_c plenumref14_Same_h ⟨[], argsT 0 [t0, t1]⟩ [.tmp 4]).trans ?_
  kernel_rfl
noncomputable def plenumref14_Same_t (m : Nat) : List AV → RO | [t0, t1] => plenumref14_Same m t0 t1 | _ => none
theorem plenumref14_Same_ok (m : Nat) : ∀ args X H', plenumref14_Same_t m args = some (X, H') → ACp Tryd.prog GG 15 args X := by
  intro args X H' h
  unfold plenumref14_Same_t at h
  split at h
  · exact tell_okK MIX (by
    intro f e h
    simp only [plenumref14_Same_env, Prod.mk.injEq, List.mem_cons, List.not_mem_nil, or_false] at h
    obtain ⟨rfl, rfl⟩ := h
    · exact plenumref13_Same_ok m) (f := 15) (c := plenumref14_Same_c) Tryd.func15 rfl (by kernel_rfl) _ rfl Tryd.ntmps15 (Nat.le_of_ble_eq_true rfl) plenumref14_Same_h h
  · cases h
noncomputable def plenumlaw14_Few_c : Code := (Tryd.f8.body).getD .skip
def plenumlaw14_Few_h : Hint := (.two .n (.join [0] (.two .n (.two .n .n)) (.two .n (.join [3] (.two .n (.one (.lp [(3, ty_api_Snap, 36)] [0, 3, 4] [3] (.two (.two .n (.two .n .n)) (.two (.one .n) .n))))) (.two .n .n)))))
noncomputable def plenumlaw14_Few_env (m : Nat) : Env := [(12, .tell (plenumlaw13_Few_t m))]
noncomputable abbrev plenumlaw14_Few_fin : KO (AV × List AObj) := tellFK Tryd.prog [.tmp 2]
noncomputable def plenumlaw14_Few_r2 (m : Nat) (s : ASt) : RO := joinW Tryd.prog GG (plenumlaw14_Few_env m) m 32 (cdR (cdR (cdR (cdR plenumlaw14_Few_c)))) plenumlaw14_Few_h.r.r.r.r s (plenumlaw14_Few_fin)
noncomputable def plenumlaw14_Few_b1 (m : Nat) (s : ASt) (kc : ASt → RO) (kx : KO (AV × List AObj)) : RO := bodyW Tryd.prog GG (plenumlaw14_Few_env m) m 32 (cdL (cdL (cdR (cdL (cdR (cdR (cdR plenumlaw14_Few_c))))))) plenumlaw14_Few_h.r.r.r.l.r.c.c [0, 3, 4] [3] s kc kx
noncomputable def plenumlaw14_Few_r1 (m : Nat) (s : ASt) : RO := joinW Tryd.prog GG (plenumlaw14_Few_env m) m 32 (cdR (cdR plenumlaw14_Few_c)) plenumlaw14_Few_h.r.r s (plenumlaw14_Few_fin)
noncomputable def plenumlaw14_Few (m : Nat) (t0 : AV) : RO := exec Tryd.prog GG (plenumlaw14_Few_env m) m 32 plenumlaw14_Few_c plenumlaw14_Few_h ⟨[], argsT 0 [t0]⟩ (plenumlaw14_Few_fin)
theorem plenumlaw14_Few_r2_eq (m : Nat) (H : List AObj) (t3 : AV) : plenumlaw14_Few_r2 m ⟨H, [(3, t3)]⟩ =
  tellK H (ro H t3) := by
  refine (joinW_eq Tryd.prog GG (plenumlaw14_Few_env m) m 32 (cdR (cdR (cdR (cdR plenumlaw14_Few_c)))) plenumlaw14_Few_h.r.r.r.r ⟨H, [(3, t3)]⟩ (plenumlaw14_Few_fin)).trans ?_
  kernel_rfl
theorem plenumlaw14_Few_b1_eq (m : Nat) (H : List AObj) (t0 t3 t4 : AV) (kc : ASt → RO) (kx : KO (AV × List AObj)) : plenumlaw14_Few_b1 m ⟨H, [(0, t0), (3, t3), (4, t4)]⟩ kc kx =
  lenE false true H t0 fun t12 =>
  binE none false false .lss t4 t12 fun t13 =>
  condE t13 (
   idxSE 38 H t0 t4 fun t19 =>
   fieldE (some (0, 1)) t19 fun t20 =>
   loadE 1 H t20 fun t21 =>
   idxSE 38 H t0 t4 fun t24 =>
   fieldE (some (1, 37)) t24 fun t25 =>
   loadE 37 H t25 fun t26 =>
   tellE (plenumlaw13_Few m (ro H t26)) [(ro H t26)] fun t27 =>
   buildE (some pl_api_Snap) (some zc_api_Snap) [(0, t21), (1, t27)] fun t28 =>
   buildSE (some (ty_api_Snap, 36)) 1 [(0, t28)] fun t29 =>
   appE (some (ty_api_Snap, 36)) H t3 t29 fun t30 H2 =>
   binE none false false .add t4 (V (.int .i64 1)) fun t15 =>
   backE H.length H2 [(0, t0), (3, t30), (4, t15)] kc) (
   kx (.exit 0) ⟨H, [(3, t3)]⟩) := by
  refine (bodyW_eq Tryd.prog GG (plenumlaw14_Few_env m) m 32 (cdL (cdL (cdR (cdL (cdR (cdR (cdR plenumlaw14_Few_c))))))) plenumlaw14_Few_h.r.r.r.l.r.c.c [0, 3, 4] [3] ⟨H, [(0, t0), (3, t3), (4, t4)]⟩ kc kx).trans ?_
  kernel_rfl
theorem plenumlaw14_Few_r1_eq (m : Nat) (H : List AObj) (t0 : AV) : plenumlaw14_Few_r1 m ⟨H, [(0, t0)]⟩ =
  rowE (V (.slice none 0 0)) ty_api_Snap 36 H fun t3 H2 =>
  iterC m (plenumlaw14_Few_b1 m) ⟨H2, [(0, t0), (3, t3), (4, (V (.int .i64 0)))]⟩ (blockX 0 (seqX (fun s => plenumlaw14_Few_r2 m ⟨s.H, [(3, gt s.T 3)]⟩) (plenumlaw14_Few_fin))) := by
  refine (joinW_eq Tryd.prog GG (plenumlaw14_Few_env m) m 32 (cdR (cdR plenumlaw14_Few_c)) plenumlaw14_Few_h.r.r ⟨H, [(0, t0)]⟩ (plenumlaw14_Few_fin)).trans ?_
  kernel_rfl
theorem plenumlaw14_Few_eq (m : Nat) (t0 : AV) : plenumlaw14_Few m t0 =
  lenE false true [] t0 fun t6 =>
  binE none false false .gtr t6 (V (.int .i64 10)) fun t7 =>
  condE t7 (
   sliceE false (some (ty_api_Snap, 38)) [] t0 none (some (V (.int .i64 10))) fun t9 =>
   plenumlaw14_Few_r1 m ⟨[], [(0, t9)]⟩) (
   plenumlaw14_Few_r1 m ⟨[], [(0, t0)]⟩) := by
  refine (tellX Tryd.prog GG (plenumlaw14_Few_env m) m 32 plenumlaw14_Few_c plenumlaw14_Few_h ⟨[], argsT 0 [t0]⟩ [.tmp 2]).trans ?_
  kernel_rfl
noncomputable def plenumlaw14_Few_t (m : Nat) : List AV → RO | [t0] => plenumlaw14_Few m t0 | _ => none
theorem plenumlaw14_Few_ok (m : Nat) : ∀ args X H', plenumlaw14_Few_t m args = some (X, H') → ACp Tryd.prog GG 8 args X := by
  intro args X H' h
  unfold plenumlaw14_Few_t at h
  split at h
  · exact tell_okK MIX (by
    intro f e h
    simp only [plenumlaw14_Few_env, Prod.mk.injEq, List.mem_cons, List.not_mem_nil, or_false] at h
    obtain ⟨rfl, rfl⟩ := h
    · exact plenumlaw13_Few_ok m) (f := 8) (c := plenumlaw14_Few_c) Tryd.func8 rfl (by kernel_rfl) _ rfl Tryd.ntmps8 (Nat.le_of_ble_eq_true rfl) plenumlaw14_Few_h h
  · cases h
end Go.Proofs.YtopifabnobplcaaDoor

namespace Go.Proofs.YtopifabnobplcaaDoor
open Go.RowKit
set_option linter.unusedVariables false
set_option maxRecDepth 100000
noncomputable def plenumlaw14_awake_c : Code := (Tryd.f11.body).getD .skip
def plenumlaw14_awake_h : Hint := (.two .n (.two .n (.two .n (.two .n (.two .n (.two .n (.two .n .n)))))))
noncomputable def plenumlaw14_awake_env (m : Nat) : Env := [(13, .tell (snap_Keep_t m)), (17, .tell (snap_Last_t m)), (21, .tell (snap_Drop_t m)), (19, .tell (plenumref13_Same_t m))]
noncomputable abbrev plenumlaw14_awake_fin : KO (AV × List AObj) := tellFK Tryd.prog [.tmp 0]
noncomputable def plenumlaw14_awake (m : Nat) : RO := exec Tryd.prog GG (plenumlaw14_awake_env m) m 69 plenumlaw14_awake_c plenumlaw14_awake_h ⟨[], argsT 0 []⟩ (plenumlaw14_awake_fin)
theorem plenumlaw14_awake_eq (m : Nat) : plenumlaw14_awake m =
  buildE (some pl_api_Store) (some zc_api_Store) [(2, (V (.int .i64 9))), (3, (V (.int .i64 9)))] fun t11 =>
  allocE (some zc_api_Store) ty_api_Store [] fun t1 H1 =>
  storeE 37 H1 t1 t11 fun H2 =>
  loadE 37 H2 t1 fun t13 =>
  tellE (snap_Keep m (ro H2 (V (.slice none 0 0))) (V (.int .i64 5)) (ro H2 t13)) [(ro H2 (V (.slice none 0 0))), (V (.int .i64 5)), (ro H2 t13)] fun t14 =>
  extE t14 0 fun t15 =>
  extE t14 1 fun t16 =>
  loadE 37 H2 t1 fun t19 =>
  tellE (snap_Keep m (ro H2 t15) (V (.int .i64 5)) (ro H2 t19)) [(ro H2 t15), (V (.int .i64 5)), (ro H2 t19)] fun t20 =>
  extE t20 0 fun t21 =>
  extE t20 1 fun t22 =>
  tellE (snap_Last m (ro H2 t15) (V (.int .i64 9))) [(ro H2 t15), (V (.int .i64 9))] fun t25 =>
  extE t25 0 fun t26 =>
  extE t25 1 fun t27 =>
  extE t25 2 fun t28 =>
  allocE (some zc_api_Store) ty_api_Store H2 fun t7 H3 =>
  storeE 37 H3 t7 t27 fun H4 =>
  tellE (snap_Drop m (ro H4 t15) (V (.int .i64 9))) [(ro H4 t15), (V (.int .i64 9))] fun t31 =>
  extE t31 0 fun t32 =>
  extE t31 1 fun t33 =>
  lenE false true H4 t15 fun t35 =>
  binE none false false .eql t35 (V (.int .i64 1)) fun t36 =>
  condE t36 (
   binE none false false .eql t16 (V (.int .i64 0)) fun t39 =>
   condE t39 (
   binE none false false .eql t22 (V (.int .i64 18)) fun t43 =>
   condE t43 (
   binE none false false .eql t26 (V (.int .i64 5)) fun t47 =>
   condE t47 (
   loadE 37 H4 t7 fun t50 =>
   loadE 37 H4 t1 fun t51 =>
   tellE (plenumref13_Same m (ro H4 t50) (ro H4 t51)) [(ro H4 t50), (ro H4 t51)] fun t52 =>
   condE t52 (
   binE none false false .eql t28 (V (.int .i64 0)) fun t56 =>
   condE t56 (
   lenE false true H4 t32 fun t60 =>
   binE none false false .eql t60 (V (.int .i64 1)) fun t61 =>
   condE t61 (
   binE none false false .eql t33 (V (.int .i64 0)) fun t65 =>
   pickE t65 (V (.bool true)) (V (.bool false)) fun t68 =>
  tellK H4 (ro H4 t68)) (
   tellK H4 (ro H4 (V (.bool false))))) (
   tellK H4 (ro H4 (V (.bool false))))) (
   tellK H4 (ro H4 (V (.bool false))))) (
   tellK H4 (ro H4 (V (.bool false))))) (
   tellK H4 (ro H4 (V (.bool false))))) (
   tellK H4 (ro H4 (V (.bool false))))) (
   tellK H4 (ro H4 (V (.bool false)))) := by
  refine (tellX Tryd.prog GG (plenumlaw14_awake_env m) m 69 plenumlaw14_awake_c plenumlaw14_awake_h ⟨[], argsT 0 []⟩ [.tmp 0]).trans ?_
  kernel_rfl
noncomputable def plenumlaw14_awake_t (m : Nat) : List AV → RO | [] => plenumlaw14_awake m | _ => none
theorem plenumlaw14_awake_ok (m : Nat) : ∀ args X H', plenumlaw14_awake_t m args = some (X, H') → ACp Tryd.prog GG 11 args X := by
  intro args X H' h
  unfold plenumlaw14_awake_t at h
  split at h
  · exact tell_okK MIX (by
    intro f e h
    simp only [plenumlaw14_awake_env, Prod.mk.injEq, List.mem_cons, List.not_mem_nil, or_false] at h
    rcases h with ⟨rfl, rfl⟩ | ⟨rfl, rfl⟩ | ⟨rfl, rfl⟩ | ⟨rfl, rfl⟩
    · exact snap_Keep_ok m
    · exact snap_Last_ok m
    · exact snap_Drop_ok m
    · exact plenumref13_Same_ok m) (f := 11) (c := plenumlaw14_awake_c) Tryd.func11 rfl (by kernel_rfl) _ rfl Tryd.ntmps11 (Nat.le_of_ble_eq_true rfl) plenumlaw14_awake_h h
  · cases h
end Go.Proofs.YtopifabnobplcaaDoor

namespace Go.Proofs.YtopifabnobplcaaDoor
open Go.RowKit
set_option maxRecDepth 100000
end Go.Proofs.YtopifabnobplcaaDoor
