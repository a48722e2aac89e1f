/-
  Texts laid together, part 5 of 7: laws of a walk over data, contracts of functions, each whole by itself.
-/
import Derived.Test.YtoeajbhlkccekaaDoorMgd
import Derived.RangeFuncLeaves
import Derived.RangeFuncRecord
import Derived.RangeFuncCalls
import Derived.RangeFuncSeq
import Derived.TacticsIn
set_option maxRecDepth 100000
set_option linter.unusedVariables false
set_option linter.unusedSimpArgs false
namespace Go.Proofs.YtoeajbhlkccekaaDoor
open Go.RowKit
structure Tr where
 leaf : Nat → List Item
 ver : Nat → Int
def Tr.zero : Tr := ⟨fun _=>[],fun _=>0⟩
def Tr.setL (t : Tr) (k : Nat) (l : List Item) : Tr := ⟨fun i=>if i = k then l else t.leaf i,t.ver⟩
def Tr.setV (t : Tr) (k : Nat) (v : Int) : Tr := ⟨t.leaf,fun i=>if i = k then v else t.ver i⟩
def leC (t : Tr) : List AV := (List.range 16).map fun i=>lA (t.leaf i)
def veC (t : Tr) : List AV := (List.range 16).map fun i=>nA (t.ver i)
def tC (t : Tr) : List AV := leC t ++ veC t
def zC : List AV := List.replicate 16 (V (.slice none 0 0)) ++ List.replicate 16 (nA 0)
def tA (t : Tr) : AV := .agg (tC t)
theorem tA_def (t : Tr) : tA t = .agg (tC t) := _root_.id rfl
section
variable {t u : Tr} {i k m : Nat} {K1 : AV → Prop} {H : List AObj}
theorem leC_len : (leC t).length = 16 := by simp [leC]
theorem veC_len : (veC t).length = 16 := by simp [veC]
theorem tC_len : (tC t).length = 32 := by simp [tC,leC_len,veC_len]
theorem zC_len : zC.length = 32 := _root_.id rfl
theorem tC_mem {d : AV} (h : d ∈ tC t) : (∃ l : List Item,d = lA l) ∨ ∃ n,d = nA n := by
 simp only [tC,leC,veC,List.mem_append,List.mem_map] at h
 rcases h with ⟨i,_,rfl⟩|⟨i,_,rfl⟩
 ·exact .inl ⟨_,rfl⟩
 ·exact .inr ⟨_,rfl⟩
theorem tC_all {p : AV → Bool} (h1 : ∀ l : List Item,p (lA l) = true) (h2 : ∀ n,p (nA n) = true) : (tC t).all p = true := List.all_eq_true.2 fun d hd=>by
 rcases tC_mem hd with ⟨l,rfl⟩|⟨n,rfl⟩
 ·exact h1 l
 ·exact h2 n
theorem tC_sure : (tC t).all sure = true := tC_all (fun _=>rfl) fun _=>rfl
theorem tC_lt1 : (tC t).all (lt1 m) = true := tC_all (fun _=>rfl) fun _=>rfl
theorem tC_ltA : (tC t).all (ltA m) = true := tC_all (fun _=>rfl) fun _=>rfl
theorem leC_mem {d : AV} (h : d ∈ leC t) : ∃ l : List Item,d = lA l := by
 simp only [leC,List.mem_map] at h
 obtain ⟨i,_,rfl⟩ := h
 exact ⟨_,rfl⟩
theorem leC_lt1 : (leC t).all (lt1 m) = true := List.all_eq_true.2 fun d hd=>by obtain ⟨l,rfl⟩ := leC_mem hd;rfl
theorem tC_ro : (tC t).map (ro1 H) = tC t := by
 have : ∀ l : List AV,(∀ d ∈ l,ro1 H d = d) → l.map (ro1 H) = l := fun l h=>by
  conv=>rhs;rw [← List.map_id l]
  exact List.map_congr_left h
 refine this _ fun d hd=>?_
 rcases tC_mem hd with ⟨l,rfl⟩|⟨n,rfl⟩ <;> rfl
theorem zC_sure : zC.all sure = true := by decide
theorem zC_ltA : zC.all (ltA m) = true := _root_.id rfl
theorem zC_lt1 : zC.all (lt1 m) = true := _root_.id rfl
theorem lA_def (l : List Item) : lA l = SL (l.map (flA Item.cells)) := _root_.id rfl
theorem zC_ro : zC.map (ro1 H) = tC Tr.zero := _root_.id rfl
theorem tC_take : (tC t).take 32 = tC t := List.take_of_length_le (by rw [tC_len];exact Nat.le_refl _)
theorem zC_take : zC.take 32 = zC := _root_.id rfl
theorem tC_take16 : (tC t).take 16 = leC t := by rw [tC,List.take_append_of_le_length (by rw [leC_len];exact Nat.le_refl _),List.take_of_length_le (by rw [leC_len];exact Nat.le_refl _)]
theorem nth_le (h : i < 16) : nth (leC t) i K1 = K1 (lA (t.leaf i)) := by
 simp [nth,leC,List.getElem?_map,List.getElem?_range h]
theorem nth_tl (h : i < 16) : nth (tC t) i K1 = K1 (lA (t.leaf i)) := by
 have e := nth_le (t := t) (K1 := K1) h
 rw [← e]
 unfold nth tC
 rw [List.getElem?_append_left (by rw [leC_len];exact h)]
theorem nth_tv (h : 16 ≤ i) (h2 : i < 32) : nth (tC t) i K1 = K1 (nA (t.ver (i - 16))) := by
 simp only [nth,tC]
 rw [List.getElem?_append_right (by rw [leC_len];exact h),leC_len]
 simp [veC,List.getElem?_map,List.getElem?_range (show i - 16 < 16 by omega)]
theorem set_map {α β : Type} (f : Nat → β) (n k : Nat) (x : β) : ((List.range n).map f).set k x = (List.range n).map fun i=>if i = k then x else f i := by
 refine List.ext_getElem? fun j=>?_
 rw [List.getElem?_set]
 simp only [List.length_map,List.length_range,List.getElem?_map]
 by_cases hj : j < n
 ·rw [List.getElem?_range hj]
  by_cases e : k = j
  ·subst e;simp [hj]
  ·simp [e,Ne.symm e]
 ·rw [List.getElem?_eq_none (by simpa using hj)]
  by_cases e : k = j
  ·subst e;simp [hj]
  ·simp [e]
theorem set_tl {l : List Item} (h : i < 16) : (tC t).set i (SL (l.map (flA Item.cells))) = tC (t.setL i l) := by
 rw [tC,List.set_append_left _ _ (by rw [leC_len];exact h)]
 show (leC t).set i _ ++ veC t = leC (t.setL i l) ++ veC t
 congr 1
 rw [leC,set_map (α := Nat)]
 unfold leC Tr.setL
 refine List.map_congr_left fun j _=>?_
 dsimp only
 split <;> rfl
theorem set_tv {v : Int} (h : 16 ≤ i) (h2 : i < 32) : (tC t).set i (V (.int .i64 v)) = tC (t.setV (i - 16) v) := by
 rw [tC,List.set_append_right _ _ (by rw [leC_len];exact h),leC_len]
 show leC t ++ (veC t).set (i - 16) _ = leC t ++ veC (t.setV (i - 16) v)
 congr 1
 rw [veC,set_map (α := Nat)]
 unfold veC Tr.setV
 refine List.map_congr_left fun j _=>?_
 dsimp only
 split <;> rfl
theorem setCells_all {α : Type} {xs l : List α} (h : xs.length = l.length) : setCells l 0 xs = xs := by
 refine List.ext_getElem? fun j=>?_
 rw [setCells_get xs l 0 (by omega)]
 split
 ·simp
 ·rename_i hn
  rw [List.getElem?_eq_none (by omega),List.getElem?_eq_none (by omega)]
theorem sc_tt : setCells (tC t) 0 (tC u) = tC u := setCells_all (by rw [tC_len,tC_len])
theorem sc_zt : setCells zC 0 (tC u) = tC u := setCells_all (by rw [tC_len,zC_len])
theorem sc_tz : setCells (tC t) 0 zC = zC := setCells_all (by rw [tC_len,zC_len])
theorem sc_zz : setCells zC 0 zC = zC := _root_.id rfl
theorem add16 : 16 + k - 16 = k := by omega
end
theorem tz_T : zeroC Tryd.prog 26 = some zC := tz_26
def fewT (t : Tr) (k : Nat) : Tr := ⟨fun i=>if i < k then fewL (t.leaf i) else t.leaf i,t.ver⟩
theorem fewT_zero (t : Tr) : fewT t 0 = t := by simp [fewT]
theorem fewT_succ (t : Tr) (k : Nat) : (fewT t k).setL k (fewL ((fewT t k).leaf k)) = fewT t (k + 1) := by
 simp only [fewT,Tr.setL,Nat.lt_irrefl,if_false]
 congr 1
 funext i
 by_cases h : i = k
 ·subst h;simp
 ·by_cases h2 : i < k
  ·simp [h,h2,show i < k + 1 by omega]
  ·simp [h,h2,show ¬ i < k + 1 by omega]
theorem fewT_leaf (t : Tr) (k : Nat) : (fewT t k).leaf k = t.leaf k := by simp [fewT]
attribute [local go_sem_proc] Nat.reduceEqDiff Nat.reduceAdd Nat.reduceSub Nat.reduceMul Nat.reduceLeDiff Nat.reduceLT Int.reduceEq Int.reduceNe Int.reduceLT Int.reduceLE Int.reduceAdd Int.reduceSub Int.reduceMul Int.reduceNeg Int.reduceToNat reduceCtorEq
attribute [local go_sem_proc ↓] reduceIte
attribute [local go_sem ↓] str_size pk_tt pk_ff hold_one hold_two gO_some gA_tt gA_tf gA_ft gA_ff cA_true cA_false yP_n yP_r yK_n yK_r yQ_n yQ_r yC_nil yC_tmp yC_cell yo_nil yo_cons yo_none yo_guard yo_guardN ys_move ys_assign ys_pick ys_bin ys_un ys_build ys_buildSlice ys_load ys_nilCheck ys_conv ys_extract ys_fieldAddr ys_field ys_indexAddr ys_index ys_slice ys_len ys_alloc ys_box ys_store ys_call ys_append ys_makeFunc ys_callv yd_nil yd_alloc yd_store yd_move yg_move yd_assign yg_assign yd_pick yg_pick yd_bin yg_bin yd_un yg_un yd_build yg_build yd_buildSlice yg_buildSlice yd_load yg_load yd_nilCheck yg_nilCheck yd_conv yg_conv yd_extract yg_extract yd_fieldAddr yg_fieldAddr yd_field yg_field yd_indexAddr yg_indexAddr yd_index yg_index yd_slice yg_slice yd_len yg_len yd_call yg_call ixA_eq sl_es sl_row sl_nil ap_eq bs_eq bl_eq cv_eq ixV_agg thenA_n thenA_r thenA_x inB_n inB_r inB_x loop_r loop_x dstAt_zero dstAt_succ retP_n retP_r
attribute [local go_sem] hle_nil hle_cons oO_one oO_two oO_three oO_nil r1_r0 r1_r1 r1_r2 r1_r3 ro_OW roA_OW go_some al_some okX_f okX_t tells regOnly cv_cl cap0_V cap0_OP cap0_ptr ixA_s ixA_p ixA_o szOf_one szOf_two ixV_str ixW_some sl_str slE_some apE_nil apE_row bsE_one flE_some pget_zero pget_succ blE_some fil_nil fil_cons filB_some cvE_some cv_str' str_list str_cut str_data cut_all cut_to s_eql s_neq s_add s_lss s_geq s_leq s_gtr lt1 set_some set_none get_cons ev_tmp ev_const ev_func ev_global glob_cons cv_int cv_bool cv_str cv_slice cv_ptr cv_agg one_int one_bool one_str one_slice one_ptr b_add b_sub b_mul b_quo b_rem b_and b_or b_xor b_andNot b_shl b_shr b_eql b_neq b_lss b_leq b_gtr b_geq b_str b_beq b_bne u_not u_neg g_tt g_tf g_ft g_ff c_true c_false ex_tu nth_zero nth_succ nthO_zero nthO_succ l_ptr l_ptrV l_ptrS l_op cP_one pP_one oc_one oc_agg st_op f_ptr f_op fv_agg co_agg co_V co_slice co_OW co_OP co_ptr sure_V sure_slice sure_OW sure_OP sure_ptr sure_agg sc_nil sc_cons ixS ixSW ixSN bsV_nil bsV_cons el_slice el_row el_nil len_str len_slice len_row len_nil asI_none asI_some nil_op nil_ptr ro_int ro_bool ro_str ro_nils ro_slice ro_ptr ro_OP ro_OW ro_agg ro_tu roA_agg roA_V roA_slice roA_OW roA_OP roA_ptr r1_int r1_bool r1_str r1_nils r1_slice r1_ptr r1_OP resA_one resA_two resA_three noT_V noT_agg noT_slice noT_OW noT_OP noT_ptr noT_nil argsT_nil argsT_cons allC_nil allC_cons allC_append hle_nil hle_cons le_nil le_cons tT_V tT_SL tT_ptr tT_OW tT_OP tT_agg tT_TU tA_V tA_SL tA_ptr tA_OW tA_OP tA_agg t1_V t1_SL t1_ptr t1_OW t1_OP tO_mk get_cons beq_self_eq_true Nat.zero_lt_succ Nat.lt_add_one true_or or_true Bool.or_self Nat.zero_add Nat.add_zero Nat.mul_one Int.toNat_natCast Int.natCast_zero Int.natCast_add Int.cast_ofNat_Int or_false false_or or_true true_or Nat.sub_zero Int.natCast_nonneg Int.toNat_zero Bool.true_and Bool.and_true Bool.false_and Bool.and_false Bool.true_or Bool.or_true Bool.false_or Bool.or_false Bool.not_true Bool.not_false Bool.not_not true_and and_true false_and and_false not_true_eq_false not_false_eq_true eq_self decide_true decide_false ne_eq implies_true forall_const true_implies false_implies Bool.true_eq_false Bool.false_eq_true List.map_cons List.map_nil List.all_cons List.all_nil List.length_cons List.length_nil List.length_map List.length_append List.nil_append List.cons_append List.set_cons_zero List.set_cons_succ List.set_nil List.drop_zero List.drop_succ_cons List.drop_nil List.take_zero List.take_succ_cons List.take_nil Option.map_some Option.map_none Option.isSome_some tk_2 tk_3 tk_9 tk_22 tk_23 tk_24 tk_26 tk_28 tk_32 tk_43 tk_47 tk_58 tk_74 tk_109 tf_26_0 tf_26_1 tf_28_0 tf_28_1 tf_28_2 tf_28_3 tf_43_0 tf_43_1 tf_43_2 tf_47_0 tf_47_1 tf_58_0 tf_58_1 tf_58_2 tf_74_0 tf_74_1 ts_9 ts_22 ts_23 ts_24 ts_29 ts_104 ts_107 ts_121 ts_124 ta_9 ta_22 ta_23 ta_24 ta_29 ta_121 ta_124 tp_26 tp_28 tp_43 tp_47 tp_58 tp_74 tq_22 tq_29 tq_104 tq_107 tq_121 ti_3 ti_5 ti_109 tz_43 tz_58 tv_2 tv_3 tu_4 tv_4 tv_5 tu_9 tv_9 tv_32 tv_109 iA_def fl_it allC_it foldA_all lt_it lt_fold lA_def leC_lt1 tC_len zC_len tC_sure tC_lt1 tC_ltA zC_ltA zC_lt1 tC_ro zC_sure zC_ro tC_take zC_take tC_take16 sc_tt sc_zt sc_tz sc_zz add16 tz_T tA_def
set_option maxHeartbeats 400000 in
theorem few_d {G : Gl} (t : Tr) (hl : ∀ i,(t.leaf i).length ≤ maxLen) : ACp Tryd.prog G 33 [tA t] (tA (fewT t 16)) := by
 refine acp_of_wpC (c := _) Tryd.func33 rfl (by kernel_rfl) [.cell 2 26] rfl _ Tryd.ntmps33 (Nat.le_of_ble_eq_true rfl) rfl ?_
 repeat' (first|(with_reducible first|refine aq ?_|refine yr (by kernel_rfl) (Nat.le_of_ble_eq_true rfl) ?_|refine yx MIX (by kernel_rfl) (by kernel_rfl) (by kernel_rfl) (Nat.le_of_ble_eq_true rfl) ?_|refine yc ?_|refine yseq ?_|refine awp_block ?_|refine awp_ret ?_|refine awp_exit ?_|refine awp_skip ?_|refine yr1 (by kernel_rfl) (Nat.le_of_ble_eq_true rfl) ?_|refine yx1 MIX (by kernel_rfl) (by kernel_rfl) (by kernel_rfl) (Nat.le_of_ble_eq_true rfl) ?_)|(simp only [go_sem])|((with_reducible first|refine cA_t (by first|assumption|(simp only [decide_eq_true_eq,decide_eq_false_iff_not];first|assumption|omega)) (fun h=>?_)|refine cA_f (by first|assumption|(simp only [decide_eq_true_eq,decide_eq_false_iff_not];first|assumption|omega)) (fun h=>?_)|refine gA_t (by first|assumption|(simp only [decide_eq_true_eq,decide_eq_false_iff_not];first|assumption|omega)) (fun h=>?_)|refine gA_f (by first|assumption|(simp only [decide_eq_true_eq,decide_eq_false_iff_not];first|assumption|omega)) (fun h=>?_)|refine pk_t (by first|assumption|(simp only [decide_eq_true_eq,decide_eq_false_iff_not];first|assumption|omega)) (fun h=>?_)|refine pk_f (by first|assumption|(simp only [decide_eq_true_eq,decide_eq_false_iff_not];first|assumption|omega)) (fun h=>?_)) <;> (try rewrite [h]) <;> clear h)|(with_reducible refine pk_if ?_)|((with_reducible first|refine cA_split (fun h=>?_) (fun h=>?_)|refine gA_split (fun h=>?_) (fun h=>?_)) <;> (try rewrite [h]) <;> (try simp (disch := omega) only [w_i64,w_u64,tdiv_pos,tmod_pos,nth_map,foldA_len,nth_le,nth_tl,nth_tv,set_tl,set_tv] at h) <;> (try simp only [decide_eq_true_eq,decide_eq_false_iff_not,Bool.not_eq_true,Bool.not_eq_false,Bool.not_eq_true',Bool.not_eq_false',not_true_eq_false,not_false_eq_true] at h) <;> (try (exfalso;omega)))|(simp (disch := omega) only [w_i64,w_u64,tdiv_pos,tmod_pos,nth_map,foldA_len,nth_le,nth_tl,nth_tv,set_tl,set_tv])|(with_reducible first|refine And.intro (by first|assumption|rfl|omega) ?_|refine And.intro ?_ ?_))
 refine awp_loop (ι := {k : Nat // k ≤ 16}) (fun k=>⟨[⟨1,26,0,tC (fewT t k.1)⟩,⟨1,26,0,zC⟩],[(3,V (.int .i64 k.1)),(2,OP 1 0),(1,OP 0 0)]⟩) (fun k=>16 - k.1) ⟨0,Nat.zero_le _⟩ ?_ (Nat.zero_le _) ?_
 ·(refine le_mk ?_ ?_ ?_ <;> (try simp (disch := omega) only [go_sem,w_i64,w_u64,tdiv_pos,tmod_pos,nth_map,foldA_len,nth_le,nth_tl,nth_tv,set_tl,set_tv,fewT_zero]))
 rintro ⟨k,hk⟩
 dsimp only
 repeat' (first|(refine call_pure (items_d _ (by rw [fewT_leaf];exact hl k)) rfl ?_)|(refine loop_n ⟨k + 1,by omega⟩ ?_ (Nat.zero_le _) (by dsimp only;omega))|(refine le_mk ?_ ?_ ?_ <;> (try simp (disch := omega) only [go_sem,w_i64,w_u64,tdiv_pos,tmod_pos,nth_map,foldA_len,nth_le,nth_tl,nth_tv,set_tl,set_tv,fewT_succ]))|(with_reducible first|refine aq ?_|refine yr (by kernel_rfl) (Nat.le_of_ble_eq_true rfl) ?_|refine yx MIX (by kernel_rfl) (by kernel_rfl) (by kernel_rfl) (Nat.le_of_ble_eq_true rfl) ?_|refine yc ?_|refine yseq ?_|refine awp_block ?_|refine awp_ret ?_|refine awp_exit ?_|refine awp_skip ?_|refine yr1 (by kernel_rfl) (Nat.le_of_ble_eq_true rfl) ?_|refine yx1 MIX (by kernel_rfl) (by kernel_rfl) (by kernel_rfl) (Nat.le_of_ble_eq_true rfl) ?_)|(simp only [go_sem])|((with_reducible first|refine cA_t (by first|assumption|(simp only [decide_eq_true_eq,decide_eq_false_iff_not];first|assumption|omega)) (fun h=>?_)|refine cA_f (by first|assumption|(simp only [decide_eq_true_eq,decide_eq_false_iff_not];first|assumption|omega)) (fun h=>?_)|refine gA_t (by first|assumption|(simp only [decide_eq_true_eq,decide_eq_false_iff_not];first|assumption|omega)) (fun h=>?_)|refine gA_f (by first|assumption|(simp only [decide_eq_true_eq,decide_eq_false_iff_not];first|assumption|omega)) (fun h=>?_)|refine pk_t (by first|assumption|(simp only [decide_eq_true_eq,decide_eq_false_iff_not];first|assumption|omega)) (fun h=>?_)|refine pk_f (by first|assumption|(simp only [decide_eq_true_eq,decide_eq_false_iff_not];first|assumption|omega)) (fun h=>?_)) <;> (try rewrite [h]) <;> clear h)|(with_reducible refine pk_if ?_)|((with_reducible first|refine cA_split (fun h=>?_) (fun h=>?_)|refine gA_split (fun h=>?_) (fun h=>?_)) <;> (try rewrite [h]) <;> (try simp (disch := omega) only [w_i64,w_u64,tdiv_pos,tmod_pos,nth_map,foldA_len,nth_le,nth_tl,nth_tv,set_tl,set_tv] at h) <;> (try simp only [decide_eq_true_eq,decide_eq_false_iff_not,Bool.not_eq_true,Bool.not_eq_false,Bool.not_eq_true',Bool.not_eq_false',not_true_eq_false,not_false_eq_true] at h) <;> (try (exfalso;omega)))|(simp (disch := omega) only [w_i64,w_u64,tdiv_pos,tmod_pos,nth_map,foldA_len,nth_le,nth_tl,nth_tv,set_tl,set_tv])|(with_reducible first|refine And.intro (by first|assumption|rfl|omega) ?_|refine And.intro ?_ ?_))
 obtain rfl : k = 16 := by omega
 rfl
end Go.Proofs.YtoeajbhlkccekaaDoor

namespace Go.Proofs.YtoeajbhlkccekaaDoor
open Go.RowKit
def bucketK (k : Bytes) : Int := if keyB k then ((k.getD 0 0).toNat : Int) % 16 else -1
def fitB (b ver : Int) (x : Item) : Bool := decide (bucketK x.key = b) && decide (x.ver ≤ ver)
def fitsB (b : Int) (l : List Item) (ver : Int) : Bool := leafB l && decide (0 ≤ ver) && decide (ver ≤ 2147483647) && l.all (fitB b ver)
def mayT (t : Tr) : Bool := (List.range 16).all fun i=>fitsB i (t.leaf i) (t.ver i)
theorem fits_no {b : Int} {l : List Item} {ver : Int} {k : Nat} {h : k < l.length} (h1 : fitB b ver l[k] = false) : fitsB b l ver = false := by
 have : l.all (fitB b ver) = false := List.all_eq_false.2 ⟨l[k],List.getElem_mem h,by simp [h1]⟩
 simp [fitsB,this]
theorem key_pos {k : Bytes} (h : keyB k = true) : 0 < k.length := by
 cases k with
 |nil=>simp [keyB] at h
 |cons a r=>simp
theorem leafB_def (l : List Item) : leafB l = ((chk l).1 == 0) := _root_.id rfl
theorem allTk {α : Type} {p : α → Bool} {l : List α} {k : Nat} (h : k < l.length) (h1 : (l.take k).all p = true) (h2 : p l[k] = true) : (l.take (k + 1)).all p = true := by
 rw [List.take_succ_eq_append_getElem h,List.all_append,h1];simp [h2]
theorem may_no {t : Tr} {k : Nat} (hk : k < 16) (h : fitsB k (t.leaf k) (t.ver k) = false) : mayT t = false := List.all_eq_false.2 ⟨k,List.mem_range.2 hk,by simp [h]⟩
attribute [local go_sem_proc] Nat.reduceEqDiff Nat.reduceAdd Nat.reduceSub Nat.reduceMul Nat.reduceLeDiff Nat.reduceLT Int.reduceEq Int.reduceNe Int.reduceLT Int.reduceLE Int.reduceAdd Int.reduceSub Int.reduceMul Int.reduceNeg Int.reduceToNat reduceCtorEq
attribute [local go_sem_proc ↓] reduceIte
attribute [local go_sem ↓] str_size pk_tt pk_ff hold_one hold_two gO_some gA_tt gA_tf gA_ft gA_ff cA_true cA_false yP_n yP_r yK_n yK_r yQ_n yQ_r yC_nil yC_tmp yC_cell yo_nil yo_cons yo_none yo_guard yo_guardN ys_move ys_assign ys_pick ys_bin ys_un ys_build ys_buildSlice ys_load ys_nilCheck ys_conv ys_extract ys_fieldAddr ys_field ys_indexAddr ys_index ys_slice ys_len ys_alloc ys_box ys_store ys_call ys_append ys_makeFunc ys_callv yd_nil yd_alloc yd_store yd_move yg_move yd_assign yg_assign yd_pick yg_pick yd_bin yg_bin yd_un yg_un yd_build yg_build yd_buildSlice yg_buildSlice yd_load yg_load yd_nilCheck yg_nilCheck yd_conv yg_conv yd_extract yg_extract yd_fieldAddr yg_fieldAddr yd_field yg_field yd_indexAddr yg_indexAddr yd_index yg_index yd_slice yg_slice yd_len yg_len yd_call yg_call ixA_eq sl_es sl_row sl_nil ap_eq bs_eq bl_eq cv_eq ixV_agg thenA_n thenA_r thenA_x inB_n inB_r inB_x loop_r loop_x dstAt_zero dstAt_succ retP_n retP_r
attribute [local go_sem] hle_nil hle_cons oO_one oO_two oO_three oO_nil r1_r0 r1_r1 r1_r2 r1_r3 ro_OW roA_OW go_some al_some okX_f okX_t tells regOnly cv_cl cap0_V cap0_OP cap0_ptr ixA_s ixA_p ixA_o szOf_one szOf_two ixV_str ixW_some sl_str slE_some apE_nil apE_row bsE_one flE_some pget_zero pget_succ blE_some fil_nil fil_cons filB_some cvE_some cv_str' str_list str_cut str_data cut_all cut_to s_eql s_neq s_add s_lss s_geq s_leq s_gtr lt1 set_some set_none get_cons ev_tmp ev_const ev_func ev_global glob_cons cv_int cv_bool cv_str cv_slice cv_ptr cv_agg one_int one_bool one_str one_slice one_ptr b_add b_sub b_mul b_quo b_rem b_and b_or b_xor b_andNot b_shl b_shr b_eql b_neq b_lss b_leq b_gtr b_geq b_str b_beq b_bne u_not u_neg g_tt g_tf g_ft g_ff c_true c_false ex_tu nth_zero nth_succ nthO_zero nthO_succ l_ptr l_ptrV l_ptrS l_op cP_one pP_one oc_one oc_agg st_op f_ptr f_op fv_agg co_agg co_V co_slice co_OW co_OP co_ptr sure_V sure_slice sure_OW sure_OP sure_ptr sure_agg sc_nil sc_cons ixS ixSW ixSN bsV_nil bsV_cons el_slice el_row el_nil len_str len_slice len_row len_nil asI_none asI_some nil_op nil_ptr ro_int ro_bool ro_str ro_nils ro_slice ro_ptr ro_OP ro_OW ro_agg ro_tu roA_agg roA_V roA_slice roA_OW roA_OP roA_ptr r1_int r1_bool r1_str r1_nils r1_slice r1_ptr r1_OP resA_one resA_two resA_three noT_V noT_agg noT_slice noT_OW noT_OP noT_ptr noT_nil argsT_nil argsT_cons allC_nil allC_cons allC_append hle_nil hle_cons le_nil le_cons tT_V tT_SL tT_ptr tT_OW tT_OP tT_agg tT_TU tA_V tA_SL tA_ptr tA_OW tA_OP tA_agg t1_V t1_SL t1_ptr t1_OW t1_OP tO_mk get_cons beq_self_eq_true Nat.zero_lt_succ Nat.lt_add_one true_or or_true Bool.or_self Nat.zero_add Nat.add_zero Nat.mul_one Int.toNat_natCast Int.natCast_zero Int.natCast_add Int.cast_ofNat_Int or_false false_or or_true true_or Nat.sub_zero Int.natCast_nonneg Int.toNat_zero Bool.true_and Bool.and_true Bool.false_and Bool.and_false Bool.true_or Bool.or_true Bool.false_or Bool.or_false Bool.not_true Bool.not_false Bool.not_not true_and and_true false_and and_false not_true_eq_false not_false_eq_true eq_self decide_true decide_false ne_eq implies_true forall_const true_implies false_implies Bool.true_eq_false Bool.false_eq_true List.map_cons List.map_nil List.all_cons List.all_nil List.length_cons List.length_nil List.length_map List.length_append List.nil_append List.cons_append List.set_cons_zero List.set_cons_succ List.set_nil List.drop_zero List.drop_succ_cons List.drop_nil List.take_zero List.take_succ_cons List.take_nil Option.map_some Option.map_none Option.isSome_some tk_2 tk_3 tk_9 tk_22 tk_23 tk_24 tk_26 tk_28 tk_32 tk_43 tk_47 tk_58 tk_74 tk_109 tf_26_0 tf_26_1 tf_28_0 tf_28_1 tf_28_2 tf_28_3 tf_43_0 tf_43_1 tf_43_2 tf_47_0 tf_47_1 tf_58_0 tf_58_1 tf_58_2 tf_74_0 tf_74_1 ts_9 ts_22 ts_23 ts_24 ts_29 ts_104 ts_107 ts_121 ts_124 ta_9 ta_22 ta_23 ta_24 ta_29 ta_121 ta_124 tp_26 tp_28 tp_43 tp_47 tp_58 tp_74 tq_22 tq_29 tq_104 tq_107 tq_121 ti_3 ti_5 ti_109 tz_43 tz_58 tv_2 tv_3 tu_4 tv_4 tv_5 tu_9 tv_9 tv_32 tv_109 iA_def fl_it allC_it foldA_all lt_it lt_fold lA_def leC_lt1 tC_len zC_len tC_sure tC_lt1 tC_ltA zC_ltA zC_lt1 tC_ro zC_sure zC_ro tC_take zC_take tC_take16 sc_tt sc_zt sc_tz sc_zz add16 tz_T tA_def
set_option maxHeartbeats 400000 in
theorem bucket_d {G : Gl} (hG : SigG G) (k : Bytes) : ACp Tryd.prog G 69 [sA k] (nA (bucketK k)) := by
 have hb := UInt8.toNat_lt (k.getD 0 0)
 have hp := @key_pos k
 refine acp_of_wpC (c := _) Tryd.func69 rfl (by kernel_rfl) [.tmp 2] rfl _ Tryd.ntmps69 (Nat.le_of_ble_eq_true rfl) rfl ?_
 repeat' (first|(refine call_pure (cl_keyis _ hG) rfl ?_)|(with_reducible first|refine aq ?_|refine yr (by kernel_rfl) (Nat.le_of_ble_eq_true rfl) ?_|refine yx MIX (by kernel_rfl) (by kernel_rfl) (by kernel_rfl) (Nat.le_of_ble_eq_true rfl) ?_|refine yc ?_|refine yseq ?_|refine awp_block ?_|refine awp_ret ?_|refine awp_exit ?_|refine awp_skip ?_|refine yr1 (by kernel_rfl) (Nat.le_of_ble_eq_true rfl) ?_|refine yx1 MIX (by kernel_rfl) (by kernel_rfl) (by kernel_rfl) (Nat.le_of_ble_eq_true rfl) ?_)|(simp only [go_sem])|((with_reducible first|refine cA_t (by first|assumption|(simp only [decide_eq_true_eq,decide_eq_false_iff_not];first|assumption|omega)) (fun h=>?_)|refine cA_f (by first|assumption|(simp only [decide_eq_true_eq,decide_eq_false_iff_not];first|assumption|omega)) (fun h=>?_)|refine gA_t (by first|assumption|(simp only [decide_eq_true_eq,decide_eq_false_iff_not];first|assumption|omega)) (fun h=>?_)|refine gA_f (by first|assumption|(simp only [decide_eq_true_eq,decide_eq_false_iff_not];first|assumption|omega)) (fun h=>?_)|refine pk_t (by first|assumption|(simp only [decide_eq_true_eq,decide_eq_false_iff_not];first|assumption|omega)) (fun h=>?_)|refine pk_f (by first|assumption|(simp only [decide_eq_true_eq,decide_eq_false_iff_not];first|assumption|omega)) (fun h=>?_)) <;> (try rewrite [h]) <;> clear h)|(with_reducible refine pk_if ?_)|((with_reducible first|refine cA_split (fun h=>?_) (fun h=>?_)|refine gA_split (fun h=>?_) (fun h=>?_)) <;> (try rewrite [h]) <;> (try simp (disch := omega) only [w_i64,w_u64,tdiv_pos,tmod_pos,nth_map,foldA_len,nth_le,nth_tl,nth_tv,set_tl,set_tv] at h) <;> (try simp only [decide_eq_true_eq,decide_eq_false_iff_not,Bool.not_eq_true,Bool.not_eq_false,Bool.not_eq_true',Bool.not_eq_false',not_true_eq_false,not_false_eq_true] at h) <;> (try (exfalso;omega)))|(simp (disch := omega) only [w_i64,w_u64,tdiv_pos,tmod_pos,nth_map,foldA_len,nth_le,nth_tl,nth_tv,set_tl,set_tv])|(with_reducible first|refine And.intro (by first|assumption|rfl|omega) ?_|refine And.intro ?_ ?_))
 ·rw [bucketK,h];rfl
 ·have := hp h;omega
 ·rw [bucketK,h];rfl
set_option maxHeartbeats 400000 in
theorem mayLeaf_d {G : Gl} (hG : SigG G) (b : Int) (l : List Item) (ver : Int) (hl : l.length ≤ 34359738368) : ACp Tryd.prog G 70 [nA b,lA l,nA ver] (bA (fitsB b l ver)) := by
 refine acp_of_wpC (c := _) Tryd.func70 rfl (by kernel_rfl) [.tmp 6] rfl _ Tryd.ntmps70 (Nat.le_of_ble_eq_true rfl) rfl ?_
 repeat' (first|(refine call_pure (cl_check _ hG hl) rfl ?_)|(with_reducible first|refine aq ?_|refine yr (by kernel_rfl) (Nat.le_of_ble_eq_true rfl) ?_|refine yx MIX (by kernel_rfl) (by kernel_rfl) (by kernel_rfl) (Nat.le_of_ble_eq_true rfl) ?_|refine yc ?_|refine yseq ?_|refine awp_block ?_|refine awp_ret ?_|refine awp_exit ?_|refine awp_skip ?_|refine yr1 (by kernel_rfl) (Nat.le_of_ble_eq_true rfl) ?_|refine yx1 MIX (by kernel_rfl) (by kernel_rfl) (by kernel_rfl) (Nat.le_of_ble_eq_true rfl) ?_)|(simp only [go_sem])|((with_reducible first|refine cA_t (by first|assumption|(simp only [decide_eq_true_eq,decide_eq_false_iff_not];first|assumption|omega)) (fun h=>?_)|refine cA_f (by first|assumption|(simp only [decide_eq_true_eq,decide_eq_false_iff_not];first|assumption|omega)) (fun h=>?_)|refine gA_t (by first|assumption|(simp only [decide_eq_true_eq,decide_eq_false_iff_not];first|assumption|omega)) (fun h=>?_)|refine gA_f (by first|assumption|(simp only [decide_eq_true_eq,decide_eq_false_iff_not];first|assumption|omega)) (fun h=>?_)|refine pk_t (by first|assumption|(simp only [decide_eq_true_eq,decide_eq_false_iff_not];first|assumption|omega)) (fun h=>?_)|refine pk_f (by first|assumption|(simp only [decide_eq_true_eq,decide_eq_false_iff_not];first|assumption|omega)) (fun h=>?_)) <;> (try rewrite [h]) <;> clear h)|(with_reducible refine pk_if ?_)|((with_reducible first|refine cA_split (fun h=>?_) (fun h=>?_)|refine gA_split (fun h=>?_) (fun h=>?_)) <;> (try rewrite [h]) <;> (try simp (disch := omega) only [w_i64,w_u64,tdiv_pos,tmod_pos,nth_map,foldA_len,nth_le,nth_tl,nth_tv,set_tl,set_tv] at h) <;> (try simp only [decide_eq_true_eq,decide_eq_false_iff_not,Bool.not_eq_true,Bool.not_eq_false,Bool.not_eq_true',Bool.not_eq_false',not_true_eq_false,not_false_eq_true] at h) <;> (try (exfalso;omega)))|(simp (disch := omega) only [w_i64,w_u64,tdiv_pos,tmod_pos,nth_map,foldA_len,nth_le,nth_tl,nth_tv,set_tl,set_tv])|(with_reducible first|refine And.intro (by first|assumption|rfl|omega) ?_|refine And.intro ?_ ?_))
 ·rw [fitsB,leafB_def,show ((chk l).1 == 0) = false by simpa using fun e=>h (by omega)];rfl
 ·rw [fitsB,show decide (0 ≤ ver) = false by simp;omega];simp
 ·rw [fitsB,show decide (ver ≤ 2147483647) = false by simp;omega];simp
 rename_i h1 h2
 have hc : (chk l).1 = 0 := by omega
 refine awp_loop (ι := {k : Nat // k ≤ l.length ∧ (l.take k).all (fitB b ver) = true}) (fun k=>⟨[],[(28,V (.int .i64 k.1)),(27,V (.int .i64 l.length)),(26,SL (l.map (flA Item.cells))),(2,V (.int .i64 ver)),(0,V (.int .i64 b))]⟩) (fun k=>l.length - k.1) ⟨0,Nat.zero_le _,rfl⟩ ?_ (Nat.zero_le _) ?_
 ·(refine le_mk ?_ ?_ ?_ <;> (try simp (disch := omega) only [go_sem,w_i64,w_u64,tdiv_pos,tmod_pos,nth_map,foldA_len,nth_le,nth_tl,nth_tv,set_tl,set_tv]))
 rintro ⟨k,hk,hall⟩
 dsimp only
 repeat' (first|(refine call_pure (bucket_d hG _) rfl ?_)|(refine loop_n ⟨k + 1,by omega,?_⟩ ?_ (Nat.zero_le _) (by dsimp only;omega))|(refine le_mk ?_ ?_ ?_ <;> (try simp (disch := omega) only [go_sem,w_i64,w_u64,tdiv_pos,tmod_pos,nth_map,foldA_len,nth_le,nth_tl,nth_tv,set_tl,set_tv]))|(with_reducible first|refine aq ?_|refine yr (by kernel_rfl) (Nat.le_of_ble_eq_true rfl) ?_|refine yx MIX (by kernel_rfl) (by kernel_rfl) (by kernel_rfl) (Nat.le_of_ble_eq_true rfl) ?_|refine yc ?_|refine yseq ?_|refine awp_block ?_|refine awp_ret ?_|refine awp_exit ?_|refine awp_skip ?_|refine yr1 (by kernel_rfl) (Nat.le_of_ble_eq_true rfl) ?_|refine yx1 MIX (by kernel_rfl) (by kernel_rfl) (by kernel_rfl) (Nat.le_of_ble_eq_true rfl) ?_)|(simp only [go_sem])|((with_reducible first|refine cA_t (by first|assumption|(simp only [decide_eq_true_eq,decide_eq_false_iff_not];first|assumption|omega)) (fun h=>?_)|refine cA_f (by first|assumption|(simp only [decide_eq_true_eq,decide_eq_false_iff_not];first|assumption|omega)) (fun h=>?_)|refine gA_t (by first|assumption|(simp only [decide_eq_true_eq,decide_eq_false_iff_not];first|assumption|omega)) (fun h=>?_)|refine gA_f (by first|assumption|(simp only [decide_eq_true_eq,decide_eq_false_iff_not];first|assumption|omega)) (fun h=>?_)|refine pk_t (by first|assumption|(simp only [decide_eq_true_eq,decide_eq_false_iff_not];first|assumption|omega)) (fun h=>?_)|refine pk_f (by first|assumption|(simp only [decide_eq_true_eq,decide_eq_false_iff_not];first|assumption|omega)) (fun h=>?_)) <;> (try rewrite [h]) <;> clear h)|(with_reducible refine pk_if ?_)|((with_reducible first|refine cA_split (fun h=>?_) (fun h=>?_)|refine gA_split (fun h=>?_) (fun h=>?_)) <;> (try rewrite [h]) <;> (try simp (disch := omega) only [w_i64,w_u64,tdiv_pos,tmod_pos,nth_map,foldA_len,nth_le,nth_tl,nth_tv,set_tl,set_tv] at h) <;> (try simp only [decide_eq_true_eq,decide_eq_false_iff_not,Bool.not_eq_true,Bool.not_eq_false,Bool.not_eq_true',Bool.not_eq_false',not_true_eq_false,not_false_eq_true] at h) <;> (try (exfalso;omega)))|(simp (disch := omega) only [w_i64,w_u64,tdiv_pos,tmod_pos,nth_map,foldA_len,nth_le,nth_tl,nth_tv,set_tl,set_tv])|(with_reducible first|refine And.intro (by first|assumption|rfl|omega) ?_|refine And.intro ?_ ?_))
 ·rw [fits_no (k := k) (h := by omega) (by simp [fitB,h])]
 ·rw [fits_no (k := k) (h := by omega) (by simp [fitB];omega)]
 ·refine allTk (by omega) hall ?_
  rw [fitB,Bool.and_eq_true,decide_eq_true_eq,decide_eq_true_eq]
  constructor <;> omega
 ·rw [List.take_of_length_le (by omega)] at hall
  rw [fitsB,leafB_def,hc,hall,show decide (0 ≤ ver) = true by simp;omega,show decide (ver ≤ 2147483647) = true by simp;omega]
  rfl
set_option maxHeartbeats 400000 in
theorem may_d {G : Gl} (hG : SigG G) (t : Tr) (hl : ∀ i,(t.leaf i).length ≤ 34359738368) : ACp Tryd.prog G 47 [tA t] (bA (mayT t)) := by
 refine acp_of_wpC (c := _) Tryd.func47 rfl (by kernel_rfl) [.tmp 2] rfl _ Tryd.ntmps47 (Nat.le_of_ble_eq_true rfl) rfl ?_
 repeat' (first|(with_reducible first|refine aq ?_|refine yr (by kernel_rfl) (Nat.le_of_ble_eq_true rfl) ?_|refine yx MIX (by kernel_rfl) (by kernel_rfl) (by kernel_rfl) (Nat.le_of_ble_eq_true rfl) ?_|refine yc ?_|refine yseq ?_|refine awp_block ?_|refine awp_ret ?_|refine awp_exit ?_|refine awp_skip ?_|refine yr1 (by kernel_rfl) (Nat.le_of_ble_eq_true rfl) ?_|refine yx1 MIX (by kernel_rfl) (by kernel_rfl) (by kernel_rfl) (Nat.le_of_ble_eq_true rfl) ?_)|(simp only [go_sem])|((with_reducible first|refine cA_t (by first|assumption|(simp only [decide_eq_true_eq,decide_eq_false_iff_not];first|assumption|omega)) (fun h=>?_)|refine cA_f (by first|assumption|(simp only [decide_eq_true_eq,decide_eq_false_iff_not];first|assumption|omega)) (fun h=>?_)|refine gA_t (by first|assumption|(simp only [decide_eq_true_eq,decide_eq_false_iff_not];first|assumption|omega)) (fun h=>?_)|refine gA_f (by first|assumption|(simp only [decide_eq_true_eq,decide_eq_false_iff_not];first|assumption|omega)) (fun h=>?_)|refine pk_t (by first|assumption|(simp only [decide_eq_true_eq,decide_eq_false_iff_not];first|assumption|omega)) (fun h=>?_)|refine pk_f (by first|assumption|(simp only [decide_eq_true_eq,decide_eq_false_iff_not];first|assumption|omega)) (fun h=>?_)) <;> (try rewrite [h]) <;> clear h)|(with_reducible refine pk_if ?_)|((with_reducible first|refine cA_split (fun h=>?_) (fun h=>?_)|refine gA_split (fun h=>?_) (fun h=>?_)) <;> (try rewrite [h]) <;> (try simp (disch := omega) only [w_i64,w_u64,tdiv_pos,tmod_pos,nth_map,foldA_len,nth_le,nth_tl,nth_tv,set_tl,set_tv] at h) <;> (try simp only [decide_eq_true_eq,decide_eq_false_iff_not,Bool.not_eq_true,Bool.not_eq_false,Bool.not_eq_true',Bool.not_eq_false',not_true_eq_false,not_false_eq_true] at h) <;> (try (exfalso;omega)))|(simp (disch := omega) only [w_i64,w_u64,tdiv_pos,tmod_pos,nth_map,foldA_len,nth_le,nth_tl,nth_tv,set_tl,set_tv])|(with_reducible first|refine And.intro (by first|assumption|rfl|omega) ?_|refine And.intro ?_ ?_))
 refine awp_loop (ι := {k : Nat // k ≤ 16 ∧ (List.range k).all (fun i=>fitsB i (t.leaf i) (t.ver i)) = true}) (fun k=>⟨[⟨1,26,0,tC t⟩],[(7,V (.int .i64 k.1)),(6, .agg (leC t)),(1,OP 0 0)]⟩) (fun k=>16 - k.1) ⟨0,Nat.zero_le _,rfl⟩ ?_ (Nat.zero_le _) ?_
 ·(refine le_mk ?_ ?_ ?_ <;> (try simp (disch := omega) only [go_sem,w_i64,w_u64,tdiv_pos,tmod_pos,nth_map,foldA_len,nth_le,nth_tl,nth_tv,set_tl,set_tv]))
 rintro ⟨k,hk,hall⟩
 dsimp only
 repeat' (first|(refine call_pure (mayLeaf_d hG _ _ _ (hl k)) rfl ?_)|(refine loop_n ⟨k + 1,by omega,?_⟩ ?_ (Nat.zero_le _) (by dsimp only;omega))|(refine le_mk ?_ ?_ ?_ <;> (try simp (disch := omega) only [go_sem,w_i64,w_u64,tdiv_pos,tmod_pos,nth_map,foldA_len,nth_le,nth_tl,nth_tv,set_tl,set_tv]))|(with_reducible first|refine aq ?_|refine yr (by kernel_rfl) (Nat.le_of_ble_eq_true rfl) ?_|refine yx MIX (by kernel_rfl) (by kernel_rfl) (by kernel_rfl) (Nat.le_of_ble_eq_true rfl) ?_|refine yc ?_|refine yseq ?_|refine awp_block ?_|refine awp_ret ?_|refine awp_exit ?_|refine awp_skip ?_|refine yr1 (by kernel_rfl) (Nat.le_of_ble_eq_true rfl) ?_|refine yx1 MIX (by kernel_rfl) (by kernel_rfl) (by kernel_rfl) (Nat.le_of_ble_eq_true rfl) ?_)|(simp only [go_sem])|((with_reducible first|refine cA_t (by first|assumption|(simp only [decide_eq_true_eq,decide_eq_false_iff_not];first|assumption|omega)) (fun h=>?_)|refine cA_f (by first|assumption|(simp only [decide_eq_true_eq,decide_eq_false_iff_not];first|assumption|omega)) (fun h=>?_)|refine gA_t (by first|assumption|(simp only [decide_eq_true_eq,decide_eq_false_iff_not];first|assumption|omega)) (fun h=>?_)|refine gA_f (by first|assumption|(simp only [decide_eq_true_eq,decide_eq_false_iff_not];first|assumption|omega)) (fun h=>?_)|refine pk_t (by first|assumption|(simp only [decide_eq_true_eq,decide_eq_false_iff_not];first|assumption|omega)) (fun h=>?_)|refine pk_f (by first|assumption|(simp only [decide_eq_true_eq,decide_eq_false_iff_not];first|assumption|omega)) (fun h=>?_)) <;> (try rewrite [h]) <;> clear h)|(with_reducible refine pk_if ?_)|((with_reducible first|refine cA_split (fun h=>?_) (fun h=>?_)|refine gA_split (fun h=>?_) (fun h=>?_)) <;> (try rewrite [h]) <;> (try simp (disch := omega) only [w_i64,w_u64,tdiv_pos,tmod_pos,nth_map,foldA_len,nth_le,nth_tl,nth_tv,set_tl,set_tv] at h) <;> (try simp only [decide_eq_true_eq,decide_eq_false_iff_not,Bool.not_eq_true,Bool.not_eq_false,Bool.not_eq_true',Bool.not_eq_false',not_true_eq_false,not_false_eq_true] at h) <;> (try (exfalso;omega)))|(simp (disch := omega) only [w_i64,w_u64,tdiv_pos,tmod_pos,nth_map,foldA_len,nth_le,nth_tl,nth_tv,set_tl,set_tv])|(with_reducible first|refine And.intro (by first|assumption|rfl|omega) ?_|refine And.intro ?_ ?_))
 ·rw [may_no (by omega) h]
 ·rw [List.all_append,hall]
  simp [h]
 ·obtain rfl : k = 16 := by omega
  rw [mayT,hall]
end Go.Proofs.YtoeajbhlkccekaaDoor

namespace Go.Proofs.YtoeajbhlkccekaaDoor
open Go.RowKit
theorem bucketK_in {k : Bytes} (h : keyB k = true) : 0 ≤ bucketK k ∧ bucketK k < 16 := by
 rw [bucketK,h];simp only [if_true];omega
def bk (k : Bytes) : Nat := (bucketK k).toNat
theorem bk_lt {k : Bytes} (h : keyB k = true) : bk k < 16 := by have := bucketK_in h;unfold bk;omega
def getT (t : Tr) (k : Bytes) : Option Item := if keyB k && mayT t then getK (t.leaf (bk k)) k else none
def chgT (t : Tr) (b : Nat) (ver : Int) (r : List Item × Nat) : Tr × Nat := if r.2 = 0 then ((t.setL b r.1).setV b ver,0) else (Tr.zero,r.2)
def putT (t : Tr) (x : Item) : Tr × Nat := if !itemB x || !mayT t then (Tr.zero,1) else if x.ver < t.ver (bk x.key) then (Tr.zero,18) else chgT t (bk x.key) x.ver (putK (t.leaf (bk x.key)) x)
def delT (t : Tr) (k : Bytes) (ver : Int) : Tr × Nat := if !mayT t || decide (ver < 0) || decide (2147483647 < ver) then (Tr.zero,1) else if (getT t k).isSome = false then (Tr.zero,6) else if ver < t.ver (bk k) then (Tr.zero,18) else chgT t (bk k) ver (delK (t.leaf (bk k)) k)
theorem chk_one (x : Item) : (chk [x]).1 = if itemB x then 0 else 1 := by
 unfold chk
 simp only [List.length_cons,List.length_nil,chkFrom]
 by_cases h : itemB x = true <;> simp [h]
def xC (x : Item) : List AV := x.cells.map fun u=>V u
theorem itC_def (x : Item) : xC x = [V (.string ⟨x.key.toArray⟩),V (.int .i64 x.kind),V (.int .i64 x.i),V (.string ⟨x.s.toArray⟩),V (.int .i64 x.ver)] := _root_.id rfl
attribute [local go_sem_proc] Nat.reduceEqDiff Nat.reduceAdd Nat.reduceSub Nat.reduceMul Nat.reduceLeDiff Nat.reduceLT Int.reduceEq Int.reduceNe Int.reduceLT Int.reduceLE Int.reduceAdd Int.reduceSub Int.reduceMul Int.reduceNeg Int.reduceToNat reduceCtorEq
attribute [local go_sem_proc ↓] reduceIte
attribute [local go_sem ↓] str_size pk_tt pk_ff hold_one hold_two gO_some gA_tt gA_tf gA_ft gA_ff cA_true cA_false yP_n yP_r yK_n yK_r yQ_n yQ_r yC_nil yC_tmp yC_cell yo_nil yo_cons yo_none yo_guard yo_guardN ys_move ys_assign ys_pick ys_bin ys_un ys_build ys_buildSlice ys_load ys_nilCheck ys_conv ys_extract ys_fieldAddr ys_field ys_indexAddr ys_index ys_slice ys_len ys_alloc ys_box ys_store ys_call ys_append ys_makeFunc ys_callv yd_nil yd_alloc yd_store yd_move yg_move yd_assign yg_assign yd_pick yg_pick yd_bin yg_bin yd_un yg_un yd_build yg_build yd_buildSlice yg_buildSlice yd_load yg_load yd_nilCheck yg_nilCheck yd_conv yg_conv yd_extract yg_extract yd_fieldAddr yg_fieldAddr yd_field yg_field yd_indexAddr yg_indexAddr yd_index yg_index yd_slice yg_slice yd_len yg_len yd_call yg_call ixA_eq sl_es sl_row sl_nil ap_eq bs_eq bl_eq cv_eq ixV_agg thenA_n thenA_r thenA_x inB_n inB_r inB_x loop_r loop_x dstAt_zero dstAt_succ retP_n retP_r
attribute [local go_sem] hle_nil hle_cons oO_one oO_two oO_three oO_nil r1_r0 r1_r1 r1_r2 r1_r3 ro_OW roA_OW go_some al_some okX_f okX_t tells regOnly cv_cl cap0_V cap0_OP cap0_ptr ixA_s ixA_p ixA_o szOf_one szOf_two ixV_str ixW_some sl_str slE_some apE_nil apE_row bsE_one flE_some pget_zero pget_succ blE_some fil_nil fil_cons filB_some cvE_some cv_str' str_list str_cut str_data cut_all cut_to s_eql s_neq s_add s_lss s_geq s_leq s_gtr lt1 set_some set_none get_cons ev_tmp ev_const ev_func ev_global glob_cons cv_int cv_bool cv_str cv_slice cv_ptr cv_agg one_int one_bool one_str one_slice one_ptr b_add b_sub b_mul b_quo b_rem b_and b_or b_xor b_andNot b_shl b_shr b_eql b_neq b_lss b_leq b_gtr b_geq b_str b_beq b_bne u_not u_neg g_tt g_tf g_ft g_ff c_true c_false ex_tu nth_zero nth_succ nthO_zero nthO_succ l_ptr l_ptrV l_ptrS l_op cP_one pP_one oc_one oc_agg st_op f_ptr f_op fv_agg co_agg co_V co_slice co_OW co_OP co_ptr sure_V sure_slice sure_OW sure_OP sure_ptr sure_agg sc_nil sc_cons ixS ixSW ixSN bsV_nil bsV_cons el_slice el_row el_nil len_str len_slice len_row len_nil asI_none asI_some nil_op nil_ptr ro_int ro_bool ro_str ro_nils ro_slice ro_ptr ro_OP ro_OW ro_agg ro_tu roA_agg roA_V roA_slice roA_OW roA_OP roA_ptr r1_int r1_bool r1_str r1_nils r1_slice r1_ptr r1_OP resA_one resA_two resA_three noT_V noT_agg noT_slice noT_OW noT_OP noT_ptr noT_nil argsT_nil argsT_cons allC_nil allC_cons allC_append hle_nil hle_cons le_nil le_cons tT_V tT_SL tT_ptr tT_OW tT_OP tT_agg tT_TU tA_V tA_SL tA_ptr tA_OW tA_OP tA_agg t1_V t1_SL t1_ptr t1_OW t1_OP tO_mk get_cons beq_self_eq_true Nat.zero_lt_succ Nat.lt_add_one true_or or_true Bool.or_self Nat.zero_add Nat.add_zero Nat.mul_one Int.toNat_natCast Int.natCast_zero Int.natCast_add Int.cast_ofNat_Int or_false false_or or_true true_or Nat.sub_zero Int.natCast_nonneg Int.toNat_zero Bool.true_and Bool.and_true Bool.false_and Bool.and_false Bool.true_or Bool.or_true Bool.false_or Bool.or_false Bool.not_true Bool.not_false Bool.not_not true_and and_true false_and and_false not_true_eq_false not_false_eq_true eq_self decide_true decide_false ne_eq implies_true forall_const true_implies false_implies Bool.true_eq_false Bool.false_eq_true List.map_cons List.map_nil List.all_cons List.all_nil List.length_cons List.length_nil List.length_map List.length_append List.nil_append List.cons_append List.set_cons_zero List.set_cons_succ List.set_nil List.drop_zero List.drop_succ_cons List.drop_nil List.take_zero List.take_succ_cons List.take_nil Option.map_some Option.map_none Option.isSome_some tk_2 tk_3 tk_9 tk_22 tk_23 tk_24 tk_26 tk_28 tk_32 tk_43 tk_47 tk_58 tk_74 tk_109 tf_26_0 tf_26_1 tf_28_0 tf_28_1 tf_28_2 tf_28_3 tf_43_0 tf_43_1 tf_43_2 tf_47_0 tf_47_1 tf_58_0 tf_58_1 tf_58_2 tf_74_0 tf_74_1 ts_9 ts_22 ts_23 ts_24 ts_29 ts_104 ts_107 ts_121 ts_124 ta_9 ta_22 ta_23 ta_24 ta_29 ta_121 ta_124 tp_26 tp_28 tp_43 tp_47 tp_58 tp_74 tq_22 tq_29 tq_104 tq_107 tq_121 ti_3 ti_5 ti_109 tz_43 tz_58 tv_2 tv_3 tu_4 tv_4 tv_5 tu_9 tv_9 tv_32 tv_109 iA_def fl_it allC_it foldA_all lt_it lt_fold lA_def leC_lt1 tC_len zC_len tC_sure tC_lt1 tC_ltA zC_ltA zC_lt1 tC_ro zC_sure zC_ro tC_take zC_take tC_take16 sc_tt sc_zt sc_tz sc_zz add16 tz_T tA_def
set_option maxHeartbeats 400000 in
theorem get_d {G : Gl} (hG : SigG G) (t : Tr) (k : Bytes) (hl : ∀ i,(t.leaf i).length ≤ 1000000) : ACp Tryd.prog G 46 [tA t,sA k] (TU [iA ((getT t k).getD Item.zero),bA (getT t k).isSome]) := by
 have hl' : ∀ i,(t.leaf i).length ≤ 34359738368 := fun i=>Nat.le_trans (hl i) (by decide)
 cases hk : keyB k with
 |false =>
  have e : getT t k = none := by rw [getT,hk];rfl
  refine acp_of_wpC (c := _) Tryd.func46 rfl (by kernel_rfl) [.cell 4 58, .tmp 5] rfl _ Tryd.ntmps46 (Nat.le_of_ble_eq_true rfl) rfl ?_
  repeat' (first|(refine call_pure (cl_keyis _ hG) rfl ?_)|(with_reducible first|refine aq ?_|refine yr (by kernel_rfl) (Nat.le_of_ble_eq_true rfl) ?_|refine yx MIX (by kernel_rfl) (by kernel_rfl) (by kernel_rfl) (Nat.le_of_ble_eq_true rfl) ?_|refine yc ?_|refine yseq ?_|refine awp_block ?_|refine awp_ret ?_|refine awp_exit ?_|refine awp_skip ?_|refine yr1 (by kernel_rfl) (Nat.le_of_ble_eq_true rfl) ?_|refine yx1 MIX (by kernel_rfl) (by kernel_rfl) (by kernel_rfl) (Nat.le_of_ble_eq_true rfl) ?_)|(simp only [go_sem,hk])|((with_reducible first|refine cA_t (by first|assumption|(simp only [decide_eq_true_eq,decide_eq_false_iff_not];first|assumption|omega)) (fun h=>?_)|refine cA_f (by first|assumption|(simp only [decide_eq_true_eq,decide_eq_false_iff_not];first|assumption|omega)) (fun h=>?_)|refine gA_t (by first|assumption|(simp only [decide_eq_true_eq,decide_eq_false_iff_not];first|assumption|omega)) (fun h=>?_)|refine gA_f (by first|assumption|(simp only [decide_eq_true_eq,decide_eq_false_iff_not];first|assumption|omega)) (fun h=>?_)|refine pk_t (by first|assumption|(simp only [decide_eq_true_eq,decide_eq_false_iff_not];first|assumption|omega)) (fun h=>?_)|refine pk_f (by first|assumption|(simp only [decide_eq_true_eq,decide_eq_false_iff_not];first|assumption|omega)) (fun h=>?_)) <;> (try rewrite [h]) <;> clear h)|(with_reducible refine pk_if ?_)|((with_reducible first|refine cA_split (fun h=>?_) (fun h=>?_)|refine gA_split (fun h=>?_) (fun h=>?_)) <;> (try rewrite [h]) <;> (try simp (disch := omega) only [w_i64,w_u64,tdiv_pos,tmod_pos,nth_map,foldA_len,nth_le,nth_tl,nth_tv,set_tl,set_tv] at h) <;> (try simp only [decide_eq_true_eq,decide_eq_false_iff_not,Bool.not_eq_true,Bool.not_eq_false,Bool.not_eq_true',Bool.not_eq_false',not_true_eq_false,not_false_eq_true] at h) <;> (try (exfalso;omega)))|(simp (disch := omega) only [w_i64,w_u64,tdiv_pos,tmod_pos,nth_map,foldA_len,nth_le,nth_tl,nth_tv,set_tl,set_tv])|(with_reducible first|refine And.intro (by first|assumption|rfl|omega) ?_|refine And.intro ?_ ?_))
  rw [e];rfl
 |true =>
  have hb := bucketK_in hk
  cases hm : mayT t with
  |false =>
   have e : getT t k = none := by rw [getT,hm,Bool.and_false];rfl
   refine acp_of_wpC (c := _) Tryd.func46 rfl (by kernel_rfl) [.cell 4 58, .tmp 5] rfl _ Tryd.ntmps46 (Nat.le_of_ble_eq_true rfl) rfl ?_
   repeat' (first|(refine call_pure (cl_keyis _ hG) rfl ?_)|(refine call_pure (may_d hG _ hl') (by (simp (disch := omega) only [go_sem,w_i64,w_u64,tdiv_pos,tmod_pos,nth_map,foldA_len,nth_le,nth_tl,nth_tv,set_tl,set_tv])) ?_)|(with_reducible first|refine aq ?_|refine yr (by kernel_rfl) (Nat.le_of_ble_eq_true rfl) ?_|refine yx MIX (by kernel_rfl) (by kernel_rfl) (by kernel_rfl) (Nat.le_of_ble_eq_true rfl) ?_|refine yc ?_|refine yseq ?_|refine awp_block ?_|refine awp_ret ?_|refine awp_exit ?_|refine awp_skip ?_|refine yr1 (by kernel_rfl) (Nat.le_of_ble_eq_true rfl) ?_|refine yx1 MIX (by kernel_rfl) (by kernel_rfl) (by kernel_rfl) (Nat.le_of_ble_eq_true rfl) ?_)|(simp only [go_sem,hk,hm])|((with_reducible first|refine cA_t (by first|assumption|(simp only [decide_eq_true_eq,decide_eq_false_iff_not];first|assumption|omega)) (fun h=>?_)|refine cA_f (by first|assumption|(simp only [decide_eq_true_eq,decide_eq_false_iff_not];first|assumption|omega)) (fun h=>?_)|refine gA_t (by first|assumption|(simp only [decide_eq_true_eq,decide_eq_false_iff_not];first|assumption|omega)) (fun h=>?_)|refine gA_f (by first|assumption|(simp only [decide_eq_true_eq,decide_eq_false_iff_not];first|assumption|omega)) (fun h=>?_)|refine pk_t (by first|assumption|(simp only [decide_eq_true_eq,decide_eq_false_iff_not];first|assumption|omega)) (fun h=>?_)|refine pk_f (by first|assumption|(simp only [decide_eq_true_eq,decide_eq_false_iff_not];first|assumption|omega)) (fun h=>?_)) <;> (try rewrite [h]) <;> clear h)|(with_reducible refine pk_if ?_)|((with_reducible first|refine cA_split (fun h=>?_) (fun h=>?_)|refine gA_split (fun h=>?_) (fun h=>?_)) <;> (try rewrite [h]) <;> (try simp (disch := omega) only [w_i64,w_u64,tdiv_pos,tmod_pos,nth_map,foldA_len,nth_le,nth_tl,nth_tv,set_tl,set_tv] at h) <;> (try simp only [decide_eq_true_eq,decide_eq_false_iff_not,Bool.not_eq_true,Bool.not_eq_false,Bool.not_eq_true',Bool.not_eq_false',not_true_eq_false,not_false_eq_true] at h) <;> (try (exfalso;omega)))|(simp (disch := omega) only [w_i64,w_u64,tdiv_pos,tmod_pos,nth_map,foldA_len,nth_le,nth_tl,nth_tv,set_tl,set_tv])|(with_reducible first|refine And.intro (by first|assumption|rfl|omega) ?_|refine And.intro ?_ ?_))
   rw [e];rfl
  |true =>
   have e : getT t k = getK (t.leaf (bucketK k).toNat) k := by rw [getT,hk,hm];rfl
   refine acp_of_wpC (c := _) Tryd.func46 rfl (by kernel_rfl) [.cell 4 58, .tmp 5] rfl _ Tryd.ntmps46 (Nat.le_of_ble_eq_true rfl) rfl ?_
   repeat' (first|(refine call_pure (cl_keyis _ hG) rfl ?_)|(refine call_pure (may_d hG _ hl') (by (simp (disch := omega) only [go_sem,w_i64,w_u64,tdiv_pos,tmod_pos,nth_map,foldA_len,nth_le,nth_tl,nth_tv,set_tl,set_tv])) ?_)|(refine call_pure (bucket_d hG _) rfl ?_)|(refine call_pure (cl_get _ _ hG (hl' _)) rfl ?_)|(with_reducible first|refine aq ?_|refine yr (by kernel_rfl) (Nat.le_of_ble_eq_true rfl) ?_|refine yx MIX (by kernel_rfl) (by kernel_rfl) (by kernel_rfl) (Nat.le_of_ble_eq_true rfl) ?_|refine yc ?_|refine yseq ?_|refine awp_block ?_|refine awp_ret ?_|refine awp_exit ?_|refine awp_skip ?_|refine yr1 (by kernel_rfl) (Nat.le_of_ble_eq_true rfl) ?_|refine yx1 MIX (by kernel_rfl) (by kernel_rfl) (by kernel_rfl) (Nat.le_of_ble_eq_true rfl) ?_)|(simp only [go_sem,hk,hm])|((with_reducible first|refine cA_t (by first|assumption|(simp only [decide_eq_true_eq,decide_eq_false_iff_not];first|assumption|omega)) (fun h=>?_)|refine cA_f (by first|assumption|(simp only [decide_eq_true_eq,decide_eq_false_iff_not];first|assumption|omega)) (fun h=>?_)|refine gA_t (by first|assumption|(simp only [decide_eq_true_eq,decide_eq_false_iff_not];first|assumption|omega)) (fun h=>?_)|refine gA_f (by first|assumption|(simp only [decide_eq_true_eq,decide_eq_false_iff_not];first|assumption|omega)) (fun h=>?_)|refine pk_t (by first|assumption|(simp only [decide_eq_true_eq,decide_eq_false_iff_not];first|assumption|omega)) (fun h=>?_)|refine pk_f (by first|assumption|(simp only [decide_eq_true_eq,decide_eq_false_iff_not];first|assumption|omega)) (fun h=>?_)) <;> (try rewrite [h]) <;> clear h)|(with_reducible refine pk_if ?_)|((with_reducible first|refine cA_split (fun h=>?_) (fun h=>?_)|refine gA_split (fun h=>?_) (fun h=>?_)) <;> (try rewrite [h]) <;> (try simp (disch := omega) only [w_i64,w_u64,tdiv_pos,tmod_pos,nth_map,foldA_len,nth_le,nth_tl,nth_tv,set_tl,set_tv] at h) <;> (try simp only [decide_eq_true_eq,decide_eq_false_iff_not,Bool.not_eq_true,Bool.not_eq_false,Bool.not_eq_true',Bool.not_eq_false',not_true_eq_false,not_false_eq_true] at h) <;> (try (exfalso;omega)))|(simp (disch := omega) only [w_i64,w_u64,tdiv_pos,tmod_pos,nth_map,foldA_len,nth_le,nth_tl,nth_tv,set_tl,set_tv])|(with_reducible first|refine And.intro (by first|assumption|rfl|omega) ?_|refine And.intro ?_ ?_))
   rw [e]
set_option maxHeartbeats 400000 in
theorem put1_d {G : Gl} (hG : SigG G) (t : Tr) (l : List Item) (x : Item) (ver : Int) (hl : l.length ≤ 1000000) : AC Tryd.prog G 82 [lA l,OP 1 0] [⟨1,26,0,tC t⟩,⟨1,58,0,xC x⟩,⟨1,26,0,zC⟩,⟨1,26,0,tC t⟩,⟨1,26,0,zC⟩] (Is (TU [lA (putK l x).1,nA (putK l x).2]) [⟨1,26,0,tC t⟩,⟨1,58,0,xC x⟩,⟨1,26,0,zC⟩,⟨1,26,0,tC t⟩,⟨1,26,0,zC⟩]) := by
 refine ac_of_wpK (c := _) Tryd.func82 rfl (by kernel_rfl) [.tmp 3, .tmp 4] rfl _ Tryd.ntmps82 (Nat.le_of_ble_eq_true rfl) ?_ (Nat.le_of_ble_eq_true rfl) ?_ ?_
 ·(simp (disch := omega) only [go_sem,w_i64,w_u64,tdiv_pos,tmod_pos,nth_map,foldA_len,nth_le,nth_tl,nth_tv,set_tl,set_tv,itC_def])
 ·(simp (disch := omega) only [go_sem,w_i64,w_u64,tdiv_pos,tmod_pos,nth_map,foldA_len,nth_le,nth_tl,nth_tv,set_tl,set_tv])
 repeat' (first|(refine call_pure (cl_put _ x hG hl) rfl ?_)|(with_reducible first|refine aq ?_|refine yr (by kernel_rfl) (Nat.le_of_ble_eq_true rfl) ?_|refine yx MIX (by kernel_rfl) (by kernel_rfl) (by kernel_rfl) (Nat.le_of_ble_eq_true rfl) ?_|refine yc ?_|refine yseq ?_|refine awp_block ?_|refine awp_ret ?_|refine awp_exit ?_|refine awp_skip ?_|refine yr1 (by kernel_rfl) (Nat.le_of_ble_eq_true rfl) ?_|refine yx1 MIX (by kernel_rfl) (by kernel_rfl) (by kernel_rfl) (Nat.le_of_ble_eq_true rfl) ?_)|(simp only [go_sem,itC_def])|((with_reducible first|refine cA_t (by first|assumption|(simp only [decide_eq_true_eq,decide_eq_false_iff_not];first|assumption|omega)) (fun h=>?_)|refine cA_f (by first|assumption|(simp only [decide_eq_true_eq,decide_eq_false_iff_not];first|assumption|omega)) (fun h=>?_)|refine gA_t (by first|assumption|(simp only [decide_eq_true_eq,decide_eq_false_iff_not];first|assumption|omega)) (fun h=>?_)|refine gA_f (by first|assumption|(simp only [decide_eq_true_eq,decide_eq_false_iff_not];first|assumption|omega)) (fun h=>?_)|refine pk_t (by first|assumption|(simp only [decide_eq_true_eq,decide_eq_false_iff_not];first|assumption|omega)) (fun h=>?_)|refine pk_f (by first|assumption|(simp only [decide_eq_true_eq,decide_eq_false_iff_not];first|assumption|omega)) (fun h=>?_)) <;> (try rewrite [h]) <;> clear h)|(with_reducible refine pk_if ?_)|((with_reducible first|refine cA_split (fun h=>?_) (fun h=>?_)|refine gA_split (fun h=>?_) (fun h=>?_)) <;> (try rewrite [h]) <;> (try simp (disch := omega) only [w_i64,w_u64,tdiv_pos,tmod_pos,nth_map,foldA_len,nth_le,nth_tl,nth_tv,set_tl,set_tv] at h) <;> (try simp only [decide_eq_true_eq,decide_eq_false_iff_not,Bool.not_eq_true,Bool.not_eq_false,Bool.not_eq_true',Bool.not_eq_false',not_true_eq_false,not_false_eq_true] at h) <;> (try (exfalso;omega)))|(simp (disch := omega) only [w_i64,w_u64,tdiv_pos,tmod_pos,nth_map,foldA_len,nth_le,nth_tl,nth_tv,set_tl,set_tv])|(with_reducible first|refine And.intro (by first|assumption|rfl|omega) ?_|refine And.intro ?_ ?_))
set_option maxHeartbeats 400000 in
theorem chg1_d {G : Gl} (hG : SigG G) (t : Tr) (x : Item) (B ver : Int) (h0 : 0 ≤ B) (h1 : B < 16) (hl : ∀ i,(t.leaf i).length ≤ 1000000) : AC Tryd.prog G 81 [tA t,nA B,nA ver,CL (.func 82) 0 [OP 1 0]] [⟨1,26,0,tC t⟩,⟨1,58,0,xC x⟩,⟨1,26,0,zC⟩]
  (Is (TU [tA (chgT t B.toNat ver (putK (t.leaf B.toNat) x)).1,nA (chgT t B.toNat ver (putK (t.leaf B.toNat) x)).2]) [⟨1,26,0,tC t⟩,⟨1,58,0,xC x⟩,⟨1,26,0,zC⟩]) := by
 refine ac_of_wpK (c := _) Tryd.func81 rfl (by kernel_rfl) [.cell 8 26, .tmp 9] rfl _ Tryd.ntmps81 (Nat.le_of_ble_eq_true rfl) ?_ (Nat.le_of_ble_eq_true rfl) ?_ ?_
 ·(simp (disch := omega) only [go_sem,w_i64,w_u64,tdiv_pos,tmod_pos,nth_map,foldA_len,nth_le,nth_tl,nth_tv,set_tl,set_tv,itC_def])
 ·(simp (disch := omega) only [go_sem,w_i64,w_u64,tdiv_pos,tmod_pos,nth_map,foldA_len,nth_le,nth_tl,nth_tv,set_tl,set_tv])
 repeat' (first|(refine call_keep (put1_d hG _ _ x ver (hl _)) ?_)|(with_reducible first|refine aq ?_|refine yr (by kernel_rfl) (Nat.le_of_ble_eq_true rfl) ?_|refine yx MIX (by kernel_rfl) (by kernel_rfl) (by kernel_rfl) (Nat.le_of_ble_eq_true rfl) ?_|refine yc ?_|refine yseq ?_|refine awp_block ?_|refine awp_ret ?_|refine awp_exit ?_|refine awp_skip ?_|refine yr1 (by kernel_rfl) (Nat.le_of_ble_eq_true rfl) ?_|refine yx1 MIX (by kernel_rfl) (by kernel_rfl) (by kernel_rfl) (Nat.le_of_ble_eq_true rfl) ?_)|(simp only [go_sem])|((with_reducible first|refine cA_t (by first|assumption|(simp only [decide_eq_true_eq,decide_eq_false_iff_not];first|assumption|omega)) (fun h=>?_)|refine cA_f (by first|assumption|(simp only [decide_eq_true_eq,decide_eq_false_iff_not];first|assumption|omega)) (fun h=>?_)|refine gA_t (by first|assumption|(simp only [decide_eq_true_eq,decide_eq_false_iff_not];first|assumption|omega)) (fun h=>?_)|refine gA_f (by first|assumption|(simp only [decide_eq_true_eq,decide_eq_false_iff_not];first|assumption|omega)) (fun h=>?_)|refine pk_t (by first|assumption|(simp only [decide_eq_true_eq,decide_eq_false_iff_not];first|assumption|omega)) (fun h=>?_)|refine pk_f (by first|assumption|(simp only [decide_eq_true_eq,decide_eq_false_iff_not];first|assumption|omega)) (fun h=>?_)) <;> (try rewrite [h]) <;> clear h)|(with_reducible refine pk_if ?_)|((with_reducible first|refine cA_split (fun h=>?_) (fun h=>?_)|refine gA_split (fun h=>?_) (fun h=>?_)) <;> (try rewrite [h]) <;> (try simp (disch := omega) only [w_i64,w_u64,tdiv_pos,tmod_pos,nth_map,foldA_len,nth_le,nth_tl,nth_tv,set_tl,set_tv] at h) <;> (try simp only [decide_eq_true_eq,decide_eq_false_iff_not,Bool.not_eq_true,Bool.not_eq_false,Bool.not_eq_true',Bool.not_eq_false',not_true_eq_false,not_false_eq_true] at h) <;> (try (exfalso;omega)))|(simp (disch := omega) only [w_i64,w_u64,tdiv_pos,tmod_pos,nth_map,foldA_len,nth_le,nth_tl,nth_tv,set_tl,set_tv])|(with_reducible first|refine And.intro (by first|assumption|rfl|omega) ?_|refine And.intro ?_ ?_))
 ·rw [chgT,if_neg (by omega)]
 ·rw [chgT,if_pos (by omega)];rfl
theorem item_key {x : Item} (h : itemB x = true) : keyB x.key = true := by
 simp only [itemB,Bool.and_eq_true] at h
 exact h.1.1.1.1
set_option maxHeartbeats 400000 in
theorem put_d {G : Gl} (hG : SigG G) (t : Tr) (x : Item) (hl : ∀ i,(t.leaf i).length ≤ 1000000) : ACp Tryd.prog G 62 [tA t,iA x] (TU [tA (putT t x).1,nA (putT t x).2]) := by
 have hl' : ∀ i,(t.leaf i).length ≤ 34359738368 := fun i=>Nat.le_trans (hl i) (by decide)
 cases hi : itemB x with
 |false =>
  have e : putT t x = (Tr.zero,1) := by rw [putT,hi];rfl
  have ec : (chk [x]).1 = 1 := by rw [chk_one,hi];rfl
  refine acp_of_wpC (c := _) Tryd.func62 rfl (by kernel_rfl) [.cell 4 26, .tmp 5] rfl _ Tryd.ntmps62 (Nat.le_of_ble_eq_true rfl) rfl ?_
  repeat' (first|(refine call_pure (cl_check [x] hG (Nat.le_of_ble_eq_true rfl)) rfl ?_)|(with_reducible first|refine aq ?_|refine yr (by kernel_rfl) (Nat.le_of_ble_eq_true rfl) ?_|refine yx MIX (by kernel_rfl) (by kernel_rfl) (by kernel_rfl) (Nat.le_of_ble_eq_true rfl) ?_|refine yc ?_|refine yseq ?_|refine awp_block ?_|refine awp_ret ?_|refine awp_exit ?_|refine awp_skip ?_|refine yr1 (by kernel_rfl) (Nat.le_of_ble_eq_true rfl) ?_|refine yx1 MIX (by kernel_rfl) (by kernel_rfl) (by kernel_rfl) (Nat.le_of_ble_eq_true rfl) ?_)|(simp only [go_sem,ec,e])|((with_reducible first|refine cA_t (by first|assumption|(simp only [decide_eq_true_eq,decide_eq_false_iff_not];first|assumption|omega)) (fun h=>?_)|refine cA_f (by first|assumption|(simp only [decide_eq_true_eq,decide_eq_false_iff_not];first|assumption|omega)) (fun h=>?_)|refine gA_t (by first|assumption|(simp only [decide_eq_true_eq,decide_eq_false_iff_not];first|assumption|omega)) (fun h=>?_)|refine gA_f (by first|assumption|(simp only [decide_eq_true_eq,decide_eq_false_iff_not];first|assumption|omega)) (fun h=>?_)|refine pk_t (by first|assumption|(simp only [decide_eq_true_eq,decide_eq_false_iff_not];first|assumption|omega)) (fun h=>?_)|refine pk_f (by first|assumption|(simp only [decide_eq_true_eq,decide_eq_false_iff_not];first|assumption|omega)) (fun h=>?_)) <;> (try rewrite [h]) <;> clear h)|(with_reducible refine pk_if ?_)|((with_reducible first|refine cA_split (fun h=>?_) (fun h=>?_)|refine gA_split (fun h=>?_) (fun h=>?_)) <;> (try rewrite [h]) <;> (try simp (disch := omega) only [w_i64,w_u64,tdiv_pos,tmod_pos,nth_map,foldA_len,nth_le,nth_tl,nth_tv,set_tl,set_tv] at h) <;> (try simp only [decide_eq_true_eq,decide_eq_false_iff_not,Bool.not_eq_true,Bool.not_eq_false,Bool.not_eq_true',Bool.not_eq_false',not_true_eq_false,not_false_eq_true] at h) <;> (try (exfalso;omega)))|(simp (disch := omega) only [w_i64,w_u64,tdiv_pos,tmod_pos,nth_map,foldA_len,nth_le,nth_tl,nth_tv,set_tl,set_tv])|(with_reducible first|refine And.intro (by first|assumption|rfl|omega) ?_|refine And.intro ?_ ?_))
 |true =>
  have hb := bucketK_in (item_key hi)
  have ec : (chk [x]).1 = 0 := by rw [chk_one,hi];rfl
  cases hm : mayT t with
  |false =>
   have e : putT t x = (Tr.zero,1) := by rw [putT,hm,Bool.not_false,Bool.or_true];rfl
   refine acp_of_wpC (c := _) Tryd.func62 rfl (by kernel_rfl) [.cell 4 26, .tmp 5] rfl _ Tryd.ntmps62 (Nat.le_of_ble_eq_true rfl) rfl ?_
   repeat' (first|(refine call_pure (cl_check [x] hG (Nat.le_of_ble_eq_true rfl)) rfl ?_)|(refine call_pure (may_d hG _ hl') (by (simp (disch := omega) only [go_sem,w_i64,w_u64,tdiv_pos,tmod_pos,nth_map,foldA_len,nth_le,nth_tl,nth_tv,set_tl,set_tv])) ?_)|(with_reducible first|refine aq ?_|refine yr (by kernel_rfl) (Nat.le_of_ble_eq_true rfl) ?_|refine yx MIX (by kernel_rfl) (by kernel_rfl) (by kernel_rfl) (Nat.le_of_ble_eq_true rfl) ?_|refine yc ?_|refine yseq ?_|refine awp_block ?_|refine awp_ret ?_|refine awp_exit ?_|refine awp_skip ?_|refine yr1 (by kernel_rfl) (Nat.le_of_ble_eq_true rfl) ?_|refine yx1 MIX (by kernel_rfl) (by kernel_rfl) (by kernel_rfl) (Nat.le_of_ble_eq_true rfl) ?_)|(simp only [go_sem,ec,e,hm])|((with_reducible first|refine cA_t (by first|assumption|(simp only [decide_eq_true_eq,decide_eq_false_iff_not];first|assumption|omega)) (fun h=>?_)|refine cA_f (by first|assumption|(simp only [decide_eq_true_eq,decide_eq_false_iff_not];first|assumption|omega)) (fun h=>?_)|refine gA_t (by first|assumption|(simp only [decide_eq_true_eq,decide_eq_false_iff_not];first|assumption|omega)) (fun h=>?_)|refine gA_f (by first|assumption|(simp only [decide_eq_true_eq,decide_eq_false_iff_not];first|assumption|omega)) (fun h=>?_)|refine pk_t (by first|assumption|(simp only [decide_eq_true_eq,decide_eq_false_iff_not];first|assumption|omega)) (fun h=>?_)|refine pk_f (by first|assumption|(simp only [decide_eq_true_eq,decide_eq_false_iff_not];first|assumption|omega)) (fun h=>?_)) <;> (try rewrite [h]) <;> clear h)|(with_reducible refine pk_if ?_)|((with_reducible first|refine cA_split (fun h=>?_) (fun h=>?_)|refine gA_split (fun h=>?_) (fun h=>?_)) <;> (try rewrite [h]) <;> (try simp (disch := omega) only [w_i64,w_u64,tdiv_pos,tmod_pos,nth_map,foldA_len,nth_le,nth_tl,nth_tv,set_tl,set_tv] at h) <;> (try simp only [decide_eq_true_eq,decide_eq_false_iff_not,Bool.not_eq_true,Bool.not_eq_false,Bool.not_eq_true',Bool.not_eq_false',not_true_eq_false,not_false_eq_true] at h) <;> (try (exfalso;omega)))|(simp (disch := omega) only [w_i64,w_u64,tdiv_pos,tmod_pos,nth_map,foldA_len,nth_le,nth_tl,nth_tv,set_tl,set_tv])|(with_reducible first|refine And.intro (by first|assumption|rfl|omega) ?_|refine And.intro ?_ ?_))
  |true =>
   have e : putT t x = if x.ver < t.ver (bucketK x.key).toNat then (Tr.zero,18) else chgT t (bucketK x.key).toNat x.ver (putK (t.leaf (bucketK x.key).toNat) x) := by rw [putT,hi,hm];rfl
   refine acp_of_wpC (c := _) Tryd.func62 rfl (by kernel_rfl) [.cell 4 26, .tmp 5] rfl _ Tryd.ntmps62 (Nat.le_of_ble_eq_true rfl) rfl ?_
   repeat' (first|(refine call_pure (cl_check [x] hG (Nat.le_of_ble_eq_true rfl)) rfl ?_)|(refine call_pure (may_d hG _ hl') (by (simp (disch := omega) only [go_sem,w_i64,w_u64,tdiv_pos,tmod_pos,nth_map,foldA_len,nth_le,nth_tl,nth_tv,set_tl,set_tv])) ?_)|(refine call_pure (bucket_d hG _) rfl ?_)|(refine call_keep (chg1_d hG t x _ _ (by omega) (by omega) hl) ?_)|(with_reducible first|refine aq ?_|refine yr (by kernel_rfl) (Nat.le_of_ble_eq_true rfl) ?_|refine yx MIX (by kernel_rfl) (by kernel_rfl) (by kernel_rfl) (Nat.le_of_ble_eq_true rfl) ?_|refine yc ?_|refine yseq ?_|refine awp_block ?_|refine awp_ret ?_|refine awp_exit ?_|refine awp_skip ?_|refine yr1 (by kernel_rfl) (Nat.le_of_ble_eq_true rfl) ?_|refine yx1 MIX (by kernel_rfl) (by kernel_rfl) (by kernel_rfl) (Nat.le_of_ble_eq_true rfl) ?_)|(simp only [go_sem,ec,hm])|((with_reducible first|refine cA_t (by first|assumption|(simp only [decide_eq_true_eq,decide_eq_false_iff_not];first|assumption|omega)) (fun h=>?_)|refine cA_f (by first|assumption|(simp only [decide_eq_true_eq,decide_eq_false_iff_not];first|assumption|omega)) (fun h=>?_)|refine gA_t (by first|assumption|(simp only [decide_eq_true_eq,decide_eq_false_iff_not];first|assumption|omega)) (fun h=>?_)|refine gA_f (by first|assumption|(simp only [decide_eq_true_eq,decide_eq_false_iff_not];first|assumption|omega)) (fun h=>?_)|refine pk_t (by first|assumption|(simp only [decide_eq_true_eq,decide_eq_false_iff_not];first|assumption|omega)) (fun h=>?_)|refine pk_f (by first|assumption|(simp only [decide_eq_true_eq,decide_eq_false_iff_not];first|assumption|omega)) (fun h=>?_)) <;> (try rewrite [h]) <;> clear h)|(with_reducible refine pk_if ?_)|((with_reducible first|refine cA_split (fun h=>?_) (fun h=>?_)|refine gA_split (fun h=>?_) (fun h=>?_)) <;> (try rewrite [h]) <;> (try simp (disch := omega) only [w_i64,w_u64,tdiv_pos,tmod_pos,nth_map,foldA_len,nth_le,nth_tl,nth_tv,set_tl,set_tv] at h) <;> (try simp only [decide_eq_true_eq,decide_eq_false_iff_not,Bool.not_eq_true,Bool.not_eq_false,Bool.not_eq_true',Bool.not_eq_false',not_true_eq_false,not_false_eq_true] at h) <;> (try (exfalso;omega)))|(simp (disch := omega) only [w_i64,w_u64,tdiv_pos,tmod_pos,nth_map,foldA_len,nth_le,nth_tl,nth_tv,set_tl,set_tv])|(with_reducible first|refine And.intro (by first|assumption|rfl|omega) ?_|refine And.intro ?_ ?_))
   ·rw [e,if_pos (by omega)];try rfl
   ·rw [e,if_neg (by omega)];try rfl
end Go.Proofs.YtoeajbhlkccekaaDoor

namespace Go.Proofs.YtoeajbhlkccekaaDoor
open Go.RowKit
theorem getT_key {t : Tr} {k : Bytes} (h : (getT t k).isSome = true) : keyB k = true := by
 cases hk : keyB k with
 |true=>rfl
 |false=>rw [getT,hk] at h;cases h
attribute [local go_sem_proc] Nat.reduceEqDiff Nat.reduceAdd Nat.reduceSub Nat.reduceMul Nat.reduceLeDiff Nat.reduceLT Int.reduceEq Int.reduceNe Int.reduceLT Int.reduceLE Int.reduceAdd Int.reduceSub Int.reduceMul Int.reduceNeg Int.reduceToNat reduceCtorEq
attribute [local go_sem_proc ↓] reduceIte
attribute [local go_sem ↓] str_size pk_tt pk_ff hold_one hold_two gO_some gA_tt gA_tf gA_ft gA_ff cA_true cA_false yP_n yP_r yK_n yK_r yQ_n yQ_r yC_nil yC_tmp yC_cell yo_nil yo_cons yo_none yo_guard yo_guardN ys_move ys_assign ys_pick ys_bin ys_un ys_build ys_buildSlice ys_load ys_nilCheck ys_conv ys_extract ys_fieldAddr ys_field ys_indexAddr ys_index ys_slice ys_len ys_alloc ys_box ys_store ys_call ys_append ys_makeFunc ys_callv yd_nil yd_alloc yd_store yd_move yg_move yd_assign yg_assign yd_pick yg_pick yd_bin yg_bin yd_un yg_un yd_build yg_build yd_buildSlice yg_buildSlice yd_load yg_load yd_nilCheck yg_nilCheck yd_conv yg_conv yd_extract yg_extract yd_fieldAddr yg_fieldAddr yd_field yg_field yd_indexAddr yg_indexAddr yd_index yg_index yd_slice yg_slice yd_len yg_len yd_call yg_call ixA_eq sl_es sl_row sl_nil ap_eq bs_eq bl_eq cv_eq ixV_agg thenA_n thenA_r thenA_x inB_n inB_r inB_x loop_r loop_x dstAt_zero dstAt_succ retP_n retP_r
attribute [local go_sem] hle_nil hle_cons oO_one oO_two oO_three oO_nil r1_r0 r1_r1 r1_r2 r1_r3 ro_OW roA_OW go_some al_some okX_f okX_t tells regOnly cv_cl cap0_V cap0_OP cap0_ptr ixA_s ixA_p ixA_o szOf_one szOf_two ixV_str ixW_some sl_str slE_some apE_nil apE_row bsE_one flE_some pget_zero pget_succ blE_some fil_nil fil_cons filB_some cvE_some cv_str' str_list str_cut str_data cut_all cut_to s_eql s_neq s_add s_lss s_geq s_leq s_gtr lt1 set_some set_none get_cons ev_tmp ev_const ev_func ev_global glob_cons cv_int cv_bool cv_str cv_slice cv_ptr cv_agg one_int one_bool one_str one_slice one_ptr b_add b_sub b_mul b_quo b_rem b_and b_or b_xor b_andNot b_shl b_shr b_eql b_neq b_lss b_leq b_gtr b_geq b_str b_beq b_bne u_not u_neg g_tt g_tf g_ft g_ff c_true c_false ex_tu nth_zero nth_succ nthO_zero nthO_succ l_ptr l_ptrV l_ptrS l_op cP_one pP_one oc_one oc_agg st_op f_ptr f_op fv_agg co_agg co_V co_slice co_OW co_OP co_ptr sure_V sure_slice sure_OW sure_OP sure_ptr sure_agg sc_nil sc_cons ixS ixSW ixSN bsV_nil bsV_cons el_slice el_row el_nil len_str len_slice len_row len_nil asI_none asI_some nil_op nil_ptr ro_int ro_bool ro_str ro_nils ro_slice ro_ptr ro_OP ro_OW ro_agg ro_tu roA_agg roA_V roA_slice roA_OW roA_OP roA_ptr r1_int r1_bool r1_str r1_nils r1_slice r1_ptr r1_OP resA_one resA_two resA_three noT_V noT_agg noT_slice noT_OW noT_OP noT_ptr noT_nil argsT_nil argsT_cons allC_nil allC_cons allC_append hle_nil hle_cons le_nil le_cons tT_V tT_SL tT_ptr tT_OW tT_OP tT_agg tT_TU tA_V tA_SL tA_ptr tA_OW tA_OP tA_agg t1_V t1_SL t1_ptr t1_OW t1_OP tO_mk get_cons beq_self_eq_true Nat.zero_lt_succ Nat.lt_add_one true_or or_true Bool.or_self Nat.zero_add Nat.add_zero Nat.mul_one Int.toNat_natCast Int.natCast_zero Int.natCast_add Int.cast_ofNat_Int or_false false_or or_true true_or Nat.sub_zero Int.natCast_nonneg Int.toNat_zero Bool.true_and Bool.and_true Bool.false_and Bool.and_false Bool.true_or Bool.or_true Bool.false_or Bool.or_false Bool.not_true Bool.not_false Bool.not_not true_and and_true false_and and_false not_true_eq_false not_false_eq_true eq_self decide_true decide_false ne_eq implies_true forall_const true_implies false_implies Bool.true_eq_false Bool.false_eq_true List.map_cons List.map_nil List.all_cons List.all_nil List.length_cons List.length_nil List.length_map List.length_append List.nil_append List.cons_append List.set_cons_zero List.set_cons_succ List.set_nil List.drop_zero List.drop_succ_cons List.drop_nil List.take_zero List.take_succ_cons List.take_nil Option.map_some Option.map_none Option.isSome_some tk_2 tk_3 tk_9 tk_22 tk_23 tk_24 tk_26 tk_28 tk_32 tk_43 tk_47 tk_58 tk_74 tk_109 tf_26_0 tf_26_1 tf_28_0 tf_28_1 tf_28_2 tf_28_3 tf_43_0 tf_43_1 tf_43_2 tf_47_0 tf_47_1 tf_58_0 tf_58_1 tf_58_2 tf_74_0 tf_74_1 ts_9 ts_22 ts_23 ts_24 ts_29 ts_104 ts_107 ts_121 ts_124 ta_9 ta_22 ta_23 ta_24 ta_29 ta_121 ta_124 tp_26 tp_28 tp_43 tp_47 tp_58 tp_74 tq_22 tq_29 tq_104 tq_107 tq_121 ti_3 ti_5 ti_109 tz_43 tz_58 tv_2 tv_3 tu_4 tv_4 tv_5 tu_9 tv_9 tv_32 tv_109 iA_def fl_it allC_it foldA_all lt_it lt_fold lA_def leC_lt1 tC_len zC_len tC_sure tC_lt1 tC_ltA zC_ltA zC_lt1 tC_ro zC_sure zC_ro tC_take zC_take tC_take16 sc_tt sc_zt sc_tz sc_zz add16 tz_T tA_def
set_option maxHeartbeats 400000 in
theorem del1_d {G : Gl} (hG : SigG G) (t : Tr) (l : List Item) (k : Bytes) (y : Item) (hl : l.length ≤ 1000000) : AC Tryd.prog G 84 [lA l,OP 1 0] [⟨1,26,0,tC t⟩,⟨1,9,0,[sA k]⟩,⟨1,26,0,zC⟩,⟨1,58,0,xC y⟩,⟨1,26,0,tC t⟩,⟨1,26,0,zC⟩] (Is (TU [lA (delK l k).1,nA (delK l k).2]) [⟨1,26,0,tC t⟩,⟨1,9,0,[sA k]⟩,⟨1,26,0,zC⟩,⟨1,58,0,xC y⟩,⟨1,26,0,tC t⟩,⟨1,26,0,zC⟩]) := by
 refine ac_of_wpK (c := _) Tryd.func84 rfl (by kernel_rfl) [.tmp 3, .tmp 4] rfl _ Tryd.ntmps84 (Nat.le_of_ble_eq_true rfl) ?_ (Nat.le_of_ble_eq_true rfl) ?_ ?_
 ·(simp (disch := omega) only [go_sem,w_i64,w_u64,tdiv_pos,tmod_pos,nth_map,foldA_len,nth_le,nth_tl,nth_tv,set_tl,set_tv,itC_def])
 ·(simp (disch := omega) only [go_sem,w_i64,w_u64,tdiv_pos,tmod_pos,nth_map,foldA_len,nth_le,nth_tl,nth_tv,set_tl,set_tv])
 repeat' (first|(refine call_pure (cl_del _ k hG hl) rfl ?_)|(with_reducible first|refine aq ?_|refine yr (by kernel_rfl) (Nat.le_of_ble_eq_true rfl) ?_|refine yx MIX (by kernel_rfl) (by kernel_rfl) (by kernel_rfl) (Nat.le_of_ble_eq_true rfl) ?_|refine yc ?_|refine yseq ?_|refine awp_block ?_|refine awp_ret ?_|refine awp_exit ?_|refine awp_skip ?_|refine yr1 (by kernel_rfl) (Nat.le_of_ble_eq_true rfl) ?_|refine yx1 MIX (by kernel_rfl) (by kernel_rfl) (by kernel_rfl) (Nat.le_of_ble_eq_true rfl) ?_)|(simp only [go_sem])|((with_reducible first|refine cA_t (by first|assumption|(simp only [decide_eq_true_eq,decide_eq_false_iff_not];first|assumption|omega)) (fun h=>?_)|refine cA_f (by first|assumption|(simp only [decide_eq_true_eq,decide_eq_false_iff_not];first|assumption|omega)) (fun h=>?_)|refine gA_t (by first|assumption|(simp only [decide_eq_true_eq,decide_eq_false_iff_not];first|assumption|omega)) (fun h=>?_)|refine gA_f (by first|assumption|(simp only [decide_eq_true_eq,decide_eq_false_iff_not];first|assumption|omega)) (fun h=>?_)|refine pk_t (by first|assumption|(simp only [decide_eq_true_eq,decide_eq_false_iff_not];first|assumption|omega)) (fun h=>?_)|refine pk_f (by first|assumption|(simp only [decide_eq_true_eq,decide_eq_false_iff_not];first|assumption|omega)) (fun h=>?_)) <;> (try rewrite [h]) <;> clear h)|(with_reducible refine pk_if ?_)|((with_reducible first|refine cA_split (fun h=>?_) (fun h=>?_)|refine gA_split (fun h=>?_) (fun h=>?_)) <;> (try rewrite [h]) <;> (try simp (disch := omega) only [w_i64,w_u64,tdiv_pos,tmod_pos,nth_map,foldA_len,nth_le,nth_tl,nth_tv,set_tl,set_tv] at h) <;> (try simp only [decide_eq_true_eq,decide_eq_false_iff_not,Bool.not_eq_true,Bool.not_eq_false,Bool.not_eq_true',Bool.not_eq_false',not_true_eq_false,not_false_eq_true] at h) <;> (try (exfalso;omega)))|(simp (disch := omega) only [w_i64,w_u64,tdiv_pos,tmod_pos,nth_map,foldA_len,nth_le,nth_tl,nth_tv,set_tl,set_tv])|(with_reducible first|refine And.intro (by first|assumption|rfl|omega) ?_|refine And.intro ?_ ?_))
set_option maxHeartbeats 400000 in
theorem chg2_d {G : Gl} (hG : SigG G) (t : Tr) (k : Bytes) (y : Item) (B ver : Int) (h0 : 0 ≤ B) (h1 : B < 16) (hl : ∀ i,(t.leaf i).length ≤ 1000000) : AC Tryd.prog G 81 [tA t,nA B,nA ver,CL (.func 84) 0 [OP 1 0]] [⟨1,26,0,tC t⟩,⟨1,9,0,[sA k]⟩,⟨1,26,0,zC⟩,⟨1,58,0,xC y⟩]
  (Is (TU [tA (chgT t B.toNat ver (delK (t.leaf B.toNat) k)).1,nA (chgT t B.toNat ver (delK (t.leaf B.toNat) k)).2]) [⟨1,26,0,tC t⟩,⟨1,9,0,[sA k]⟩,⟨1,26,0,zC⟩,⟨1,58,0,xC y⟩]) := by
 refine ac_of_wpK (c := _) Tryd.func81 rfl (by kernel_rfl) [.cell 8 26, .tmp 9] rfl _ Tryd.ntmps81 (Nat.le_of_ble_eq_true rfl) ?_ (Nat.le_of_ble_eq_true rfl) ?_ ?_
 ·(simp (disch := omega) only [go_sem,w_i64,w_u64,tdiv_pos,tmod_pos,nth_map,foldA_len,nth_le,nth_tl,nth_tv,set_tl,set_tv,itC_def])
 ·(simp (disch := omega) only [go_sem,w_i64,w_u64,tdiv_pos,tmod_pos,nth_map,foldA_len,nth_le,nth_tl,nth_tv,set_tl,set_tv])
 repeat' (first|(refine call_keep (del1_d hG _ _ k y (hl _)) ?_)|(with_reducible first|refine aq ?_|refine yr (by kernel_rfl) (Nat.le_of_ble_eq_true rfl) ?_|refine yx MIX (by kernel_rfl) (by kernel_rfl) (by kernel_rfl) (Nat.le_of_ble_eq_true rfl) ?_|refine yc ?_|refine yseq ?_|refine awp_block ?_|refine awp_ret ?_|refine awp_exit ?_|refine awp_skip ?_|refine yr1 (by kernel_rfl) (Nat.le_of_ble_eq_true rfl) ?_|refine yx1 MIX (by kernel_rfl) (by kernel_rfl) (by kernel_rfl) (Nat.le_of_ble_eq_true rfl) ?_)|(simp only [go_sem])|((with_reducible first|refine cA_t (by first|assumption|(simp only [decide_eq_true_eq,decide_eq_false_iff_not];first|assumption|omega)) (fun h=>?_)|refine cA_f (by first|assumption|(simp only [decide_eq_true_eq,decide_eq_false_iff_not];first|assumption|omega)) (fun h=>?_)|refine gA_t (by first|assumption|(simp only [decide_eq_true_eq,decide_eq_false_iff_not];first|assumption|omega)) (fun h=>?_)|refine gA_f (by first|assumption|(simp only [decide_eq_true_eq,decide_eq_false_iff_not];first|assumption|omega)) (fun h=>?_)|refine pk_t (by first|assumption|(simp only [decide_eq_true_eq,decide_eq_false_iff_not];first|assumption|omega)) (fun h=>?_)|refine pk_f (by first|assumption|(simp only [decide_eq_true_eq,decide_eq_false_iff_not];first|assumption|omega)) (fun h=>?_)) <;> (try rewrite [h]) <;> clear h)|(with_reducible refine pk_if ?_)|((with_reducible first|refine cA_split (fun h=>?_) (fun h=>?_)|refine gA_split (fun h=>?_) (fun h=>?_)) <;> (try rewrite [h]) <;> (try simp (disch := omega) only [w_i64,w_u64,tdiv_pos,tmod_pos,nth_map,foldA_len,nth_le,nth_tl,nth_tv,set_tl,set_tv] at h) <;> (try simp only [decide_eq_true_eq,decide_eq_false_iff_not,Bool.not_eq_true,Bool.not_eq_false,Bool.not_eq_true',Bool.not_eq_false',not_true_eq_false,not_false_eq_true] at h) <;> (try (exfalso;omega)))|(simp (disch := omega) only [w_i64,w_u64,tdiv_pos,tmod_pos,nth_map,foldA_len,nth_le,nth_tl,nth_tv,set_tl,set_tv])|(with_reducible first|refine And.intro (by first|assumption|rfl|omega) ?_|refine And.intro ?_ ?_))
 ·rw [chgT,if_neg (by omega)]
 ·rw [chgT,if_pos (by omega)];rfl
set_option maxHeartbeats 400000 in
theorem del_d {G : Gl} (hG : SigG G) (t : Tr) (k : Bytes) (ver : Int) (hl : ∀ i,(t.leaf i).length ≤ 1000000) : ACp Tryd.prog G 63 [tA t,sA k,nA ver] (TU [tA (delT t k ver).1,nA (delT t k ver).2]) := by
 have hl' : ∀ i,(t.leaf i).length ≤ 34359738368 := fun i=>Nat.le_trans (hl i) (by decide)
 by_cases hm : mayT t = true ∧ 0 ≤ ver ∧ ver ≤ 2147483647
 ·obtain ⟨hm,hv0,hv1⟩ := hm
  cases hk : (getT t k).isSome with
  |false =>
   have e : delT t k ver = (Tr.zero,6) := by rw [delT,hm,hk,show decide (ver < 0) = false by simp;omega,show decide (2147483647 < ver) = false by simp;omega];rfl
   refine acp_of_wpC (c := _) Tryd.func63 rfl (by kernel_rfl) [.cell 6 26, .tmp 7] rfl _ Tryd.ntmps63 (Nat.le_of_ble_eq_true rfl) rfl ?_
   repeat' (first|(refine call_pure (may_d hG _ hl') (by (simp (disch := omega) only [go_sem,w_i64,w_u64,tdiv_pos,tmod_pos,nth_map,foldA_len,nth_le,nth_tl,nth_tv,set_tl,set_tv])) ?_)|(refine call_pure (get_d hG _ _ hl) (by (simp (disch := omega) only [go_sem,w_i64,w_u64,tdiv_pos,tmod_pos,nth_map,foldA_len,nth_le,nth_tl,nth_tv,set_tl,set_tv])) ?_)|(with_reducible first|refine aq ?_|refine yr (by kernel_rfl) (Nat.le_of_ble_eq_true rfl) ?_|refine yx MIX (by kernel_rfl) (by kernel_rfl) (by kernel_rfl) (Nat.le_of_ble_eq_true rfl) ?_|refine yc ?_|refine yseq ?_|refine awp_block ?_|refine awp_ret ?_|refine awp_exit ?_|refine awp_skip ?_|refine yr1 (by kernel_rfl) (Nat.le_of_ble_eq_true rfl) ?_|refine yx1 MIX (by kernel_rfl) (by kernel_rfl) (by kernel_rfl) (Nat.le_of_ble_eq_true rfl) ?_)|(simp only [go_sem,hm,hk,e])|((with_reducible first|refine cA_t (by first|assumption|(simp only [decide_eq_true_eq,decide_eq_false_iff_not];first|assumption|omega)) (fun h=>?_)|refine cA_f (by first|assumption|(simp only [decide_eq_true_eq,decide_eq_false_iff_not];first|assumption|omega)) (fun h=>?_)|refine gA_t (by first|assumption|(simp only [decide_eq_true_eq,decide_eq_false_iff_not];first|assumption|omega)) (fun h=>?_)|refine gA_f (by first|assumption|(simp only [decide_eq_true_eq,decide_eq_false_iff_not];first|assumption|omega)) (fun h=>?_)|refine pk_t (by first|assumption|(simp only [decide_eq_true_eq,decide_eq_false_iff_not];first|assumption|omega)) (fun h=>?_)|refine pk_f (by first|assumption|(simp only [decide_eq_true_eq,decide_eq_false_iff_not];first|assumption|omega)) (fun h=>?_)) <;> (try rewrite [h]) <;> clear h)|(with_reducible refine pk_if ?_)|((with_reducible first|refine cA_split (fun h=>?_) (fun h=>?_)|refine gA_split (fun h=>?_) (fun h=>?_)) <;> (try rewrite [h]) <;> (try simp (disch := omega) only [w_i64,w_u64,tdiv_pos,tmod_pos,nth_map,foldA_len,nth_le,nth_tl,nth_tv,set_tl,set_tv] at h) <;> (try simp only [decide_eq_true_eq,decide_eq_false_iff_not,Bool.not_eq_true,Bool.not_eq_false,Bool.not_eq_true',Bool.not_eq_false',not_true_eq_false,not_false_eq_true] at h) <;> (try (exfalso;omega)))|(simp (disch := omega) only [w_i64,w_u64,tdiv_pos,tmod_pos,nth_map,foldA_len,nth_le,nth_tl,nth_tv,set_tl,set_tv])|(with_reducible first|refine And.intro (by first|assumption|rfl|omega) ?_|refine And.intro ?_ ?_))
  |true =>
   have hb := bucketK_in (getT_key hk)
   have e : delT t k ver = if ver < t.ver (bucketK k).toNat then (Tr.zero,18) else chgT t (bucketK k).toNat ver (delK (t.leaf (bucketK k).toNat) k) := by rw [delT,hm,hk,show decide (ver < 0) = false by simp;omega,show decide (2147483647 < ver) = false by simp;omega];rfl
   refine acp_of_wpC (c := _) Tryd.func63 rfl (by kernel_rfl) [.cell 6 26, .tmp 7] rfl _ Tryd.ntmps63 (Nat.le_of_ble_eq_true rfl) rfl ?_
   repeat' (first|(refine call_pure (may_d hG _ hl') (by (simp (disch := omega) only [go_sem,w_i64,w_u64,tdiv_pos,tmod_pos,nth_map,foldA_len,nth_le,nth_tl,nth_tv,set_tl,set_tv])) ?_)|(refine call_pure (get_d hG _ _ hl) (by (simp (disch := omega) only [go_sem,w_i64,w_u64,tdiv_pos,tmod_pos,nth_map,foldA_len,nth_le,nth_tl,nth_tv,set_tl,set_tv])) ?_)|(refine call_pure (bucket_d hG _) rfl ?_)|(refine call_keep (chg2_d hG t k ((getT t k).getD Item.zero) _ _ (by omega) (by omega) hl) ?_)|(with_reducible first|refine aq ?_|refine yr (by kernel_rfl) (Nat.le_of_ble_eq_true rfl) ?_|refine yx MIX (by kernel_rfl) (by kernel_rfl) (by kernel_rfl) (Nat.le_of_ble_eq_true rfl) ?_|refine yc ?_|refine yseq ?_|refine awp_block ?_|refine awp_ret ?_|refine awp_exit ?_|refine awp_skip ?_|refine yr1 (by kernel_rfl) (Nat.le_of_ble_eq_true rfl) ?_|refine yx1 MIX (by kernel_rfl) (by kernel_rfl) (by kernel_rfl) (Nat.le_of_ble_eq_true rfl) ?_)|(simp only [go_sem,hm,hk])|((with_reducible first|refine cA_t (by first|assumption|(simp only [decide_eq_true_eq,decide_eq_false_iff_not];first|assumption|omega)) (fun h=>?_)|refine cA_f (by first|assumption|(simp only [decide_eq_true_eq,decide_eq_false_iff_not];first|assumption|omega)) (fun h=>?_)|refine gA_t (by first|assumption|(simp only [decide_eq_true_eq,decide_eq_false_iff_not];first|assumption|omega)) (fun h=>?_)|refine gA_f (by first|assumption|(simp only [decide_eq_true_eq,decide_eq_false_iff_not];first|assumption|omega)) (fun h=>?_)|refine pk_t (by first|assumption|(simp only [decide_eq_true_eq,decide_eq_false_iff_not];first|assumption|omega)) (fun h=>?_)|refine pk_f (by first|assumption|(simp only [decide_eq_true_eq,decide_eq_false_iff_not];first|assumption|omega)) (fun h=>?_)) <;> (try rewrite [h]) <;> clear h)|(with_reducible refine pk_if ?_)|((with_reducible first|refine cA_split (fun h=>?_) (fun h=>?_)|refine gA_split (fun h=>?_) (fun h=>?_)) <;> (try rewrite [h]) <;> (try simp (disch := omega) only [w_i64,w_u64,tdiv_pos,tmod_pos,nth_map,foldA_len,nth_le,nth_tl,nth_tv,set_tl,set_tv] at h) <;> (try simp only [decide_eq_true_eq,decide_eq_false_iff_not,Bool.not_eq_true,Bool.not_eq_false,Bool.not_eq_true',Bool.not_eq_false',not_true_eq_false,not_false_eq_true] at h) <;> (try (exfalso;omega)))|(simp (disch := omega) only [w_i64,w_u64,tdiv_pos,tmod_pos,nth_map,foldA_len,nth_le,nth_tl,nth_tv,set_tl,set_tv])|(with_reducible first|refine And.intro (by first|assumption|rfl|omega) ?_|refine And.intro ?_ ?_))
   ·rw [e,if_pos (by omega)]
    try rfl
   ·rw [e,if_neg (by omega)]
    try rfl
 ·have e : delT t k ver = (Tr.zero,1) := by
   rw [delT,if_pos]
   cases h : mayT t with
   |false=>rfl
   |true =>
    rw [h] at hm
    simp only [true_and] at hm
    have : ver < 0 ∨ 2147483647 < ver := by omega
    rcases this with h|h <;> simp [h]
  cases h0 : mayT t with
  |false =>
   refine acp_of_wpC (c := _) Tryd.func63 rfl (by kernel_rfl) [.cell 6 26, .tmp 7] rfl _ Tryd.ntmps63 (Nat.le_of_ble_eq_true rfl) rfl ?_
   repeat' (first|(refine call_pure (may_d hG _ hl') (by (simp (disch := omega) only [go_sem,w_i64,w_u64,tdiv_pos,tmod_pos,nth_map,foldA_len,nth_le,nth_tl,nth_tv,set_tl,set_tv])) ?_)|(with_reducible first|refine aq ?_|refine yr (by kernel_rfl) (Nat.le_of_ble_eq_true rfl) ?_|refine yx MIX (by kernel_rfl) (by kernel_rfl) (by kernel_rfl) (Nat.le_of_ble_eq_true rfl) ?_|refine yc ?_|refine yseq ?_|refine awp_block ?_|refine awp_ret ?_|refine awp_exit ?_|refine awp_skip ?_|refine yr1 (by kernel_rfl) (Nat.le_of_ble_eq_true rfl) ?_|refine yx1 MIX (by kernel_rfl) (by kernel_rfl) (by kernel_rfl) (Nat.le_of_ble_eq_true rfl) ?_)|(simp only [go_sem,h0,e])|((with_reducible first|refine cA_t (by first|assumption|(simp only [decide_eq_true_eq,decide_eq_false_iff_not];first|assumption|omega)) (fun h=>?_)|refine cA_f (by first|assumption|(simp only [decide_eq_true_eq,decide_eq_false_iff_not];first|assumption|omega)) (fun h=>?_)|refine gA_t (by first|assumption|(simp only [decide_eq_true_eq,decide_eq_false_iff_not];first|assumption|omega)) (fun h=>?_)|refine gA_f (by first|assumption|(simp only [decide_eq_true_eq,decide_eq_false_iff_not];first|assumption|omega)) (fun h=>?_)|refine pk_t (by first|assumption|(simp only [decide_eq_true_eq,decide_eq_false_iff_not];first|assumption|omega)) (fun h=>?_)|refine pk_f (by first|assumption|(simp only [decide_eq_true_eq,decide_eq_false_iff_not];first|assumption|omega)) (fun h=>?_)) <;> (try rewrite [h]) <;> clear h)|(with_reducible refine pk_if ?_)|((with_reducible first|refine cA_split (fun h=>?_) (fun h=>?_)|refine gA_split (fun h=>?_) (fun h=>?_)) <;> (try rewrite [h]) <;> (try simp (disch := omega) only [w_i64,w_u64,tdiv_pos,tmod_pos,nth_map,foldA_len,nth_le,nth_tl,nth_tv,set_tl,set_tv] at h) <;> (try simp only [decide_eq_true_eq,decide_eq_false_iff_not,Bool.not_eq_true,Bool.not_eq_false,Bool.not_eq_true',Bool.not_eq_false',not_true_eq_false,not_false_eq_true] at h) <;> (try (exfalso;omega)))|(simp (disch := omega) only [w_i64,w_u64,tdiv_pos,tmod_pos,nth_map,foldA_len,nth_le,nth_tl,nth_tv,set_tl,set_tv])|(with_reducible first|refine And.intro (by first|assumption|rfl|omega) ?_|refine And.intro ?_ ?_))
  |true =>
   simp only [h0,true_and] at hm
   refine acp_of_wpC (c := _) Tryd.func63 rfl (by kernel_rfl) [.cell 6 26, .tmp 7] rfl _ Tryd.ntmps63 (Nat.le_of_ble_eq_true rfl) rfl ?_
   repeat' (first|(refine call_pure (may_d hG _ hl') (by (simp (disch := omega) only [go_sem,w_i64,w_u64,tdiv_pos,tmod_pos,nth_map,foldA_len,nth_le,nth_tl,nth_tv,set_tl,set_tv])) ?_)|(with_reducible first|refine aq ?_|refine yr (by kernel_rfl) (Nat.le_of_ble_eq_true rfl) ?_|refine yx MIX (by kernel_rfl) (by kernel_rfl) (by kernel_rfl) (Nat.le_of_ble_eq_true rfl) ?_|refine yc ?_|refine yseq ?_|refine awp_block ?_|refine awp_ret ?_|refine awp_exit ?_|refine awp_skip ?_|refine yr1 (by kernel_rfl) (Nat.le_of_ble_eq_true rfl) ?_|refine yx1 MIX (by kernel_rfl) (by kernel_rfl) (by kernel_rfl) (Nat.le_of_ble_eq_true rfl) ?_)|(simp only [go_sem,h0,e])|((with_reducible first|refine cA_t (by first|assumption|(simp only [decide_eq_true_eq,decide_eq_false_iff_not];first|assumption|omega)) (fun h=>?_)|refine cA_f (by first|assumption|(simp only [decide_eq_true_eq,decide_eq_false_iff_not];first|assumption|omega)) (fun h=>?_)|refine gA_t (by first|assumption|(simp only [decide_eq_true_eq,decide_eq_false_iff_not];first|assumption|omega)) (fun h=>?_)|refine gA_f (by first|assumption|(simp only [decide_eq_true_eq,decide_eq_false_iff_not];first|assumption|omega)) (fun h=>?_)|refine pk_t (by first|assumption|(simp only [decide_eq_true_eq,decide_eq_false_iff_not];first|assumption|omega)) (fun h=>?_)|refine pk_f (by first|assumption|(simp only [decide_eq_true_eq,decide_eq_false_iff_not];first|assumption|omega)) (fun h=>?_)) <;> (try rewrite [h]) <;> clear h)|(with_reducible refine pk_if ?_)|((with_reducible first|refine cA_split (fun h=>?_) (fun h=>?_)|refine gA_split (fun h=>?_) (fun h=>?_)) <;> (try rewrite [h]) <;> (try simp (disch := omega) only [w_i64,w_u64,tdiv_pos,tmod_pos,nth_map,foldA_len,nth_le,nth_tl,nth_tv,set_tl,set_tv] at h) <;> (try simp only [decide_eq_true_eq,decide_eq_false_iff_not,Bool.not_eq_true,Bool.not_eq_false,Bool.not_eq_true',Bool.not_eq_false',not_true_eq_false,not_false_eq_true] at h) <;> (try (exfalso;omega)))|(simp (disch := omega) only [w_i64,w_u64,tdiv_pos,tmod_pos,nth_map,foldA_len,nth_le,nth_tl,nth_tv,set_tl,set_tv])|(with_reducible first|refine And.intro (by first|assumption|rfl|omega) ?_|refine And.intro ?_ ?_))
end Go.Proofs.YtoeajbhlkccekaaDoor

namespace Go.Proofs.YtoeajbhlkccekaaDoor
open Go.RowKit
def sumTo (f : Nat → Nat) : Nat → Nat
 |0=>0
 |k + 1=>sumTo f k + f k
theorem sumTo_le {f : Nat → Nat} {m : Nat} (h : ∀ i,f i ≤ m) : ∀ k,sumTo f k ≤ k * m
 |0=>by simp [sumTo]
 |k + 1=>by have := sumTo_le h k;have := h k;rw [sumTo,Nat.succ_mul];omega
def countT (t : Tr) : Nat := if mayT t then sumTo (fun i=>(t.leaf i).length) 16 else 0
def weightT (t : Tr) : Nat := if mayT t then sumTo (fun i=>weightP (t.leaf i)) 16 else 0
def unlikeAt (a b : Tr) (i : Nat) : Bool := decide (¬ a.ver i = b.ver i) || !decide (a.leaf i = b.leaf i)
def unlikeL (a b : Tr) (k : Nat) : List Nat := (List.range k).filter (unlikeAt a b)
def nLs (l : List Nat) : List AV := l.map fun (i : Nat)=>nA (i : Int)
theorem eqGuard_it : Tryd.prog.eqGuardType Tryd.prog.depth 58 = false := by kernel_rfl
theorem eqAgg_neq (x y : Item) : eqAgg Tryd.prog 58 .neq x.cells y.cells (!decide (x = y)) := by
 intro ox oy w
 obtain ⟨k1,d1,i1,s1,v1⟩ := x
 obtain ⟨k2,d2,i2,s2,v2⟩ := y
 simp only [Sem.run_bind,run_eqGuard_agg _ _ _ _ _ _ _ eqGuard_it,Result.andThen_ok]
 exact run_neq_item w k1 d1 i1 s1 v1 k2 d2 i2 s2 v2
theorem neq_it {K1 : AV → Prop} (x y : Item) (k : K1 (bA (!decide (x = y)))) : aBin Tryd.prog 58 .neq (iA x) (iA y) K1 := ⟨_,_,_,rfl,rfl,eqAgg_neq x y,k⟩
theorem nLs_len (l : List Nat) : (nLs l).length = l.length := by simp [nLs]
theorem nLs_allC (l : List Nat) : allC 1 (nLs l) = True := allC_mapEq fun x=>rfl
theorem nLs_lt (l : List Nat) (m : Nat) : (nLs l).all (ltA m) = true := by
 simp only [nLs,List.all_map,List.all_eq_true,Function.comp_apply]
 exact fun x _=>rfl
theorem unlikeL_le (a b : Tr) (k : Nat) : (unlikeL a b k).length ≤ k := by
 have := List.length_filter_le (unlikeAt a b) (List.range k)
 rwa [List.length_range] at this
theorem unlikeL_succ (a b : Tr) (k : Nat) : unlikeL a b (k + 1) = unlikeL a b k ++ (if unlikeAt a b k then [k] else []) := by
 rw [unlikeL,List.range_succ,List.filter_append]
 simp [unlikeL,List.filter_cons]
attribute [local go_sem_proc] Nat.reduceEqDiff Nat.reduceAdd Nat.reduceSub Nat.reduceMul Nat.reduceLeDiff Nat.reduceLT Int.reduceEq Int.reduceNe Int.reduceLT Int.reduceLE Int.reduceAdd Int.reduceSub Int.reduceMul Int.reduceNeg Int.reduceToNat reduceCtorEq
attribute [local go_sem_proc ↓] reduceIte
attribute [local go_sem ↓] str_size pk_tt pk_ff hold_one hold_two gO_some gA_tt gA_tf gA_ft gA_ff cA_true cA_false yP_n yP_r yK_n yK_r yQ_n yQ_r yC_nil yC_tmp yC_cell yo_nil yo_cons yo_none yo_guard yo_guardN ys_move ys_assign ys_pick ys_bin ys_un ys_build ys_buildSlice ys_load ys_nilCheck ys_conv ys_extract ys_fieldAddr ys_field ys_indexAddr ys_index ys_slice ys_len ys_alloc ys_box ys_store ys_call ys_append ys_makeFunc ys_callv yd_nil yd_alloc yd_store yd_move yg_move yd_assign yg_assign yd_pick yg_pick yd_bin yg_bin yd_un yg_un yd_build yg_build yd_buildSlice yg_buildSlice yd_load yg_load yd_nilCheck yg_nilCheck yd_conv yg_conv yd_extract yg_extract yd_fieldAddr yg_fieldAddr yd_field yg_field yd_indexAddr yg_indexAddr yd_index yg_index yd_slice yg_slice yd_len yg_len yd_call yg_call ixA_eq sl_es sl_row sl_nil ap_eq bs_eq bl_eq cv_eq ixV_agg thenA_n thenA_r thenA_x inB_n inB_r inB_x loop_r loop_x dstAt_zero dstAt_succ retP_n retP_r
attribute [local go_sem] hle_nil hle_cons oO_one oO_two oO_three oO_nil r1_r0 r1_r1 r1_r2 r1_r3 ro_OW roA_OW go_some al_some okX_f okX_t tells regOnly cv_cl cap0_V cap0_OP cap0_ptr ixA_s ixA_p ixA_o szOf_one szOf_two ixV_str ixW_some sl_str slE_some apE_nil apE_row bsE_one flE_some pget_zero pget_succ blE_some fil_nil fil_cons filB_some cvE_some cv_str' str_list str_cut str_data cut_all cut_to s_eql s_neq s_add s_lss s_geq s_leq s_gtr lt1 set_some set_none get_cons ev_tmp ev_const ev_func ev_global glob_cons cv_int cv_bool cv_str cv_slice cv_ptr cv_agg one_int one_bool one_str one_slice one_ptr b_add b_sub b_mul b_quo b_rem b_and b_or b_xor b_andNot b_shl b_shr b_eql b_neq b_lss b_leq b_gtr b_geq b_str b_beq b_bne u_not u_neg g_tt g_tf g_ft g_ff c_true c_false ex_tu nth_zero nth_succ nthO_zero nthO_succ l_ptr l_ptrV l_ptrS l_op cP_one pP_one oc_one oc_agg st_op f_ptr f_op fv_agg co_agg co_V co_slice co_OW co_OP co_ptr sure_V sure_slice sure_OW sure_OP sure_ptr sure_agg sc_nil sc_cons ixS ixSW ixSN bsV_nil bsV_cons el_slice el_row el_nil len_str len_slice len_row len_nil asI_none asI_some nil_op nil_ptr ro_int ro_bool ro_str ro_nils ro_slice ro_ptr ro_OP ro_OW ro_agg ro_tu roA_agg roA_V roA_slice roA_OW roA_OP roA_ptr r1_int r1_bool r1_str r1_nils r1_slice r1_ptr r1_OP resA_one resA_two resA_three noT_V noT_agg noT_slice noT_OW noT_OP noT_ptr noT_nil argsT_nil argsT_cons allC_nil allC_cons allC_append hle_nil hle_cons le_nil le_cons tT_V tT_SL tT_ptr tT_OW tT_OP tT_agg tT_TU tA_V tA_SL tA_ptr tA_OW tA_OP tA_agg t1_V t1_SL t1_ptr t1_OW t1_OP tO_mk get_cons beq_self_eq_true Nat.zero_lt_succ Nat.lt_add_one true_or or_true Bool.or_self Nat.zero_add Nat.add_zero Nat.mul_one Int.toNat_natCast Int.natCast_zero Int.natCast_add Int.cast_ofNat_Int or_false false_or or_true true_or Nat.sub_zero Int.natCast_nonneg Int.toNat_zero Bool.true_and Bool.and_true Bool.false_and Bool.and_false Bool.true_or Bool.or_true Bool.false_or Bool.or_false Bool.not_true Bool.not_false Bool.not_not true_and and_true false_and and_false not_true_eq_false not_false_eq_true eq_self decide_true decide_false ne_eq implies_true forall_const true_implies false_implies Bool.true_eq_false Bool.false_eq_true List.map_cons List.map_nil List.all_cons List.all_nil List.length_cons List.length_nil List.length_map List.length_append List.nil_append List.cons_append List.set_cons_zero List.set_cons_succ List.set_nil List.drop_zero List.drop_succ_cons List.drop_nil List.take_zero List.take_succ_cons List.take_nil Option.map_some Option.map_none Option.isSome_some tk_2 tk_3 tk_9 tk_22 tk_23 tk_24 tk_26 tk_28 tk_32 tk_43 tk_47 tk_58 tk_74 tk_109 tf_26_0 tf_26_1 tf_28_0 tf_28_1 tf_28_2 tf_28_3 tf_43_0 tf_43_1 tf_43_2 tf_47_0 tf_47_1 tf_58_0 tf_58_1 tf_58_2 tf_74_0 tf_74_1 ts_9 ts_22 ts_23 ts_24 ts_29 ts_104 ts_107 ts_121 ts_124 ta_9 ta_22 ta_23 ta_24 ta_29 ta_121 ta_124 tp_26 tp_28 tp_43 tp_47 tp_58 tp_74 tq_22 tq_29 tq_104 tq_107 tq_121 ti_3 ti_5 ti_109 tz_43 tz_58 tv_2 tv_3 tu_4 tv_4 tv_5 tu_9 tv_9 tv_32 tv_109 iA_def fl_it allC_it foldA_all lt_it lt_fold lA_def leC_lt1 tC_len zC_len tC_sure tC_lt1 tC_ltA zC_ltA zC_lt1 tC_ro zC_sure zC_ro tC_take zC_take tC_take16 sc_tt sc_zt sc_tz sc_zz add16 tz_T tA_def
set_option maxHeartbeats 400000 in
theorem count_d {G : Gl} (hG : SigG G) (t : Tr) (hl : ∀ i,(t.leaf i).length ≤ 1000000) : ACp Tryd.prog G 40 [tA t] (nA (countT t)) := by
 have hl' : ∀ i,(t.leaf i).length ≤ 34359738368 := fun i=>Nat.le_trans (hl i) (by decide)
 refine acp_of_wpC (c := _) Tryd.func40 rfl (by kernel_rfl) [.tmp 2] rfl _ Tryd.ntmps40 (Nat.le_of_ble_eq_true rfl) rfl ?_
 repeat' (first|(refine call_pure (may_d hG _ hl') (by (simp (disch := omega) only [go_sem,w_i64,w_u64,tdiv_pos,tmod_pos,nth_map,foldA_len,nth_le,nth_tl,nth_tv,set_tl,set_tv])) ?_)|(with_reducible first|refine aq ?_|refine yr (by kernel_rfl) (Nat.le_of_ble_eq_true rfl) ?_|refine yx MIX (by kernel_rfl) (by kernel_rfl) (by kernel_rfl) (Nat.le_of_ble_eq_true rfl) ?_|refine yc ?_|refine yseq ?_|refine awp_block ?_|refine awp_ret ?_|refine awp_exit ?_|refine awp_skip ?_|refine yr1 (by kernel_rfl) (Nat.le_of_ble_eq_true rfl) ?_|refine yx1 MIX (by kernel_rfl) (by kernel_rfl) (by kernel_rfl) (Nat.le_of_ble_eq_true rfl) ?_)|(simp only [go_sem])|((with_reducible first|refine cA_t (by first|assumption|(simp only [decide_eq_true_eq,decide_eq_false_iff_not];first|assumption|omega)) (fun h=>?_)|refine cA_f (by first|assumption|(simp only [decide_eq_true_eq,decide_eq_false_iff_not];first|assumption|omega)) (fun h=>?_)|refine gA_t (by first|assumption|(simp only [decide_eq_true_eq,decide_eq_false_iff_not];first|assumption|omega)) (fun h=>?_)|refine gA_f (by first|assumption|(simp only [decide_eq_true_eq,decide_eq_false_iff_not];first|assumption|omega)) (fun h=>?_)|refine pk_t (by first|assumption|(simp only [decide_eq_true_eq,decide_eq_false_iff_not];first|assumption|omega)) (fun h=>?_)|refine pk_f (by first|assumption|(simp only [decide_eq_true_eq,decide_eq_false_iff_not];first|assumption|omega)) (fun h=>?_)) <;> (try rewrite [h]) <;> clear h)|(with_reducible refine pk_if ?_)|((with_reducible first|refine cA_split (fun h=>?_) (fun h=>?_)|refine gA_split (fun h=>?_) (fun h=>?_)) <;> (try rewrite [h]) <;> (try simp (disch := omega) only [w_i64,w_u64,tdiv_pos,tmod_pos,nth_map,foldA_len,nth_le,nth_tl,nth_tv,set_tl,set_tv] at h) <;> (try simp only [decide_eq_true_eq,decide_eq_false_iff_not,Bool.not_eq_true,Bool.not_eq_false,Bool.not_eq_true',Bool.not_eq_false',not_true_eq_false,not_false_eq_true] at h) <;> (try (exfalso;omega)))|(simp (disch := omega) only [w_i64,w_u64,tdiv_pos,tmod_pos,nth_map,foldA_len,nth_le,nth_tl,nth_tv,set_tl,set_tv])|(with_reducible first|refine And.intro (by first|assumption|rfl|omega) ?_|refine And.intro ?_ ?_))
 ·rw [countT,h];rfl
 have hm := h
 clear h
 refine awp_loop (ι := {k : Nat // k ≤ 16}) (fun k=>⟨[⟨1,26,0,tC t⟩],[(11,V (.int .i64 k.1)),(10, .agg (leC t)),(3,V (.int .i64 (sumTo (fun i=>(t.leaf i).length) k.1))),(1,OP 0 0)]⟩) (fun k=>16 - k.1) ⟨0,Nat.zero_le _⟩ ?_ (Nat.zero_le _) ?_
 ·(refine le_mk ?_ ?_ ?_ <;> (try simp (disch := omega) only [go_sem,w_i64,w_u64,tdiv_pos,tmod_pos,nth_map,foldA_len,nth_le,nth_tl,nth_tv,set_tl,set_tv,sumTo]))
 rintro ⟨k,hk⟩
 have hs := sumTo_le hl k
 have hlk := hl k
 dsimp only
 repeat' (first|(refine loop_n ⟨k + 1,by omega⟩ ?_ (Nat.zero_le _) (by dsimp only;omega))|(refine le_mk ?_ ?_ ?_ <;> (try simp (disch := omega) only [go_sem,w_i64,w_u64,tdiv_pos,tmod_pos,nth_map,foldA_len,nth_le,nth_tl,nth_tv,set_tl,set_tv]))|(with_reducible first|refine aq ?_|refine yr (by kernel_rfl) (Nat.le_of_ble_eq_true rfl) ?_|refine yx MIX (by kernel_rfl) (by kernel_rfl) (by kernel_rfl) (Nat.le_of_ble_eq_true rfl) ?_|refine yc ?_|refine yseq ?_|refine awp_block ?_|refine awp_ret ?_|refine awp_exit ?_|refine awp_skip ?_|refine yr1 (by kernel_rfl) (Nat.le_of_ble_eq_true rfl) ?_|refine yx1 MIX (by kernel_rfl) (by kernel_rfl) (by kernel_rfl) (Nat.le_of_ble_eq_true rfl) ?_)|(simp only [go_sem])|((with_reducible first|refine cA_t (by first|assumption|(simp only [decide_eq_true_eq,decide_eq_false_iff_not];first|assumption|omega)) (fun h=>?_)|refine cA_f (by first|assumption|(simp only [decide_eq_true_eq,decide_eq_false_iff_not];first|assumption|omega)) (fun h=>?_)|refine gA_t (by first|assumption|(simp only [decide_eq_true_eq,decide_eq_false_iff_not];first|assumption|omega)) (fun h=>?_)|refine gA_f (by first|assumption|(simp only [decide_eq_true_eq,decide_eq_false_iff_not];first|assumption|omega)) (fun h=>?_)|refine pk_t (by first|assumption|(simp only [decide_eq_true_eq,decide_eq_false_iff_not];first|assumption|omega)) (fun h=>?_)|refine pk_f (by first|assumption|(simp only [decide_eq_true_eq,decide_eq_false_iff_not];first|assumption|omega)) (fun h=>?_)) <;> (try rewrite [h]) <;> clear h)|(with_reducible refine pk_if ?_)|((with_reducible first|refine cA_split (fun h=>?_) (fun h=>?_)|refine gA_split (fun h=>?_) (fun h=>?_)) <;> (try rewrite [h]) <;> (try simp (disch := omega) only [w_i64,w_u64,tdiv_pos,tmod_pos,nth_map,foldA_len,nth_le,nth_tl,nth_tv,set_tl,set_tv] at h) <;> (try simp only [decide_eq_true_eq,decide_eq_false_iff_not,Bool.not_eq_true,Bool.not_eq_false,Bool.not_eq_true',Bool.not_eq_false',not_true_eq_false,not_false_eq_true] at h) <;> (try (exfalso;omega)))|(simp (disch := omega) only [w_i64,w_u64,tdiv_pos,tmod_pos,nth_map,foldA_len,nth_le,nth_tl,nth_tv,set_tl,set_tv])|(with_reducible first|refine And.intro (by first|assumption|rfl|omega) ?_|refine And.intro ?_ ?_))
 ·rw [sumTo,Int.natCast_add]
 ·obtain rfl : k = 16 := by omega
  rw [countT,hm];rfl
set_option maxHeartbeats 400000 in
theorem weight_d {G : Gl} (hG : SigG G) (t : Tr) (hl : ∀ i,(t.leaf i).length ≤ 1000000) (hw : ∀ i,weightP (t.leaf i) ≤ 1000000000) (hn : ∀ i,∀ x ∈ t.leaf i,NumOk x) : ACp Tryd.prog G 39 [tA t] (nA (weightT t)) := by
 have hl' : ∀ i,(t.leaf i).length ≤ 34359738368 := fun i=>Nat.le_trans (hl i) (by decide)
 refine acp_of_wpC (c := _) Tryd.func39 rfl (by kernel_rfl) [.tmp 2] rfl _ Tryd.ntmps39 (Nat.le_of_ble_eq_true rfl) rfl ?_
 repeat' (first|(refine call_pure (may_d hG _ hl') (by (simp (disch := omega) only [go_sem,w_i64,w_u64,tdiv_pos,tmod_pos,nth_map,foldA_len,nth_le,nth_tl,nth_tv,set_tl,set_tv])) ?_)|(with_reducible first|refine aq ?_|refine yr (by kernel_rfl) (Nat.le_of_ble_eq_true rfl) ?_|refine yx MIX (by kernel_rfl) (by kernel_rfl) (by kernel_rfl) (Nat.le_of_ble_eq_true rfl) ?_|refine yc ?_|refine yseq ?_|refine awp_block ?_|refine awp_ret ?_|refine awp_exit ?_|refine awp_skip ?_|refine yr1 (by kernel_rfl) (Nat.le_of_ble_eq_true rfl) ?_|refine yx1 MIX (by kernel_rfl) (by kernel_rfl) (by kernel_rfl) (Nat.le_of_ble_eq_true rfl) ?_)|(simp only [go_sem])|((with_reducible first|refine cA_t (by first|assumption|(simp only [decide_eq_true_eq,decide_eq_false_iff_not];first|assumption|omega)) (fun h=>?_)|refine cA_f (by first|assumption|(simp only [decide_eq_true_eq,decide_eq_false_iff_not];first|assumption|omega)) (fun h=>?_)|refine gA_t (by first|assumption|(simp only [decide_eq_true_eq,decide_eq_false_iff_not];first|assumption|omega)) (fun h=>?_)|refine gA_f (by first|assumption|(simp only [decide_eq_true_eq,decide_eq_false_iff_not];first|assumption|omega)) (fun h=>?_)|refine pk_t (by first|assumption|(simp only [decide_eq_true_eq,decide_eq_false_iff_not];first|assumption|omega)) (fun h=>?_)|refine pk_f (by first|assumption|(simp only [decide_eq_true_eq,decide_eq_false_iff_not];first|assumption|omega)) (fun h=>?_)) <;> (try rewrite [h]) <;> clear h)|(with_reducible refine pk_if ?_)|((with_reducible first|refine cA_split (fun h=>?_) (fun h=>?_)|refine gA_split (fun h=>?_) (fun h=>?_)) <;> (try rewrite [h]) <;> (try simp (disch := omega) only [w_i64,w_u64,tdiv_pos,tmod_pos,nth_map,foldA_len,nth_le,nth_tl,nth_tv,set_tl,set_tv] at h) <;> (try simp only [decide_eq_true_eq,decide_eq_false_iff_not,Bool.not_eq_true,Bool.not_eq_false,Bool.not_eq_true',Bool.not_eq_false',not_true_eq_false,not_false_eq_true] at h) <;> (try (exfalso;omega)))|(simp (disch := omega) only [w_i64,w_u64,tdiv_pos,tmod_pos,nth_map,foldA_len,nth_le,nth_tl,nth_tv,set_tl,set_tv])|(with_reducible first|refine And.intro (by first|assumption|rfl|omega) ?_|refine And.intro ?_ ?_))
 ·rw [weightT,h];rfl
 have hm := h
 clear h
 refine awp_loop (ι := {k : Nat // k ≤ 16}) (fun k=>⟨[⟨1,26,0,tC t⟩],[(11,V (.int .i64 k.1)),(10, .agg (leC t)),(3,V (.int .i64 (sumTo (fun i=>weightP (t.leaf i)) k.1))),(1,OP 0 0)]⟩) (fun k=>16 - k.1) ⟨0,Nat.zero_le _⟩ ?_ (Nat.zero_le _) ?_
 ·(refine le_mk ?_ ?_ ?_ <;> (try simp (disch := omega) only [go_sem,w_i64,w_u64,tdiv_pos,tmod_pos,nth_map,foldA_len,nth_le,nth_tl,nth_tv,set_tl,set_tv,sumTo]))
 rintro ⟨k,hk⟩
 have hs := sumTo_le hw k
 have hlk := hw k
 dsimp only
 repeat' (first|(refine call_pure (cl_weight _ hG (hn _) (hl _)) rfl ?_)|(refine loop_n ⟨k + 1,by omega⟩ ?_ (Nat.zero_le _) (by dsimp only;omega))|(refine le_mk ?_ ?_ ?_ <;> (try simp (disch := omega) only [go_sem,w_i64,w_u64,tdiv_pos,tmod_pos,nth_map,foldA_len,nth_le,nth_tl,nth_tv,set_tl,set_tv]))|(with_reducible first|refine aq ?_|refine yr (by kernel_rfl) (Nat.le_of_ble_eq_true rfl) ?_|refine yx MIX (by kernel_rfl) (by kernel_rfl) (by kernel_rfl) (Nat.le_of_ble_eq_true rfl) ?_|refine yc ?_|refine yseq ?_|refine awp_block ?_|refine awp_ret ?_|refine awp_exit ?_|refine awp_skip ?_|refine yr1 (by kernel_rfl) (Nat.le_of_ble_eq_true rfl) ?_|refine yx1 MIX (by kernel_rfl) (by kernel_rfl) (by kernel_rfl) (Nat.le_of_ble_eq_true rfl) ?_)|(simp only [go_sem])|((with_reducible first|refine cA_t (by first|assumption|(simp only [decide_eq_true_eq,decide_eq_false_iff_not];first|assumption|omega)) (fun h=>?_)|refine cA_f (by first|assumption|(simp only [decide_eq_true_eq,decide_eq_false_iff_not];first|assumption|omega)) (fun h=>?_)|refine gA_t (by first|assumption|(simp only [decide_eq_true_eq,decide_eq_false_iff_not];first|assumption|omega)) (fun h=>?_)|refine gA_f (by first|assumption|(simp only [decide_eq_true_eq,decide_eq_false_iff_not];first|assumption|omega)) (fun h=>?_)|refine pk_t (by first|assumption|(simp only [decide_eq_true_eq,decide_eq_false_iff_not];first|assumption|omega)) (fun h=>?_)|refine pk_f (by first|assumption|(simp only [decide_eq_true_eq,decide_eq_false_iff_not];first|assumption|omega)) (fun h=>?_)) <;> (try rewrite [h]) <;> clear h)|(with_reducible refine pk_if ?_)|((with_reducible first|refine cA_split (fun h=>?_) (fun h=>?_)|refine gA_split (fun h=>?_) (fun h=>?_)) <;> (try rewrite [h]) <;> (try simp (disch := omega) only [w_i64,w_u64,tdiv_pos,tmod_pos,nth_map,foldA_len,nth_le,nth_tl,nth_tv,set_tl,set_tv] at h) <;> (try simp only [decide_eq_true_eq,decide_eq_false_iff_not,Bool.not_eq_true,Bool.not_eq_false,Bool.not_eq_true',Bool.not_eq_false',not_true_eq_false,not_false_eq_true] at h) <;> (try (exfalso;omega)))|(simp (disch := omega) only [w_i64,w_u64,tdiv_pos,tmod_pos,nth_map,foldA_len,nth_le,nth_tl,nth_tv,set_tl,set_tv])|(with_reducible first|refine And.intro (by first|assumption|rfl|omega) ?_|refine And.intro ?_ ?_))
 ·rw [sumTo,Int.natCast_add]
 ·obtain rfl : k = 16 := by omega
  rw [weightT,hm];rfl
set_option maxHeartbeats 400000 in
theorem eqItems_d {G : Gl} (l m : List Item) (hl : l.length ≤ 1000000) (hm : m.length ≤ 1000000) : ACp Tryd.prog G 93 [lA l,lA m] (bA (decide (l = m))) := by
 refine acp_of_wpC (c := _) Tryd.func93 rfl (by kernel_rfl) [.tmp 4] rfl _ Tryd.ntmps93 (Nat.le_of_ble_eq_true rfl) rfl ?_
 repeat' (first|(with_reducible first|refine aq ?_|refine yr (by kernel_rfl) (Nat.le_of_ble_eq_true rfl) ?_|refine yx MIX (by kernel_rfl) (by kernel_rfl) (by kernel_rfl) (Nat.le_of_ble_eq_true rfl) ?_|refine yc ?_|refine yseq ?_|refine awp_block ?_|refine awp_ret ?_|refine awp_exit ?_|refine awp_skip ?_|refine yr1 (by kernel_rfl) (Nat.le_of_ble_eq_true rfl) ?_|refine yx1 MIX (by kernel_rfl) (by kernel_rfl) (by kernel_rfl) (Nat.le_of_ble_eq_true rfl) ?_)|(simp only [go_sem])|((with_reducible first|refine cA_t (by first|assumption|(simp only [decide_eq_true_eq,decide_eq_false_iff_not];first|assumption|omega)) (fun h=>?_)|refine cA_f (by first|assumption|(simp only [decide_eq_true_eq,decide_eq_false_iff_not];first|assumption|omega)) (fun h=>?_)|refine gA_t (by first|assumption|(simp only [decide_eq_true_eq,decide_eq_false_iff_not];first|assumption|omega)) (fun h=>?_)|refine gA_f (by first|assumption|(simp only [decide_eq_true_eq,decide_eq_false_iff_not];first|assumption|omega)) (fun h=>?_)|refine pk_t (by first|assumption|(simp only [decide_eq_true_eq,decide_eq_false_iff_not];first|assumption|omega)) (fun h=>?_)|refine pk_f (by first|assumption|(simp only [decide_eq_true_eq,decide_eq_false_iff_not];first|assumption|omega)) (fun h=>?_)) <;> (try rewrite [h]) <;> clear h)|(with_reducible refine pk_if ?_)|((with_reducible first|refine cA_split (fun h=>?_) (fun h=>?_)|refine gA_split (fun h=>?_) (fun h=>?_)) <;> (try rewrite [h]) <;> (try simp (disch := omega) only [w_i64,w_u64,tdiv_pos,tmod_pos,nth_map,foldA_len,nth_le,nth_tl,nth_tv,set_tl,set_tv] at h) <;> (try simp only [decide_eq_true_eq,decide_eq_false_iff_not,Bool.not_eq_true,Bool.not_eq_false,Bool.not_eq_true',Bool.not_eq_false',not_true_eq_false,not_false_eq_true] at h) <;> (try (exfalso;omega)))|(simp (disch := omega) only [w_i64,w_u64,tdiv_pos,tmod_pos,nth_map,foldA_len,nth_le,nth_tl,nth_tv,set_tl,set_tv])|(with_reducible first|refine And.intro (by first|assumption|rfl|omega) ?_|refine And.intro ?_ ?_))
 ·rw [show decide (l = m) = false by simpa using fun e=>h (by rw [e])]
 have hlen : l.length = m.length := by omega
 clear h
 refine awp_loop (ι := {k : Nat // k ≤ l.length ∧ l.take k = m.take k}) (fun k=>⟨[],[(13,V (.int .i64 k.1)),(12,V (.int .i64 l.length)),(0,SL (l.map (flA Item.cells))),(1,SL (m.map (flA Item.cells)))]⟩) (fun k=>l.length - k.1) ⟨0,Nat.zero_le _,rfl⟩ ?_ (Nat.zero_le _) ?_
 ·(refine le_mk ?_ ?_ ?_ <;> (try simp (disch := omega) only [go_sem,w_i64,w_u64,tdiv_pos,tmod_pos,nth_map,foldA_len,nth_le,nth_tl,nth_tv,set_tl,set_tv]))
 rintro ⟨k,hk,hall⟩
 dsimp only
 repeat' (first|(refine neq_it (l[k]'(by omega)) (m[k]'(by omega)) ?_)|(refine loop_n ⟨k + 1,by omega,?_⟩ ?_ (Nat.zero_le _) (by dsimp only;omega))|(refine le_mk ?_ ?_ ?_ <;> (try simp (disch := omega) only [go_sem,w_i64,w_u64,tdiv_pos,tmod_pos,nth_map,foldA_len,nth_le,nth_tl,nth_tv,set_tl,set_tv]))|(with_reducible first|refine aq ?_|refine yr (by kernel_rfl) (Nat.le_of_ble_eq_true rfl) ?_|refine yx MIX (by kernel_rfl) (by kernel_rfl) (by kernel_rfl) (Nat.le_of_ble_eq_true rfl) ?_|refine yc ?_|refine yseq ?_|refine awp_block ?_|refine awp_ret ?_|refine awp_exit ?_|refine awp_skip ?_|refine yr1 (by kernel_rfl) (Nat.le_of_ble_eq_true rfl) ?_|refine yx1 MIX (by kernel_rfl) (by kernel_rfl) (by kernel_rfl) (Nat.le_of_ble_eq_true rfl) ?_)|(simp only [go_sem])|((with_reducible first|refine cA_t (by first|assumption|(simp only [decide_eq_true_eq,decide_eq_false_iff_not];first|assumption|omega)) (fun h=>?_)|refine cA_f (by first|assumption|(simp only [decide_eq_true_eq,decide_eq_false_iff_not];first|assumption|omega)) (fun h=>?_)|refine gA_t (by first|assumption|(simp only [decide_eq_true_eq,decide_eq_false_iff_not];first|assumption|omega)) (fun h=>?_)|refine gA_f (by first|assumption|(simp only [decide_eq_true_eq,decide_eq_false_iff_not];first|assumption|omega)) (fun h=>?_)|refine pk_t (by first|assumption|(simp only [decide_eq_true_eq,decide_eq_false_iff_not];first|assumption|omega)) (fun h=>?_)|refine pk_f (by first|assumption|(simp only [decide_eq_true_eq,decide_eq_false_iff_not];first|assumption|omega)) (fun h=>?_)) <;> (try rewrite [h]) <;> clear h)|(with_reducible refine pk_if ?_)|((with_reducible first|refine cA_split (fun h=>?_) (fun h=>?_)|refine gA_split (fun h=>?_) (fun h=>?_)) <;> (try rewrite [h]) <;> (try simp (disch := omega) only [w_i64,w_u64,tdiv_pos,tmod_pos,nth_map,foldA_len,nth_le,nth_tl,nth_tv,set_tl,set_tv] at h) <;> (try simp only [decide_eq_true_eq,decide_eq_false_iff_not,Bool.not_eq_true,Bool.not_eq_false,Bool.not_eq_true',Bool.not_eq_false',not_true_eq_false,not_false_eq_true] at h) <;> (try (exfalso;omega)))|(simp (disch := omega) only [w_i64,w_u64,tdiv_pos,tmod_pos,nth_map,foldA_len,nth_le,nth_tl,nth_tv,set_tl,set_tv])|(with_reducible first|refine And.intro (by first|assumption|rfl|omega) ?_|refine And.intro ?_ ?_))
 ·rw [show decide (l = m) = false by
   rw [decide_eq_false_iff_not]
   rintro rfl
   exact h rfl]
 ·rw [List.take_succ_eq_append_getElem (by omega),List.take_succ_eq_append_getElem (by omega),hall,h]
 ·rw [List.take_of_length_le (by omega),List.take_of_length_le (by omega)] at hall
  rw [hall,decide_eq_true rfl]
end Go.Proofs.YtoeajbhlkccekaaDoor

namespace Go.Proofs.YtoeajbhlkccekaaDoor
open Go.RowKit
def unlikeT (a b : Tr) : List Nat × Nat := if mayT a && mayT b then (unlikeL a b 16,0) else ([],1)
theorem u_yes {a b : Tr} {k : Nat} (h : unlikeAt a b k = true) : unlikeL a b (k + 1) = unlikeL a b k ++ [k] := by rw [unlikeL_succ,h];rfl
theorem u_no {a b : Tr} {k : Nat} (h : unlikeAt a b k = false) : unlikeL a b (k + 1) = unlikeL a b k := by rw [unlikeL_succ,h];exact List.append_nil _
theorem nLs_app (l : List Nat) (k : Nat) : nLs (l ++ [k]) = nLs l ++ [nA (k : Int)] := by simp [nLs]
attribute [local go_sem_proc] Nat.reduceEqDiff Nat.reduceAdd Nat.reduceSub Nat.reduceMul Nat.reduceLeDiff Nat.reduceLT Int.reduceEq Int.reduceNe Int.reduceLT Int.reduceLE Int.reduceAdd Int.reduceSub Int.reduceMul Int.reduceNeg Int.reduceToNat reduceCtorEq
attribute [local go_sem_proc ↓] reduceIte
attribute [local go_sem ↓] str_size pk_tt pk_ff hold_one hold_two gO_some gA_tt gA_tf gA_ft gA_ff cA_true cA_false yP_n yP_r yK_n yK_r yQ_n yQ_r yC_nil yC_tmp yC_cell yo_nil yo_cons yo_none yo_guard yo_guardN ys_move ys_assign ys_pick ys_bin ys_un ys_build ys_buildSlice ys_load ys_nilCheck ys_conv ys_extract ys_fieldAddr ys_field ys_indexAddr ys_index ys_slice ys_len ys_alloc ys_box ys_store ys_call ys_append ys_makeFunc ys_callv yd_nil yd_alloc yd_store yd_move yg_move yd_assign yg_assign yd_pick yg_pick yd_bin yg_bin yd_un yg_un yd_build yg_build yd_buildSlice yg_buildSlice yd_load yg_load yd_nilCheck yg_nilCheck yd_conv yg_conv yd_extract yg_extract yd_fieldAddr yg_fieldAddr yd_field yg_field yd_indexAddr yg_indexAddr yd_index yg_index yd_slice yg_slice yd_len yg_len yd_call yg_call ixA_eq sl_es sl_row sl_nil ap_eq bs_eq bl_eq cv_eq ixV_agg thenA_n thenA_r thenA_x inB_n inB_r inB_x loop_r loop_x dstAt_zero dstAt_succ retP_n retP_r
attribute [local go_sem] hle_nil hle_cons oO_one oO_two oO_three oO_nil r1_r0 r1_r1 r1_r2 r1_r3 ro_OW roA_OW go_some al_some okX_f okX_t tells regOnly cv_cl cap0_V cap0_OP cap0_ptr ixA_s ixA_p ixA_o szOf_one szOf_two ixV_str ixW_some sl_str slE_some apE_nil apE_row bsE_one flE_some pget_zero pget_succ blE_some fil_nil fil_cons filB_some cvE_some cv_str' str_list str_cut str_data cut_all cut_to s_eql s_neq s_add s_lss s_geq s_leq s_gtr lt1 set_some set_none get_cons ev_tmp ev_const ev_func ev_global glob_cons cv_int cv_bool cv_str cv_slice cv_ptr cv_agg one_int one_bool one_str one_slice one_ptr b_add b_sub b_mul b_quo b_rem b_and b_or b_xor b_andNot b_shl b_shr b_eql b_neq b_lss b_leq b_gtr b_geq b_str b_beq b_bne u_not u_neg g_tt g_tf g_ft g_ff c_true c_false ex_tu nth_zero nth_succ nthO_zero nthO_succ l_ptr l_ptrV l_ptrS l_op cP_one pP_one oc_one oc_agg st_op f_ptr f_op fv_agg co_agg co_V co_slice co_OW co_OP co_ptr sure_V sure_slice sure_OW sure_OP sure_ptr sure_agg sc_nil sc_cons ixS ixSW ixSN bsV_nil bsV_cons el_slice el_row el_nil len_str len_slice len_row len_nil asI_none asI_some nil_op nil_ptr ro_int ro_bool ro_str ro_nils ro_slice ro_ptr ro_OP ro_OW ro_agg ro_tu roA_agg roA_V roA_slice roA_OW roA_OP roA_ptr r1_int r1_bool r1_str r1_nils r1_slice r1_ptr r1_OP resA_one resA_two resA_three noT_V noT_agg noT_slice noT_OW noT_OP noT_ptr noT_nil argsT_nil argsT_cons allC_nil allC_cons allC_append hle_nil hle_cons le_nil le_cons tT_V tT_SL tT_ptr tT_OW tT_OP tT_agg tT_TU tA_V tA_SL tA_ptr tA_OW tA_OP tA_agg t1_V t1_SL t1_ptr t1_OW t1_OP tO_mk get_cons beq_self_eq_true Nat.zero_lt_succ Nat.lt_add_one true_or or_true Bool.or_self Nat.zero_add Nat.add_zero Nat.mul_one Int.toNat_natCast Int.natCast_zero Int.natCast_add Int.cast_ofNat_Int or_false false_or or_true true_or Nat.sub_zero Int.natCast_nonneg Int.toNat_zero Bool.true_and Bool.and_true Bool.false_and Bool.and_false Bool.true_or Bool.or_true Bool.false_or Bool.or_false Bool.not_true Bool.not_false Bool.not_not true_and and_true false_and and_false not_true_eq_false not_false_eq_true eq_self decide_true decide_false ne_eq implies_true forall_const true_implies false_implies Bool.true_eq_false Bool.false_eq_true List.map_cons List.map_nil List.all_cons List.all_nil List.length_cons List.length_nil List.length_map List.length_append List.nil_append List.cons_append List.set_cons_zero List.set_cons_succ List.set_nil List.drop_zero List.drop_succ_cons List.drop_nil List.take_zero List.take_succ_cons List.take_nil Option.map_some Option.map_none Option.isSome_some tk_2 tk_3 tk_9 tk_22 tk_23 tk_24 tk_26 tk_28 tk_32 tk_43 tk_47 tk_58 tk_74 tk_109 tf_26_0 tf_26_1 tf_28_0 tf_28_1 tf_28_2 tf_28_3 tf_43_0 tf_43_1 tf_43_2 tf_47_0 tf_47_1 tf_58_0 tf_58_1 tf_58_2 tf_74_0 tf_74_1 ts_9 ts_22 ts_23 ts_24 ts_29 ts_104 ts_107 ts_121 ts_124 ta_9 ta_22 ta_23 ta_24 ta_29 ta_121 ta_124 tp_26 tp_28 tp_43 tp_47 tp_58 tp_74 tq_22 tq_29 tq_104 tq_107 tq_121 ti_3 ti_5 ti_109 tz_43 tz_58 tv_2 tv_3 tu_4 tv_4 tv_5 tu_9 tv_9 tv_32 tv_109 iA_def fl_it allC_it foldA_all lt_it lt_fold lA_def leC_lt1 tC_len zC_len tC_sure tC_lt1 tC_ltA zC_ltA zC_lt1 tC_ro zC_sure zC_ro tC_take zC_take tC_take16 sc_tt sc_zt sc_tz sc_zz add16 tz_T tA_def
set_option maxHeartbeats 4000000 in
theorem unlike_d {G : Gl} (hG : SigG G) (a b : Tr) (ha : ∀ i, (a.leaf i).length ≤ 1000000) (hb : ∀ i, (b.leaf i).length ≤ 1000000) : ACp Tryd.prog G 75 [tA a, tA b] (TU [SL (nLs (unlikeT a b).1), nA (unlikeT a b).2]) := by
  have ha' : ∀ i, (a.leaf i).length ≤ 34359738368 := fun i => Nat.le_trans (ha i) (by decide)
  have hb' : ∀ i, (b.leaf i).length ≤ 34359738368 := fun i => Nat.le_trans (hb i) (by decide)
  cases hma : mayT a with
  | false =>
    refine acp_of_wpC (c := _) Tryd.func75 rfl (by kernel_rfl) [.tmp 4, .tmp 5] rfl _ Tryd.ntmps75 (Nat.le_of_ble_eq_true rfl) rfl ?_
    repeat' (first | (refine call_pure (may_d hG _ ha') (by (simp (disch := omega) only [go_sem, w_i64, w_u64, tdiv_pos, tmod_pos, nth_map, foldA_len, nth_le, nth_tl, nth_tv, set_tl, set_tv])) ?_) | (with_reducible first | refine aq ?_ | refine yr (by kernel_rfl) (Nat.le_of_ble_eq_true rfl) ?_ | refine yx MIX (by kernel_rfl) (by kernel_rfl) (by kernel_rfl) (Nat.le_of_ble_eq_true rfl) ?_ | refine yc ?_ | refine yseq ?_ | refine awp_block ?_ | refine awp_ret ?_ | refine awp_exit ?_ | refine awp_skip ?_ | refine yr1 (by kernel_rfl) (Nat.le_of_ble_eq_true rfl) ?_ | refine yx1 MIX (by kernel_rfl) (by kernel_rfl) (by kernel_rfl) (Nat.le_of_ble_eq_true rfl) ?_) | (simp only [go_sem, hma]) | ((with_reducible first | refine cA_t (by first | assumption | (simp only [decide_eq_true_eq, decide_eq_false_iff_not]; first | assumption | omega)) (fun h => ?_) | refine cA_f (by first | assumption | (simp only [decide_eq_true_eq, decide_eq_false_iff_not]; first | assumption | omega)) (fun h => ?_) | refine gA_t (by first | assumption | (simp only [decide_eq_true_eq, decide_eq_false_iff_not]; first | assumption | omega)) (fun h => ?_) | refine gA_f (by first | assumption | (simp only [decide_eq_true_eq, decide_eq_false_iff_not]; first | assumption | omega)) (fun h => ?_) | refine pk_t (by first | assumption | (simp only [decide_eq_true_eq, decide_eq_false_iff_not]; first | assumption | omega)) (fun h => ?_) | refine pk_f (by first | assumption | (simp only [decide_eq_true_eq, decide_eq_false_iff_not]; first | assumption | omega)) (fun h => ?_)) <;> (try rewrite [h]) <;> clear h) | (with_reducible refine pk_if ?_) | ((with_reducible first | refine cA_split (fun h => ?_) (fun h => ?_) | refine gA_split (fun h => ?_) (fun h => ?_)) <;> (try rewrite [h]) <;> (try simp (disch := omega) only [w_i64, w_u64, tdiv_pos, tmod_pos, nth_map, foldA_len, nth_le, nth_tl, nth_tv, set_tl, set_tv] at h) <;> (try simp only [decide_eq_true_eq, decide_eq_false_iff_not, Bool.not_eq_true, Bool.not_eq_false, Bool.not_eq_true', Bool.not_eq_false', not_true_eq_false, not_false_eq_true] at h) <;> (try (exfalso; omega))) | (simp (disch := omega) only [w_i64, w_u64, tdiv_pos, tmod_pos, nth_map, foldA_len, nth_le, nth_tl, nth_tv, set_tl, set_tv]) | (with_reducible first | refine And.intro (by first | assumption | rfl | omega) ?_ | refine And.intro ?_ ?_))
    rw [unlikeT, hma]; rfl
  | true =>
  cases hmb : mayT b with
  | false =>
    refine acp_of_wpC (c := _) Tryd.func75 rfl (by kernel_rfl) [.tmp 4, .tmp 5] rfl _ Tryd.ntmps75 (Nat.le_of_ble_eq_true rfl) rfl ?_
    repeat' (first | (refine call_pure (may_d hG a ha') (by (simp (disch := omega) only [go_sem, w_i64, w_u64, tdiv_pos, tmod_pos, nth_map, foldA_len, nth_le, nth_tl, nth_tv, set_tl, set_tv])) ?_) | (refine call_pure (may_d hG b hb') (by (simp (disch := omega) only [go_sem, w_i64, w_u64, tdiv_pos, tmod_pos, nth_map, foldA_len, nth_le, nth_tl, nth_tv, set_tl, set_tv])) ?_) | (with_reducible first | refine aq ?_ | refine yr (by kernel_rfl) (Nat.le_of_ble_eq_true rfl) ?_ | refine yx MIX (by kernel_rfl) (by kernel_rfl) (by kernel_rfl) (Nat.le_of_ble_eq_true rfl) ?_ | refine yc ?_ | refine yseq ?_ | refine awp_block ?_ | refine awp_ret ?_ | refine awp_exit ?_ | refine awp_skip ?_ | refine yr1 (by kernel_rfl) (Nat.le_of_ble_eq_true rfl) ?_ | refine yx1 MIX (by kernel_rfl) (by kernel_rfl) (by kernel_rfl) (Nat.le_of_ble_eq_true rfl) ?_) | (simp only [go_sem, hma, hmb]) | ((with_reducible first | refine cA_t (by first | assumption | (simp only [decide_eq_true_eq, decide_eq_false_iff_not]; first | assumption | omega)) (fun h => ?_) | refine cA_f (by first | assumption | (simp only [decide_eq_true_eq, decide_eq_false_iff_not]; first | assumption | omega)) (fun h => ?_) | refine gA_t (by first | assumption | (simp only [decide_eq_true_eq, decide_eq_false_iff_not]; first | assumption | omega)) (fun h => ?_) | refine gA_f (by first | assumption | (simp only [decide_eq_true_eq, decide_eq_false_iff_not]; first | assumption | omega)) (fun h => ?_) | refine pk_t (by first | assumption | (simp only [decide_eq_true_eq, decide_eq_false_iff_not]; first | assumption | omega)) (fun h => ?_) | refine pk_f (by first | assumption | (simp only [decide_eq_true_eq, decide_eq_false_iff_not]; first | assumption | omega)) (fun h => ?_)) <;> (try rewrite [h]) <;> clear h) | (with_reducible refine pk_if ?_) | ((with_reducible first | refine cA_split (fun h => ?_) (fun h => ?_) | refine gA_split (fun h => ?_) (fun h => ?_)) <;> (try rewrite [h]) <;> (try simp (disch := omega) only [w_i64, w_u64, tdiv_pos, tmod_pos, nth_map, foldA_len, nth_le, nth_tl, nth_tv, set_tl, set_tv] at h) <;> (try simp only [decide_eq_true_eq, decide_eq_false_iff_not, Bool.not_eq_true, Bool.not_eq_false, Bool.not_eq_true', Bool.not_eq_false', not_true_eq_false, not_false_eq_true] at h) <;> (try (exfalso; omega))) | (simp (disch := omega) only [w_i64, w_u64, tdiv_pos, tmod_pos, nth_map, foldA_len, nth_le, nth_tl, nth_tv, set_tl, set_tv]) | (with_reducible first | refine And.intro (by first | assumption | rfl | omega) ?_ | refine And.intro ?_ ?_))
    rw [unlikeT, hma, hmb]; rfl
  | true =>
  refine acp_of_wpC (c := _) Tryd.func75 rfl (by kernel_rfl) [.tmp 4, .tmp 5] rfl _ Tryd.ntmps75 (Nat.le_of_ble_eq_true rfl) rfl ?_
  repeat' (first | (refine call_pure (may_d hG a ha') (by (simp (disch := omega) only [go_sem, w_i64, w_u64, tdiv_pos, tmod_pos, nth_map, foldA_len, nth_le, nth_tl, nth_tv, set_tl, set_tv])) ?_) | (refine call_pure (may_d hG b hb') (by (simp (disch := omega) only [go_sem, w_i64, w_u64, tdiv_pos, tmod_pos, nth_map, foldA_len, nth_le, nth_tl, nth_tv, set_tl, set_tv])) ?_) | (with_reducible first | refine aq ?_ | refine yr (by kernel_rfl) (Nat.le_of_ble_eq_true rfl) ?_ | refine yx MIX (by kernel_rfl) (by kernel_rfl) (by kernel_rfl) (Nat.le_of_ble_eq_true rfl) ?_ | refine yc ?_ | refine yseq ?_ | refine awp_block ?_ | refine awp_ret ?_ | refine awp_exit ?_ | refine awp_skip ?_ | refine yr1 (by kernel_rfl) (Nat.le_of_ble_eq_true rfl) ?_ | refine yx1 MIX (by kernel_rfl) (by kernel_rfl) (by kernel_rfl) (Nat.le_of_ble_eq_true rfl) ?_) | (simp only [go_sem, hma, hmb]) | ((with_reducible first | refine cA_t (by first | assumption | (simp only [decide_eq_true_eq, decide_eq_false_iff_not]; first | assumption | omega)) (fun h => ?_) | refine cA_f (by first | assumption | (simp only [decide_eq_true_eq, decide_eq_false_iff_not]; first | assumption | omega)) (fun h => ?_) | refine gA_t (by first | assumption | (simp only [decide_eq_true_eq, decide_eq_false_iff_not]; first | assumption | omega)) (fun h => ?_) | refine gA_f (by first | assumption | (simp only [decide_eq_true_eq, decide_eq_false_iff_not]; first | assumption | omega)) (fun h => ?_) | refine pk_t (by first | assumption | (simp only [decide_eq_true_eq, decide_eq_false_iff_not]; first | assumption | omega)) (fun h => ?_) | refine pk_f (by first | assumption | (simp only [decide_eq_true_eq, decide_eq_false_iff_not]; first | assumption | omega)) (fun h => ?_)) <;> (try rewrite [h]) <;> clear h) | (with_reducible refine pk_if ?_) | ((with_reducible first | refine cA_split (fun h => ?_) (fun h => ?_) | refine gA_split (fun h => ?_) (fun h => ?_)) <;> (try rewrite [h]) <;> (try simp (disch := omega) only [w_i64, w_u64, tdiv_pos, tmod_pos, nth_map, foldA_len, nth_le, nth_tl, nth_tv, set_tl, set_tv] at h) <;> (try simp only [decide_eq_true_eq, decide_eq_false_iff_not, Bool.not_eq_true, Bool.not_eq_false, Bool.not_eq_true', Bool.not_eq_false', not_true_eq_false, not_false_eq_true] at h) <;> (try (exfalso; omega))) | (simp (disch := omega) only [w_i64, w_u64, tdiv_pos, tmod_pos, nth_map, foldA_len, nth_le, nth_tl, nth_tv, set_tl, set_tv]) | (with_reducible first | refine And.intro (by first | assumption | rfl | omega) ?_ | refine And.intro ?_ ?_))
  refine awp_row 6 3 1 rfl (Nat.le_of_ble_eq_true rfl) ?_
  refine awp_loop (ι := {k : Nat // k ≤ 16}) (fun k => ⟨[⟨1, 26, 0, tC a⟩, ⟨1, 26, 0, tC b⟩, ⟨2, 3, 1, nLs (unlikeL a b k.1)⟩], [(16, V (.int .i64 k.1)), (6, OW 2 (unlikeL a b k.1).length), (2, OP 0 0), (3, OP 1 0)]⟩) (fun k => 16 - k.1) ⟨0, Nat.zero_le _⟩ ?_ (Nat.zero_le _) ?_
  · (refine le_mk ?_ ?_ ?_ <;> (try simp (disch := omega) only [go_sem, w_i64, w_u64, tdiv_pos, tmod_pos, nth_map, foldA_len, nth_le, nth_tl, nth_tv, set_tl, set_tv, nLs_lt]))
    · rfl
    · rfl
  rintro ⟨k, hk⟩
  have hu := unlikeL_le a b k
  dsimp only
  repeat' (first | (refine call_d (eqItems_d (a.leaf k) (b.leaf k) (ha _) (hb _)) rfl ?_) | (refine loop_n ⟨k + 1, by omega⟩ ?_ (Nat.zero_le _) (by dsimp only; omega)) | (refine le_mk ?_ ?_ ?_ <;> (try simp (disch := omega) only [go_sem, w_i64, w_u64, tdiv_pos, tmod_pos, nth_map, foldA_len, nth_le, nth_tl, nth_tv, set_tl, set_tv, nLs_lt])) | (with_reducible first | refine aq ?_ | refine yr (by kernel_rfl) (Nat.le_of_ble_eq_true rfl) ?_ | refine yx MIX (by kernel_rfl) (by kernel_rfl) (by kernel_rfl) (Nat.le_of_ble_eq_true rfl) ?_ | refine yc ?_ | refine yseq ?_ | refine awp_block ?_ | refine awp_ret ?_ | refine awp_exit ?_ | refine awp_skip ?_ | refine yr1 (by kernel_rfl) (Nat.le_of_ble_eq_true rfl) ?_ | refine yx1 MIX (by kernel_rfl) (by kernel_rfl) (by kernel_rfl) (Nat.le_of_ble_eq_true rfl) ?_) | (simp only [go_sem, nLs_len, nLs_allC]) | ((with_reducible first | refine cA_t (by first | assumption | (simp only [decide_eq_true_eq, decide_eq_false_iff_not]; first | assumption | omega)) (fun h => ?_) | refine cA_f (by first | assumption | (simp only [decide_eq_true_eq, decide_eq_false_iff_not]; first | assumption | omega)) (fun h => ?_) | refine gA_t (by first | assumption | (simp only [decide_eq_true_eq, decide_eq_false_iff_not]; first | assumption | omega)) (fun h => ?_) | refine gA_f (by first | assumption | (simp only [decide_eq_true_eq, decide_eq_false_iff_not]; first | assumption | omega)) (fun h => ?_) | refine pk_t (by first | assumption | (simp only [decide_eq_true_eq, decide_eq_false_iff_not]; first | assumption | omega)) (fun h => ?_) | refine pk_f (by first | assumption | (simp only [decide_eq_true_eq, decide_eq_false_iff_not]; first | assumption | omega)) (fun h => ?_)) <;> (try rewrite [h]) <;> clear h) | (with_reducible refine pk_if ?_) | ((with_reducible first | refine cA_split (fun h => ?_) (fun h => ?_) | refine gA_split (fun h => ?_) (fun h => ?_)) <;> (try rewrite [h]) <;> (try simp (disch := omega) only [w_i64, w_u64, tdiv_pos, tmod_pos, nth_map, foldA_len, nth_le, nth_tl, nth_tv, set_tl, set_tv] at h) <;> (try simp only [decide_eq_true_eq, decide_eq_false_iff_not, Bool.not_eq_true, Bool.not_eq_false, Bool.not_eq_true', Bool.not_eq_false', not_true_eq_false, not_false_eq_true] at h) <;> (try (exfalso; omega))) | (simp (disch := omega) only [w_i64, w_u64, tdiv_pos, tmod_pos, nth_map, foldA_len, nth_le, nth_tl, nth_tv, set_tl, set_tv]) | (with_reducible first | refine And.intro (by first | assumption | rfl | omega) ?_ | refine And.intro ?_ ?_))
  all_goals first
    | (rw [u_yes (by simp [unlikeAt, h]), nLs_app]; done)
    | (rw [u_yes (by simp [unlikeAt, h]), List.length_append]; rfl)
    | (rw [u_no (by simp_all [unlikeAt])]; done)
    | skip
  obtain rfl : k = 16 := by omega
  rw [unlikeT, hma, hmb]; rfl
end Go.Proofs.YtoeajbhlkccekaaDoor

namespace Go.Proofs.YtoeajbhlkccekaaDoor
open Go.RowKit
def Tr.Eq16 (t u : Tr) : Prop := ∀ i,i < 16 → t.leaf i = u.leaf i ∧ t.ver i = u.ver i
theorem map_range_inj {α β : Type} {f g : Nat → β} {n : Nat} (h : (List.range n).map f = (List.range n).map g) : ∀ i,i < n → f i = g i := fun i hi=>by
 have := congrArg (fun l=>l[i]?) h
 simpa [List.getElem?_map,List.getElem?_range hi] using this
theorem tA_inj {t u : Tr} (h : tA t = tA u) : t.Eq16 u := by
 unfold tA tC at h
 injection h with h
 obtain ⟨h1,h2⟩ := List.append_inj h (by rw [leC_len,leC_len])
 intro i hi
 exact ⟨lA_inj (map_range_inj (α := Nat) h1 i hi),nA_inj (map_range_inj (α := Nat) h2 i hi)⟩
theorem tA_eq {t u : Tr} (h : t.Eq16 u) : tA t = tA u := by
 unfold tA tC leC veC
 congr 2
 ·exact List.map_congr_left fun i hi=>by rw [(h i (List.mem_range.1 hi)).1]
 ·exact List.map_congr_left fun i hi=>by rw [(h i (List.mem_range.1 hi)).2]
theorem all_range_congr {f g : Nat → Bool} {n : Nat} (h : ∀ i,i < n → f i = g i) : (List.range n).all f = (List.range n).all g := by
 rw [Bool.eq_iff_iff,List.all_eq_true,List.all_eq_true]
 exact ⟨fun q i hi=>by rw [← h i (List.mem_range.1 hi)];exact q i hi,fun q i hi=>by rw [h i (List.mem_range.1 hi)];exact q i hi⟩
theorem mayT_eq {t u : Tr} (h : t.Eq16 u) : mayT t = mayT u := all_range_congr fun i hi=>by rw [(h i hi).1,(h i hi).2]
theorem getT_eq {t u : Tr} (h : t.Eq16 u) (k : Bytes) : getT t k = getT u k := by
 unfold getT
 rw [mayT_eq h]
 cases hk : keyB k with
 |false=>rfl
 |true=>rw [(h _ (bk_lt hk)).1]
theorem chgT_eq {t u : Tr} (h : t.Eq16 u) (b : Nat) (v : Int) (r : List Item × Nat) : tA (chgT t b v r).1 = tA (chgT u b v r).1 ∧ (chgT t b v r).2 = (chgT u b v r).2 := by
 unfold chgT
 split
 ·refine ⟨tA_eq fun i hi=>?_,rfl⟩
  simp only [Tr.setL,Tr.setV]
  rw [(h i hi).1,(h i hi).2]
  exact ⟨rfl,rfl⟩
 ·exact ⟨rfl,rfl⟩
theorem itemB_key {x : Item} (h : itemB x = true) : keyB x.key = true := by
 unfold itemB at h
 simp only [Bool.and_eq_true] at h
 exact h.1.1.1.1
theorem putT_eq {t u : Tr} (h : t.Eq16 u) (x : Item) : tA (putT t x).1 = tA (putT u x).1 ∧ (putT t x).2 = (putT u x).2 := by
 unfold putT
 rw [mayT_eq h]
 split
 ·exact ⟨rfl,rfl⟩
 ·rename_i hx
  have hi : itemB x = true := by
   cases e : itemB x with
   |true=>rfl
   |false=>rw [e] at hx;exact absurd rfl hx
  rw [(h _ (bk_lt (itemB_key hi))).1,(h _ (bk_lt (itemB_key hi))).2]
  split
  ·exact ⟨rfl,rfl⟩
  ·exact chgT_eq h ..
theorem delT_eq {t u : Tr} (h : t.Eq16 u) (k : Bytes) (v : Int) : tA (delT t k v).1 = tA (delT u k v).1 ∧ (delT t k v).2 = (delT u k v).2 := by
 unfold delT
 rw [mayT_eq h,getT_eq h]
 split
 ·exact ⟨rfl,rfl⟩
 ·split
  ·exact ⟨rfl,rfl⟩
  ·rename_i hg
   have hk : keyB k = true := by
    cases e : keyB k with
    |true=>rfl
    |false=>rw [getT,e] at hg;exact absurd rfl hg
   rw [(h _ (bk_lt hk)).1,(h _ (bk_lt hk)).2]
   split
   ·exact ⟨rfl,rfl⟩
   ·exact chgT_eq h ..
theorem sumTo_eq {f g : Nat → Nat} : ∀ {n : Nat},(∀ i,i < n → f i = g i) → sumTo f n = sumTo g n
 |0,_=>rfl
 |n + 1,h=>by
  unfold sumTo
  rw [sumTo_eq fun i hi=>h i (Nat.lt_succ_of_lt hi),h n (Nat.lt_succ_self n)]
theorem countT_eq {t u : Tr} (h : t.Eq16 u) : countT t = countT u := by
 unfold countT
 rw [mayT_eq h,sumTo_eq fun i hi=>by rw [(h i hi).1]]
theorem weightT_eq {t u : Tr} (h : t.Eq16 u) : weightT t = weightT u := by
 unfold weightT
 rw [mayT_eq h,sumTo_eq fun i hi=>by rw [(h i hi).1]]
theorem unlikeT_eq {t u t' u' : Tr} (h : t.Eq16 u) (h' : t'.Eq16 u') : unlikeT t t' = unlikeT u u' := by
 unfold unlikeT
 rw [mayT_eq h,mayT_eq h']
 have : unlikeL t t' 16 = unlikeL u u' 16 := by
  unfold unlikeL
  refine List.filter_congr fun i hi=>?_
  have hi := List.mem_range.1 hi
  unfold unlikeAt
  rw [(h i hi).1,(h i hi).2,(h' i hi).1,(h' i hi).2]
 rw [this]
def Tr.Ok (t : Tr) : Prop := ∀ i,(t.leaf i).length ≤ 1000000 ∧ (∀ x ∈ t.leaf i,x.key.length ≤ maxLen ∧ NumOk x) ∧ weightP (t.leaf i) ≤ 1000000000
theorem Tr.Ok.len {t : Tr} (h : t.Ok) : ∀ i,(t.leaf i).length ≤ 1000000 := fun i=>(h i).1
theorem Tr.Ok.len2 {t : Tr} (h : t.Ok) : ∀ i,(t.leaf i).length ≤ 34359738368 := fun i=>Nat.le_trans (h i).1 (by decide)
noncomputable def trunk_May_t (m : Nat) : List AV → RO := orac (ι := Tr) (fun t=>[tA t]) (fun t=>bA (mayT t)) Tr.Ok
theorem trunk_May_ok (m : Nat) : ∀ args X H',trunk_May_t m args = some (X,H') → ACp Tryd.prog GG 47 args X := orac_ok fun t h=>may_d sigGG t h.len2
theorem trunk_May_e (m : Nat) (t : Tr) (h : t.Ok) : trunk_May_t m [tA t] = some (bA (mayT t),[]) := orac_eq (ι := Tr) (by
 intro t u e
 rw [mayT_eq (tA_inj (List.cons.inj e).1)]) (i := t) h
noncomputable def trunk_Get_t (m : Nat) : List AV → RO := orac (ι := Tr × Bytes) (fun p=>[tA p.1,sA p.2]) (fun p=>TU [iA ((getT p.1 p.2).getD Item.zero),bA (getT p.1 p.2).isSome]) (fun p=>p.1.Ok)
theorem trunk_Get_ok (m : Nat) : ∀ args X H',trunk_Get_t m args = some (X,H') → ACp Tryd.prog GG 46 args X := orac_ok fun p h=>get_d sigGG p.1 p.2 h.len
theorem trunk_Get_e (m : Nat) (t : Tr) (k : Bytes) (h : t.Ok) : trunk_Get_t m [tA t,sA k] = some (TU [iA ((getT t k).getD Item.zero),bA (getT t k).isSome],[]) := orac_eq (ι := Tr × Bytes) (by
 rintro ⟨t,k⟩ ⟨u,k'⟩ e
 dsimp only at e ⊢
 simp only [List.cons.injEq,and_true] at e
 rw [getT_eq (tA_inj e.1),sA_inj e.2]) (i := (t,k)) h
noncomputable def trunk_Put_t (m : Nat) : List AV → RO := orac (ι := Tr × Item) (fun p=>[tA p.1,iA p.2]) (fun p=>TU [tA (putT p.1 p.2).1,nA (putT p.1 p.2).2]) (fun p=>p.1.Ok)
theorem trunk_Put_ok (m : Nat) : ∀ args X H',trunk_Put_t m args = some (X,H') → ACp Tryd.prog GG 62 args X := orac_ok fun p h=>put_d sigGG p.1 p.2 h.len
theorem trunk_Put_e (m : Nat) (t : Tr) (x : Item) (h : t.Ok) : trunk_Put_t m [tA t,iA x] = some (TU [tA (putT t x).1,nA (putT t x).2],[]) := orac_eq (ι := Tr × Item) (by
 rintro ⟨t,k⟩ ⟨u,k'⟩ e
 dsimp only at e ⊢
 simp only [List.cons.injEq,and_true] at e
 rw [iA_inj e.2,(putT_eq (tA_inj e.1) k').1,(putT_eq (tA_inj e.1) k').2]) (i := (t,x)) h
noncomputable def trunk_Delete_t (m : Nat) : List AV → RO := orac (ι := Tr × Bytes × Int) (fun p=>[tA p.1,sA p.2.1,nA p.2.2]) (fun p=>TU [tA (delT p.1 p.2.1 p.2.2).1,nA (delT p.1 p.2.1 p.2.2).2]) (fun p=>p.1.Ok)
theorem trunk_Delete_ok (m : Nat) : ∀ args X H',trunk_Delete_t m args = some (X,H') → ACp Tryd.prog GG 63 args X := orac_ok fun p h=>del_d sigGG p.1 p.2.1 p.2.2 h.len
theorem trunk_Delete_e (m : Nat) (t : Tr) (k : Bytes) (v : Int) (h : t.Ok) : trunk_Delete_t m [tA t,sA k,nA v] = some (TU [tA (delT t k v).1,nA (delT t k v).2],[]) := orac_eq (ι := Tr × Bytes × Int) (by
 rintro ⟨t,k,v⟩ ⟨u,k',v'⟩ e
 dsimp only at e ⊢
 simp only [List.cons.injEq,and_true] at e
 rw [sA_inj e.2.1,nA_inj e.2.2,(delT_eq (tA_inj e.1) k' v').1,(delT_eq (tA_inj e.1) k' v').2]) (i := (t,k,v)) h
noncomputable def trunk_Count_t (m : Nat) : List AV → RO := orac (ι := Tr) (fun t=>[tA t]) (fun t=>nA (countT t)) Tr.Ok
theorem trunk_Count_ok (m : Nat) : ∀ args X H',trunk_Count_t m args = some (X,H') → ACp Tryd.prog GG 40 args X := orac_ok fun t h=>count_d sigGG t h.len
theorem trunk_Count_e (m : Nat) (t : Tr) (h : t.Ok) : trunk_Count_t m [tA t] = some (nA (countT t),[]) := orac_eq (ι := Tr) (by
 intro t u e
 rw [countT_eq (tA_inj (List.cons.inj e).1)]) (i := t) h
noncomputable def trunk_Weight_t (m : Nat) : List AV → RO := orac (ι := Tr) (fun t=>[tA t]) (fun t=>nA (weightT t)) Tr.Ok
theorem trunk_Weight_ok (m : Nat) : ∀ args X H',trunk_Weight_t m args = some (X,H') → ACp Tryd.prog GG 39 args X := orac_ok fun t h=>weight_d sigGG t h.len (fun i=>(h i).2.2) fun i x hx=>((h i).2.1 x hx).2
theorem trunk_Weight_e (m : Nat) (t : Tr) (h : t.Ok) : trunk_Weight_t m [tA t] = some (nA (weightT t),[]) := orac_eq (ι := Tr) (by
 intro t u e
 rw [weightT_eq (tA_inj (List.cons.inj e).1)]) (i := t) h
noncomputable def trunk_Unlike_t (m : Nat) : List AV → RO := orac (ι := Tr × Tr) (fun p=>[tA p.1,tA p.2]) (fun p=>TU [SL (nLs (unlikeT p.1 p.2).1),nA (unlikeT p.1 p.2).2]) (fun p=>p.1.Ok ∧ p.2.Ok)
theorem trunk_Unlike_ok (m : Nat) : ∀ args X H',trunk_Unlike_t m args = some (X,H') → ACp Tryd.prog GG 75 args X := orac_ok fun p h=>unlike_d sigGG p.1 p.2 h.1.len h.2.len
theorem trunk_Unlike_e (m : Nat) (t u : Tr) (h : t.Ok) (h' : u.Ok) : trunk_Unlike_t m [tA t,tA u] = some (TU [SL (nLs (unlikeT t u).1),nA (unlikeT t u).2],[]) := orac_eq (ι := Tr × Tr) (by
 rintro ⟨t,k⟩ ⟨u,k'⟩ e
 dsimp only at e ⊢
 simp only [List.cons.injEq,and_true] at e
 rw [unlikeT_eq (tA_inj e.1) (tA_inj e.2)]) (i := (t,u)) ⟨h,h'⟩
theorem tA_few {t u : Tr} (h : t.Eq16 u) : tA (fewT t 16) = tA (fewT u 16) := tA_eq fun i hi=>by
 simp only [fewT,hi,if_true]
 rw [(h i hi).1,(h i hi).2]
 exact ⟨rfl,rfl⟩
noncomputable def plenumlaw10_Few_t (m : Nat) : List AV → RO := orac (ι := Tr) (fun t=>[tA t]) (fun t=>tA (fewT t 16)) (fun t=>∀ i,(t.leaf i).length ≤ maxLen)
theorem plenumlaw10_Few_ok (m : Nat) : ∀ args X H',plenumlaw10_Few_t m args = some (X,H') → ACp Tryd.prog GG 33 args X := orac_ok fun t h=>few_d t h
theorem plenumlaw10_Few_e (m : Nat) (t : Tr) (h : ∀ i,(t.leaf i).length ≤ maxLen) : plenumlaw10_Few_t m [tA t] = some (tA (fewT t 16),[]) := orac_eq (ι := Tr) (by
 intro t u e
 exact tA_few (tA_inj (List.cons.inj e).1)) (i := t) h
end Go.Proofs.YtoeajbhlkccekaaDoor

namespace Go.Proofs.YtoeajbhlkccekaaDoor
open Go.RowKit
theorem cl_pat (q : Bytes) : ACp Tryd.prog GG 89 [sA q] (bA (patB q)) := by
 refine acp_of_tells (by kernel_rfl) fun w S vs hr hg hlen hv=>?_
 rcases vs with _|⟨v1,_|⟨_,_⟩⟩ <;> simp at hlen
 have e1 := arg_V (hv 0 _ v1 rfl rfl);subst e1
 have hS := sigGG.at hr hg
 refine (keypat_any q w hS).mono ?_
 rintro e w' ⟨rfl,rfl⟩
 exact ⟨_,rfl,Below.refl _ _,rep_V1⟩
noncomputable def key_Pattern_t (m : Nat) : List AV → RO := orac (ι := Bytes) (fun q=>[sA q]) (fun q=>bA (patB q)) (fun q=>True)
theorem key_Pattern_ok (m : Nat) : ∀ args X H',key_Pattern_t m args = some (X,H') → ACp Tryd.prog GG 89 args X := orac_ok (by
 intro q _
 exact cl_pat q)
theorem key_Pattern_e (m : Nat) (q : Bytes) : key_Pattern_t m [sA q] = some (bA (patB q),[]) := orac_eq (ι := Bytes) (by
 intro q1 q2 h
 try dsimp only at h ⊢
 simp only [List.cons.injEq,and_true] at h
 rw [sA_inj h]) (i := q) trivial
theorem cl_value_May (k i : Int) (s : Bytes) : ACp Tryd.prog GG 36 [.agg [nA k,nA i,sA s]] (bA (valB k i s)) := by
 refine acp_of_tells (by kernel_rfl) fun w S vs hr hg hlen hv'=>?_
 rcases vs with _|⟨v1,_|⟨_,_⟩⟩ <;> simp at hlen
 obtain ⟨us,rfl,hx⟩ := hv' 0 _ v1 rfl rfl
 have := reps_plain (us := [.int .i64 k, .int .i64 i, .string ⟨s.toArray⟩]) hx
 subst this
 refine (valmay_any k i s w).mono ?_
 rintro e w' ⟨rfl,hb⟩
 exact ⟨_,rfl,hb,rep_V1⟩
noncomputable def value_May_t (m : Nat) : List AV → RO := orac (ι := Int × Int × Bytes) (fun ⟨k,i,s⟩=>[.agg [nA k,nA i,sA s]]) (fun ⟨k,i,s⟩=>bA (valB k i s)) (fun _=>True)
theorem value_May_ok (m : Nat) : ∀ args X H',value_May_t m args = some (X,H') → ACp Tryd.prog GG 36 args X := orac_ok (by
 rintro ⟨k,i,s⟩ _
 exact cl_value_May k i s)
theorem value_May_e (m : Nat) (k : Int) (i : Int) (s : Bytes) : value_May_t m [.agg [nA k,nA i,sA s]] = some (bA (valB k i s),[]) := orac_eq (ι := Int × Int × Bytes) (by
 rintro ⟨k1,i1,s1⟩ ⟨k2,i2,s2⟩ h
 try dsimp only at h ⊢
 simp only [List.cons.injEq,DataW.agg.injEq,and_true] at h
 obtain ⟨h1,h2,h3⟩ := h
 rw [nA_inj h1,nA_inj h2,sA_inj h3]) (i := (k,i,s)) trivial
end Go.Proofs.YtoeajbhlkccekaaDoor

namespace Go.Proofs.YtoeajbhlkccekaaDoor
open Go.RowKit
def ty_api_Item : TypeId := 58
def ty_api_Trunk : TypeId := 26
def ty_api_Value : TypeId := 43
def zc_api_Item : List AV := [(V (.string ⟨#[]⟩)),(V (.int .i64 0)),(V (.int .i64 0)),(V (.string ⟨#[]⟩)),(V (.int .i64 0))]
def zc_api_Trunk : List AV := [(V (.slice none 0 0)),(V (.slice none 0 0)),(V (.slice none 0 0)),(V (.slice none 0 0)),(V (.slice none 0 0)),(V (.slice none 0 0)),(V (.slice none 0 0)),(V (.slice none 0 0)),(V (.slice none 0 0)),(V (.slice none 0 0)),(V (.slice none 0 0)),(V (.slice none 0 0)),(V (.slice none 0 0)),(V (.slice none 0 0)),(V (.slice none 0 0)),(V (.slice none 0 0)),(V (.int .i64 0)),(V (.int .i64 0)),(V (.int .i64 0)),(V (.int .i64 0)),(V (.int .i64 0)),(V (.int .i64 0)),(V (.int .i64 0)),(V (.int .i64 0)),(V (.int .i64 0)),(V (.int .i64 0)),(V (.int .i64 0)),(V (.int .i64 0)),(V (.int .i64 0)),(V (.int .i64 0)),(V (.int .i64 0)),(V (.int .i64 0))]
def zc_api_Value : List AV := [(V (.int .i64 0)),(V (.int .i64 0)),(V (.string ⟨#[]⟩))]
def pl_api_Item : List (Nat × Nat) := [(0,1),(1,3),(4,1)]
def pl_api_Value : List (Nat × Nat) := [(0,1),(1,1),(2,1)]
noncomputable def plenumref10_Fits_c : Code := (Tryd.f73.body).getD .skip
def plenumref10_Fits_h : Hint := (.two .n (.join [1,2] (.two .n (.one (.lp [] [0,1,2,7] [1,2,6] (.two (.two .n (.two .n .n)) (.two (.one (.two .n (.two (.two .n .n) .n))) .n))))) (.two .n .n)))
noncomputable def plenumref10_Fits_env (m : Nat) : Env := [(25, .tell (plenumref08_Is_t m)),(92, .tell (plenumref09_Is_t m))]
noncomputable abbrev plenumref10_Fits_fin : KO (AV × List AObj) := tellFK Tryd.prog [.tmp 6]
noncomputable def plenumref10_Fits_r1 (m : Nat) (s : ASt) : RO := joinW Tryd.prog GG (plenumref10_Fits_env m) m ⟨52,[]⟩ (cdR (cdR plenumref10_Fits_c)) plenumref10_Fits_h.r.r s (plenumref10_Fits_fin)
noncomputable def plenumref10_Fits_b1 (m : Nat) (s : ASt) (kc : ASt → RO) (kx : KO (AV × List AObj)) : RO := bodyW Tryd.prog GG (plenumref10_Fits_env m) m ⟨52,[]⟩ (cdL (cdL (cdR (cdL (cdR plenumref10_Fits_c))))) plenumref10_Fits_h.r.l.r.c.c [0,1,2,7] [1,2,6] s kc kx
noncomputable def plenumref10_Fits (m : Nat) (t0 t1 t2 : AV) : RO := exec Tryd.prog GG (plenumref10_Fits_env m) m ⟨52,[]⟩ plenumref10_Fits_c plenumref10_Fits_h ⟨[],argsT 0 [t0,t1,t2]⟩ (plenumref10_Fits_fin)
theorem plenumref10_Fits_r1_eq (m : Nat) (H : List AObj) (t1 t2 : AV) : plenumref10_Fits_r1 m ⟨H,[(1,t1),(2,t2)]⟩ =
 tellE (plenumref09_Is_t m [(ro H t1)]) [(ro H t1)] fun t43 =>
 condE t43 (
  binE none false false .leq (V (.int .i64 0)) t2 fun t46 =>
  condE t46 (
  binE none false false .leq t2 (V (.int .i64 2147483647)) fun t50 =>
  tellK H (ro H t50)) (
  tellK H (ro H (V (.bool false))))) (
  tellK H (ro H (V (.bool false)))) := by
 refine (joinW_eq _ _ _ _ _ _ _ _ _).trans ?_
 kernel_rfl
theorem plenumref10_Fits_b1_eq (m : Nat) (H : List AObj) (t0 t1 t2 t7 : AV) (kc : ASt → RO) (kx : KO (AV × List AObj)) : plenumref10_Fits_b1 m ⟨H,[(0,t0),(1,t1),(2,t2),(7,t7)]⟩ kc kx =
 lenE false true H t1 fun t10 =>
 binE none false false .lss t7 t10 fun t11 =>
 condE t11 (
  idxSE 7 H t1 t7 fun t16 =>
  fieldE (some (0,1)) t16 fun t17 =>
  loadE 1 H t17 fun t18 =>
  tellE (plenumref08_Is_t m [(ro H t18)]) [(ro H t18)] fun t19 =>
  unE .not t19 fun t20 =>
  condE t20 (
   kx .ret ⟨H,[(1,t1),(2,t2),(6,(V (.bool false)))]⟩) (
   idxSE 7 H t1 t7 fun t24 =>
   fieldE (some (0,1)) t24 fun t25 =>
   loadE 1 H t25 fun t26 =>
   idxVE true none t26 (V (.int .i64 0)) fun t27 =>
   convE false (some .i64) true false false (ro H t27) fun t28 =>
   binE none false false .rem t28 (V (.int .i64 16)) fun t29 =>
   binE none false false .neq t29 t0 fun t31 =>
   condE t31 (
   kx .ret ⟨H,[(1,t1),(2,t2),(6,(V (.bool false)))]⟩) (
   idxSE 7 H t1 t7 fun t36 =>
   fieldE (some (4,1)) t36 fun t37 =>
   loadE 1 H t37 fun t38 =>
   binE none false false .gtr t38 t2 fun t40 =>
   condE t40 (
   kx .ret ⟨H,[(1,t1),(2,t2),(6,(V (.bool false)))]⟩) (
   binE none false false .add t7 (V (.int .i64 1)) fun t13 =>
   backE H.length H [(0,t0),(1,t1),(2,t2),(7,t13)] kc)))) (
  kx (.exit 0) ⟨H,[(1,t1),(2,t2),(6, .nil)]⟩) := by
 refine (bodyW_eq _ _ _ _ _ _ _ _ _ _ _ _).trans ?_
 kernel_rfl
theorem plenumref10_Fits_eq (m : Nat) (t0 t1 t2 : AV) : plenumref10_Fits m t0 t1 t2 =
 iterC m (plenumref10_Fits_b1 m) ⟨[],[(0,t0),(1,t1),(2,t2),(7,(V (.int .i64 0)))]⟩ (blockX 0 (seqX (fun s=>plenumref10_Fits_r1 m ⟨s.H,[(1,gt s.T 1),(2,gt s.T 2)]⟩) (plenumref10_Fits_fin))) := by
 refine (tellX _ _ _ _ _ _ _ _ _).trans ?_
 kernel_rfl
noncomputable def plenumref10_Fits_t (m : Nat) : List AV → RO|[t0,t1,t2]=>plenumref10_Fits m t0 t1 t2|_=>none
theorem plenumref10_Fits_ok (m : Nat) : ∀ args X H',plenumref10_Fits_t m args = some (X,H') → ACp Tryd.prog GG 73 args X := by
 intro args X H' h
 unfold plenumref10_Fits_t at h
 split at h
 ·exact tell_okK MIX (by
  intro f e h
  simp only [plenumref10_Fits_env,Prod.mk.injEq,List.mem_cons,List.not_mem_nil,or_false] at h
  rcases h with ⟨rfl,rfl⟩|⟨rfl,rfl⟩
  ·exact plenumref08_Is_ok m
  ·exact plenumref09_Is_ok m) (f := 73) (c := plenumref10_Fits_c) Tryd.func73 rfl (by kernel_rfl) _ rfl Tryd.ntmps73 (Nat.le_of_ble_eq_true rfl) plenumref10_Fits_h h
 ·cases h
noncomputable def plenumref10_May_c : Code := (Tryd.f50.body).getD .skip
def plenumref10_May_h : Hint := (.two .n (.join [] (.two .n (.one (.lp [] [1,3] [2] (.two (.two .n (.two .n .n)) (.two (.one (.two .n (.two (.two .n .n) .n))) .n))))) (.two .n .n)))
noncomputable def plenumref10_May_env (m : Nat) : Env := [(73, .tell (plenumref10_Fits_t m))]
noncomputable abbrev plenumref10_May_fin : KO (AV × List AObj) := tellFK Tryd.prog [.tmp 2]
noncomputable def plenumref10_May_r1 (m : Nat) (s : ASt) : RO := joinW Tryd.prog GG (plenumref10_May_env m) m ⟨19,[]⟩ (cdR (cdR plenumref10_May_c)) plenumref10_May_h.r.r s (plenumref10_May_fin)
noncomputable def plenumref10_May_b1 (m : Nat) (s : ASt) (kc : ASt → RO) (kx : KO (AV × List AObj)) : RO := bodyW Tryd.prog GG (plenumref10_May_env m) m ⟨19,[]⟩ (cdL (cdL (cdR (cdL (cdR plenumref10_May_c))))) plenumref10_May_h.r.l.r.c.c [1,3] [2] s kc kx
noncomputable def plenumref10_May (m : Nat) (t0 : AV) : RO := exec Tryd.prog GG (plenumref10_May_env m) m ⟨19,[]⟩ plenumref10_May_c plenumref10_May_h ⟨[],argsT 0 [t0]⟩ (plenumref10_May_fin)
theorem plenumref10_May_b1_eq (m : Nat) (H : List AObj) (t1 t3 : AV) (kc : ASt → RO) (kx : KO (AV × List AObj)) : plenumref10_May_b1 m ⟨H,[(1,t1),(3,t3)]⟩ kc kx =
 binE none false false .lss t3 (V (.int .i64 16)) fun t5 =>
 condE t5 (
  fieldE (some (0,18)) t1 fun t10 =>
  idxPE 16 1 t10 t3 fun t11 =>
  loadE 1 H t11 fun t12 =>
  fieldE (some (16,18)) t1 fun t14 =>
  idxPE 16 1 t14 t3 fun t15 =>
  loadE 1 H t15 fun t16 =>
  tellE (plenumref10_Fits m (ro H t3) (ro H t12) (ro H t16)) [(ro H t3),(ro H t12),(ro H t16)] fun t17 =>
  unE .not t17 fun t18 =>
  condE t18 (
   kx .ret ⟨H,[(2,(V (.bool false)))]⟩) (
   binE none false false .add t3 (V (.int .i64 1)) fun t7 =>
   backE H.length H [(1,t1),(3,t7)] kc)) (
  kx (.exit 0) ⟨H,[(2, .nil)]⟩) := by
 refine (bodyW_eq _ _ _ _ _ _ _ _ _ _ _ _).trans ?_
 kernel_rfl
theorem plenumref10_May_eq (m : Nat) (t0 : AV) : plenumref10_May m t0 =
 boxE ty_api_Trunk [] t0 fun t1 H1 =>
 iterC m (plenumref10_May_b1 m) ⟨H1,[(1,t1),(3,(V (.int .i64 0)))]⟩ (blockX 0 (seqX (fun s=>plenumref10_May_r1 m ⟨s.H,[]⟩) (plenumref10_May_fin))) := by
 refine (tellX _ _ _ _ _ _ _ _ _).trans ?_
 kernel_rfl
noncomputable def plenumref10_May_t (m : Nat) : List AV → RO|[t0]=>plenumref10_May m t0|_=>none
theorem plenumref10_May_ok (m : Nat) : ∀ args X H',plenumref10_May_t m args = some (X,H') → ACp Tryd.prog GG 50 args X := by
 intro args X H' h
 unfold plenumref10_May_t at h
 split at h
 ·exact tell_okK MIX (by
  intro f e h
  simp only [plenumref10_May_env,Prod.mk.injEq,List.mem_cons,List.not_mem_nil,or_false] at h
  obtain ⟨rfl,rfl⟩ := h
  ·exact plenumref10_Fits_ok m) (f := 50) (c := plenumref10_May_c) Tryd.func50 rfl (by kernel_rfl) _ rfl Tryd.ntmps50 (Nat.le_of_ble_eq_true rfl) plenumref10_May_h h
 ·cases h
noncomputable def plenumref10_Get_c : Code := (Tryd.f26.body).getD .skip
def plenumref10_Get_h : Hint := (.two .n (.join [4] (.two .n (.one (.lp [] [1,2,4,6] [4,5] (.two (.two .n (.two .n .n)) (.two (.one (.two .n (.two .n (.two (.two .n .n) .n)))) .n))))) (.two .n .n)))
noncomputable def plenumref10_Get_env (m : Nat) : Env := [(55, .tell (plenumref09_At_t m))]
noncomputable abbrev plenumref10_Get_fin : KO (AV × List AObj) := tellFK Tryd.prog [.cell 4 58, .tmp 5]
noncomputable def plenumref10_Get_r1 (m : Nat) (s : ASt) : RO := joinW Tryd.prog GG (plenumref10_Get_env m) m ⟨28,[]⟩ (cdR (cdR plenumref10_Get_c)) plenumref10_Get_h.r.r s (plenumref10_Get_fin)
noncomputable def plenumref10_Get_b1 (m : Nat) (s : ASt) (kc : ASt → RO) (kx : KO (AV × List AObj)) : RO := bodyW Tryd.prog GG (plenumref10_Get_env m) m ⟨28,[]⟩ (cdL (cdL (cdR (cdL (cdR plenumref10_Get_c))))) plenumref10_Get_h.r.l.r.c.c [1,2,4,6] [4,5] s kc kx
noncomputable def plenumref10_Get (m : Nat) (t0 t1 : AV) : RO := exec Tryd.prog GG (plenumref10_Get_env m) m ⟨28,[]⟩ plenumref10_Get_c plenumref10_Get_h ⟨[],argsT 0 [t0,t1]⟩ (plenumref10_Get_fin)
theorem plenumref10_Get_r1_eq (m : Nat) (H : List AObj) (t4 : AV) : plenumref10_Get_r1 m ⟨H,[(4,t4)]⟩ =
 buildE (some pl_api_Item) (some zc_api_Item) [] fun t27 =>
 storeE 7 H t4 t27 fun H2 =>
 loadE 7 H2 t4 fun t9000 =>
 tellK H2 (ro H2 (TU [noT t9000,noT (V (.bool false))])) := by
 refine (joinW_eq _ _ _ _ _ _ _ _ _).trans ?_
 kernel_rfl
theorem plenumref10_Get_b1_eq (m : Nat) (H : List AObj) (t1 t2 t4 t6 : AV) (kc : ASt → RO) (kx : KO (AV × List AObj)) : plenumref10_Get_b1 m ⟨H,[(1,t1),(2,t2),(4,t4),(6,t6)]⟩ kc kx =
 binE none false false .lss t6 (V (.int .i64 16)) fun t9 =>
 condE t9 (
  fieldE (some (0,18)) t2 fun t13 =>
  idxPE 16 1 t13 t6 fun t14 =>
  loadE 1 H t14 fun t15 =>
  tellE (plenumref09_At_t m [(ro H t15),(ro H t1)]) [(ro H t15),(ro H t1)] fun t17 =>
  binE none false false .geq t17 (V (.int .i64 0)) fun t19 =>
  condE t19 (
   fieldE (some (0,18)) t2 fun t21 =>
   idxPE 16 1 t21 t6 fun t22 =>
   loadE 1 H t22 fun t23 =>
   idxSE 7 H t23 t17 fun t25 =>
   loadE 7 H t25 fun t26 =>
   storeE 7 H t4 t26 fun H2 =>
   kx .ret ⟨H2,[(4,t4),(5,(V (.bool true)))]⟩) (
   binE none false false .add t6 (V (.int .i64 1)) fun t11 =>
   backE H.length H [(1,t1),(2,t2),(4,t4),(6,t11)] kc)) (
  kx (.exit 0) ⟨H,[(4,t4),(5, .nil)]⟩) := by
 refine (bodyW_eq _ _ _ _ _ _ _ _ _ _ _ _).trans ?_
 kernel_rfl
theorem plenumref10_Get_eq (m : Nat) (t0 t1 : AV) : plenumref10_Get m t0 t1 =
 boxE ty_api_Trunk [] t0 fun t2 H1 =>
 allocE (some zc_api_Item) ty_api_Item H1 fun t4 H2 =>
 iterC m (plenumref10_Get_b1 m) ⟨H2,[(1,t1),(2,t2),(4,t4),(6,(V (.int .i64 0)))]⟩ (blockX 0 (seqX (fun s=>plenumref10_Get_r1 m ⟨s.H,[(4,gt s.T 4)]⟩) (plenumref10_Get_fin))) := by
 refine (tellX _ _ _ _ _ _ _ _ _).trans ?_
 kernel_rfl
noncomputable def plenumref10_Get_t (m : Nat) : List AV → RO|[t0,t1]=>plenumref10_Get m t0 t1|_=>none
theorem plenumref10_Get_ok (m : Nat) : ∀ args X H',plenumref10_Get_t m args = some (X,H') → ACp Tryd.prog GG 26 args X := by
 intro args X H' h
 unfold plenumref10_Get_t at h
 split at h
 ·exact tell_okK MIX (by
  intro f e h
  simp only [plenumref10_Get_env,Prod.mk.injEq,List.mem_cons,List.not_mem_nil,or_false] at h
  obtain ⟨rfl,rfl⟩ := h
  ·exact plenumref09_At_ok m) (f := 26) (c := plenumref10_Get_c) Tryd.func26 rfl (by kernel_rfl) _ rfl Tryd.ntmps26 (Nat.le_of_ble_eq_true rfl) plenumref10_Get_h h
 ·cases h
noncomputable def plenumref10_All_c : Code := (Tryd.f31.body).getD .skip
def plenumref10_All_h : Hint := (.two .n (.two .n (.join [3] (.two .n (.one (.lp [(3,ty_api_Item,5)] [1,3,4] [3] (.two (.two .n (.two .n .n)) (.two (.one .n) .n))))) (.two .n .n))))
noncomputable def plenumref10_All_env (m : Nat) : Env := []
noncomputable abbrev plenumref10_All_fin : KO (AV × List AObj) := tellFK Tryd.prog [.tmp 2]
noncomputable def plenumref10_All_r1 (m : Nat) (s : ASt) : RO := joinW Tryd.prog GG (plenumref10_All_env m) m ⟨16,[]⟩ (cdR (cdR (cdR plenumref10_All_c))) plenumref10_All_h.r.r.r s (plenumref10_All_fin)
noncomputable def plenumref10_All_b1 (m : Nat) (s : ASt) (kc : ASt → RO) (kx : KO (AV × List AObj)) : RO := bodyW Tryd.prog GG (plenumref10_All_env m) m ⟨16,[]⟩ (cdL (cdL (cdR (cdL (cdR (cdR plenumref10_All_c)))))) plenumref10_All_h.r.r.l.r.c.c [1,3,4] [3] s kc kx
noncomputable def plenumref10_All (m : Nat) (t0 : AV) : RO := exec Tryd.prog GG (plenumref10_All_env m) m ⟨16,[]⟩ plenumref10_All_c plenumref10_All_h ⟨[],argsT 0 [t0]⟩ (plenumref10_All_fin)
theorem plenumref10_All_r1_eq (m : Nat) (H : List AObj) (t3 : AV) : plenumref10_All_r1 m ⟨H,[(3,t3)]⟩ =
 tellK H (ro H t3) := by
 refine (joinW_eq _ _ _ _ _ _ _ _ _).trans ?_
 kernel_rfl
theorem plenumref10_All_b1_eq (m : Nat) (H : List AObj) (t1 t3 t4 : AV) (kc : ASt → RO) (kx : KO (AV × List AObj)) : plenumref10_All_b1 m ⟨H,[(1,t1),(3,t3),(4,t4)]⟩ kc kx =
 binE none false false .lss t4 (V (.int .i64 16)) fun t6 =>
 condE t6 (
  fieldE (some (0,18)) t1 fun t11 =>
  idxPE 16 1 t11 t4 fun t12 =>
  loadE 1 H t12 fun t13 =>
  appE (some (ty_api_Item,5)) H t3 t13 fun t14 H2 =>
  binE none false false .add t4 (V (.int .i64 1)) fun t8 =>
  backE H.length H2 [(1,t1),(3,t14),(4,t8)] kc) (
  kx (.exit 0) ⟨H,[(3,t3)]⟩) := by
 refine (bodyW_eq _ _ _ _ _ _ _ _ _ _ _ _).trans ?_
 kernel_rfl
theorem plenumref10_All_eq (m : Nat) (t0 : AV) : plenumref10_All m t0 =
 boxE ty_api_Trunk [] t0 fun t1 H1 =>
 rowE (V (.slice none 0 0)) ty_api_Item 5 H1 fun t3 H2 =>
 iterC m (plenumref10_All_b1 m) ⟨H2,[(1,t1),(3,t3),(4,(V (.int .i64 0)))]⟩ (blockX 0 (seqX (fun s=>plenumref10_All_r1 m ⟨s.H,[(3,gt s.T 3)]⟩) (plenumref10_All_fin))) := by
 refine (tellX _ _ _ _ _ _ _ _ _).trans ?_
 kernel_rfl
noncomputable def plenumref10_All_t (m : Nat) : List AV → RO|[t0]=>plenumref10_All m t0|_=>none
theorem plenumref10_All_ok (m : Nat) : ∀ args X H',plenumref10_All_t m args = some (X,H') → ACp Tryd.prog GG 31 args X := by
 intro args X H' h
 unfold plenumref10_All_t at h
 split at h
 ·exact tell_okK MIX (by intro f e h;cases h) (f := 31) (c := plenumref10_All_c) Tryd.func31 rfl (by kernel_rfl) _ rfl Tryd.ntmps31 (Nat.le_of_ble_eq_true rfl) plenumref10_All_h h
 ·cases h
noncomputable def plenumref10_Same_c : Code := (Tryd.f44.body).getD .skip
def plenumref10_Same_h : Hint := (.two .n (.join [] (.two .n (.one (.lp [] [2,3,5] [4] (.two (.two .n (.two .n .n)) (.two (.one (.two .n (.two (.two .n .n) .n))) .n))))) (.two .n .n)))
noncomputable def plenumref10_Same_env (m : Nat) : Env := [(22, .tell (plenumref09_Same_t m))]
noncomputable abbrev plenumref10_Same_fin : KO (AV × List AObj) := tellFK Tryd.prog [.tmp 4]
noncomputable def plenumref10_Same_r1 (m : Nat) (s : ASt) : RO := joinW Tryd.prog GG (plenumref10_Same_env m) m ⟨31,[]⟩ (cdR (cdR plenumref10_Same_c)) plenumref10_Same_h.r.r s (plenumref10_Same_fin)
noncomputable def plenumref10_Same_b1 (m : Nat) (s : ASt) (kc : ASt → RO) (kx : KO (AV × List AObj)) : RO := bodyW Tryd.prog GG (plenumref10_Same_env m) m ⟨31,[]⟩ (cdL (cdL (cdR (cdL (cdR plenumref10_Same_c))))) plenumref10_Same_h.r.l.r.c.c [2,3,5] [4] s kc kx
noncomputable def plenumref10_Same (m : Nat) (t0 t1 : AV) : RO := exec Tryd.prog GG (plenumref10_Same_env m) m ⟨31,[]⟩ plenumref10_Same_c plenumref10_Same_h ⟨[],argsT 0 [t0,t1]⟩ (plenumref10_Same_fin)
theorem plenumref10_Same_b1_eq (m : Nat) (H : List AObj) (t2 t3 t5 : AV) (kc : ASt → RO) (kx : KO (AV × List AObj)) : plenumref10_Same_b1 m ⟨H,[(2,t2),(3,t3),(5,t5)]⟩ kc kx =
 binE none false false .lss t5 (V (.int .i64 16)) fun t7 =>
 condE t7 (
  fieldE (some (16,18)) t2 fun t11 =>
  idxPE 16 1 t11 t5 fun t12 =>
  loadE 1 H t12 fun t13 =>
  fieldE (some (16,18)) t3 fun t15 =>
  idxPE 16 1 t15 t5 fun t16 =>
  loadE 1 H t16 fun t17 =>
  binE none false false .neq t13 t17 fun t18 =>
  condE t18 (
   kx .ret ⟨H,[(4,(V (.bool false)))]⟩) (
   fieldE (some (0,18)) t2 fun t21 =>
   idxPE 16 1 t21 t5 fun t22 =>
   loadE 1 H t22 fun t23 =>
   fieldE (some (0,18)) t3 fun t25 =>
   idxPE 16 1 t25 t5 fun t26 =>
   loadE 1 H t26 fun t27 =>
   tellE (plenumref09_Same_t m [(ro H t23),(ro H t27)]) [(ro H t23),(ro H t27)] fun t28 =>
   unE .not t28 fun t29 =>
   condE t29 (
   kx .ret ⟨H,[(4,(V (.bool false)))]⟩) (
   binE none false false .add t5 (V (.int .i64 1)) fun t9 =>
   backE H.length H [(2,t2),(3,t3),(5,t9)] kc))) (
  kx (.exit 0) ⟨H,[(4, .nil)]⟩) := by
 refine (bodyW_eq _ _ _ _ _ _ _ _ _ _ _ _).trans ?_
 kernel_rfl
theorem plenumref10_Same_eq (m : Nat) (t0 t1 : AV) : plenumref10_Same m t0 t1 =
 boxE ty_api_Trunk [] t0 fun t2 H1 =>
 boxE ty_api_Trunk H1 t1 fun t3 H2 =>
 iterC m (plenumref10_Same_b1 m) ⟨H2,[(2,t2),(3,t3),(5,(V (.int .i64 0)))]⟩ (blockX 0 (seqX (fun s=>plenumref10_Same_r1 m ⟨s.H,[]⟩) (plenumref10_Same_fin))) := by
 refine (tellX _ _ _ _ _ _ _ _ _).trans ?_
 kernel_rfl
noncomputable def plenumref10_Same_t (m : Nat) : List AV → RO|[t0,t1]=>plenumref10_Same m t0 t1|_=>none
theorem plenumref10_Same_ok (m : Nat) : ∀ args X H',plenumref10_Same_t m args = some (X,H') → ACp Tryd.prog GG 44 args X := by
 intro args X H' h
 unfold plenumref10_Same_t at h
 split at h
 ·exact tell_okK MIX (by
  intro f e h
  simp only [plenumref10_Same_env,Prod.mk.injEq,List.mem_cons,List.not_mem_nil,or_false] at h
  obtain ⟨rfl,rfl⟩ := h
  ·exact plenumref09_Same_ok m) (f := 44) (c := plenumref10_Same_c) Tryd.func44 rfl (by kernel_rfl) _ rfl Tryd.ntmps44 (Nat.le_of_ble_eq_true rfl) plenumref10_Same_h h
 ·cases h
noncomputable def plenumref07_Int_c : Code := (Tryd.f45.body).getD .skip
def plenumref07_Int_h : Hint := (.two .n (.two .n .n))
noncomputable def plenumref07_Int_env (m : Nat) : Env := []
noncomputable abbrev plenumref07_Int_fin : KO (AV × List AObj) := tellFK Tryd.prog [.cell 2 43]
noncomputable def plenumref07_Int (m : Nat) (t0 : AV) : RO := exec Tryd.prog GG (plenumref07_Int_env m) m ⟨5,[]⟩ plenumref07_Int_c plenumref07_Int_h ⟨[],argsT 0 [t0]⟩ (plenumref07_Int_fin)
theorem plenumref07_Int_eq (m : Nat) (t0 : AV) : plenumref07_Int m t0 =
 allocE (some zc_api_Value) ty_api_Value [] fun t2 H1 =>
 buildE (some pl_api_Value) (some zc_api_Value) [(0,(V (.int .i64 2))),(1,t0)] fun t4 =>
 storeE 5 H1 t2 t4 fun H2 =>
 loadE 5 H2 t2 fun t9000 =>
 tellK H2 (ro H2 t9000) := by
 refine (tellX _ _ _ _ _ _ _ _ _).trans ?_
 kernel_rfl
noncomputable def plenumref07_Int_t (m : Nat) : List AV → RO|[t0]=>plenumref07_Int m t0|_=>none
theorem plenumref07_Int_ok (m : Nat) : ∀ args X H',plenumref07_Int_t m args = some (X,H') → ACp Tryd.prog GG 45 args X := by
 intro args X H' h
 unfold plenumref07_Int_t at h
 split at h
 ·exact tell_okK MIX (by intro f e h;cases h) (f := 45) (c := plenumref07_Int_c) Tryd.func45 rfl (by kernel_rfl) _ rfl Tryd.ntmps45 (Nat.le_of_ble_eq_true rfl) plenumref07_Int_h h
 ·cases h
end Go.Proofs.YtoeajbhlkccekaaDoor

namespace Go.Proofs.YtoeajbhlkccekaaDoor
attribute [go_sem] Nat.zero_add Nat.add_zero Nat.mul_one Int.toNat_natCast Int.natCast_zero Int.cast_ofNat_Int or_false false_or or_true true_or Nat.sub_zero Int.natCast_nonneg Int.toNat_zero Bool.true_and Bool.and_true Bool.false_and Bool.and_false Bool.true_or Bool.or_true Bool.false_or Bool.or_false Bool.not_true Bool.not_false Bool.not_not true_and and_true false_and and_false not_true_eq_false not_false_eq_true eq_self decide_true decide_false ne_eq implies_true forall_const true_implies false_implies Bool.true_eq_false Bool.false_eq_true List.map_cons List.map_nil List.all_cons List.all_nil List.length_cons List.length_nil List.length_map List.length_append List.nil_append List.cons_append List.set_cons_zero List.set_cons_succ List.set_nil List.drop_zero List.drop_succ_cons List.drop_nil List.take_zero List.take_succ_cons List.take_nil Option.map_some Option.map_none Option.isSome_some List.all_append List.all_map Function.comp_def decide_eq_true_eq Bool.and_eq_true beq_self_eq_true or_self and_self ite_true ite_false Nat.le_refl Bool.not_eq_true decide_not Bool.not_eq_true' decide_eq_false_iff_not Bool.not_eq_false Bool.or_eq_true if_true if_false ite_self u_roF u_cvF u_cvC u_ceT u_ceK u_appS
attribute [go_sem_proc] Nat.reduceAdd Nat.reduceSub Nat.reduceMul Nat.reduceLeDiff Nat.reduceLT Int.reduceEq Int.reduceNe Int.reduceLT Int.reduceLE Int.reduceAdd Int.reduceSub Int.reduceMul Int.reduceNeg Int.reduceToNat reduceCtorEq Nat.reduceEqDiff Nat.reduceBEq Nat.reduceGT
attribute [go_sem_proc ↓] reduceIte
end Go.Proofs.YtoeajbhlkccekaaDoor

namespace Go.Proofs.YtoeajbhlkccekaaDoor
open Go.RowKit
theorem key_uniq {l : List Item} (h : SortedK l) {y z : Item} (hy : y ∈ l) (hz : z ∈ l) (e : y.key = z.key) : y = z := by
 obtain ⟨i,hi,rfl⟩ := List.mem_iff_getElem.1 hy
 obtain ⟨j,hj,rfl⟩ := List.mem_iff_getElem.1 hz
 rcases Nat.lt_trichotomy i j with h1|h1|h1
 ·have := sorted_lt h h1 hj;rw [e,less_irrefl] at this;cases this
 ·subst h1;rfl
 ·have := sorted_lt h h1 hi;rw [e,less_irrefl] at this;cases this
theorem getK_mem {l : List Item} (hlf : leafB l = true) (k : Bytes) (y : Item) : getK l k = some y ↔ y ∈ l ∧ y.key = k := by
 have hs := ((leafB_iff l).1 hlf).2.2
 constructor
 ·intro h
  cases ht : thereK l k with
  |false=>rw [getK_none ht] at h;cases h
  |true =>
   rw [getK_some hlf ht] at h
   obtain rfl := Option.some.inj h
   rw [there_at (there_lt ht)] at ht
   exact ⟨List.getElem_mem _,by simpa using ht⟩
 ·rintro ⟨hy,rfl⟩
  have ht : thereK l y.key = true := by
   cases ht : thereK l y.key with
   |true=>rfl
   |false =>
    have := atK_sorted hs y.key
    rw [ht,if_neg (by simp)] at this
    unfold atK at this
    rw [List.findIdx?_eq_none_iff] at this
    have := this y hy
    simp at this
  rw [getK_some hlf ht]
  congr 1
  refine key_uniq hs (List.getElem_mem _) hy ?_
  have h2 := ht
  rw [there_at (there_lt ht)] at h2
  simpa using h2
theorem mem_withK {l : List Item} {x y : Item} : y ∈ withK l x ↔ (y ∈ l ∧ less y.key x.key = true) ∨ y = x ∨ (y ∈ l ∧ less x.key y.key = true) := by
 simp [withK]
theorem withK_len {l : List Item} (h : SortedK l) (x : Item) : (withK l x).length = if thereK l x.key then l.length else l.length + 1 := by
 rw [withK_sorted h]
 have := posK_le l x.key
 cases ht : thereK l x.key with
 |false=>simp;omega
 |true=>have := there_lt ht;simp;omega
theorem withoutK_len {l : List Item} (h : SortedK l) (k : Bytes) (ht : thereK l k = true) : (withoutK l k).length + 1 = l.length := by
 rw [withoutK_sorted h k ht]
 have := there_lt ht
 simp;omega
theorem withK_leaf {l : List Item} {x : Item} (hlf : leafB l = true) (hx : itemB x = true) (hl : (withK l x).length ≤ 64) : leafB (withK l x) = true := by
 obtain ⟨_,hit,hs⟩ := (leafB_iff l).1 hlf
 refine (leafB_iff _).2 ⟨hl,?_,?_⟩
 ·intro y hy
  rcases mem_withK.1 hy with ⟨h,_⟩|rfl|⟨h,_⟩
  ·exact hit y h
  ·exact hx
  ·exact hit y h
 ·unfold SortedK withK
  rw [List.pairwise_append,List.pairwise_append]
  refine ⟨⟨List.Pairwise.filter _ hs,List.pairwise_singleton _ _,?_⟩,List.Pairwise.filter _ hs,?_⟩
  ·intro a ha b hb
   simp at ha hb
   subst hb;exact ha.2
  ·intro a ha b hb
   simp at ha hb
   rcases ha with ha|rfl
   ·exact less_trans _ _ _ ha.2 hb.2
   ·exact hb.2
theorem withoutK_leaf {l : List Item} (k : Bytes) (hlf : leafB l = true) : leafB (withoutK l k) = true := by
 obtain ⟨hl,hit,hs⟩ := (leafB_iff l).1 hlf
 refine (leafB_iff _).2 ⟨Nat.le_trans (List.length_filter_le _ _) hl,fun x hx=>hit x (List.mem_filter.1 hx).1,List.Pairwise.filter _ hs⟩
theorem get_ext {l r : List Item} {k : Bytes} (hl : leafB l = true) (hr : leafB r = true) (h : ∀ y,y.key = k → (y ∈ l ↔ y ∈ r)) : getK l k = getK r k := by
 apply Option.ext
 intro y
 rw [getK_mem hl,getK_mem hr]
 constructor
 ·rintro ⟨h1,h2⟩;exact ⟨(h y h2).1 h1,h2⟩
 ·rintro ⟨h1,h2⟩;exact ⟨(h y h2).2 h1,h2⟩
theorem put_kept {l : List Item} {x : Item} (h : (putK l x).2 = 0) : (putK l x).1 = withK l x ∧ leafB l = true ∧ itemB x = true ∧ leafB (withK l x) = true ∧ (withK l x).length ≤ 64 ∧ getK (withK l x) x.key = some x ∧ ∀ k,k ≠ x.key → getK (withK l x) k = getK l k := by
 unfold putK at h ⊢
 cases hlf : leafB l with
 |false=>rw [hlf] at h;simp at h
 |true =>
  cases hx : itemB x with
  |false=>rw [hlf,hx] at h;simp at h
  |true =>
   rw [hlf,hx] at h
   have hl64 := ((leafB_iff l).1 hlf).1
   have hs := ((leafB_iff l).1 hlf).2.2
   cases hc : (!thereK l x.key && l.length == 64) with
   |true=>rw [hc] at h;simp at h
   |false =>
    have hlen : (withK l x).length ≤ 64 := by
     rw [withK_len hs]
     cases ht : thereK l x.key with
     |true=>simpa using hl64
     |false=>rw [ht] at hc;simp at hc;simp;omega
    have hwl := withK_leaf hlf hx hlen
    refine ⟨by simp,rfl,rfl,hwl,hlen,(getK_mem hwl _ _).2 ⟨mem_withK.2 (.inr (.inl rfl)),rfl⟩,fun k hk=>get_ext hwl hlf fun y hy=>?_⟩
    rw [mem_withK]
    constructor
    ·rintro (⟨h,_⟩|rfl|⟨h,_⟩)
     ·exact h
     ·exact absurd hy.symm hk
     ·exact h
    ·intro hyl
     cases h1 : less y.key x.key with
     |true=>exact .inl ⟨hyl,rfl⟩
     |false =>
      cases h2 : less x.key y.key with
      |true=>exact .inr (.inr ⟨hyl,rfl⟩)
      |false=>exact absurd ((less_tri _ _ h1 h2).symm.trans hy) (fun h=>hk h.symm)
theorem del_kept {l : List Item} {q : Bytes} (h : (delK l q).2 = 0) : (delK l q).1 = withoutK l q ∧ leafB l = true ∧ leafB (withoutK l q) = true ∧ (withoutK l q).length + 1 = l.length ∧ getK (withoutK l q) q = none ∧ ∀ k,k ≠ q → getK (withoutK l q) k = getK l k := by
 unfold delK at h ⊢
 cases hlf : leafB l with
 |false=>rw [hlf] at h;simp at h
 |true =>
  rw [hlf] at h
  have hs := ((leafB_iff l).1 hlf).2.2
  cases ht : thereK l q with
  |false=>rw [ht] at h;simp at h
  |true =>
   have hwl := withoutK_leaf q hlf
   refine ⟨by simp,rfl,hwl,withoutK_len hs q ht,?_,fun k hk=>get_ext hwl hlf fun y hy=>?_⟩
   ·cases hg : getK (withoutK l q) q with
    |none=>rfl
    |some y =>
     obtain ⟨h1,h2⟩ := (getK_mem hwl _ _).1 hg
     have := (List.mem_filter.1 h1).2
     simp [h2] at this
   ·unfold withoutK
    rw [List.mem_filter]
    constructor
    ·exact fun h=>h.1
    ·intro h1;refine ⟨h1,?_⟩;rw [hy];simpa using hk
end Go.Proofs.YtoeajbhlkccekaaDoor

namespace Go.Proofs.YtoeajbhlkccekaaDoor
open Go.RowKit
def rfitB (b ver : Int) (x : Item) : Bool := keyB x.key && fitB b ver x
theorem fits_r (b : Int) (l : List Item) (ver : Int) : fitsB b l ver = (l.all (rfitB b ver) && leafB l && decide (0 ≤ ver) && decide (ver ≤ 2147483647)) := by
 cases hl : leafB l with
 |false=>simp [fitsB,hl]
 |true =>
  have hk : ∀ x ∈ l,keyB x.key = true := fun x hx=>item_key (((leafB_iff l).1 hl).2.1 x hx)
  have : l.all (rfitB b ver) = l.all (fitB b ver) := by
   rw [Bool.eq_iff_iff]
   simp only [List.all_eq_true,rfitB,Bool.and_eq_true]
   exact ⟨fun h x hx=>(h x hx).2,fun h x hx=>⟨hk x hx,h x hx⟩⟩
  rw [fitsB,hl,this]
  cases l.all (fitB b ver) <;> simp
theorem fits_rno {b : Int} {l : List Item} {ver : Int} {k : Nat} {h : k < l.length} (h1 : rfitB b ver l[k] = false) : fitsB b l ver = false := by
 have : l.all (rfitB b ver) = false := List.all_eq_false.2 ⟨l[k],List.getElem_mem h,by simp [h1]⟩
 simp [fits_r,this]
theorem bucketK_yes {k : Bytes} (h : keyB k = true) : bucketK k = ((k.getD 0 0).toNat : Int) % 16 := by rw [bucketK,h];try rfl
theorem natInt (k : Nat) : ((k : Int)).toNat = k := Int.toNat_natCast k
section
variable {R : Type} {t : Tr} {i : Nat} {K1 : AV → Option R}
theorem u_tl (h : i < 16) : nthE (tC t) i K1 = K1 (lA (t.leaf i)) := by
 unfold nthE tC
 rw [List.getElem?_append_left (by rw [leC_len];exact h)]
 simp [leC,List.getElem?_map,List.getElem?_range h]
theorem u_tv (h : 16 ≤ i) (h2 : i < 32) : nthE (tC t) i K1 = K1 (nA (t.ver (i - 16))) := by
 unfold nthE tC
 rw [List.getElem?_append_right (by rw [leC_len];exact h),leC_len]
 simp [veC,List.getElem?_map,List.getElem?_range (show i - 16 < 16 by omega)]
end
theorem rfits_s (m : Nat) (b : Int) (l : List Item) (ver : Int) (hm : l.length < m) (hl : l.length ≤ 1000000) (hq : ∀ x ∈ l,x.key.length ≤ maxLen) : plenumref10_Fits m (nA b) (lA l) (nA ver) = some (bA (fitsB b l ver),[]) := by
 have hl' : l.length ≤ 34359738368 := by omega
 rw [plenumref10_Fits_eq]
 refine iter_ind (ι := {k : Nat // k ≤ l.length ∧ (l.take k).all (rfitB b ver) = true}) (fun k=>⟨[],[(0,nA b),(1,lA l),(2,nA ver),(7,nA k.1)]⟩) (fun k=>l.length - k.1) (fun _=>some (bA (fitsB b l ver),[])) ?_ ⟨0,Nat.zero_le _,rfl⟩ (by dsimp only;omega)
 rintro ⟨k,hk,hall⟩ kc hkc
 dsimp only at hkc ⊢
 rw [plenumref10_Fits_b1_eq]
 by_cases hlt : k < l.length
 ·have hlt' : (k : Int) < (l.length : Int) := by omega
  have hmem := List.getElem_mem hlt
  have step : kc ⟨[],[(0,nA b),(1,lA l),(2,nA ver),(7,nA ((k : Int) + 1))]⟩ = some (bA (fitsB b l ver),[]) ∨ rfitB b ver l[k] = false := by
   cases hr : rfitB b ver l[k] with
   |false=>exact .inr rfl
   |true=>exact .inl (hkc ⟨k + 1,by omega,by rw [List.take_succ_eq_append_getElem hlt,List.all_append,hall];simp [hr]⟩ (by dsimp only;omega))
  rw [lA_def] at step
  simp (config := {maxSteps := 4000000,implicitDefEqProofs := false}) (disch := omega) only [go_sem,lA_def,natInt,u_nthM,fl_it,hlt',plenumref08_Is_e m _ (hq _ hmem),w_i64]
  cases hky : keyB l[k].key with
  |false =>
   simp (config := {maxSteps := 4000000,implicitDefEqProofs := false}) only [go_sem,]
   rw [fits_rno (k := k) (h := hlt) (by rw [rfitB,hky];rfl)];try rfl
  |true =>
   have hp : (0 : Int) < (l[k].key.length : Int) := by have := key_pos hky;omega
   have hb : (l[k].key.getD 0 0).toNat < 256 := UInt8.toNat_lt _
   simp (config := {maxSteps := 4000000,implicitDefEqProofs := false}) (disch := omega) only [go_sem,hp,w_i64,Int.tmod_eq_emod_of_nonneg]
   split
   ·rename_i h
    rw [fits_rno (k := k) (h := hlt) (by rw [rfitB,hky,fitB,bucketK_yes hky];simp only [List.getD_eq_getElem?_getD] at h ⊢;simp [h])];try rfl
   ·rename_i h
    split
    ·rename_i h2
     rw [fits_rno (k := k) (h := hlt) (by rw [rfitB,fitB];simp [h2])];try rfl
    ·rename_i h2
     rcases step with step|step
     ·exact step
     ·exfalso
      rw [rfitB,hky,fitB,bucketK_yes hky] at step
      simp only [Bool.true_and,Bool.and_eq_false_iff,decide_eq_false_iff_not] at step
      rcases step with q|q
      ·exact h (by omega)
      ·omega
 ·have hlt' : ¬ (k : Int) < (l.length : Int) := by omega
  simp (config := {maxSteps := 4000000,implicitDefEqProofs := false}) (disch := omega) only [go_sem,lA_def,hlt']
  have hall : l.all (rfitB b ver) = true := by rwa [List.take_of_length_le (by omega)] at hall
  show plenumref10_Fits_r1 m _ = _
  rw [plenumref10_Fits_r1_eq]
  rw [fits_r,hall]
  have hI := plenumref09_Is_e m l ⟨hl',hq⟩
  rw [lA_def] at hI
  simp (config := {maxSteps := 4000000,implicitDefEqProofs := false}) (disch := omega) only [go_sem,hI]
  cases leafB l <;> by_cases h0 : 0 ≤ ver <;> simp [h0]
theorem Tr.Ok.key {t : Tr} (h : t.Ok) (i : Nat) : ∀ x ∈ t.leaf i,x.key.length ≤ maxLen := fun x hx=>((h i).2.1 x hx).1
theorem rmay10_s (m : Nat) (t : Tr) (hm : 1000000 < m) (h : t.Ok) : plenumref10_May m (tA t) = some (bA (mayT t),[]) := by
 rw [plenumref10_May_eq]
 simp (config := {maxSteps := 4000000,implicitDefEqProofs := false}) (disch := omega) only [go_sem,tA_def,tC_sure]
 refine iter_ind (ι := {k : Nat // k ≤ 16 ∧ (List.range k).all (fun i=>fitsB i (t.leaf i) (t.ver i)) = true}) (fun k=>⟨[⟨1,ty_api_Trunk,0,tC t⟩],[(1,OP 0 0),(3,nA k.1)]⟩) (fun k=>16 - k.1) (fun _=>some (bA (mayT t),[])) ?_ ⟨0,Nat.zero_le _,rfl⟩ (by dsimp only;omega)
 rintro ⟨k,hk,hall⟩ kc hkc
 dsimp only at hkc ⊢
 rw [plenumref10_May_b1_eq]
 by_cases hlt : k < 16
 ·have hlt' : (k : Int) < 16 := by omega
  have hf := rfits_s m k (t.leaf k) (t.ver k) (by have := h.len k;omega) (h.len k) (h.key k)
  have hs : kc ⟨[⟨1,ty_api_Trunk,0,tC t⟩],[(1,OP 0 0),(3,nA ((k : Int) + 1))]⟩ = some (bA (mayT t),[]) ∨ fitsB k (t.leaf k) (t.ver k) = false := by
   cases hr : fitsB k (t.leaf k) (t.ver k) with
   |false=>exact .inr rfl
   |true=>exact .inl (hkc ⟨k + 1,by omega,by rw [List.range_succ,List.all_append,hall];simp [hr]⟩ (by dsimp only;omega))
  rw [lA_def] at hf
  simp (config := {maxSteps := 4000000,implicitDefEqProofs := false}) (disch := omega) only [go_sem,hlt',natInt,u_tl,u_tv,add16,w_i64,hf,lA_def]
  cases hr : fitsB k (t.leaf k) (t.ver k) with
  |false =>
   simp (config := {maxSteps := 4000000,implicitDefEqProofs := false}) only [go_sem,hr]
   rw [show mayT t = false from List.all_eq_false.2 ⟨k,List.mem_range.2 hlt,by simp [hr]⟩];try rfl
  |true =>
   rw [hr] at hs
   simp (config := {maxSteps := 4000000,implicitDefEqProofs := false}) only [go_sem,hr,tC_ltA]
   rcases hs with hs|hs
   ·exact hs
   ·cases hs
 ·have hlt' : ¬ (k : Int) < 16 := by omega
  simp (config := {maxSteps := 4000000,implicitDefEqProofs := false}) (disch := omega) only [go_sem,hlt']
  have : k = 16 := by omega
  subst this
  show some (bA true,[]) = some (bA (mayT t),[])
  rw [show mayT t = true from hall]
theorem fits_key {t : Tr} (h : mayT t = true) {b : Nat} (hb : b < 16) {y : Item} (hy : y ∈ t.leaf b) : itemB y = true ∧ bucketK y.key = b ∧ y.ver ≤ t.ver b := by
 have h1 := List.all_eq_true.1 h b (List.mem_range.2 hb)
 rw [fits_r] at h1
 simp only [Bool.and_eq_true] at h1
 have h2 := List.all_eq_true.1 h1.1.1.1 y hy
 have h3 := ((leafB_iff _).1 h1.1.1.2).2.1 y hy
 simp only [rfitB,fitB,Bool.and_eq_true,decide_eq_true_eq] at h2
 exact ⟨h3,h2.2.1,h2.2.2⟩
theorem fits_leaf {t : Tr} (h : mayT t = true) {b : Nat} (hb : b < 16) : leafB (t.leaf b) = true := by
 have h1 := List.all_eq_true.1 h b (List.mem_range.2 hb)
 rw [fits_r] at h1
 simp only [Bool.and_eq_true] at h1
 exact h1.1.1.2
theorem getT_mem {t : Tr} (h : mayT t = true) {k : Bytes} {y : Item} : getT t k = some y ↔ ∃ b,b < 16 ∧ y ∈ t.leaf b ∧ y.key = k := by
 unfold getT
 rw [h,Bool.and_true]
 constructor
 ·intro q
  split at q
  ·rename_i hk
   obtain ⟨h1,h2⟩ := (getK_mem (fits_leaf h (bk_lt hk)) k y).1 q
   exact ⟨bk k,bk_lt hk,h1,h2⟩
  ·cases q
 ·rintro ⟨b,hb,h1,rfl⟩
  obtain ⟨h2,h3,_⟩ := fits_key h hb h1
  have hk := itemB_key h2
  rw [if_pos hk]
  have : bk y.key = b := by unfold bk;rw [h3];try rfl
  rw [this]
  exact (getK_mem (fits_leaf h hb) _ y).2 ⟨h1,rfl⟩
theorem getK_at {l : List Item} (h : leafB l = true) (k : Bytes) : (getK l k = none ∧ placeI (atK l k) = -1) ∨ ∃ y,getK l k = some y ∧ l[posK l k]? = some y ∧ placeI (atK l k) = (posK l k : Nat) := by
 have hs := ((leafB_iff l).1 h).2.2
 rw [atK_sorted hs]
 cases ht : thereK l k with
 |false=>exact .inl ⟨getK_none ht,rfl⟩
 |true =>
  right
  have : (l[posK l k]?).isSome = true := by
   unfold thereK at ht
   cases e : l[posK l k]? with
   |none=>rw [e] at ht;cases ht
   |some y=>rfl
  obtain ⟨y,hy⟩ := Option.isSome_iff_exists.1 this
  exact ⟨y,by unfold getK;rw [h,ht];exact hy,hy,rfl⟩
theorem place_no {t : Tr} (h : mayT t = true) {k : Bytes} {b : Nat} (hb : b < 16) (hn : getT t k = none ∨ b ≠ bk k) : placeI (atK (t.leaf b) k) = -1 := by
 rcases getK_at (fits_leaf h hb) k with ⟨_,q⟩|⟨y,q,_,_⟩
 ·exact q
 ·obtain ⟨h1,h2⟩ := (getK_mem (fits_leaf h hb) k y).1 q
  rcases hn with hn|hn
  ·have := (getT_mem h).2 ⟨b,hb,h1,h2⟩
   rw [hn] at this;cases this
  ·exfalso
   obtain ⟨_,h3,_⟩ := fits_key h hb h1
   rw [h2] at h3
   exact hn (by unfold bk;rw [h3];rfl)
theorem zcI_lt {m : Nat} : zc_api_Item.all (ltA m) = true := _root_.id rfl
theorem rget_s (m : Nat) (t : Tr) (k : Bytes) (hm : 1000000 < m) (h : t.Ok) (hmay : mayT t = true) : plenumref10_Get m (tA t) (sA k) = some (TU [iA ((getT t k).getD Item.zero),bA (getT t k).isSome],[]) := by
 rw [plenumref10_Get_eq]
 simp (config := {maxSteps := 4000000,implicitDefEqProofs := false}) (disch := omega) only [go_sem,tA_def,tC_sure]
 refine iter_ind (ι := {i : Nat // i ≤ 16 ∧ ((getT t k).isSome = true → i ≤ bk k)}) (fun i=>⟨[⟨1,ty_api_Trunk,0,tC t⟩,⟨1,ty_api_Item,0,zc_api_Item⟩],[(1,sA k),(2,OP 0 0),(4,OP 1 0),(6,nA i.1)]⟩) (fun i=>16 - i.1) (fun _=>some (TU [iA ((getT t k).getD Item.zero),bA (getT t k).isSome],[])) ?_ ⟨0,Nat.zero_le _,fun _=>Nat.zero_le _⟩ (by dsimp only;omega)
 rintro ⟨i,hi,hle⟩ kc hkc
 dsimp only at hkc ⊢
 rw [plenumref10_Get_b1_eq]
 by_cases hlt : i < 16
 ·have hlt' : (i : Int) < 16 := by omega
  have hat := plenumref09_At_e m (t.leaf i) k (h.len2 i)
  rw [lA_def] at hat
  by_cases hn : getT t k = none ∨ i ≠ bk k
  ·have hp := place_no hmay hlt hn
   have step := hkc ⟨i + 1,by omega,fun q=>by
    rcases hn with hn|hn
    ·rw [hn] at q;cases q
    ·have := hle q;omega⟩ (by dsimp only;omega)
   rw [hp] at hat
   simp (config := {maxSteps := 4000000,implicitDefEqProofs := false}) (disch := omega) only [go_sem,hlt',natInt,u_tl,w_i64,hat,lA_def,tC_ltA,zcI_lt]
   exact step
  ·obtain ⟨y,hy⟩ : ∃ y,getT t k = some y := Option.ne_none_iff_exists'.1 fun q=>hn (.inl q)
   have hbk : i = bk k := Decidable.of_not_not fun q=>hn (.inr q)
   have hy' : getK (t.leaf i) k = some y := by rw [← hy,getT,getT_key (show (getT t k).isSome = true by rw [hy];rfl),hmay,hbk];try rfl
   rcases getK_at (fits_leaf hmay hlt) k with ⟨q,_⟩|⟨z,q,hz,hp⟩
   ·rw [q] at hy';cases hy'
   ·rw [q] at hy';cases hy'
    obtain ⟨hpl,hz⟩ := List.getElem?_eq_some_iff.1 hz
    rw [hp] at hat
    have h0 : (0 : Int) ≤ (posK (t.leaf i) k : Nat) := by omega
    simp (config := {maxSteps := 4000000,implicitDefEqProofs := false}) (disch := omega) only [go_sem,hlt',natInt,u_tl,w_i64,hat,lA_def,tC_ltA,zcI_lt,h0,u_nthM,hz,fl_it]
    rw [hy];try rfl
 ·have hlt' : ¬ (i : Int) < 16 := by omega
  have hi' : i = 16 := by omega
  have hn : getT t k = none := by
   cases e : getT t k with
   |none=>rfl
   |some y =>
    rw [e] at hle
    have := hle rfl
    have := bk_lt (getT_key (show (getT t k).isSome = true by rw [e];rfl))
    omega
  simp (config := {maxSteps := 4000000,implicitDefEqProofs := false}) (disch := omega) only [go_sem,hlt']
  rw [plenumref10_Get_r1_eq,hn]
  rfl
theorem zcI_len : zc_api_Item.length = 5 := _root_.id rfl
theorem tC_all1 {t : Tr} {n : Nat} {H : List AObj} : ((tC t).all fun x=>lt1 n (ro1 H x)) = true := tC_all (fun _=>rfl) fun _=>rfl
theorem fl_all5 {l : List Item} : (l.all fun x=>decide ((cellsOf (flA Item.cells x)).length = 5)) = true := List.all_eq_true.2 fun _ _=>rfl
theorem fl_allA {l : List Item} {n : Nat} : (l.all fun x=>ltA n (flA Item.cells x)) = true := List.all_eq_true.2 fun _ _=>rfl
theorem zcT_eq : zc_api_Trunk = zC := _root_.id rfl
theorem bucketK_nat {k : Bytes} (h : keyB k = true) : bucketK k = (bk k : Nat) := by have := bucketK_in h;unfold bk;omega
def sameT (a b : Tr) : Bool := (List.range 16).all fun i=>decide (a.ver i = b.ver i) && decide (a.leaf i = b.leaf i)
theorem sameT_iff {a b : Tr} : sameT a b = true ↔ a.Eq16 b := by
 unfold sameT
 rw [List.all_eq_true]
 constructor
 ·intro h i hi
  have := h i (List.mem_range.2 hi)
  simp only [Bool.and_eq_true,decide_eq_true_eq] at this
  exact ⟨this.2,this.1⟩
 ·intro h i hi
  have := h i (List.mem_range.1 hi)
  simp only [Bool.and_eq_true,decide_eq_true_eq]
  exact ⟨this.2,this.1⟩
theorem sameT_no {a b : Tr} {i : Nat} (hi : i < 16) (h : ¬ (a.ver i = b.ver i ∧ a.leaf i = b.leaf i)) : sameT a b = false := by
 cases e : sameT a b with
 |false=>rfl
 |true =>
  have := sameT_iff.1 e i hi
  exact absurd ⟨this.2,this.1⟩ h
theorem rsame_s (m : Nat) (a b : Tr) (hm : 16 < m) (ha : ∀ i,(a.leaf i).length ≤ 34359738368) (hb : ∀ i,(b.leaf i).length ≤ 34359738368) : plenumref10_Same m (tA a) (tA b) = some (bA (sameT a b),[]) := by
 rw [plenumref10_Same_eq]
 simp (config := {maxSteps := 4000000,implicitDefEqProofs := false}) (disch := omega) only [go_sem,tC_len,tC_sure,tC_ltA,tC_lt1,tC_ro,tC_take,tC_all1,zcT_eq,zcI_len,zC_len,zC_ltA,zC_lt1,zC_sure,zC_ro,zC_take,set_tl,set_tv,sc_tt,sc_zt,sc_tz,sc_zz,add16,tA_def,lA_def,natInt,u_tl,u_tv]
 refine iter_ind (ι := {k : Nat // k ≤ 16 ∧ (List.range k).all (fun i=>decide (a.ver i = b.ver i) && decide (a.leaf i = b.leaf i)) = true}) (fun k=>⟨[⟨1,ty_api_Trunk,0,tC a⟩,⟨1,ty_api_Trunk,0,tC b⟩],[(2,OP 0 0),(3,OP 1 0),(5,nA k.1)]⟩) (fun k=>16 - k.1) (fun _=>some (bA (sameT a b),[])) ?_ ⟨0,Nat.zero_le _,rfl⟩ (by dsimp only;omega)
 rintro ⟨k,hk,hall⟩ kc hkc
 dsimp only at hkc ⊢
 rw [plenumref10_Same_b1_eq]
 by_cases hlt : k < 16
 ·have hlt' : (k : Int) < 16 := by omega
  have hS := plenumref09_Same_e m (a.leaf k) (b.leaf k) ⟨ha k,hb k⟩
  rw [lA_def,lA_def] at hS
  by_cases hv : a.ver k = b.ver k
  ·by_cases hl : a.leaf k = b.leaf k
   ·have step := hkc ⟨k + 1,by omega,by rw [List.range_succ,List.all_append,hall];simp [hv,hl]⟩ (by dsimp only;omega)
    simp only [hl] at hS
    simp (config := {maxSteps := 4000000,implicitDefEqProofs := false}) (disch := omega) only [go_sem,tC_len,tC_sure,tC_ltA,tC_lt1,tC_ro,tC_take,tC_all1,zcT_eq,zcI_len,zC_len,zC_ltA,zC_lt1,zC_sure,zC_ro,zC_take,set_tl,set_tv,sc_tt,sc_zt,sc_tz,sc_zz,add16,tA_def,lA_def,natInt,u_tl,u_tv,hlt',hS,hv,hl,w_i64]
    exact step
   ·simp only [hl] at hS
    simp (config := {maxSteps := 4000000,implicitDefEqProofs := false}) (disch := omega) only [go_sem,tC_len,tC_sure,tC_ltA,tC_lt1,tC_ro,tC_take,tC_all1,zcT_eq,zcI_len,zC_len,zC_ltA,zC_lt1,zC_sure,zC_ro,zC_take,set_tl,set_tv,sc_tt,sc_zt,sc_tz,sc_zz,add16,tA_def,lA_def,natInt,u_tl,u_tv,hlt',hS,hv,hl,w_i64]
    rw [sameT_no hlt fun q=>hl q.2]
    try rfl
  ·simp (config := {maxSteps := 4000000,implicitDefEqProofs := false}) (disch := omega) only [go_sem,tC_len,tC_sure,tC_ltA,tC_lt1,tC_ro,tC_take,tC_all1,zcT_eq,zcI_len,zC_len,zC_ltA,zC_lt1,zC_sure,zC_ro,zC_take,set_tl,set_tv,sc_tt,sc_zt,sc_tz,sc_zz,add16,tA_def,lA_def,natInt,u_tl,u_tv,hlt',hv]
   rw [sameT_no hlt fun q=>hv q.1]
   try rfl
 ·have hlt' : ¬ (k : Int) < 16 := by omega
  have : k = 16 := by omega
  subst this
  simp (config := {maxSteps := 4000000,implicitDefEqProofs := false}) (disch := omega) only [go_sem,hlt']
  rw [show sameT a b = true from hall]
  rfl
def allTo (t : Tr) (k : Nat) : List Item := (List.range k).flatMap t.leaf
theorem allTo_succ (t : Tr) (k : Nat) : allTo t (k + 1) = allTo t k ++ t.leaf k := by simp [allTo,List.range_succ]
theorem allTo_len (t : Tr) : ∀ k,(allTo t k).length = sumTo (fun i=>(t.leaf i).length) k
 |0=>rfl
 |k + 1=>by rw [allTo_succ,List.length_append,allTo_len t k];try rfl
theorem allTo_le (t : Tr) (h : t.Ok) : ∀ k,(allTo t k).length ≤ k * 1000000
 |0=>Nat.zero_le _
 |k + 1=>by have := allTo_le t h k;have := h.len k;rw [allTo_succ,List.length_append];omega
theorem lA_app (a b : List Item) : (a ++ b).map (flA Item.cells) = a.map (flA Item.cells) ++ b.map (flA Item.cells) := List.map_append
theorem rall_s (m : Nat) (t : Tr) (hm : 16 < m) (h : t.Ok) : plenumref10_All m (tA t) = some (lA (allTo t 16),[]) := by
 rw [plenumref10_All_eq]
 simp (config := {maxSteps := 4000000,implicitDefEqProofs := false}) (disch := omega) only [go_sem,tC_len,tC_sure,tC_ltA,tC_lt1,tC_ro,tC_take,tC_all1,zcT_eq,zcI_len,zC_len,zC_ltA,zC_lt1,zC_sure,zC_ro,zC_take,set_tl,set_tv,sc_tt,sc_zt,sc_tz,sc_zz,add16,tA_def,lA_def,natInt,u_tl,u_tv]
 refine iter_ind (ι := {k : Nat // k ≤ 16}) (fun k=>⟨[⟨1,ty_api_Trunk,0,tC t⟩,⟨2,ty_api_Item,5,(allTo t k).map (flA Item.cells)⟩],[(1,OP 0 0),(3,OW 1 (allTo t k.1).length),(4,nA k.1)]⟩) (fun k=>16 - k.1) (fun _=>some (lA (allTo t 16),[])) ?_ ⟨0,Nat.zero_le _⟩ (by dsimp only;omega)
 rintro ⟨k,hk⟩ kc hkc
 dsimp only at hkc ⊢
 rw [plenumref10_All_b1_eq]
 by_cases hlt : k < 16
 ·have hlt' : (k : Int) < 16 := by omega
  have step := hkc ⟨k + 1,by omega⟩ (by dsimp only;omega)
  dsimp only at step
  rw [allTo_succ,lA_app,List.length_append] at step
  have hle := allTo_le t h k
  have hle2 := h.len k
  have hle3 : (allTo t k).length + (t.leaf k).length ≤ 34359738368 := by omega
  simp (config := {maxSteps := 4000000,implicitDefEqProofs := false}) (disch := omega) only [go_sem,tC_len,tC_sure,tC_ltA,tC_lt1,tC_ro,tC_take,tC_all1,zcT_eq,zcI_len,zC_len,zC_ltA,zC_lt1,zC_sure,zC_ro,zC_take,set_tl,set_tv,sc_tt,sc_zt,sc_tz,sc_zz,add16,tA_def,lA_def,natInt,u_tl,u_tv,hlt',hle3,w_i64,fl_all5,fl_allA]
  exact step
 ·have hlt' : ¬ (k : Int) < 16 := by omega
  have : k = 16 := by omega
  subst this
  simp (config := {maxSteps := 4000000,implicitDefEqProofs := false}) (disch := omega) only [go_sem,hlt']
  show plenumref10_All_r1 m _ = _
  rw [plenumref10_All_r1_eq,lA_def]
  simp (config := {maxSteps := 4000000,implicitDefEqProofs := false}) (disch := omega) only [go_sem,tC_len,tC_sure,tC_ltA,tC_lt1,tC_ro,tC_take,tC_all1,zcT_eq,zcI_len,zC_len,zC_ltA,zC_lt1,zC_sure,zC_ro,zC_take,set_tl,set_tv,sc_tt,sc_zt,sc_tz,sc_zz,add16,tA_def,lA_def,natInt,u_tl,u_tv,fl_allA]
end Go.Proofs.YtoeajbhlkccekaaDoor

namespace Go.Proofs.YtoeajbhlkccekaaDoor
open Go.RowKit
def xa : Item := ⟨[97],2,1,[],5⟩
def T1 : Tr := (Tr.zero.setL 1 [xa]).setV 1 5
def T2 : Tr := (T1.setL 1 []).setV 1 9
theorem nilOk : ([] : List Item).length ≤ 1000000 ∧ (∀ x ∈ ([] : List Item),x.key.length ≤ maxLen ∧ NumOk x) ∧ weightP [] ≤ 1000000000 := ⟨Nat.zero_le _,(by intro x hx;cases hx),Nat.le_of_ble_eq_true (by kernel_rfl)⟩
theorem ok_zero : Tr.zero.Ok := fun i=>nilOk
theorem rint_s (m : Nat) (i : Int) : plenumref07_Int m (nA i) = some (.agg [nA 2,nA i,sA []],[]) := by
 rw [plenumref07_Int_eq]
 rfl
theorem keyB_max {k : Bytes} (h : k.length ≤ 60) : k.length ≤ maxLen := Nat.le_trans h (by decide)
theorem weight_le {l : List Item} (hl : leafB l = true) (hn : ∀ x ∈ l,NumOk x) (hk : ∀ x ∈ l,x.key.length ≤ 60) : weight l ≤ l.length * 160 := by
 have hv := ((leafB_iff l).1 hl).2.1
 clear hl
 unfold weight
 induction l with
 |nil=>exact Nat.zero_le _
 |cons x r ih =>
  have h1 := ih (fun y hy=>hn y (List.mem_cons_of_mem _ hy)) (fun y hy=>hk y (List.mem_cons_of_mem _ hy)) (fun y hy=>hv y (List.mem_cons_of_mem _ hy))
  have h2 := hk x (List.mem_cons_self ..)
  have h3 := hn x (List.mem_cons_self ..)
  have h4 := hv x (List.mem_cons_self ..)
  have h5 : valB x.kind x.i x.s = true := by
   unfold itemB at h4
   simp only [Bool.and_eq_true] at h4
   exact h4.1.1.1.2
  have h6 := encV_len h3.1 h3.2 h5
  simp only [List.map_cons,List.sum_cons,List.length_cons]
  omega
def Tr.In (t : Tr) : Prop := ∀ i,(t.leaf i).length ≤ maxLen ∧ (∀ x ∈ t.leaf i,NumOk x) ∧ (16 ≤ i → t.leaf i = [])
theorem few_ok {t : Tr} (h : t.In) : (fewT t 16).Ok := by
 intro i
 by_cases hi : i < 16
 ·have e : (fewT t 16).leaf i = fewL (t.leaf i) := by simp [fewT,hi]
  have hlen : (fewL (t.leaf i)).length ≤ 66 := by simp [fewL];omega
  have hx : ∀ x ∈ fewL (t.leaf i),x.key.length ≤ 60 ∧ NumOk x := by
   intro x hx
   simp only [fewL,List.mem_map] at hx
   obtain ⟨y,hy,rfl⟩ := hx
   exact ⟨by simp [Item.one];omega,(h i).2.1 y (List.mem_of_mem_take hy)⟩
  rw [e]
  refine ⟨by omega,fun x hq=>⟨keyB_max (hx x hq).1,(hx x hq).2⟩,?_⟩
  unfold weightP
  split
  ·rename_i hl
   have := weight_le hl (fun x hq=>(hx x hq).2) (fun x hq=>(hx x hq).1)
   omega
  ·omega
 ·have e : (fewT t 16).leaf i = [] := by simp only [fewT,hi,if_false];exact (h i).2.2 (by omega)
  rw [e];exact nilOk
theorem Tr.In.len {t : Tr} (h : t.In) : ∀ i,(t.leaf i).length ≤ maxLen := fun i=>(h i).1
end Go.Proofs.YtoeajbhlkccekaaDoor

namespace Go.Proofs.YtoeajbhlkccekaaDoor
open Go.RowKit
structure TInv (t : Tr) : Prop where
 may : mayT t = true
 num : ∀ i,∀ x ∈ t.leaf i,NumOk x
 out : ∀ i,16 ≤ i → t.leaf i = []
theorem key24 {k : Bytes} (h : keyB k = true) : k.length ≤ 24 := by
 unfold keyB patB at h
 simp only [Bool.and_eq_true,decide_eq_true_eq] at h
 exact h.2.1
theorem TInv.ok {t : Tr} (h : TInv t) : t.Ok := by
 intro i
 by_cases hi : i < 16
 ·have hl := fits_leaf h.may hi
  have hk : ∀ x ∈ t.leaf i,x.key.length ≤ 24 := fun x hx=>key24 (itemB_key (fits_key h.may hi hx).1)
  have h64 := ((leafB_iff _).1 hl).1
  refine ⟨by omega,fun x hx=>⟨Nat.le_trans (hk x hx) (by decide),h.num i x hx⟩,?_⟩
  have := weight_le hl (h.num i) fun x hx=>Nat.le_trans (hk x hx) (by decide)
  unfold weightP
  rw [if_pos hl];omega
 ·rw [h.out i (by omega)];exact nilOk
theorem few_inv {t : Tr} (h : t.In) (hm : mayT (fewT t 16) = true) : TInv (fewT t 16) := by
 refine ⟨hm,fun i x hx=>((few_ok h i).2.1 x hx).2,fun i hi=>?_⟩
 have : ¬ i < 16 := by omega
 simp only [fewT,this,if_false]
 exact (h i).2.2 hi
theorem filter_one {p : Nat → Bool} {b : Nat} (h : ∀ i,p i = true → i = b) : ∀ n,((List.range n).filter p).length ≤ 1 ∧ (b ≥ n → (List.range n).filter p = [])
 |0=>⟨Nat.zero_le _,fun _=>rfl⟩
 |n + 1=>by
  obtain ⟨h1,h2⟩ := filter_one h n
  rw [List.range_succ,List.filter_append]
  by_cases hp : p n = true
  ·have hb := h n hp
   rw [h2 (by omega)]
   simp [hp]
   omega
  ·simp [hp]
   refine ⟨h1,fun hb a ha=>?_⟩
   cases hpa : p a with
   |false=>rfl
   |true=>have := h a hpa;omega
theorem chg_inv {t : Tr} (h : TInv t) {b : Nat} (hb : b < 16) {l : List Item} {v : Int} (hl : leafB l = true) (hv0 : 0 ≤ v) (hv1 : v ≤ 2147483647) (hf : ∀ x ∈ l,bucketK x.key = b ∧ x.ver ≤ v) (hn : ∀ x ∈ l,NumOk x) :
  TInv ((t.setL b l).setV b v) ∧ (unlikeL t ((t.setL b l).setV b v) 16).length ≤ 1 ∧ ∀ k,(bk k = b → getK l k = getK (t.leaf b) k) → getT ((t.setL b l).setV b v) k = getT t k := by
 have hleaf : ∀ i,((t.setL b l).setV b v).leaf i = if i = b then l else t.leaf i := fun i=>rfl
 have hver : ∀ i,((t.setL b l).setV b v).ver i = if i = b then v else t.ver i := fun i=>rfl
 have hm : mayT ((t.setL b l).setV b v) = true := by
  unfold mayT
  rw [List.all_eq_true]
  intro i hi
  have hi := List.mem_range.1 hi
  rw [hleaf,hver]
  by_cases e : i = b
  ·subst e
   rw [if_pos rfl,if_pos rfl]
   unfold fitsB
   rw [hl,decide_eq_true hv0,decide_eq_true hv1]
   simp only [Bool.true_and,List.all_eq_true]
   intro x hx
   have := hf x hx
   unfold fitB
   rw [decide_eq_true this.1,decide_eq_true this.2];rfl
  ·rw [if_neg e,if_neg e]
   exact List.all_eq_true.1 h.may i (List.mem_range.2 hi)
 refine ⟨⟨hm,fun i x hx=>?_,fun i hi=>?_⟩,(filter_one (b := b) (fun i hi=>?_) 16).1,fun k hk=>?_⟩
 ·rw [hleaf] at hx
  split at hx
  ·exact hn x hx
  ·exact h.num i x hx
 ·rw [hleaf,if_neg (by omega)];exact h.out i hi
 ·rcases Decidable.em (i = b) with e|e
  ·exact e
  ·unfold unlikeAt at hi
   rw [hleaf,hver,if_neg e,if_neg e] at hi
   simp at hi
 ·unfold getT
  rw [hm,h.may]
  cases hkb : keyB k with
  |false=>rfl
  |true =>
   simp only [Bool.and_self,if_true]
   rw [hleaf]
   split
   ·rename_i e;rw [e,hk e]
   ·rfl
theorem put_inv {t : Tr} {x : Item} (h : TInv t) (hx : NumOk x) (he : (putT t x).2 = 0) : TInv (putT t x).1 ∧ (unlikeL t (putT t x).1 16).length ≤ 1 ∧ ∀ k,k ≠ x.key → getT (putT t x).1 k = getT t k := by
 unfold putT at he ⊢
 split at he
 ·cases he
 rename_i hi
 rw [if_neg hi]
 split at he
 ·cases he
 rename_i hv
 rw [if_neg hv]
 have hib : itemB x = true := by
  cases e : itemB x with
  |true=>rfl
  |false=>rw [e] at hi;exact absurd rfl hi
 have hk := itemB_key hib
 have hb := bk_lt hk
 have hbe := bucketK_nat hk
 unfold chgT at he ⊢
 split at he
 ·rename_i hp
  rw [if_pos hp]
  obtain ⟨e1,e2,_,e4,e5,e6,e7⟩ := put_kept hp
  rw [e1]
  have hv3 : 0 ≤ x.ver ∧ x.ver ≤ 2147483647 := by
   unfold itemB at hib
   simp only [Bool.and_eq_true,decide_eq_true_eq] at hib
   exact ⟨hib.1.2,hib.2⟩
  have hmem : ∀ y ∈ withK (t.leaf (bk x.key)) x,y ∈ t.leaf (bk x.key) ∨ y = x := by
   intro y hy
   rcases mem_withK.1 hy with q|q|q
   ·exact .inl q.1
   ·exact .inr q
   ·exact .inl q.1
  obtain ⟨a1,a2,a3⟩ := chg_inv h hb e4 hv3.1 hv3.2 (fun y hy=>by
   rcases hmem y hy with q|q
   ·have := fits_key h.may hb q
    exact ⟨this.2.1,by omega⟩
   ·subst q;exact ⟨hbe,Int.le_refl _⟩) (fun y hy=>by
   rcases hmem y hy with q|q
   ·exact h.num _ y q
   ·subst q;exact hx)
  exact ⟨a1,a2,fun k hk2=>a3 k fun e=>e7 k hk2⟩
 ·rename_i hp
  exact absurd he hp
theorem del_inv {t : Tr} {q : Bytes} {v : Int} (h : TInv t) (he : (delT t q v).2 = 0) : TInv (delT t q v).1 ∧ (unlikeL t (delT t q v).1 16).length ≤ 1 ∧ ∀ k,k ≠ q → getT (delT t q v).1 k = getT t k := by
 unfold delT at he ⊢
 split at he
 ·cases he
 rename_i hi
 rw [if_neg hi]
 split at he
 ·cases he
 rename_i hs
 rw [if_neg hs]
 split at he
 ·cases he
 rename_i hv
 rw [if_neg hv]
 simp only [h.may,Bool.not_true,Bool.false_or,Bool.or_eq_true,decide_eq_true_eq,not_or] at hi
 have hk : keyB q = true := getT_key (by cases e : (getT t q).isSome with|true=>rfl|false=>exact absurd e hs)
 have hb := bk_lt hk
 unfold chgT at he ⊢
 split at he
 ·rename_i hp
  rw [if_pos hp]
  obtain ⟨e1,e2,e3,_,_,e7⟩ := del_kept hp
  rw [e1]
  have hmem : ∀ y ∈ withoutK (t.leaf (bk q)) q,y ∈ t.leaf (bk q) := fun y hy=>(List.mem_filter.1 hy).1
  obtain ⟨a1,a2,a3⟩ := chg_inv (v := v) h hb e3 (by omega) (by omega) (fun y hy=>by
   have := fits_key h.may hb (hmem y hy)
   exact ⟨this.2.1,by omega⟩) (fun y hy=>h.num _ y (hmem y hy))
  exact ⟨a1,a2,fun k hk2=>a3 k fun e=>e7 k hk2⟩
 ·rename_i hp
  exact absurd he hp
theorem TInv.ver {t : Tr} (h : TInv t) {i : Nat} (hi : i < 16) : 0 ≤ t.ver i ∧ t.ver i ≤ 2147483647 := by
 have := List.all_eq_true.1 h.may i (List.mem_range.2 hi)
 unfold fitsB at this
 simp only [Bool.and_eq_true,decide_eq_true_eq] at this
 exact ⟨this.1.1.2,this.1.2⟩
end Go.Proofs.YtoeajbhlkccekaaDoor

namespace Go.Proofs.YtoeajbhlkccekaaDoor
open Go.RowKit
abbrev FL (lo : Option Nat) : Fence := { Fence.wide with round := lo }
section
variable {lo : Option Nat} {d : Nat} {P : Program} {G : Gl} {N : FS} {n : Nat}
theorem callsIn_FL {f : FuncId} {args : Array Value} {w : World} {R : Ending → World → Prop} (h : Calls P f args w R) : CallsIn (FL lo) d P f args w R := callsIn_wide.2 h
theorem rowsIn_FL {row : String} {args : Array Value} {w : World} {R : Value → World → Prop} (h : Rows P row args w R) : RowsIn (FL lo) d P row args w R := fun c cs _ =>
 let ⟨v,w',r,s⟩ := h c cs;⟨v,w',r,stepsIn_wide.2 s⟩
theorem op_in {o : Oper} {a : Act} {w : World} {next : Act → World → Prop} {Q : Exit → Act → World → Prop} (hd : ∀ c,o.op ≠ .defer c) (h : o.wp P a w next Q) : o.wpIn (FL lo) d P a w next Q := by
 refine ⟨fun _ _=>trivial,?_⟩
 have e : Oper.semAt (FL lo).round a.eval o = execOp a.eval o := by
  cases lo with
  |none=>exact Oper.semAt_none _ _
  |some l=>exact Oper.semAt_some _ _ _ hd
 rw [e]
 unfold Oper.wp at h
 generalize (execOp a.eval o).run P w = r at h ⊢
 cases r with
 |ok x w' =>
  cases x <;> simp only [Oper.upon,Oper.uponIn] at h ⊢ <;>
   first
    |exact h
    |exact h.elim
    |exact ⟨fun q=>(by cases q),(callsIn_FL h).mono fun e w'' he=>by cases e <;> exact he⟩
    |exact ⟨fun q=>(by cases q),rowsIn_FL h⟩
 |halt x w'=>cases x <;> simp only [Oper.upon,Oper.uponIn] at h ⊢ <;> first|exact h|exact h.elim
theorem stepOp_nodef {o : Oper} {s : ASt} {K : AV → List AObj → Prop} (h : stepOp P G o s K) : ∀ c,o.op ≠ .defer c := by
 intro c e
 unfold stepOp at h
 rw [e] at h
 exact h
theorem runOps_in {ops : List Oper} {K : ASt → Prop} {Q : Exit → ASt → Prop} (hK : ∀ s,K s → Q .normal s) {w0 : World} {S0 : SS} {μ0 : List Value} {H0 : List AObj} (hn : n ≤ H0.length) (hl0 : μ0.length = H0.length) : ∀ (l : List Oper) (s : ASt),runOps P G ops l s K → fits N l = true →
  ∀ w S μ a,Rel w S μ s.H → Fr S μ N s.T a → GOk G S → Step n w0 S0 μ0 H0 w S μ s.H → wpListIn (FL lo) d P ops.toArray (Lift N n w0 S0 μ0 H0 Q) l a w
 |[],s,h,_,w,S,μ,a,hr,hf,hg,hs=>⟨s,S,μ,hK s h,hr,hf,hs⟩
 |o :: r,s,h,hfit,w,S,μ,a,hr,hf,hg,hs=>by
  have hfit' := hfit
  simp only [fits,List.all_cons,Bool.and_eq_true] at hfit'
  have hd : ∀ i,o.dst = some i → i < N := fun i e=>by have := hfit'.1;rw [e] at this;simpa using this
  have hgo : ∀ (hw : Region.wanted o (yielded ops.toArray a.tmps) = true),stepOp P G o s (fun d H=>runOps P G ops r (s.set H o.dst d) K) → wpListIn (FL lo) d P ops.toArray (Lift N n w0 S0 μ0 H0 Q) (o :: r) a w := by
   intro hw hstep
   unfold wpListIn
   rw [if_pos hw]
   have hop := stepOp_wp hstep hr hf hg (Lift N n w0 S0 μ0 H0 Q)
   refine op_in (stepOp_nodef hstep) (_root_.Go.Proofs.YtoeajbhlkccekaaDoor.Oper.wp_next hop fun a' w'=>?_)
   rintro ⟨d,u,H',S',μ',hrest,rfl,hrep,hr',hs',_⟩
   have hst := (hf.ext (hs'.toExt hr)).put o.dst hd hrep
   have hn' : n ≤ s.H.length := by
    have := hs.objs
    rcases Nat.lt_or_ge s.H.length n with hlt|hge
    ·have hlm : s.H.length < μ0.length := by omega
     obtain ⟨x',hx',_⟩ := hs.objs s.H.length μ0[s.H.length] hlt (List.getElem?_eq_getElem hlm)
     have := (List.getElem?_eq_some_iff.1 hx').1
     rw [hr.len] at this;omega
    ·exact hge
   exact runOps_in hK hn hl0 r _ hrest hfit'.2 w' S' μ' _ hr' hst (hg.ext hs'.still) (hs.trans (hs'.less hn'))
  have hno : Region.wanted o (yielded ops.toArray a.tmps) = false → wpListIn (FL lo) d P ops.toArray (Lift N n w0 S0 μ0 H0 Q) r (a.put o.dst undef) w → wpListIn (FL lo) d P ops.toArray (Lift N n w0 S0 μ0 H0 Q) (o :: r) a w := by
   intro hw hrest
   unfold wpListIn
   rw [if_neg (by rw [hw];exact Bool.false_ne_true)]
   exact ⟨fun _ _=>trivial,hrest⟩
  unfold runOps at h
  split at h
  ·rename_i hgd
   exact hgo (by simp [Region.wanted,hgd]) h
  ·rename_i j want hgd
   split at h
   ·rename_i t ht
    unfold guardA at h
    split at h
    ·rename_i b hb
     have hy := yielded_get hf ht hb
     by_cases e : b = want
     ·exact hgo (by simp [Region.wanted,hgd,hy,e]) (h.1 e)
     ·have hrest := h.2 (by cases b <;> cases want <;> simp_all)
      have hst := hf.put o.dst hd (rep_ud S μ)
      exact hno (by simp [Region.wanted,hgd,hy,e]) (runOps_in hK hn hl0 r _ hrest hfit'.2 w S μ _ hr hst hg hs)
    ·rename_i q hb
     have hy := yielded_ud hf ht hb
     have hst := hf.put o.dst hd (rep_ud S μ)
     exact hno (by simp [Region.wanted,hgd,hy]) (runOps_in hK hn hl0 r _ h hfit'.2 w S μ _ hr hst hg hs)
    ·exact h.elim
   ·exact h.elim
def AWi (lo : Option Nat) (d : Nat) (P : Program) (G : Gl) (N : FS) (n : Nat) (c : Code) (Q : Exit → ASt → Prop) (s : ASt) : Prop :=
 ∀ w S μ a,Rel w S μ s.H → Fr S μ N s.T a → GOk G S → c.wpIn (FL lo) d P (Lift N n w S μ s.H Q) a w
variable {Q : Exit → ASt → Prop} {s : ASt} {H : List AObj} {T T' : Tm}
theorem AWi.mono {c : Code} {Q' : Exit → ASt → Prop} (h : AWi lo d P G N n c Q s) (k : ∀ e s,Q e s → Q' e s) : AWi lo d P G N n c Q' s :=
 fun w S μ a hr hf hg=>wpIn_mono (h w S μ a hr hf hg) fun _ _ _ ⟨s',S',μ',hq,r⟩=>⟨s',S',μ',k _ _ hq,r⟩
theorem AWi.text {c : Code} (h : TEq T T') (k : AWi lo d P G N n c Q ⟨H,T'⟩) : AWi lo d P G N n c Q ⟨H,T⟩ :=
 fun w S μ a hr hf hg=>k w S μ a hr ⟨hf.size,hf.nodef,fun i=>by rw [← h i];exact hf.slot i⟩ hg
theorem AWi.forget {c : Code} (h : ∀ i,get T' i = get T i ∨ get T' i = .nil) (k : AWi lo d P G N n c Q ⟨H,T'⟩) : AWi lo d P G N n c Q ⟨H,T⟩ := by
 intro w S μ a hr hf hg
 refine k w S μ a hr ⟨hf.size,hf.nodef,fun i=>?_⟩ hg
 rcases h i with e|e
 ·rw [e];exact hf.slot i
 ·rw [e];exact rep_any _ _ _
theorem AWi.len {c : Code} (h : AWi lo d P G N n c Q s) (hn : n ≤ s.H.length) : AWi lo d P G N n c (fun e s'=>Q e s' ∧ n ≤ s'.H.length) s := by
 intro w S μ a hr hf hg
 refine wpIn_mono (h w S μ a hr hf hg) ?_
 rintro e a' w' ⟨s',S',μ',hq,hr',hf',hst⟩
 refine ⟨s',S',μ',⟨hq,?_⟩,hr',hf',hst⟩
 rw [← hr'.len]
 cases n with
 |zero=>exact Nat.zero_le _
 |succ m =>
  have hm : m < μ.length := by rw [hr.len];omega
  obtain ⟨x',hx',_⟩ := hst.objs m _ (Nat.lt_succ_self m) (List.getElem?_eq_getElem hm)
  exact (List.getElem?_eq_some_iff.1 hx').1
theorem AWi.post {c : Code} {Q' : Exit → ASt → Prop} (h : AWi lo d P G N n c Q s) (q : ∀ e s',Q e s' → ∃ T2,(∀ i,get T2 i = get s'.T i ∨ get T2 i = .nil) ∧ Q' e ⟨s'.H,T2⟩) : AWi lo d P G N n c Q' s := by
 intro w S μ a hr hf hg
 refine wpIn_mono (h w S μ a hr hf hg) ?_
 rintro e a' w' ⟨s',S',μ',hq,hr',hf',hst⟩
 obtain ⟨T2,ht,q'⟩ := q e s' hq
 refine ⟨⟨s'.H,T2⟩,S',μ',q',hr',⟨hf'.size,hf'.nodef,fun i=>?_⟩,hst⟩
 rcases ht i with e|e
 ·rw [e];exact hf'.slot i
 ·rw [e];exact rep_any _ _ _
theorem awi_skip (h : Q .normal s) : AWi lo d P G N n .skip Q s := fun w S μ _ hr hf _=>wpIn_skip ⟨s,S,μ,h,hr,hf,Step.refl _ _ _ _ _⟩
theorem awi_ret (h : Q .ret s) : AWi lo d P G N n .ret Q s := fun w S μ _ hr hf _=>wpIn_ret ⟨s,S,μ,h,hr,hf,Step.refl _ _ _ _ _⟩
theorem awi_exit {id : Nat} (h : Q (.exit id) s) : AWi lo d P G N n (.exit id) Q s := fun w S μ _ hr hf _=>wpIn_exit ⟨s,S,μ,h,hr,hf,Step.refl _ _ _ _ _⟩
theorem awi_seq {x y : Code} (h : AWi lo d P G N n x (thenA (AWi lo d P G N n y Q) Q) s) : AWi lo d P G N n (.seq x y) Q s := by
 intro w S μ a hr hf hg
 refine wpIn_seq (wpIn_mono (h w S μ a hr hf hg) ?_)
 rintro e a' w' ⟨s',S',μ',hq,hr',hf',hst⟩
 cases e with
 |normal=>exact wpIn_mono (hq w' S' μ' a' hr' hf' (hg.ext hst.still)) fun _ _ _ k=>Lift.trans hst k
 |exit id=>exact ⟨s',S',μ',hq,hr',hf',hst⟩
 |goto l=>exact ⟨s',S',μ',hq,hr',hf',hst⟩
 |ret=>exact ⟨s',S',μ',hq,hr',hf',hst⟩
 |panic ch=>exact ⟨s',S',μ',hq,hr',hf',hst⟩
 |outgrown=>exact ⟨s',S',μ',hq,hr',hf',hst⟩
theorem awi_block {id : Nat} {c : Code} (h : AWi lo d P G N n c (inBlockA id Q) s) : AWi lo d P G N n (.block id c) Q s := by
 intro w S μ a hr hf hg
 refine wpIn_block (wpIn_mono (h w S μ a hr hf hg) ?_)
 rintro e a' w' ⟨s',S',μ',hq,r⟩
 cases e with
 |exit id' =>
  simp only [inBlockA] at hq
  simp only [Exit.inBlock]
  split
  ·rename_i e;rw [if_pos e] at hq;exact ⟨s',S',μ',hq,r⟩
  ·rename_i e;rw [if_neg e] at hq;exact ⟨s',S',μ',hq,r⟩
 |normal=>exact ⟨s',S',μ',hq,r⟩
 |goto l=>exact ⟨s',S',μ',hq,r⟩
 |ret=>exact ⟨s',S',μ',hq,r⟩
 |panic ch=>exact ⟨s',S',μ',hq,r⟩
 |outgrown=>exact ⟨s',S',μ',hq,r⟩
theorem awi_cond {c : Operand} {x y : Code} {t : Bool} (hc : ev G s.T c = V (.bool t)) (h1 : t = true → AWi lo d P G N n x Q s) (h2 : t = false → AWi lo d P G N n y Q s) : AWi lo d P G N n (.cond c x y) Q s := by
 intro w S μ a hr hf hg
 have h := hf.ev hg c
 rw [hc] at h
 exact wpIn_cond_split h.1 (fun e=>h1 e w S μ a hr hf hg) (fun e=>h2 e w S μ a hr hf hg)
theorem awi_region {id : Nat} {ops : List Oper} (hfit : fits N ops = true) (hn : n ≤ s.H.length) (h : runOps P G ops ops s fun s=>Q .normal s) : AWi lo d P G N n (.region id ops.toArray false) Q s :=
 fun w S μ a hr hf hg=>wpIn_region_lit (runOps_in (K := fun s=>Q .normal s) (fun s h=>h) hn hr.len ops s h hfit w S μ a hr hf hg (Step.refl _ _ _ _ _))
theorem awi_gh {c : Code} (i off : Nat) (e : TypeId) (z : Nat) (hn : n ≤ s.H.length) (h : AWi lo d P G N n c Q (ghS i off e z s)) : AWi lo d P G N n c Q s := by
 unfold ghS at h
 split at h
 ·rename_i j hi
  split at h
  ·rename_i ob hj
   split at h
   ·rename_i hk hc
    intro w S μ a hr hf hg
    obtain ⟨h1,h2⟩ := hr.nilRow none e z
    have hjl : j < s.H.length := (List.getElem?_eq_some_iff.1 hj).1
    obtain ⟨h3,h4⟩ := h1.recell (off := off) (d' := OW s.H.length 0) (by rw [List.getElem?_append_left hjl];exact hj) hk hc (fun u hu=>⟨none,0,0,none,0,by rw [← hr.len];simp,Nat.le_refl _,hu.1,fun _=>⟨rfl,rfl⟩⟩)
    rw [List.set_append_left _ _ hjl] at h3 h4
    have hx : Ext S μ S (μ ++ [.slice none 0 0]) := ext_add S μ _
    have hf' : Fr S (μ ++ [.slice none 0 0]) N s.T a := ⟨hf.size,hf.nodef,fun k=>(hf.slot k).ext hx⟩
    refine wpIn_mono (h w S _ a h3 hf' hg) fun _ _ _ k=>Lift.trans ((h2.less hn).trans (h4.less ?_)) k
    simp only [List.length_append];omega
   ·exact h
  ·exact h
 ·exact h
theorem awi_ghJ {c : Code} (g : Option (Nat × Nat × TypeId × Nat)) (hn : n ≤ s.H.length) (h : AWi lo d P G N n c Q (ghJ g s)) : AWi lo d P G N n c Q s := by
 cases g with
 |none=>exact h
 |some q=>exact awi_gh _ _ _ _ hn h
def flatC : Code → Bool
 |.skip=>true
 |.region _ _ dr=>!dr
 |.seq a b=>flatC a && flatC b
 |.cond _ x y=>flatC x && flatC y
 |.block _ c=>flatC c
 |.exit _=>true
 |.ret=>true
 |_=>false
theorem exec_in {R : Type} {E : Env} {M : Nat} (hE : EnvOk P G E) (hp : E.any isPan = false) {r : R} : ∀ (c : Code) (h : Hint) (s : ASt) (k : KO R),flatC c = true → n ≤ s.H.length → exec P G E M N c h s k = some r → AWi lo d P G N n c (fun e s'=>k e s' = some r) s
 |.skip,h,s,k,hc,hn,hx=>awi_skip hx
 |.region id ops draw,h,s,k,hc,hn,hx=>by
  cases draw with
  |true=>cases hc
  |false =>
   obtain ⟨h1,h2⟩ := whenE_some (show whenE (fits N ops.toList) (match panQ E ops.toList with
    |true=>runP P G E ops.toList s (fun s=>k .normal s) (fun u s=>k (.panic (pch u)) s)
    |false=>runE P G E false ops.toList [] ops.toList s fun s=>k .normal s) = some r from hx)
   have hq : panQ E ops.toList = false := by unfold panQ;rw [hp];rfl
   rw [hq] at h2
   have := awi_region (lo := lo) (d := d) (n := n) (id := id) (s := s) (G := G) (Q := fun e s'=>e = .normal ∧ Aft (fun s=>k .normal s) r s') h1 hn (runOps_mono (fun s q=>⟨rfl,q⟩) (runE_ok hE (TEq.refl s.T) SkOk.nil h2))
   rw [Array.toArray_toList] at this
   refine this.post fun e s' q=>?_
   obtain ⟨rfl,T2,ht,q⟩ := q
   exact ⟨T2,fun i=>.inl (ht i).symm,q⟩
 |.seq a b,h,s,k,hc,hn,hx=>by
  simp only [flatC,Bool.and_eq_true] at hc
  refine awi_seq (AWi.mono (AWi.len (exec_in hE hp a h.l s _ hc.1 hn hx) hn) fun e s' q=>?_)
  obtain ⟨q,hl⟩ := q
  cases e with
  |normal =>
   have q : exec P G E M N b h.r (ghJ h.gho (joinS h.J s')) k = some r := q
   cases hj : h.J with
   |none=>rw [hj] at q;exact awi_ghJ h.gho hl (exec_in hE hp b h.r (ghJ h.gho s') k hc.2 (Nat.le_trans hl (ghJ_len _ _)) q)
   |some L=>rw [hj] at q;exact AWi.forget (keepT_get L s'.T) (awi_ghJ (s := ⟨s'.H,keepT L s'.T⟩) h.gho hl (exec_in hE hp b h.r (ghJ h.gho ⟨s'.H,keepT L s'.T⟩) k hc.2 (Nat.le_trans hl (ghJ_len h.gho ⟨s'.H,keepT L s'.T⟩)) q))
  |exit id=>exact q
  |goto l=>exact q
  |ret=>exact q
  |panic ch=>exact q
  |outgrown=>exact q
 |.cond c x y,h,s,k,hc,hn,hx=>by
  simp only [flatC,Bool.and_eq_true] at hc
  have lit : ∀ b,ev G s.T c = V (.bool b) → TEq s.T (litC c b s.T) := by
   intro b hb
   cases c with
   |tmp t=>exact TEq.lit (TEq.refl _) hb
   |const v=>exact TEq.refl _
   |global g=>exact TEq.refl _
   |func f=>exact TEq.refl _
  rcases condE_some (show condE (ev G s.T c) _ _ = some r from hx) with ⟨h1,h2⟩|⟨h1,h2⟩
  ·exact awi_cond h1 (fun _=>AWi.text (lit _ h1) (exec_in hE hp x h.l ⟨s.H,_⟩ k hc.1 hn h2)) (fun q=>by cases q)
  ·exact awi_cond h1 (fun q=>by cases q) (fun _=>AWi.text (lit _ h1) (exec_in hE hp y h.r ⟨s.H,_⟩ k hc.2 hn h2))
 |.block id c,h,s,k,hc,hn,hx=>by
  refine awi_block (AWi.mono (exec_in hE hp c h.c s _ hc hn hx) fun e s' q=>?_)
  cases e with
  |normal=>exact q
  |exit i =>
   simp only [inBlockA]
   split
   ·rename_i e
    have hb : Nat.beq i id = true := Nat.beq_eq.mpr e
    dsimp only at q
    rw [hb] at q;exact q
   ·rename_i e
    have hb : Nat.beq i id = false := by
     cases hb : Nat.beq i id with
     |false=>rfl
     |true=>exact absurd (Nat.eq_of_beq_eq_true hb) e
    dsimp only at q
    rw [hb] at q;exact q
  |goto l=>exact q
  |ret=>exact q
  |panic ch=>exact q
  |outgrown=>exact q
 |.loop c,h,s,k,hc,hn,hx=>by cases hc
 |.rangeFunc ..,h,s,k,hc,hn,hx=>by cases hc
 |.scope _,h,s,k,hc,hn,hx=>by cases hc
 |.label _,h,s,k,hc,hn,hx=>by cases hc
 |.goto _,h,s,k,hc,hn,hx=>by cases hc
 |.refuse _,h,s,k,hc,hn,hx=>by cases hc
 |.exit id,h,s,k,hc,hn,hx=>awi_exit hx
 |.ret,h,s,k,hc,hn,hx=>awi_ret hx
end
end Go.Proofs.YtoeajbhlkccekaaDoor

namespace Go.Proofs.YtoeajbhlkccekaaDoor
open Go.RowKit
section
variable {P : Program} {G : Gl} {n d : Nat} {w w' w0 : World} {S S' S0 : SS} {μ μ' μ0 : List Value} {H H' H0 : List AObj}
def NoCells (w : World) (l : Nat) : Prop := ∀ cs t p,w.heap[l]? ≠ some (.cells cs t p)
theorem NoCells.of {o : Obj} {l : Nat} (h : w.heap[l]? = some o) (ho : ∀ cs t p,o ≠ .cells cs t p) : NoCells w l := fun cs t p e=>by rw [h] at e;cases e;exact ho cs t p rfl
theorem ownB_cells (hr : Rel w S μ H) {b : Nat} (h : ownB μ H b) : ∃ cs t p,w.heap[b]? = some (.cells cs t p) := by
 obtain ⟨i,x,o,hx,ho,hk,hb⟩ := h
 have ho' := hr.objs i x o hx ho
 rcases hr.kinds i x o hx ho with h|h|h|h
 ·exact absurd h hk
 ·obtain ⟨b',cs,e,hc,_⟩ := ho'.1 h
  subst e;simp [blkOf] at hb;subst hb
  exact ⟨_,_,_,hc⟩
 ·obtain ⟨us,A,c,e,_,_,hc,_⟩ := ho'.2.1 h
  subst e
  cases A with
  |none=>simp [blkOf] at hb
  |some a =>
   simp only [blkOf] at hb
   split at hb
   ·cases hb
   ·rename_i h0
    injection hb with hb;subst hb
    rcases (hc h0).2 with ⟨q,_⟩|⟨g,cap,cur,hv,_,hh,_⟩
    ·cases q
    ·injection hv with hv1 _ _
     injection hv1 with hv1
     subst hv1
     exact ⟨_,_,_,hh⟩
 ·obtain ⟨A,c,e,_,_,_,hc⟩ := ho'.2.2 h
  subst e
  cases A with
  |none=>simp [blkOf] at hb
  |some a =>
   simp only [blkOf] at hb
   split at hb
   ·cases hb
   ·rename_i h0
    injection hb with hb;subst hb
    obtain ⟨b,cs,q1,q2,_⟩ := hc h0
    injection q1 with q1;subst q1
    exact ⟨_,_,_,q2⟩
theorem NoCells.own {l : Nat} (hl : NoCells w l) (hr : Rel w S μ H) : ¬ ownB μ H l := fun q=>by
 obtain ⟨cs,t,p,e⟩ := ownB_cells hr q
 exact hl cs t p e
theorem NoCells.still {l : Nat} (hl : NoCells w l) (hr : Rel w S μ H) {j : Nat} {x : AV} (h : S l j x) : False := by
 obtain ⟨u,hu,_⟩ := hr.still l j x h
 unfold World.cell? at hu
 split at hu
 ·rename_i cs t p e;exact hl _ _ _ e
 ·cases hu
theorem Rel.touch (hr : Rel w S μ H) (l : Nat) (hl : NoCells w l) (hb : ∀ b,b ≠ l → b < w.heap.size → w'.heap[b]? = w.heap[b]?) : Rel w' S μ H := by
 refine ⟨hr.len,fun b j x hs=>?_,hr.kinds,fun i x o hx ho=>?_,hr.sep,hr.apart⟩
 ·obtain ⟨u,hu,h1,h2⟩ := hr.still b j x hs
  refine ⟨u,?_,h1,h2⟩
  have hne : b ≠ l := fun e=>by subst e;exact hl.still hr hs
  have hlt : b < w.heap.size := by
   apply Nat.lt_of_not_le
   intro q
   unfold World.cell? at hu
   rw [Array.getElem?_eq_none q] at hu
   cases hu
  unfold World.cell? at hu ⊢
  rw [hb b hne hlt];exact hu
 ·by_cases hk : o.k = 0
  ·exact objRep.zero hk
  ·exact (hr.objs i x o hx ho).move (Ext.refl _ _) fun b hbk=>hb b (fun e=>by subst e;exact hl.own hr ⟨i,x,o,hx,ho,hk,hbk⟩) (hr.own_lt hx ho hk hbk)
theorem Step.touch (h : Step n w0 S0 μ0 H0 w S μ H) {l : Nat} (hl : w0.heap.size ≤ l) (h1 : w'.os = w.os) (h2 : w'.tape = w.tape) (h3 : w'.output = w.output) (h4 : w.heap.size ≤ w'.heap.size) (hb : ∀ b,b ≠ l → b < w.heap.size → w'.heap[b]? = w.heap[b]?) : Step n w0 S0 μ0 H0 w' S μ H :=
 ⟨h1.trans h.os,h2.trans h.tape,h3.trans h.output,Nat.le_trans h.size h4,fun b hb1 hn=>(hb b (by omega) (Nat.lt_of_lt_of_le hb1 h.size)).trans (h.block b hb1 hn),h.still,h.objs,h.old,h.mine⟩
theorem Step.keeps (h : Step n w S μ H w' S' μ' H') (hr : Rel w S μ H) {b : Nat} {o : Obj} (hb : w.heap[b]? = some o) (ho : ∀ cs t p,o ≠ .cells cs t p) : w'.heap[b]? = some o :=
 (h.block b (Array.getElem?_eq_some_iff.1 hb).1 ((NoCells.of hb ho).own hr)).trans hb
theorem putObj_other (w : World) (l : Nat) (o : Obj) : ∀ b,b ≠ l → b < w.heap.size → (w.putObj l o).heap[b]? = w.heap[b]? := fun b hb _=>World.putObj_heap_other hb
theorem putObj_size (w : World) (l : Nat) (o : Obj) : (w.putObj l o).heap.size = w.heap.size := by simp [World.putObj]
theorem alloc_other (w : World) (o : Obj) : ∀ b,b ≠ w.heap.size → b < w.heap.size → (w.alloc o).heap[b]? = w.heap[b]? := fun b _ hb=>Below.heap_alloc _ _ _ hb
theorem fresh_nc (w : World) : NoCells w w.heap.size := fun cs t p e=>by rw [Array.getElem?_eq_none (Nat.le_refl _)] at e;cases e
theorem Step.swap {l : Nat} {A o : Obj} (hr : Rel w S μ H) (h : Step n (w.putObj l A) S μ H w' S' μ' H') (hl : w.heap[l]? = some o) (ho : ∀ cs t p,o ≠ .cells cs t p) : Step n w S μ H (w'.putObj l o) S' μ' H' := by
 have hs := h.size
 rw [putObj_size] at hs
 have hll := (Array.getElem?_eq_some_iff.1 hl).1
 refine ⟨h.os,h.tape,h.output,by rw [putObj_size];exact hs,fun b hb hn=>?_,h.still,h.objs,fun b j x q hb=>h.old b j x q (by rw [putObj_size];exact hb),fun b q hb=>h.mine b q (by rw [putObj_size];exact hb)⟩
 rcases Nat.decEq b l with e|e
 ·rw [World.putObj_heap_other e,h.block b (by rw [putObj_size];exact hb) hn,World.putObj_heap_other e]
 ·subst e
  rw [World.putObj_heap_same (Nat.lt_of_lt_of_le hll hs),hl]
def jumpOf : Exit → Option Code
 |.ret=>some .ret
 |.exit id=>some (.exit id)
 |_=>none
def setPs : List Nat → List AV → Tm → Tm
 |p :: ps,x :: xs,T=>setPs ps xs ((p,x) :: T)
 |_,_,T=>T
theorem setPs_nil {xs : List AV} {T : Tm} : setPs [] xs T = T := by cases xs <;> rfl
theorem fr_setPs {N : FS} {df : List Deferred} : ∀ {ps : List Nat} {xs : List AV} {vs : List Value} {T : Tm} {tm : Array Value},Fr S μ N T ⟨tm,df⟩ → (∀ p ∈ ps,p < N.n) → vs.length = xs.length → (∀ (j : Nat) (x : AV) (v : Value),xs[j]? = some x → vs[j]? = some v → rep S μ x v) →
  Fr S μ N (setPs ps xs T) ⟨(ps.zip vs).foldl (fun tmps p=>tmps.setIfInBounds p.1 p.2) tm,df⟩
 |[],xs,vs,T,tm,h,_,_,_=>by rw [setPs_nil];exact h
 |p :: ps,[],vs,T,tm,h,_,hl,_=>by
  have : vs = [] := List.eq_nil_of_length_eq_zero hl
  subst this
  exact h
 |p :: ps,x :: xs,[],T,tm,h,_,hl,_=>by cases hl
 |p :: ps,x :: xs,v :: vs,T,tm,h,hp,hl,hv=>by
  have h1 := h.put (some p) (fun i e=>by cases e;exact hp p (List.mem_cons_self ..)) (hv 0 x v rfl rfl)
  exact fr_setPs (ps := ps) h1 (fun q hq=>hp q (List.mem_cons_of_mem _ hq)) (by simpa using hl) fun j y u hy hu=>hv (j + 1) y u hy hu
def YPost (l : Nat) (r : Loop) (w : World) (S : SS) (μ : List Value) (H : List AObj) (Q : Exit → List AObj → Prop) (e : Ending) (w' : World) : Prop :=
 ∃ w2 S' μ' H' x,Q x H' ∧ Rel w2 S' μ' H' ∧ Step H.length w S μ H w2 S' μ' H' ∧ w2.heap[l]? = some (.loop r) ∧ ((x = .normal ∧ e = .returned (.bool true) ∧ w' = w2) ∨ (∃ c,jumpOf x = some c ∧ e = .returned (.bool false) ∧ w' = w2.putObj l (.loop { r with state := .done,pending := some c })))
theorem round_at {l fn D N : Nat} {tm : Array Value} {ps : List Nat} {assign body : Code} {T : Tm} {xs : List AV} {vs : List Value} {Q : Exit → ASt → Prop} {Q' : Exit → List AObj → Prop}
  (hr : Rel w S μ H) (hf : Fr S μ (F0 N) T ⟨tm,[]⟩) (hg : GOk G S) (hp : ∀ p ∈ ps,p < N) (hl : w.heap[l]? = some (.loop ⟨.ready,none,fn,tm,ps.toArray,assign,body,D⟩)) (h1 : vs.length = xs.length) (h2 : xs.length = ps.length)
  (hv : ∀ (j : Nat) (x : AV) (v : Value),xs[j]? = some x → vs[j]? = some v → rep S μ x v)
  (ha : AWi (some l) d P G (F0 N) H.length assign (thenA (AWi (some l) d P G (F0 N) H.length body Q) fun _ _=>False) ⟨H,setPs ps xs T⟩)
  (hQ : ∀ x s,Q x s → (x = .normal ∨ ∃ c,jumpOf x = some c) ∧ ∃ H',HLe s.H H' ∧ H'.all (ltO H'.length) = true ∧ H.length ≤ H'.length ∧ Q' x H') :
  YieldAt Fence.wide d P l vs.toArray w (YPost l ⟨.ready,none,fn,tm,ps.toArray,assign,body,D⟩ w S μ H Q') := by
 have hnl : ∀ r cs t p,(Obj.loop r) ≠ .cells cs t p := fun _ _ _ _ e=>by cases e
 refine ⟨fn,(ps.zip vs).foldl (fun tmps p=>tmps.setIfInBounds p.1 p.2) tm,assign,body,?_,roundIn_of_wpIn trivial ?_⟩
 ·have := run_yield (P := P) (args := vs.toArray) hl (by simp [h1,h2])
  rw [this]
  simp [← Array.foldl_toList,Array.toList_zip]
 ·have hfr := fr_setPs hf hp h1 hv
  refine wpIn_mono (ha w S μ _ hr hfr hg) ?_
  rintro e a1 w1 ⟨s1,S1,μ1,hq1,hr1,hf1,hs1⟩
  cases e with
  |normal =>
   have hl1 := hs1.keeps hr hl (hnl _)
   have hll1 := (Array.getElem?_eq_some_iff.1 hl1).1
   refine ⟨_,run_beginRound hl1 rfl,?_⟩
   have hr1' : Rel (w1.putObj l (.loop ⟨.busy,none,fn,tm,ps.toArray,assign,body,D⟩)) S1 μ1 s1.H := hr1.touch l (NoCells.of hl1 (hnl _)) (putObj_other _ _ _)
   have hq1 : AWi (some l) d P G (F0 N) H.length body Q s1 := hq1
   refine wpIn_mono (hq1 _ S1 μ1 a1 hr1' hf1 (hg.ext hs1.still)) ?_
   rintro e2 a2 w3 ⟨s3,S3,μ3,hq3,hr3,hf3,hs3⟩
   obtain ⟨hx,H',hle,hlt,hn,hQ'⟩ := hQ e2 s3 hq3
   have hlb : (w1.putObj l (.loop ⟨.busy,none,fn,tm,ps.toArray,assign,body,D⟩)).heap[l]? = some (.loop ⟨.busy,none,fn,tm,ps.toArray,assign,body,D⟩) := World.putObj_heap_same hll1
   have hl3 := hs3.keeps hr1' hlb (hnl _)
   have hll3 := (Array.getElem?_eq_some_iff.1 hl3).1
   have hst : Step H.length w S μ H (w3.putObj l (.loop ⟨.ready,none,fn,tm,ps.toArray,assign,body,D⟩)) S3 (μ3.take H'.length) H' :=
    (hs1.trans (Step.swap hr1 hs3 hl1 (hnl _))).trans (Le.step (s := s3) (s' := ⟨H',[]⟩) ⟨hle,hlt,trivial⟩ hn _ _ _)
   have hrl : Rel (w3.putObj l (.loop ⟨.ready,none,fn,tm,ps.toArray,assign,body,D⟩)) S3 (μ3.take H'.length) H' :=
    (hr3.touch l (NoCells.of hl3 (hnl _)) (putObj_other _ _ _)).le hle hlt
   have hpp : ∀ o o' : Obj,(w3.putObj l o).putObj l o' = w3.putObj l o' := fun o o'=>by
    unfold World.putObj
    simp [Array.setIfInBounds_setIfInBounds]
   cases e2 with
   |normal =>
    refine ⟨_,_,run_endRound none hl3,_,S3,_,H', .normal,hQ',hrl,hst,World.putObj_heap_same hll3, .inl ⟨rfl,rfl,rfl⟩⟩
   |ret =>
    refine ⟨_,_,run_endRound (some .ret) hl3,_,S3,_,H', .ret,hQ',hrl,hst,World.putObj_heap_same hll3, .inr ⟨_,rfl,rfl,?_⟩⟩
    rw [hpp];rfl
   |exit id =>
    refine ⟨_,_,run_endRound (some (.exit id)) hl3,_,S3,_,H', .exit id,hQ',hrl,hst,World.putObj_heap_same hll3, .inr ⟨_,rfl,rfl,?_⟩⟩
    rw [hpp];rfl
   |goto t=>rcases hx with q|⟨c,q⟩ <;> cases q
   |panic ch=>rcases hx with q|⟨c,q⟩ <;> cases q
   |outgrown=>rcases hx with q|⟨c,q⟩ <;> cases q
  |exit id=>exact hq1.elim
  |goto l=>exact hq1.elim
  |ret=>exact hq1.elim
  |panic ch=>exact hq1.elim
  |outgrown=>exact hq1.elim
end
end Go.Proofs.YtoeajbhlkccekaaDoor

namespace Go.Proofs.YtoeajbhlkccekaaDoor
open Go.RowKit
section
variable {P : Program} {G : Gl} {n d : Nat} {w w' w0 : World} {S S' S0 : SS} {μ μ' μ0 : List Value} {H H' H0 : List AObj}
def IPost (l : Nat) (r : Loop) (w : World) (S : SS) (μ : List Value) (H : List AObj) (Q : Exit → List AObj → Prop) (w' : World) : Prop :=
 ∃ w2 S' μ' H' x,Q x H' ∧ Rel w2 S' μ' H' ∧ Step H.length w S μ H w2 S' μ' H' ∧ w2.heap[l]? = some (.loop r) ∧ ((x = .normal ∧ w' = w2) ∨ (∃ c,jumpOf x = some c ∧ w' = w2.putObj l (.loop { r with state := .done,pending := some c })))
def RPost (N : Nat) (T : Tm) (w : World) (S : SS) (μ : List Value) (H : List AObj) (Q : Exit → List AObj → Prop) (e : Exit) (a' : Act) (w' : World) : Prop :=
 ∃ S' μ' H',Q e H' ∧ Rel w' S' μ' H' ∧ Step H.length w S μ H w' S' μ' H' ∧ Fr S' μ' ⟨N,[⟨.collected w.heap.size,#[]⟩]⟩ T a' ∧ w'.heap[w.heap.size]? = some (.deferred (some [])) ∧ w.heap.size < w'.heap.size
theorem rep0_rep {x : AV} {v : Value} (h : rep0 S μ x v) : rep S μ x v := by
 match x,h with
 |.nil,_=>trivial
 |.held (.inl u),h=>exact h
 |.held (.inr (.inl (i,o))),h=>exact h
 |.ptr d,h=>exact h
theorem range_law {g : Operand} {ps : List Nat} {assign body : Code} {a : Act} {N : Nat} {T : Tm} {f : FuncId} {caps : List AV} {q2 : Nat} {Q : Exit → List AObj → Prop}
    (hr : Rel w S μ H) (hf : Fr S μ (F0 N) T a) (hg : GOk G S) (hgv : ev G T g = .slice caps [.held (.inl (.func (.func f) #[] #[])), .held (.inr (.inl (0, q2)))]) (hc : callIs P f = true)
    (hit : ∀ (l D fn : Nat) (w1 : World) (us : List Value), Rel w1 S μ H → w1.heap[l]? = some (.loop ⟨.ready, none, fn, a.tmps, ps.toArray, assign, body, D⟩) → us.length = caps.length → (∀ (j : Nat) (x : AV) (u : Value), caps[j]? = some x → us[j]? = some u → rep S μ x u) →
      CallsIn Fence.wide d P f (.func (.yield l) #[] #[] :: us).toArray w1 fun e w' => ∃ v, e = .returned v ∧ IPost l ⟨.ready, none, fn, a.tmps, ps.toArray, assign, body, D⟩ w1 S μ H Q w') :
    (Code.rangeFunc g ps.toArray assign body).wpIn Fence.wide (d + 1) P (RPost N T w S μ H Q) a w := by
  have hnl : ∀ r cs t p, (Obj.loop r) ≠ .cells cs t p := fun _ _ _ _ e => by cases e
  have hnd : ∀ r cs t p, (Obj.deferred r) ≠ .cells cs t p := fun _ _ _ _ e => by cases e
  have hro : Fence.wide.round = none := rfl
  have hv := hf.ev hg g
  rw [hgv] at hv
  obtain ⟨us, hu, hul, hur⟩ := hv
  have hu : a.eval g = .func (.func f) #[] us.toArray := by rw [hu]; simp
  refine wpIn_rangeFunc ?_
  intro fn hfn
  rw [hro]
  obtain ⟨wa, hwa⟩ : ∃ wa, w.alloc (.deferred (some [])) = wa := ⟨_, rfl⟩
  have hsa : wa.heap.size = w.heap.size + 1 := by rw [← hwa]; simp
  obtain ⟨r, hrr⟩ : ∃ r : Loop, (⟨.ready, none, fn, a.tmps, ps.toArray, assign, body, w.heap.size⟩ : Loop) = r := ⟨_, rfl⟩
  obtain ⟨w1, hw1⟩ : ∃ w1, wa.alloc (.loop r) = w1 := ⟨_, rfl⟩
  have hs1 : w1.heap.size = w.heap.size + 2 := by rw [← hw1]; simp [hsa]
  have hra : Rel wa S μ H := by rw [← hwa]; exact hr.touch _ (fresh_nc w) (alloc_other w _)
  have hr1 : Rel w1 S μ H := by rw [← hw1]; exact hra.touch _ (fresh_nc wa) (alloc_other wa _)
  have hst1 : Step H.length w S μ H w1 S μ H := by
    have h1 : Step H.length w S μ H wa S μ H := by rw [← hwa]; exact (Step.refl _ w S μ H).touch (Nat.le_refl _) rfl rfl rfl (by simp) (alloc_other w _)
    rw [← hw1]
    exact h1.touch (l := wa.heap.size) (by omega) rfl rfl rfl (by simp) (alloc_other wa _)
  have hl1 : w1.heap[w.heap.size + 1]? = some (.loop r) := by rw [← hw1, ← hsa]; exact World.alloc_heap_new wa _
  have hD1 : w1.heap[w.heap.size]? = some (.deferred (some [])) := by
    rw [← hw1, alloc_other wa _ _ (by omega) (by omega), ← hwa]
    exact World.alloc_heap_new w _
  have hcall := hit (w.heap.size + 1) w.heap.size fn w1 us hr1 (by rw [hrr]; exact hl1) hul fun j x u hx hu => rep0_rep (hur j x u hx hu)
  rw [hrr] at hcall
  have hcf : ∃ fnn, P.funcs[f]? = some fnn ∧ (fnn.name == "runtime.NumGoroutine") = false ∧ fnn.body.isNone = false := by
    unfold callIs at hc
    cases h : P.funcs[f]? with
    | none => rw [h] at hc; cases hc
    | some fnn =>
      rw [h] at hc
      simp only [Bool.and_eq_true, Bool.not_eq_true', Option.isSome_iff_ne_none] at hc
      obtain ⟨h1, h2⟩ := hc
      exact ⟨fnn, rfl, h1, by cases hb : fnn.body with | none => exact absurd hb h2 | some _ => rfl⟩
  obtain ⟨fnn, hf1, hf2, hf3⟩ := hcf
  refine ⟨w.heap.size + 1, [{ target := .collected w.heap.size, args := #[] }], w1, { target := .fn (.func f) us.toArray, args := #[.func (.yield (w.heap.size + 1)) #[] #[]] }, w1, f, #[.func (.yield (w.heap.size + 1)) #[] #[]] ++ us.toArray, w1, ?_, ?_, fun _ _ => trivial, ?_, fun q => (by cases q), ?_⟩
  · rw [run_enterLoop_outer, hwa, hrr, hw1]
  · simp only [resolve, rangeCall, hu, Deferred.ofValue, Sem.run_bind, Sem.run_pure, Result.andThen_ok]
    simp [Sem.run_pure, Act.eval]
  · simp only [invoke, callFunc, Sem.run_bind, Sem.run_pure, Result.andThen_ok, run_program, hf1, hf2, hf3]
    simp [Sem.run_pure]
  · have e0 : (#[.func (.yield (w.heap.size + 1)) #[] #[]] ++ us.toArray : Array Value) = (.func (.yield (w.heap.size + 1)) #[] #[] :: us).toArray := by simp
    rw [e0]
    refine CallsIn.mono hcall ?_
    rintro e w' ⟨v, rfl, w2, S', μ', H', x, hq, hr2, hs2, hl2, hx⟩
    have hst2 := hst1.trans hs2
    have hD2 := hs2.keeps hr1 hD1 (hnd _)
    have hll2 := (Array.getElem?_eq_some_iff.1 hl2).1
    have hfr : Fr S' μ' ⟨N, [⟨.collected w.heap.size, #[]⟩]⟩ T { a with defers := [{ target := .collected w.heap.size, args := #[] }] ++ a.defers } := by
      have h := hf.ext (hst2.toExt hr)
      exact ⟨h.size, by rw [h.nodef]; rfl, h.slot⟩
    have fin : ∀ o, w2.heap.size = (w2.putObj (w.heap.size + 1) o).heap.size ∧ Rel (w2.putObj (w.heap.size + 1) o) S' μ' H' ∧ Step H.length w S μ H (w2.putObj (w.heap.size + 1) o) S' μ' H' ∧ (w2.putObj (w.heap.size + 1) o).heap[w.heap.size]? = some (.deferred (some [])) := fun o =>
      ⟨(putObj_size _ _ _).symm, hr2.touch _ (NoCells.of hl2 (hnl _)) (putObj_other _ _ _), hst2.touch (l := w.heap.size + 1) (by omega) rfl rfl rfl (by rw [putObj_size]; exact Nat.le_refl _) (putObj_other _ _ _), by rw [World.putObj_heap_other (by omega)]; exact hD2⟩
    have hsz : w.heap.size < w2.heap.size := by omega
    rcases hx with ⟨rfl, rfl⟩ | ⟨c, hj, rfl⟩
    · have hend := run_endLoop (P := P) hl2 (by rw [← hrr]; simp)
      refine ⟨none, _, by rw [hend, ← hrr], ?_⟩
      rw [hrr]
      obtain ⟨f0, f1, f2, f3⟩ := fin (.loop { r with state := .exhausted })
      exact ⟨S', μ', H', hq, f1, f2, hfr, f3, by rw [← f0]; exact hsz⟩
    · have hl3 : (w2.putObj (w.heap.size + 1) (.loop { r with state := .done, pending := some c })).heap[w.heap.size + 1]? = some (.loop { r with state := .done, pending := some c }) := World.putObj_heap_same hll2
      have hend := run_endLoop (P := P) hl3 (by simp)
      refine ⟨some c, _, hend, ?_⟩
      have hpp : ∀ o o' : Obj, (w2.putObj (w.heap.size + 1) o).putObj (w.heap.size + 1) o' = w2.putObj (w.heap.size + 1) o' := fun o o' => by
        unfold World.putObj
        simp [Array.setIfInBounds_setIfInBounds]
      rw [hpp]
      obtain ⟨f0, f1, f2, f3⟩ := fin (.loop { r with state := .exhausted, pending := some c })
      cases x with
      | ret =>
        cases hj
        exact wpIn_ret ⟨S', μ', H', hq, f1, f2, hfr, f3, by rw [← f0]; exact hsz⟩
      | exit id =>
        cases hj
        exact wpIn_exit ⟨S', μ', H', hq, f1, f2, hfr, f3, by rw [← f0]; exact hsz⟩
      | normal => cases hj
      | goto t => cases hj
      | panic ch => cases hj
      | outgrown => cases hj
theorem runOps_pre {lo : Option Nat} {N : FS} {ops : Array Oper} {L : List Oper} {K : ASt → Prop} {Q : Exit → Act → World → Prop} {l2 : List Oper} {w0 : World} {S0 : SS} {μ0 : List Value} {H0 : List AObj} (hl0 : μ0.length = H0.length)
  (hK : ∀ s w S μ a,K s → Rel w S μ s.H → Fr S μ N s.T a → GOk G S → Step H0.length w0 S0 μ0 H0 w S μ s.H → wpListIn (FL lo) d P ops Q l2 a w) : ∀ (l : List Oper) (s : ASt),(l.all fun o=>o.guard.isNone) = true → runOps P G L l s K → fits N l = true →
  ∀ w S μ a,Rel w S μ s.H → Fr S μ N s.T a → GOk G S → Step H0.length w0 S0 μ0 H0 w S μ s.H → wpListIn (FL lo) d P ops Q (l ++ l2) a w
 |[],s,_,h,_,w,S,μ,a,hr,hf,hg,hs=>hK s w S μ a h hr hf hg hs
 |o :: r,s,hgu,h,hfit,w,S,μ,a,hr,hf,hg,hs=>by
  simp only [fits,List.all_cons,Bool.and_eq_true] at hfit hgu
  have hd : ∀ i,o.dst = some i → i < N := fun i e=>by have := hfit.1;rw [e] at this;simpa using this
  have hgd : o.guard = none := by simpa using hgu.1
  unfold runOps at h
  rw [hgd] at h
  dsimp only at h
  show wpListIn (FL lo) d P ops Q (o :: (r ++ l2)) a w
  unfold wpListIn
  rw [if_pos (by simp [Region.wanted,hgd])]
  refine op_in (stepOp_nodef h) (_root_.Go.Proofs.YtoeajbhlkccekaaDoor.Oper.wp_next (stepOp_wp h hr hf hg Q) fun a' w'=>?_)
  rintro ⟨x,u,H',S',μ',hrest,rfl,hrep,hr',hs',_⟩
  have hst := (hf.ext (hs'.toExt hr)).put o.dst hd hrep
  have hn' : H0.length ≤ s.H.length := by
   have := hs.objs
   rcases Nat.lt_or_ge s.H.length H0.length with hlt|hge
   ·have hlm : s.H.length < μ0.length := by omega
    obtain ⟨x',hx',_⟩ := hs.objs s.H.length μ0[s.H.length] hlt (List.getElem?_eq_getElem hlm)
    have := (List.getElem?_eq_some_iff.1 hx').1
    rw [hr.len] at this;omega
   ·exact hge
  exact runOps_pre hl0 hK r _ hgu.2 hrest hfit.2 w' S' μ' _ hr' hst (hg.ext hs'.still) (hs.trans (hs'.less hn'))
theorem exec_region {R : Type} {E : Env} {M : Nat} {N : FS} (hE : EnvOk P G E) (hp : E.any isPan = false) {r : R} {id : Nat} {ops : List Oper} {h : Hint} {s : ASt} {k : KO R} (hx : exec P G E M N (.region id ops.toArray false) h s k = some r) :
  fits N ops = true ∧ runOps P G ops ops s (Aft (fun s=>k .normal s) r) := by
 obtain ⟨h1,h2⟩ := whenE_some (show whenE (fits N ops) (match panQ E ops with
  |true=>runP P G E ops s (fun s=>k .normal s) (fun u s=>k (.panic (pch u)) s)
  |false=>runE P G E false ops [] ops s fun s=>k .normal s) = some r from hx)
 have hq : panQ E ops = false := by unfold panQ;rw [hp];rfl
 rw [hq] at h2
 exact ⟨h1,runE_ok hE (TEq.refl s.T) SkOk.nil h2⟩
def roundK (n : Nat) (H : List AObj) (X : AV) : RO := whenE (decide (n ≤ H.length) && (H.take n).all (ltO n)) (some (X,H.take n))
noncomputable abbrev rndFK (n : Nat) : KO (AV × List AObj) := fun e s=>match e with
 |.normal=>roundK n s.H (V (.bool true))
 |.ret=>roundK n s.H (V (.bool false))
 |.exit i=>roundK n s.H (V (.int .i64 i))
 |_=>none
theorem rndX (P : Program) (G : Gl) (E : Env) (M : Nat) (N : FS) (n : Nat) (c : Code) (h : Hint) (s : ASt) : exec P G E M N c h s (rndFK n) = execK P G E M N c h s (rndFK n) := (execK_eq c h s _).symm
theorem u_roundK {X : AV} : roundK n H X = whenE (decide (n ≤ H.length) && (H.take n).all (ltO n)) (some (X,H.take n)) := _root_.id rfl
attribute [go_sem] u_roundK
def xA : Exit → AV
 |.normal=>V (.bool true)
 |.ret=>V (.bool false)
 |.exit i=>V (.int .i64 i)
 |_=>.nil
theorem rnd_some {e : Exit} {s : ASt} {X : AV} (h : rndFK n e s = some (X,H')) : (e = .normal ∨ ∃ c,jumpOf e = some c) ∧ X = xA e ∧ n ≤ s.H.length ∧ H' = s.H.take n ∧ (s.H.take n).all (ltO n) = true := by
 have key : ∀ Y,roundK n s.H Y = some (X,H') → X = Y ∧ n ≤ s.H.length ∧ H' = s.H.take n ∧ (s.H.take n).all (ltO n) = true := fun Y q=>by
  obtain ⟨h1,h2⟩ := whenE_some q
  simp only [Bool.and_eq_true,decide_eq_true_eq] at h1
  cases h2
  exact ⟨rfl,h1.1,rfl,h1.2⟩
 cases e with
 |normal=>exact ⟨.inl rfl,key _ h⟩
 |ret=>exact ⟨.inr ⟨_,rfl⟩,key _ h⟩
 |exit i=>exact ⟨.inr ⟨_,rfl⟩,key _ h⟩
 |goto l=>cases h
 |panic ch=>cases h
 |outgrown=>cases h
def rfS : Code → Code|.rangeFunc _ _ a b=>.seq a b|c=>c
def regP (k : Nat) : Code → Code|.region id ops dr=>.region id (ops.toList.take k).toArray dr|c=>c
def regD (k : Nat) : Code → Code|.region id ops dr=>.region id (ops.toList.drop k).toArray dr|c=>c
theorem round_exec {E : Env} {M : Nat} (hE : EnvOk P G E) (hp : E.any isPan = false) {l fn D N : Nat} {tm : Array Value} {ps : List Nat} {id : Nat} {ops : List Oper} {body : Code} {T : Tm} {xs : List AV} {vs : List Value} {h : Hint} {X : AV}
  (hr : Rel w S μ H) (hf : Fr S μ (F0 N) T ⟨tm,[]⟩) (hg : GOk G S) (hps : ∀ p ∈ ps,p < N) (hl : w.heap[l]? = some (.loop ⟨.ready,none,fn,tm,ps.toArray, .region id ops.toArray false,body,D⟩)) (h1 : vs.length = xs.length) (h2 : xs.length = ps.length)
  (hv : ∀ (j : Nat) (x : AV) (v : Value),xs[j]? = some x → vs[j]? = some v → rep S μ x v) (hfl : flatC body = true) (hJ : h.J = none)
  (hx : exec P G E M (F0 N) (.seq (.region id ops.toArray false) body) h ⟨H,setPs ps xs T⟩ (rndFK H.length) = some (X,H')) :
  YieldAt Fence.wide d P l vs.toArray w (YPost l ⟨.ready,none,fn,tm,ps.toArray, .region id ops.toArray false,body,D⟩ w S μ H fun x H2=>X = xA x ∧ H2 = H') := by
 have hx' : exec P G E M (F0 N) (.region id ops.toArray false) h.l ⟨H,setPs ps xs T⟩ (fun e s'=>match e with|.normal=>exec P G E M (F0 N) body h.r (ghJ h.gho (joinS h.J s')) (rndFK H.length)|e=>rndFK H.length e s') = some (X,H') := hx
 obtain ⟨f1,f2⟩ := exec_region hE hp hx'
 have hgn : h.gho = none := Hint.gho_none hJ
 refine round_at (Q := fun e s=>rndFK H.length e s = some (X,H')) hr hf hg hps hl h1 h2 hv ?_ ?_
 ·have q := awi_region (lo := some l) (d := d) (n := H.length) (id := id) (s := ⟨H,setPs ps xs T⟩) (G := G) (Q := fun e s'=>e = .normal ∧ Aft (fun s'=>exec P G E M (F0 N) body h.r (ghJ h.gho (joinS h.J s')) (rndFK H.length)) (X,H') s') f1 (Nat.le_refl _) (runOps_mono (fun s q=>⟨rfl,q⟩) f2)
  refine AWi.mono (AWi.len q (Nat.le_refl _)) fun e s' q=>?_
  obtain ⟨⟨rfl,T2,ht,q⟩,hl⟩ := q
  rw [hgn,hJ] at q
  exact AWi.text ht (exec_in hE hp body h.r ⟨s'.H,T2⟩ _ hfl hl q)
 ·intro e s q
  obtain ⟨q1,q2,q3,q4,q5⟩ := rnd_some q
  have hl : (s.H.take H.length).length = H.length := by rw [List.length_take];omega
  exact ⟨q1,s.H.take H.length,HLe.take _ _,by rw [hl];exact q5,by rw [hl];exact Nat.le_refl _,q2,q4.symm⟩
theorem run_callYield {o : Oper} {a : Act} {t : Tmp} {args : Array Operand} {ts : Array TypeId} {l : Nat} {x : Next} {w' : World} {lo : Option Nat} (ho : o.op = .call { callee := .value (.tmp t),args := args,argTypes := ts }) (ht : a.eval (.tmp t) = .func (.yield l) #[] #[])
  (hy : (Instr.yield l (args.map a.eval)).run P w = .ok x w') : (Oper.semAt lo a.eval o).run P w = .ok x w' := by
 have e : Oper.semAt lo a.eval o = execOp a.eval o := by
  cases lo with
  |none=>exact Oper.semAt_none _ _
  |some l=>exact Oper.semAt_some _ _ _ (fun c q=>by rw [ho] at q;cases q)
 rw [e]
 unfold execOp
 rw [ho]
 simp only [resolve,ht,Deferred.ofValue,Sem.run_bind,Sem.run_pure,Result.andThen_ok,invoke]
 simp [hy]
theorem yield_op {o : Oper} {a : Act} {t : Tmp} {args : Array Operand} {ts : Array TypeId} {l : Nat} {R : Ending → World → Prop} {next : Act → World → Prop} {Q : Exit → Act → World → Prop} (ho : o.op = .call { callee := .value (.tmp t),args := args,argTypes := ts }) (ht : a.eval (.tmp t) = .func (.yield l) #[] #[])
  (hy : YieldAt Fence.wide (d - 1) P l (args.map a.eval) w R) (h : ∀ e w',R e w' → ∃ v,e = .returned v ∧ next (a.put o.dst v) w') : o.wpIn (FL none) d P a w next Q := by
 refine ⟨fun _ _=>trivial,?_⟩
 obtain ⟨fn,tmps,asg,bd,h1,h2⟩ := hy
 rw [run_callYield ho ht h1]
 refine ⟨fun q=>(by cases q),RoundIn.mono h2 ?_⟩
 intro e w' hR
 obtain ⟨v,rfl,hn⟩ := h e w' hR
 exact hn
end
end Go.Proofs.YtoeajbhlkccekaaDoor

namespace Go.Proofs.YtoeajbhlkccekaaDoor
open Go.RowKit
noncomputable abbrev sltK (T : Tm) (l : List Tmp) : List AV := List.rec (motive := fun _=>List AV) [] (fun t _ ih=>slotK T t :: ih) l
theorem sltK_eq (T : Tm) : ∀ l,sltK T l = l.map (get T)
 |[]=>rfl
 |t :: r=>by
  have ih := sltK_eq T r
  show slotK T t :: sltK T r = get T t :: r.map (get T)
  rw [ih,slotK_eq]
noncomputable abbrev sltFK (rs : List Tmp) : KO (AV × List AObj) := fun e s=>match e with
 |.normal=>some (TU (sltK s.T rs),s.H)
 |.ret=>some (TU (sltK s.T rs),s.H)
 |.panic ch=>chE ch fun u=>some (TU (PN u :: sltK s.T rs),s.H)
 |_=>none
noncomputable abbrev nslFK (rs : List Tmp) : KO (AV × List AObj) := fun e s=>match e with
 |.normal=>some (TU (sltK s.T rs),s.H)
 |_=>none
theorem nslX (P : Program) (G : Gl) (E : Env) (M : Nat) (N : FS) (c : Code) (h : Hint) (s : ASt) (rs : List Tmp) : exec P G E M N c h s (nslFK rs) = execK P G E M N c h s (nslFK rs) := (execK_eq c h s _).symm
theorem sltX (P : Program) (G : Gl) (E : Env) (M : Nat) (N : FS) (c : Code) (h : Hint) (s : ASt) (rs : List Tmp) : exec P G E M N c h s (sltFK rs) = execK P G E M N c h s (sltFK rs) := (execK_eq c h s _).symm
section
variable {P : Program} {G : Gl} {E : Env} {M n : Nat} {H : List AObj}
end
end Go.Proofs.YtoeajbhlkccekaaDoor

