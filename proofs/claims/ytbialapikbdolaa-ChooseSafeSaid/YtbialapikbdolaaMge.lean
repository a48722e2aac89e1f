/-
  Texts laid together, part 5 of 5: laws of a walk over data, contracts of functions, each whole by itself.
-/
import Derived.Test.YtbialapikbdolaaMgd
import Derived.Test.YtbialapikbdolaaMgc
namespace Go.Proofs.Ytbialapikbdolaa
open Go.RowKit
set_option linter.unusedVariables false
set_option linter.unusedSimpArgs false
set_option maxRecDepth 20000
attribute [local go_sem] Nat.zero_add Nat.add_zero Nat.mul_one Int.toNat_natCast Int.natCast_zero Int.cast_ofNat_Int or_false false_or or_true true_or Nat.sub_zero Int.natCast_nonneg Int.toNat_zero Bool.true_and Bool.and_true Bool.false_and Bool.and_false Bool.true_or Bool.or_true Bool.false_or Bool.or_false Bool.not_true Bool.not_false Bool.not_not true_and and_true false_and and_false not_true_eq_false not_false_eq_true eq_self decide_true decide_false ne_eq implies_true forall_const true_implies false_implies Bool.true_eq_false Bool.false_eq_true List.map_cons List.map_nil List.all_cons List.all_nil List.length_cons List.length_nil List.length_map List.length_append List.nil_append List.cons_append List.set_cons_zero List.set_cons_succ List.set_nil List.drop_zero List.drop_succ_cons List.drop_nil List.take_zero List.take_succ_cons List.take_nil Option.map_some Option.map_none Option.isSome_some List.all_append List.all_map Function.comp_def decide_eq_true_eq Bool.and_eq_true beq_self_eq_true or_self and_self ite_true ite_false Nat.le_refl Bool.not_eq_true decide_not Bool.not_eq_true' decide_eq_false_iff_not Bool.not_eq_false Bool.or_eq_true if_true if_false ite_self u_roF u_cvF u_cvC u_ceT u_ceK u_appS sm_it sm_len sm_sure sm_ltA sm_lt1 sm_all1 sm_ro sm_take sm_sl sm_set sm_noT sm_fr sm_st_fr sm_set_fr sm_kd sm_st_kd sm_set_kd sm_vw sm_st_vw sm_set_vw sm_sq sm_st_sq sm_set_sq sm_tm sm_st_tm sm_set_tm sms_ltA sms_len ce_it ce_len ce_sure ce_ltA ce_lt1 ce_all1 ce_ro ce_take ce_sl ce_set ce_noT ce_sq ce_st_sq ce_set_sq ce_vw ce_st_vw ce_set_vw ce_tm ce_st_tm ce_set_tm ce_body ce_st_body ce_set_body ce_vs ce_st_vs ce_set_vs zce_len zce_sure zce_lt1 zce_sl zce_ro zce_setz zce_set zce_setr zce_take ces_ltA ces_len cg_it cg_len cg_sure cg_ltA cg_lt1 cg_all1 cg_ro cg_take cg_sl cg_set cg_noT cg_fr cg_st_fr cg_set_fr cg_vw cg_st_vw cg_set_vw cg_st cg_st_st cg_set_st cg_rt cg_st_rt cg_set_rt cg_pf cg_st_pf cg_set_pf cg_cs cg_st_cs cg_set_cs zcg_len zcg_sure zcg_lt1 zcg_sl zcg_ro zcg_setz zcg_set zcg_setr zcg_take cgs_ltA cgs_len co_it co_len co_sure co_ltA co_lt1 co_all1 co_ro co_take co_sl co_set co_noT co_sq co_st_sq co_set_sq co_tm co_st_tm co_set_tm co_body co_st_body co_set_body co_nl co_st_nl co_set_nl zco_len zco_sure zco_lt1 zco_sl zco_ro zco_setz zco_set zco_setr zco_take cos_ltA cos_len natInt u_nthM u_bz u_bi1 u_bi2 u_bi3 u_bi4 u_bi5 u_bi6 u_bi7 ltO_o ltO_r u_eqE
attribute [local go_sem_proc] Nat.reduceAdd Nat.reduceSub Nat.reduceMul Nat.reduceLeDiff Nat.reduceLT Int.reduceEq Int.reduceNe Int.reduceLT Int.reduceLE Int.reduceAdd Int.reduceSub Int.reduceMul Int.reduceNeg Int.reduceToNat reduceCtorEq Nat.reduceEqDiff Nat.reduceBEq Nat.reduceGT
attribute [local go_sem_proc ↓] reduceIte
def l3 : List Ch := [⟨0, 0, 0, 0, [], [⟨2, 0, 5, [], []⟩]⟩, ⟨1, 0, 0, 0, [], [⟨2, 1, 6, [], []⟩]⟩, ⟨2, 0, 0, 0, [], []⟩]
abbrev nilV : AV := V (.slice none 0 0)
def ceR (a b c : Int) : AV := .agg [nA a, nA b, nA c, sA [], nilV]
def r3 : List AV := [.agg [nA 0, nA 0, nA 0, nA 0, nilV, SL [ceR 2 0 5]], .agg [nA 1, nA 0, nA 0, nA 0, nilV, SL [ceR 2 1 6]], .agg [nA 2, nA 0, nA 0, nA 0, nilV, nilV]]
theorem three_raw (m : Nat) : plenumlaw31_three m = some (SL r3, []) := by
  rw [plenumlaw31_three_eq]
  have h1 : ∀ {a c : Int} {K1 : AV → RO}, buildE (some pl_api_Cert) (some zc_api_Cert) [(0, nA a), (2, nA c)] K1 = K1 (ceR a 0 c) := _root_.id rfl
  have h2 : ∀ {a b c : Int} {K1 : AV → RO}, buildE (some pl_api_Cert) (some zc_api_Cert) [(0, nA a), (1, nA b), (2, nA c)] K1 = K1 (ceR a b c) := _root_.id rfl
  have h3 : ∀ {x : List AV} {K1 : AV → RO}, buildE (some pl_api_Change) (some zc_api_Change) [(5, SL x)] K1 = K1 (.agg [nA 0, nA 0, nA 0, nA 0, nilV, SL x]) := _root_.id rfl
  have h4 : ∀ {a : Int} {x : List AV} {K1 : AV → RO}, buildE (some pl_api_Change) (some zc_api_Change) [(0, nA a), (5, SL x)] K1 = K1 (.agg [nA a, nA 0, nA 0, nA 0, nilV, SL x]) := _root_.id rfl
  have h5 : ∀ {a : Int} {K1 : AV → RO}, buildE (some pl_api_Change) (some zc_api_Change) [(0, nA a)] K1 = K1 (.agg [nA a, nA 0, nA 0, nA 0, nilV, nilV]) := _root_.id rfl
  have h6 : ∀ {a b c : Int} {K1 : AV → RO}, buildSE (some (ty_api_Cert, 5)) 1 [(0, ceR a b c)] K1 = K1 (SL [ceR a b c]) := _root_.id rfl
  rw [h1, h6, h3, h2, h6, h4, h5]
  rfl
theorem three_c : ACp Try.prog GG 13 [] (chsA l3) := by
  have h : ACp Try.prog [] 13 [] (SL r3) := plenumlaw31_three_ok 1000 [] _ [] (three_raw 1000)
  have e : SL (r3.map (nzD 5)) = chsA l3 := rfl
  have k := acp_nz 5 h
  rw [e] at k
  exact k
def three_Q_t (m : Nat) : List AV → RO | [] => some (chsA l3, []) | _ => none
theorem three_Q_ok (m : Nat) : ∀ args X H', three_Q_t m args = some (X, H') → ACp Try.prog GG 13 args X := by
  intro args X H' h
  unfold three_Q_t at h
  split at h
  · cases h; exact three_c
  · cases h
end Go.Proofs.Ytbialapikbdolaa

namespace Go.Proofs.Ytbialapikbdolaa
open Go.RowKit
set_option linter.unusedVariables false
set_option maxRecDepth 100000
def ty_plenumlaw31_Some : TypeId := 25
noncomputable def choose_At_c : Code := (Try.f9.body).getD .skip
def choose_At_h : Hint := (.two .n (.two .n (.join [0, 2, 6] (.one (.two .n (.two (.two .n .n) (.join [0, 2, 6, 23] .n (.two (.two .n .n) .n))))) (.two .n .n))))
noncomputable def choose_At_env (m : Nat) : Env := [(8, .tell (choose_Low_t m)), (15, .tell (choose_at_t m))]
noncomputable abbrev choose_At_fin : KO (AV × List AObj) := tellFK Try.prog [.cell 6 41, .tmp 7]
noncomputable def choose_At_r2 (m : Nat) (s : ASt) : RO := joinW Try.prog GG (choose_At_env m) m ⟨37, []⟩ (cdR (cdR (cdR choose_At_c))) choose_At_h.r.r.r s (choose_At_fin)
noncomputable def choose_At_r1 (m : Nat) (s : ASt) : RO := joinW Try.prog GG (choose_At_env m) m ⟨37, []⟩ (cdR (cdR (cdR (cdL (cdL (cdR (cdR choose_At_c))))))) choose_At_h.r.r.l.c.r.r.r s (blockX 0 (seqX (fun s => choose_At_r2 m ⟨s.H, [(0, gt s.T 0), (2, gt s.T 2), (6, gt s.T 6)]⟩) (choose_At_fin)))
noncomputable def choose_At (m : Nat) (t0 t1 t2 : AV) : RO := exec Try.prog GG (choose_At_env m) m ⟨37, []⟩ choose_At_c choose_At_h ⟨[], argsT 0 [t0, t1, t2]⟩ (choose_At_fin)
theorem choose_At_r2_eq (m : Nat) (H : List AObj) (t0 t2 t6 : AV) : choose_At_r2 m ⟨H, [(0, t0), (2, t2), (6, t6)]⟩ =
  tellE (choose_at_t m [(ro H t0), (ro H t2)]) [(ro H t0), (ro H t2)] fun t36 =>
  storeE 6 H t6 t36 fun H2 =>
  loadE 6 H2 t6 fun t9000 =>
  tellK H2 (ro H2 (TU [noT t9000, noT (V (.int .i64 0))])) := by
  refine (joinW_eq Try.prog GG (choose_At_env m) m ⟨37, []⟩ (cdR (cdR (cdR choose_At_c))) choose_At_h.r.r.r ⟨H, [(0, t0), (2, t2), (6, t6)]⟩ (choose_At_fin)).trans ?_
  kernel_rfl
theorem choose_At_r1_eq (m : Nat) (H : List AObj) (t0 t2 t6 t23 : AV) : choose_At_r1 m ⟨H, [(0, t0), (2, t2), (6, t6), (23, t23)]⟩ =
  condE t23 (
   buildE (some pl_api_Choice) (some zc_api_Choice) [] fun t33 =>
   storeE 6 H t6 t33 fun H2 =>
   loadE 6 H2 t6 fun t9000 =>
   tellK H2 (ro H2 (TU [noT t9000, noT (V (.int .i64 22))]))) (
   choose_At_r2 m ⟨H, [(0, t0), (2, t2), (6, t6)]⟩) := by
  refine (joinW_eq Try.prog GG (choose_At_env m) m ⟨37, []⟩ (cdR (cdR (cdR (cdL (cdL (cdR (cdR choose_At_c))))))) choose_At_h.r.r.l.c.r.r.r ⟨H, [(0, t0), (2, t2), (6, t6), (23, t23)]⟩ (blockX 0 (seqX (fun s => choose_At_r2 m ⟨s.H, [(0, gt s.T 0), (2, gt s.T 2), (6, gt s.T 6)]⟩) (choose_At_fin)))).trans ?_
  kernel_rfl
theorem choose_At_eq (m : Nat) (t0 t1 t2 : AV) : choose_At m t0 t1 t2 =
  allocE (some zc_api_Choice) ty_api_Choice [] fun t6 H1 =>
  tellE (choose_Low m (ro H1 t0) (ro H1 t1)) [(ro H1 t0), (ro H1 t1)] fun t14 =>
  extE t14 0 fun t15 =>
  extE t14 1 fun t16 =>
  extE t14 2 fun t17 =>
  binE none false false .neq t17 (V (.int .i64 0)) fun t20 =>
  condE t20 (
   buildE (some pl_api_Choice) (some zc_api_Choice) [] fun t21 =>
   storeE 6 H1 t6 t21 fun H2 =>
   loadE 6 H2 t6 fun t9000 =>
   tellK H2 (ro H2 (TU [noT t9000, noT t17]))) (
   binE none false false .leq t2 t15 fun t26 =>
   condE t26 (
    choose_At_r1 m ⟨H1, [(0, t0), (2, t2), (6, t6), (23, (V (.bool true)))]⟩) (
    binE none false false .sub t2 t15 fun t30 =>
    binE none false false .gtr t30 (V (.int .i64 16)) fun t31 =>
    choose_At_r1 m ⟨H1, [(0, t0), (2, t2), (6, t6), (23, t31)]⟩)) := by
  refine (tellX Try.prog GG (choose_At_env m) m ⟨37, []⟩ choose_At_c choose_At_h ⟨[], argsT 0 [t0, t1, t2]⟩ [.cell 6 41, .tmp 7]).trans ?_
  kernel_rfl
noncomputable def choose_At_t (m : Nat) : List AV → RO | [t0, t1, t2] => choose_At m t0 t1 t2 | _ => none
theorem choose_At_ok (m : Nat) : ∀ args X H', choose_At_t m args = some (X, H') → ACp Try.prog GG 9 args X := by
  intro args X H' h
  unfold choose_At_t at h
  split at h
  · exact tell_okK MIX (by
    intro f e h
    simp only [choose_At_env, Prod.mk.injEq, List.mem_cons, List.not_mem_nil, or_false] at h
    rcases h with ⟨rfl, rfl⟩ | ⟨rfl, rfl⟩
    · exact choose_Low_ok m
    · exact choose_at_ok m) (f := 9) (c := choose_At_c) Try.func9 rfl (by kernel_rfl) _ rfl Try.ntmps9 (Nat.le_of_ble_eq_true rfl) choose_At_h h
  · cases h
noncomputable def plenumlaw31_awake_c : Code := (Try.f7.body).getD .skip
def plenumlaw31_awake_h : Hint := (.two .n (.two .n (.two .n (.two .n (.two .n .n)))))
noncomputable def plenumlaw31_awake_env (m : Nat) : Env := [(13, .tell (three_Q_t m)), (12, .tell (choose_Choices_t m)), (8, .tell (choose_Low_t m)), (9, .tell (choose_At_t m))]
noncomputable abbrev plenumlaw31_awake_fin : KO (AV × List AObj) := tellFK Try.prog [.tmp 0]
noncomputable def plenumlaw31_awake (m : Nat) : RO := exec Try.prog GG (plenumlaw31_awake_env m) m ⟨57, []⟩ plenumlaw31_awake_c plenumlaw31_awake_h ⟨[], argsT 0 []⟩ (plenumlaw31_awake_fin)
theorem plenumlaw31_awake_eq (m : Nat) : plenumlaw31_awake m =
  tellE (three_Q_t m []) [] fun t9 =>
  tellE (choose_Choices_t m [(ro [] t9), (V (.int .i64 4))]) [(ro [] t9), (V (.int .i64 4))] fun t10 =>
  extE t10 0 fun t11 =>
  extE t10 1 fun t12 =>
  tellE (three_Q_t m []) [] fun t14 =>
  tellE (choose_Low m (ro [] t14) (V (.int .i64 4))) [(ro [] t14), (V (.int .i64 4))] fun t15 =>
  extE t15 0 fun t16 =>
  extE t15 1 fun t17 =>
  extE t15 2 fun t18 =>
  tellE (three_Q_t m []) [] fun t20 =>
  tellE (choose_At m (ro [] t20) (V (.int .i64 4)) (V (.int .i64 17))) [(ro [] t20), (V (.int .i64 4)), (V (.int .i64 17))] fun t21 =>
  extE t21 0 fun t22 =>
  extE t21 1 fun t23 =>
  allocE (some zc_api_Choice) ty_api_Choice [] fun t6 H1 =>
  storeE 6 H1 t6 t22 fun H2 =>
  lenE false true H2 t11 fun t25 =>
  binE none false false .eql t25 (V (.int .i64 2)) fun t26 =>
  condE t26 (
   idxSE 6 H2 t11 (V (.int .i64 0)) fun t29 =>
   loadE 6 H2 t29 fun t30 =>
   buildE (some pl_api_Choice) (some zc_api_Choice) [(0, (V (.int .i64 1))), (3, (V (.bool true)))] fun t31 =>
   binE (some [.i .i64, .i .i64, .s, .b]) false false .eql t30 t31 fun t32 =>
   condE t32 (
   idxSE 6 H2 t11 (V (.int .i64 1)) fun t36 =>
   loadE 6 H2 t36 fun t37 =>
   buildE (some pl_api_Choice) (some zc_api_Choice) [(0, (V (.int .i64 2))), (1, (V (.int .i64 6)))] fun t38 =>
   binE (some [.i .i64, .i .i64, .s, .b]) false false .eql t37 t38 fun t39 =>
   condE t39 (
   binE none false false .eql t12 (V (.int .i64 0)) fun t43 =>
   condE t43 (
   binE none false false .eql t16 (V (.int .i64 0)) fun t47 =>
   condE t47 (
   binE none false false .eql t18 (V (.int .i64 0)) fun t51 =>
   condE t51 (
   binE none false false .eql t23 (V (.int .i64 22)) fun t55 =>
   tellK H2 (ro H2 t55)) (
   tellK H2 (ro H2 (V (.bool false))))) (
   tellK H2 (ro H2 (V (.bool false))))) (
   tellK H2 (ro H2 (V (.bool false))))) (
   tellK H2 (ro H2 (V (.bool false))))) (
   tellK H2 (ro H2 (V (.bool false))))) (
   tellK H2 (ro H2 (V (.bool false)))) := by
  refine (tellX Try.prog GG (plenumlaw31_awake_env m) m ⟨57, []⟩ plenumlaw31_awake_c plenumlaw31_awake_h ⟨[], argsT 0 []⟩ [.tmp 0]).trans ?_
  kernel_rfl
noncomputable def plenumlaw31_awake_t (m : Nat) : List AV → RO | [] => plenumlaw31_awake m | _ => none
theorem plenumlaw31_awake_ok (m : Nat) : ∀ args X H', plenumlaw31_awake_t m args = some (X, H') → ACp Try.prog GG 7 args X := by
  intro args X H' h
  unfold plenumlaw31_awake_t at h
  split at h
  · exact tell_okK MIX (by
    intro f e h
    simp only [plenumlaw31_awake_env, Prod.mk.injEq, List.mem_cons, List.not_mem_nil, or_false] at h
    rcases h with ⟨rfl, rfl⟩ | ⟨rfl, rfl⟩ | ⟨rfl, rfl⟩ | ⟨rfl, rfl⟩
    · exact three_Q_ok m
    · exact choose_Choices_ok m
    · exact choose_Low_ok m
    · exact choose_At_ok m) (f := 7) (c := plenumlaw31_awake_c) Try.func7 rfl (by kernel_rfl) _ rfl Try.ntmps7 (Nat.le_of_ble_eq_true rfl) plenumlaw31_awake_h h
  · cases h
noncomputable def plenumlaw31_ChooseSafe_c : Code := (Try.f3.body).getD .skip
def plenumlaw31_ChooseSafe_h : Hint := (.two .n (.two .n (.two .n (.join [3, 4, 5, 6, 7] (.join [3, 4, 5, 6, 7, 41] .n (.two (.two .n .n) .n)) (.two .n (.join [3, 4, 5, 6, 7, 8, 9, 10, 11, 12] (.two .n (.one (.lp [] [3, 4, 5, 6, 7, 8, 9, 10, 11, 12, 13] [3, 4, 5, 6, 7, 8, 9, 10, 11, 12] (.two (.two .n (.two .n .n)) (.join [3, 4, 5, 6, 7, 8, 9, 10, 11, 12, 13] (.one (.two .n (.one (.lp [] [3, 4, 5, 6, 7, 8, 9, 10, 11, 12, 13, 14] [3, 4, 5, 6, 7, 8, 9, 10, 11, 12, 13] (.two (.two .n (.two .n .n)) (.join [3, 4, 5, 6, 7, 8, 9, 10, 11, 12, 13, 14] (.one (.two .n (.two (.two .n (.two .n .n)) (.join [3, 4, 5, 6, 7, 8, 9, 10, 11, 12, 13, 14, 15] (.two .n (.two .n .n)) (.two .n (.two (.two .n .n) .n)))))) .n)))))) .n))))) (.two .n (.join [3, 4, 5, 8, 9, 10, 11, 12, 16] (.two .n (.one (.lp [(16, ty_api_Change, 6)] [3, 4, 5, 6, 7, 8, 9, 10, 11, 12, 16, 17] [3, 4, 5, 8, 9, 10, 11, 12, 16] (.two (.two .n (.two .n .n)) (.join [3, 4, 5, 6, 7, 8, 9, 10, 11, 12, 16, 17] (.one (.join [3, 4, 5, 6, 7, 8, 9, 10, 11, 12, 16, 17, 125] .n (.two .n .n))) .n))))) (.two .n (.two .n (.two (.two .n (.two (.two .n .n) .n)) (.join [5, 9, 10, 21, 22] (.join [5, 9, 10, 21, 22, 174] .n (.two (.two .n .n) .n)) (.two .n .n)))))))))))))
noncomputable def plenumlaw31_ChooseSafe_env (m : Nat) : Env := [(4, .tell (plenumlaw31_Few_t m)), (5, .tell (plenumref05_Faults_t m)), (6, .tell (plenumref31_May_t m)), (7, .tell (plenumlaw31_awake_t m)), (8, .tell (choose_Low_t m)), (9, .tell (choose_At_t m))]
noncomputable abbrev plenumlaw31_ChooseSafe_fin : KO (AV × List AObj) := tellFK Try.prog [.tmp 2]
noncomputable def plenumlaw31_ChooseSafe_r12 (m : Nat) (s : ASt) : RO := joinW Try.prog GG (plenumlaw31_ChooseSafe_env m) m ⟨189, []⟩ (cdR (cdR (cdR (cdR (cdR (cdR (cdR (cdR (cdR (cdR (cdR (cdR plenumlaw31_ChooseSafe_c)))))))))))) plenumlaw31_ChooseSafe_h.r.r.r.r.r.r.r.r.r.r.r.r s (plenumlaw31_ChooseSafe_fin)
noncomputable def plenumlaw31_ChooseSafe_r11 (m : Nat) (n0 : Nat) (kc : ASt → RO) (kx : KO (AV × List AObj)) (s : ASt) : RO := joinW Try.prog GG (plenumlaw31_ChooseSafe_env m) m ⟨189, []⟩ (cdR (cdR (cdL (cdL (cdR (cdL (cdR (cdR (cdR (cdR (cdR (cdR (cdR plenumlaw31_ChooseSafe_c))))))))))))) plenumlaw31_ChooseSafe_h.r.r.r.r.r.r.r.l.r.c.c.r.r s (backW n0 [3, 4, 5, 6, 7, 8, 9, 10, 11, 12, 16, 17] [3, 4, 5, 8, 9, 10, 11, 12, 16] kc kx)
noncomputable def plenumlaw31_ChooseSafe_r10 (m : Nat) (s : ASt) : RO := joinW Try.prog GG (plenumlaw31_ChooseSafe_env m) m ⟨189, []⟩ (cdR (cdL (cdR (cdR (cdR (cdR (cdR (cdR (cdR (cdR (cdR (cdR (cdR plenumlaw31_ChooseSafe_c))))))))))))) plenumlaw31_ChooseSafe_h.r.r.r.r.r.r.r.r.r.r.r.l.r s (seqX (fun s => plenumlaw31_ChooseSafe_r12 m ⟨s.H, [(5, gt s.T 5), (9, gt s.T 9), (10, gt s.T 10), (21, gt s.T 21), (22, gt s.T 22)]⟩) (plenumlaw31_ChooseSafe_fin))
noncomputable def plenumlaw31_ChooseSafe_r9 (m : Nat) (n0 : Nat) (kc : ASt → RO) (kx : KO (AV × List AObj)) (s : ASt) : RO := joinW Try.prog GG (plenumlaw31_ChooseSafe_env m) m ⟨189, []⟩ (cdR (cdR (cdL (cdL (cdR (cdL (cdL (cdR (cdL (cdL (cdR (cdL (cdR (cdR (cdR (cdR (cdR plenumlaw31_ChooseSafe_c))))))))))))))))) plenumlaw31_ChooseSafe_h.r.r.r.r.r.l.r.c.c.r.l.c.r.c.c.r.r s (backW n0 [3, 4, 5, 6, 7, 8, 9, 10, 11, 12, 13, 14] [3, 4, 5, 6, 7, 8, 9, 10, 11, 12, 13] kc kx)
noncomputable def plenumlaw31_ChooseSafe_r8 (m : Nat) (n0 : Nat) (kc : ASt → RO) (kx : KO (AV × List AObj)) (s : ASt) : RO := joinW Try.prog GG (plenumlaw31_ChooseSafe_env m) m ⟨189, []⟩ (cdR (cdL (cdL (cdR (cdL (cdL (cdR (cdL (cdR (cdR (cdR (cdR (cdR (cdR (cdR plenumlaw31_ChooseSafe_c))))))))))))))) plenumlaw31_ChooseSafe_h.r.r.r.r.r.r.r.l.r.c.c.r.l.c.r s (blockX 5 (seqX (fun s => plenumlaw31_ChooseSafe_r11 m n0 kc kx ⟨s.H, [(3, gt s.T 3), (4, gt s.T 4), (5, gt s.T 5), (6, gt s.T 6), (7, gt s.T 7), (8, gt s.T 8), (9, gt s.T 9), (10, gt s.T 10), (11, gt s.T 11), (12, gt s.T 12), (16, gt s.T 16), (17, gt s.T 17)]⟩) (backW n0 [3, 4, 5, 6, 7, 8, 9, 10, 11, 12, 16, 17] [3, 4, 5, 8, 9, 10, 11, 12, 16] kc kx)))
noncomputable def plenumlaw31_ChooseSafe_r7 (m : Nat) (s : ASt) : RO := joinW Try.prog GG (plenumlaw31_ChooseSafe_env m) m ⟨189, []⟩ (cdR (cdR (cdR (cdR (cdR (cdR (cdR (cdR plenumlaw31_ChooseSafe_c)))))))) plenumlaw31_ChooseSafe_h.r.r.r.r.r.r.r.r s (plenumlaw31_ChooseSafe_fin)
noncomputable def plenumlaw31_ChooseSafe_r6 (m : Nat) (n0 : Nat) (kc : ASt → RO) (kx : KO (AV × List AObj)) (s : ASt) : RO := joinW Try.prog GG (plenumlaw31_ChooseSafe_env m) m ⟨189, []⟩ (cdR (cdR (cdR (cdL (cdL (cdR (cdL (cdL (cdR (cdL (cdL (cdR (cdL (cdL (cdR (cdL (cdR (cdR (cdR (cdR (cdR plenumlaw31_ChooseSafe_c))))))))))))))))))))) plenumlaw31_ChooseSafe_h.r.r.r.r.r.l.r.c.c.r.l.c.r.c.c.r.l.c.r.r.r s (blockX 3 (seqX (fun s => plenumlaw31_ChooseSafe_r9 m n0 kc kx ⟨s.H, [(3, gt s.T 3), (4, gt s.T 4), (5, gt s.T 5), (6, gt s.T 6), (7, gt s.T 7), (8, gt s.T 8), (9, gt s.T 9), (10, gt s.T 10), (11, gt s.T 11), (12, gt s.T 12), (13, gt s.T 13), (14, gt s.T 14)]⟩) (backW n0 [3, 4, 5, 6, 7, 8, 9, 10, 11, 12, 13, 14] [3, 4, 5, 6, 7, 8, 9, 10, 11, 12, 13] kc kx)))
noncomputable def plenumlaw31_ChooseSafe_r5 (m : Nat) (n0 : Nat) (kc : ASt → RO) (kx : KO (AV × List AObj)) (s : ASt) : RO := joinW Try.prog GG (plenumlaw31_ChooseSafe_env m) m ⟨189, []⟩ (cdR (cdR (cdL (cdL (cdR (cdL (cdL (cdR (cdL (cdL (cdR (cdL (cdR (cdR (cdR (cdR (cdR plenumlaw31_ChooseSafe_c))))))))))))))))) plenumlaw31_ChooseSafe_h.r.r.r.r.r.l.r.c.c.r.l.c.r.c.c.r.r s (backW n0 [3, 4, 5, 6, 7, 8, 9, 10, 11, 12, 13, 14] [3, 4, 5, 6, 7, 8, 9, 10, 11, 12, 13] kc kx)
noncomputable def plenumlaw31_ChooseSafe_r4 (m : Nat) (n0 : Nat) (kc : ASt → RO) (kx : KO (AV × List AObj)) (s : ASt) : RO := joinW Try.prog GG (plenumlaw31_ChooseSafe_env m) m ⟨189, []⟩ (cdR (cdR (cdL (cdL (cdR (cdL (cdR (cdR (cdR (cdR (cdR plenumlaw31_ChooseSafe_c))))))))))) plenumlaw31_ChooseSafe_h.r.r.r.r.r.l.r.c.c.r.r s (backW n0 [3, 4, 5, 6, 7, 8, 9, 10, 11, 12, 13] [3, 4, 5, 6, 7, 8, 9, 10, 11, 12] kc kx)
noncomputable def plenumlaw31_ChooseSafe_b3 (m : Nat) (s : ASt) (kc : ASt → RO) (kx : KO (AV × List AObj)) : RO := bodyW Try.prog GG (plenumlaw31_ChooseSafe_env m) m ⟨189, []⟩ (cdL (cdL (cdR (cdL (cdR (cdR (cdR (cdR (cdR (cdR (cdR plenumlaw31_ChooseSafe_c))))))))))) plenumlaw31_ChooseSafe_h.r.r.r.r.r.r.r.l.r.c.c [3, 4, 5, 6, 7, 8, 9, 10, 11, 12, 16, 17] [3, 4, 5, 8, 9, 10, 11, 12, 16] s kc kx
noncomputable def plenumlaw31_ChooseSafe_r3 (m : Nat) (s : ASt) : RO := joinW Try.prog GG (plenumlaw31_ChooseSafe_env m) m ⟨189, []⟩ (cdR (cdR (cdR (cdR (cdR (cdR plenumlaw31_ChooseSafe_c)))))) plenumlaw31_ChooseSafe_h.r.r.r.r.r.r s (plenumlaw31_ChooseSafe_fin)
noncomputable def plenumlaw31_ChooseSafe_b2 (m : Nat) (s : ASt) (kc : ASt → RO) (kx : KO (AV × List AObj)) : RO := bodyW Try.prog GG (plenumlaw31_ChooseSafe_env m) m ⟨189, []⟩ (cdL (cdL (cdR (cdL (cdL (cdR (cdL (cdL (cdR (cdL (cdR (cdR (cdR (cdR (cdR plenumlaw31_ChooseSafe_c))))))))))))))) plenumlaw31_ChooseSafe_h.r.r.r.r.r.l.r.c.c.r.l.c.r.c.c [3, 4, 5, 6, 7, 8, 9, 10, 11, 12, 13, 14] [3, 4, 5, 6, 7, 8, 9, 10, 11, 12, 13] s kc kx
noncomputable def plenumlaw31_ChooseSafe_b1 (m : Nat) (s : ASt) (kc : ASt → RO) (kx : KO (AV × List AObj)) : RO := bodyW Try.prog GG (plenumlaw31_ChooseSafe_env m) m ⟨189, []⟩ (cdL (cdL (cdR (cdL (cdR (cdR (cdR (cdR (cdR plenumlaw31_ChooseSafe_c))))))))) plenumlaw31_ChooseSafe_h.r.r.r.r.r.l.r.c.c [3, 4, 5, 6, 7, 8, 9, 10, 11, 12, 13] [3, 4, 5, 6, 7, 8, 9, 10, 11, 12] s kc kx
noncomputable def plenumlaw31_ChooseSafe_r2 (m : Nat) (s : ASt) : RO := joinW Try.prog GG (plenumlaw31_ChooseSafe_env m) m ⟨189, []⟩ (cdR (cdR (cdR (cdR plenumlaw31_ChooseSafe_c)))) plenumlaw31_ChooseSafe_h.r.r.r.r s (plenumlaw31_ChooseSafe_fin)
noncomputable def plenumlaw31_ChooseSafe_r1 (m : Nat) (s : ASt) : RO := joinW Try.prog GG (plenumlaw31_ChooseSafe_env m) m ⟨189, []⟩ (cdR (cdL (cdR (cdR (cdR plenumlaw31_ChooseSafe_c))))) plenumlaw31_ChooseSafe_h.r.r.r.l.r s (seqX (fun s => plenumlaw31_ChooseSafe_r2 m ⟨s.H, [(3, gt s.T 3), (4, gt s.T 4), (5, gt s.T 5), (6, gt s.T 6), (7, gt s.T 7)]⟩) (plenumlaw31_ChooseSafe_fin))
noncomputable def plenumlaw31_ChooseSafe (m : Nat) (t0 : AV) : RO := exec Try.prog GG (plenumlaw31_ChooseSafe_env m) m ⟨189, []⟩ plenumlaw31_ChooseSafe_c plenumlaw31_ChooseSafe_h ⟨[], argsT 0 [t0]⟩ (plenumlaw31_ChooseSafe_fin)
theorem plenumlaw31_ChooseSafe_r12_eq (m : Nat) (H : List AObj) (t5 t9 t10 t21 t22 : AV) : plenumlaw31_ChooseSafe_r12 m ⟨H, [(5, t5), (9, t9), (10, t10), (21, t21), (22, t22)]⟩ =
  binE none false false .eql t22 (V (.int .i64 0)) fun t177 =>
  condE t177 (
   loadE 6 H t21 fun t179 =>
   buildE (some pl_api_Choice) (some zc_api_Choice) [(0, t5), (1, t9), (2, t10)] fun t183 =>
   binE (some [.i .i64, .i .i64, .s, .b]) false false .eql t179 t183 fun t184 =>
   condE t184 (
   tellE (plenumlaw31_awake m) [] fun t187 =>
   tellK H (ro H t187)) (
   tellK H (ro H (V (.bool false))))) (
   tellK H (ro H (V (.bool false)))) := by
  refine (joinW_eq Try.prog GG (plenumlaw31_ChooseSafe_env m) m ⟨189, []⟩ (cdR (cdR (cdR (cdR (cdR (cdR (cdR (cdR (cdR (cdR (cdR (cdR plenumlaw31_ChooseSafe_c)))))))))))) plenumlaw31_ChooseSafe_h.r.r.r.r.r.r.r.r.r.r.r.r ⟨H, [(5, t5), (9, t9), (10, t10), (21, t21), (22, t22)]⟩ (plenumlaw31_ChooseSafe_fin)).trans ?_
  kernel_rfl
theorem plenumlaw31_ChooseSafe_r11_eq (m : Nat) (n0 : Nat) (kc : ASt → RO) (kx : KO (AV × List AObj)) (H : List AObj) (t3 t4 t5 t6 t7 t8 t9 t10 t11 t12 t16 t17 : AV) : plenumlaw31_ChooseSafe_r11 m n0 kc kx ⟨H, [(3, t3), (4, t4), (5, t5), (6, t6), (7, t7), (8, t8), (9, t9), (10, t10), (11, t11), (12, t12), (16, t16), (17, t17)]⟩ =
  binE none false false .add t17 (V (.int .i64 1)) fun t105 =>
  backE n0 H [(3, t3), (4, t4), (5, t5), (6, t6), (7, t7), (8, t8), (9, t9), (10, t10), (11, t11), (12, t12), (16, t16), (17, t105)] kc := by
  refine (joinW_eq Try.prog GG (plenumlaw31_ChooseSafe_env m) m ⟨189, []⟩ (cdR (cdR (cdL (cdL (cdR (cdL (cdR (cdR (cdR (cdR (cdR (cdR (cdR plenumlaw31_ChooseSafe_c))))))))))))) plenumlaw31_ChooseSafe_h.r.r.r.r.r.r.r.l.r.c.c.r.r ⟨H, [(3, t3), (4, t4), (5, t5), (6, t6), (7, t7), (8, t8), (9, t9), (10, t10), (11, t11), (12, t12), (16, t16), (17, t17)]⟩ (backW n0 [3, 4, 5, 6, 7, 8, 9, 10, 11, 12, 16, 17] [3, 4, 5, 8, 9, 10, 11, 12, 16] kc kx)).trans ?_
  kernel_rfl
theorem plenumlaw31_ChooseSafe_r10_eq (m : Nat) (H : List AObj) (t5 t9 t10 t21 t22 t174 : AV) : plenumlaw31_ChooseSafe_r10 m ⟨H, [(5, t5), (9, t9), (10, t10), (21, t21), (22, t22), (174, t174)]⟩ =
  condE t174 (
   tellE (plenumlaw31_awake m) [] fun t175 =>
   tellK H (ro H t175)) (
   plenumlaw31_ChooseSafe_r12 m ⟨H, [(5, t5), (9, t9), (10, t10), (21, t21), (22, t22)]⟩) := by
  refine (joinW_eq Try.prog GG (plenumlaw31_ChooseSafe_env m) m ⟨189, []⟩ (cdR (cdL (cdR (cdR (cdR (cdR (cdR (cdR (cdR (cdR (cdR (cdR (cdR plenumlaw31_ChooseSafe_c))))))))))))) plenumlaw31_ChooseSafe_h.r.r.r.r.r.r.r.r.r.r.r.l.r ⟨H, [(5, t5), (9, t9), (10, t10), (21, t21), (22, t22), (174, t174)]⟩ (seqX (fun s => plenumlaw31_ChooseSafe_r12 m ⟨s.H, [(5, gt s.T 5), (9, gt s.T 9), (10, gt s.T 10), (21, gt s.T 21), (22, gt s.T 22)]⟩) (plenumlaw31_ChooseSafe_fin))).trans ?_
  kernel_rfl
theorem plenumlaw31_ChooseSafe_r9_eq (m : Nat) (n0 : Nat) (kc : ASt → RO) (kx : KO (AV × List AObj)) (H : List AObj) (t3 t4 t5 t6 t7 t8 t9 t10 t11 t12 t13 t14 : AV) : plenumlaw31_ChooseSafe_r9 m n0 kc kx ⟨H, [(3, t3), (4, t4), (5, t5), (6, t6), (7, t7), (8, t8), (9, t9), (10, t10), (11, t11), (12, t12), (13, t13), (14, t14)]⟩ =
  binE none false false .add t14 (V (.int .i64 1)) fun t58 =>
  backE n0 H [(3, t3), (4, t4), (5, t5), (6, t6), (7, t7), (8, t8), (9, t9), (10, t10), (11, t11), (12, t12), (13, t13), (14, t58)] kc := by
  refine (joinW_eq Try.prog GG (plenumlaw31_ChooseSafe_env m) m ⟨189, []⟩ (cdR (cdR (cdL (cdL (cdR (cdL (cdL (cdR (cdL (cdL (cdR (cdL (cdR (cdR (cdR (cdR (cdR plenumlaw31_ChooseSafe_c))))))))))))))))) plenumlaw31_ChooseSafe_h.r.r.r.r.r.l.r.c.c.r.l.c.r.c.c.r.r ⟨H, [(3, t3), (4, t4), (5, t5), (6, t6), (7, t7), (8, t8), (9, t9), (10, t10), (11, t11), (12, t12), (13, t13), (14, t14)]⟩ (backW n0 [3, 4, 5, 6, 7, 8, 9, 10, 11, 12, 13, 14] [3, 4, 5, 6, 7, 8, 9, 10, 11, 12, 13] kc kx)).trans ?_
  kernel_rfl
theorem plenumlaw31_ChooseSafe_r8_eq (m : Nat) (n0 : Nat) (kc : ASt → RO) (kx : KO (AV × List AObj)) (H : List AObj) (t3 t4 t5 t6 t7 t8 t9 t10 t11 t12 t16 t17 t125 : AV) : plenumlaw31_ChooseSafe_r8 m n0 kc kx ⟨H, [(3, t3), (4, t4), (5, t5), (6, t6), (7, t7), (8, t8), (9, t9), (10, t10), (11, t11), (12, t12), (16, t16), (17, t17), (125, t125)]⟩ =
  condE t125 (
   idxSE 8 H t3 t17 fun t129 =>
   loadE 8 H t129 fun t130 =>
   buildSE (some (ty_api_Change, 6)) 1 [(0, t130)] fun t131 =>
   appE (some (ty_api_Change, 6)) H t16 t131 fun t132 H2 =>
   plenumlaw31_ChooseSafe_r11 m n0 kc kx ⟨H2, [(3, t3), (4, t4), (5, t5), (6, t6), (7, t7), (8, t8), (9, t9), (10, t10), (11, t11), (12, t12), (16, t132), (17, t17)]⟩) (
   plenumlaw31_ChooseSafe_r11 m n0 kc kx ⟨H, [(3, t3), (4, t4), (5, t5), (6, t6), (7, t7), (8, t8), (9, t9), (10, t10), (11, t11), (12, t12), (16, t16), (17, t17)]⟩) := by
  refine (joinW_eq Try.prog GG (plenumlaw31_ChooseSafe_env m) m ⟨189, []⟩ (cdR (cdL (cdL (cdR (cdL (cdL (cdR (cdL (cdR (cdR (cdR (cdR (cdR (cdR (cdR plenumlaw31_ChooseSafe_c))))))))))))))) plenumlaw31_ChooseSafe_h.r.r.r.r.r.r.r.l.r.c.c.r.l.c.r ⟨H, [(3, t3), (4, t4), (5, t5), (6, t6), (7, t7), (8, t8), (9, t9), (10, t10), (11, t11), (12, t12), (16, t16), (17, t17), (125, t125)]⟩ (blockX 5 (seqX (fun s => plenumlaw31_ChooseSafe_r11 m n0 kc kx ⟨s.H, [(3, gt s.T 3), (4, gt s.T 4), (5, gt s.T 5), (6, gt s.T 6), (7, gt s.T 7), (8, gt s.T 8), (9, gt s.T 9), (10, gt s.T 10), (11, gt s.T 11), (12, gt s.T 12), (16, gt s.T 16), (17, gt s.T 17)]⟩) (backW n0 [3, 4, 5, 6, 7, 8, 9, 10, 11, 12, 16, 17] [3, 4, 5, 8, 9, 10, 11, 12, 16] kc kx)))).trans ?_
  kernel_rfl
theorem plenumlaw31_ChooseSafe_r7_eq (m : Nat) (H : List AObj) (t3 t4 t5 t8 t9 t10 t11 t12 t16 : AV) : plenumlaw31_ChooseSafe_r7 m ⟨H, [(3, t3), (4, t4), (5, t5), (8, t8), (9, t9), (10, t10), (11, t11), (12, t12), (16, t16)]⟩ =
  tellE (choose_Low m (ro H t16) (ro H t4)) [(ro H t16), (ro H t4)] fun t136 =>
  extE t136 0 fun t137 =>
  extE t136 1 fun t138 =>
  extE t136 2 fun t139 =>
  tellE (choose_At m (ro H t16) (ro H t4) (ro H t5)) [(ro H t16), (ro H t4), (ro H t5)] fun t144 =>
  extE t144 0 fun t145 =>
  extE t144 1 fun t146 =>
  allocE (some zc_api_Choice) ty_api_Choice H fun t21 H2 =>
  storeE 6 H2 t21 t145 fun H3 =>
  binE none false false .neq t139 (V (.int .i64 0)) fun t148 =>
  condE t148 (
   tellK H3 (ro H3 (V (.bool false)))) (
   binE none false false .lss t8 (V (.int .i64 0)) fun t150 =>
   condE t150 (
    plenumlaw31_ChooseSafe_r10 m ⟨H3, [(5, t5), (9, t9), (10, t10), (21, t21), (22, t146), (174, (V (.bool true)))]⟩) (
    lenE false true H3 t3 fun t154 =>
    lenE false true H3 t16 fun t156 =>
    binE none false false .sub t154 t156 fun t157 =>
    binE none false false .leq t11 t157 fun t158 =>
    condE t158 (
    plenumlaw31_ChooseSafe_r10 m ⟨H3, [(5, t5), (9, t9), (10, t10), (21, t21), (22, t146), (174, (V (.bool true)))]⟩) (
    unE .not t12 fun t162 =>
    condE t162 (
    plenumlaw31_ChooseSafe_r10 m ⟨H3, [(5, t5), (9, t9), (10, t10), (21, t21), (22, t146), (174, (V (.bool true)))]⟩) (
    binE none false false .leq t5 t137 fun t167 =>
    condE t167 (
    plenumlaw31_ChooseSafe_r10 m ⟨H3, [(5, t5), (9, t9), (10, t10), (21, t21), (22, t146), (174, (V (.bool true)))]⟩) (
    binE none false false .add t137 (V (.int .i64 16)) fun t172 =>
    binE none false false .gtr t5 t172 fun t173 =>
    plenumlaw31_ChooseSafe_r10 m ⟨H3, [(5, t5), (9, t9), (10, t10), (21, t21), (22, t146), (174, t173)]⟩))))) := by
  refine (joinW_eq Try.prog GG (plenumlaw31_ChooseSafe_env m) m ⟨189, []⟩ (cdR (cdR (cdR (cdR (cdR (cdR (cdR (cdR plenumlaw31_ChooseSafe_c)))))))) plenumlaw31_ChooseSafe_h.r.r.r.r.r.r.r.r ⟨H, [(3, t3), (4, t4), (5, t5), (8, t8), (9, t9), (10, t10), (11, t11), (12, t12), (16, t16)]⟩ (plenumlaw31_ChooseSafe_fin)).trans ?_
  kernel_rfl
theorem plenumlaw31_ChooseSafe_r6_eq (m : Nat) (n0 : Nat) (kc : ASt → RO) (kx : KO (AV × List AObj)) (H : List AObj) (t3 t4 t5 t6 t7 t8 t9 t10 t11 t12 t13 t14 t15 : AV) : plenumlaw31_ChooseSafe_r6 m n0 kc kx ⟨H, [(3, t3), (4, t4), (5, t5), (6, t6), (7, t7), (8, t8), (9, t9), (10, t10), (11, t11), (12, t12), (13, t13), (14, t14), (15, t15)]⟩ =
  fieldE (some (1, 1)) t15 fun t81 =>
  loadE 1 H t81 fun t82 =>
  binE none false false .eql t82 t8 fun t84 =>
  condE t84 (
   binE none false false .add t11 (V (.int .i64 1)) fun t86 =>
   condE t12 (
    fieldE (some (2, 1)) t15 fun t89 =>
    loadE 1 H t89 fun t90 =>
    binE none false false .eql t90 t9 fun t92 =>
    condE t92 (
    fieldE (some (3, 1)) t15 fun t95 =>
    loadE 1 H t95 fun t96 =>
    binE none false false .eql t96 t10 fun t98 =>
    plenumlaw31_ChooseSafe_r9 m n0 kc kx ⟨H, [(3, t3), (4, t4), (5, t5), (6, t6), (7, t7), (8, t8), (9, t9), (10, t10), (11, t86), (12, t98), (13, t13), (14, t14)]⟩) (
    plenumlaw31_ChooseSafe_r9 m n0 kc kx ⟨H, [(3, t3), (4, t4), (5, t5), (6, t6), (7, t7), (8, t8), (9, t9), (10, t10), (11, t86), (12, (V (.bool false))), (13, t13), (14, t14)]⟩)) (
    plenumlaw31_ChooseSafe_r9 m n0 kc kx ⟨H, [(3, t3), (4, t4), (5, t5), (6, t6), (7, t7), (8, t8), (9, t9), (10, t10), (11, t86), (12, (V (.bool false))), (13, t13), (14, t14)]⟩)) (
   plenumlaw31_ChooseSafe_r9 m n0 kc kx ⟨H, [(3, t3), (4, t4), (5, t5), (6, t6), (7, t7), (8, t8), (9, t9), (10, t10), (11, t11), (12, t12), (13, t13), (14, t14)]⟩) := by
  refine (joinW_eq Try.prog GG (plenumlaw31_ChooseSafe_env m) m ⟨189, []⟩ (cdR (cdR (cdR (cdL (cdL (cdR (cdL (cdL (cdR (cdL (cdL (cdR (cdL (cdL (cdR (cdL (cdR (cdR (cdR (cdR (cdR plenumlaw31_ChooseSafe_c))))))))))))))))))))) plenumlaw31_ChooseSafe_h.r.r.r.r.r.l.r.c.c.r.l.c.r.c.c.r.l.c.r.r.r ⟨H, [(3, t3), (4, t4), (5, t5), (6, t6), (7, t7), (8, t8), (9, t9), (10, t10), (11, t11), (12, t12), (13, t13), (14, t14), (15, t15)]⟩ (blockX 3 (seqX (fun s => plenumlaw31_ChooseSafe_r9 m n0 kc kx ⟨s.H, [(3, gt s.T 3), (4, gt s.T 4), (5, gt s.T 5), (6, gt s.T 6), (7, gt s.T 7), (8, gt s.T 8), (9, gt s.T 9), (10, gt s.T 10), (11, gt s.T 11), (12, gt s.T 12), (13, gt s.T 13), (14, gt s.T 14)]⟩) (backW n0 [3, 4, 5, 6, 7, 8, 9, 10, 11, 12, 13, 14] [3, 4, 5, 6, 7, 8, 9, 10, 11, 12, 13] kc kx)))).trans ?_
  kernel_rfl
theorem plenumlaw31_ChooseSafe_r5_eq (m : Nat) (n0 : Nat) (kc : ASt → RO) (kx : KO (AV × List AObj)) (H : List AObj) (t3 t4 t5 t6 t7 t8 t9 t10 t11 t12 t13 t14 : AV) : plenumlaw31_ChooseSafe_r5 m n0 kc kx ⟨H, [(3, t3), (4, t4), (5, t5), (6, t6), (7, t7), (8, t8), (9, t9), (10, t10), (11, t11), (12, t12), (13, t13), (14, t14)]⟩ =
  binE none false false .add t14 (V (.int .i64 1)) fun t58 =>
  backE n0 H [(3, t3), (4, t4), (5, t5), (6, t6), (7, t7), (8, t8), (9, t9), (10, t10), (11, t11), (12, t12), (13, t13), (14, t58)] kc := by
  refine (joinW_eq Try.prog GG (plenumlaw31_ChooseSafe_env m) m ⟨189, []⟩ (cdR (cdR (cdL (cdL (cdR (cdL (cdL (cdR (cdL (cdL (cdR (cdL (cdR (cdR (cdR (cdR (cdR plenumlaw31_ChooseSafe_c))))))))))))))))) plenumlaw31_ChooseSafe_h.r.r.r.r.r.l.r.c.c.r.l.c.r.c.c.r.r ⟨H, [(3, t3), (4, t4), (5, t5), (6, t6), (7, t7), (8, t8), (9, t9), (10, t10), (11, t11), (12, t12), (13, t13), (14, t14)]⟩ (backW n0 [3, 4, 5, 6, 7, 8, 9, 10, 11, 12, 13, 14] [3, 4, 5, 6, 7, 8, 9, 10, 11, 12, 13] kc kx)).trans ?_
  kernel_rfl
theorem plenumlaw31_ChooseSafe_r4_eq (m : Nat) (n0 : Nat) (kc : ASt → RO) (kx : KO (AV × List AObj)) (H : List AObj) (t3 t4 t5 t6 t7 t8 t9 t10 t11 t12 t13 : AV) : plenumlaw31_ChooseSafe_r4 m n0 kc kx ⟨H, [(3, t3), (4, t4), (5, t5), (6, t6), (7, t7), (8, t8), (9, t9), (10, t10), (11, t11), (12, t12), (13, t13)]⟩ =
  binE none false false .add t13 (V (.int .i64 1)) fun t48 =>
  backE n0 H [(3, t3), (4, t4), (5, t5), (6, t6), (7, t7), (8, t8), (9, t9), (10, t10), (11, t11), (12, t12), (13, t48)] kc := by
  refine (joinW_eq Try.prog GG (plenumlaw31_ChooseSafe_env m) m ⟨189, []⟩ (cdR (cdR (cdL (cdL (cdR (cdL (cdR (cdR (cdR (cdR (cdR plenumlaw31_ChooseSafe_c))))))))))) plenumlaw31_ChooseSafe_h.r.r.r.r.r.l.r.c.c.r.r ⟨H, [(3, t3), (4, t4), (5, t5), (6, t6), (7, t7), (8, t8), (9, t9), (10, t10), (11, t11), (12, t12), (13, t13)]⟩ (backW n0 [3, 4, 5, 6, 7, 8, 9, 10, 11, 12, 13] [3, 4, 5, 6, 7, 8, 9, 10, 11, 12] kc kx)).trans ?_
  kernel_rfl
theorem plenumlaw31_ChooseSafe_b3_eq (m : Nat) (H : List AObj) (t3 t4 t5 t6 t7 t8 t9 t10 t11 t12 t16 t17 : AV) (kc : ASt → RO) (kx : KO (AV × List AObj)) : plenumlaw31_ChooseSafe_b3 m ⟨H, [(3, t3), (4, t4), (5, t5), (6, t6), (7, t7), (8, t8), (9, t9), (10, t10), (11, t11), (12, t12), (16, t16), (17, t17)]⟩ kc kx =
  lenE false true H t3 fun t102 =>
  binE none false false .lss t17 t102 fun t103 =>
  condE t103 (
   convE false (some .u64) true false false (ro H t17) fun t108 =>
   binE none false false .shr t6 t108 fun t109 =>
   binE none false false .and t109 (V (.int .u16 1)) fun t110 =>
   binE none false false .eql t110 (V (.int .u16 0)) fun t111 =>
   condE t111 (
    plenumlaw31_ChooseSafe_r8 m H.length kc kx ⟨H, [(3, t3), (4, t4), (5, t5), (6, t6), (7, t7), (8, t8), (9, t9), (10, t10), (11, t11), (12, t12), (16, t16), (17, t17), (125, (V (.bool true)))]⟩) (
    lenE false true H t16 fun t114 =>
    lenE false true H t3 fun t116 =>
    binE none false false .add t114 t116 fun t117 =>
    binE none false false .sub t117 t17 fun t119 =>
    binE none false false .sub t119 (V (.int .i64 1)) fun t120 =>
    binE none false false .mul (V (.int .i64 2)) t7 fun t122 =>
    binE none false false .add t122 (V (.int .i64 1)) fun t123 =>
    binE none false false .lss t120 t123 fun t124 =>
    plenumlaw31_ChooseSafe_r8 m H.length kc kx ⟨H, [(3, t3), (4, t4), (5, t5), (6, t6), (7, t7), (8, t8), (9, t9), (10, t10), (11, t11), (12, t12), (16, t16), (17, t17), (125, t124)]⟩)) (
   kx (.exit 4) ⟨H, [(3, t3), (4, t4), (5, t5), (8, t8), (9, t9), (10, t10), (11, t11), (12, t12), (16, t16)]⟩) := by
  refine (bodyW_eq Try.prog GG (plenumlaw31_ChooseSafe_env m) m ⟨189, []⟩ (cdL (cdL (cdR (cdL (cdR (cdR (cdR (cdR (cdR (cdR (cdR plenumlaw31_ChooseSafe_c))))))))))) plenumlaw31_ChooseSafe_h.r.r.r.r.r.r.r.l.r.c.c [3, 4, 5, 6, 7, 8, 9, 10, 11, 12, 16, 17] [3, 4, 5, 8, 9, 10, 11, 12, 16] ⟨H, [(3, t3), (4, t4), (5, t5), (6, t6), (7, t7), (8, t8), (9, t9), (10, t10), (11, t11), (12, t12), (16, t16), (17, t17)]⟩ kc kx).trans ?_
  kernel_rfl
theorem plenumlaw31_ChooseSafe_r3_eq (m : Nat) (H : List AObj) (t3 t4 t5 t6 t7 t8 t9 t10 t11 t12 : AV) : plenumlaw31_ChooseSafe_r3 m ⟨H, [(3, t3), (4, t4), (5, t5), (6, t6), (7, t7), (8, t8), (9, t9), (10, t10), (11, t11), (12, t12)]⟩ =
  rowE (V (.slice none 0 0)) ty_api_Change 6 H fun t16 H2 =>
  iterC m (plenumlaw31_ChooseSafe_b3 m) ⟨H2, [(3, t3), (4, t4), (5, t5), (6, t6), (7, t7), (8, t8), (9, t9), (10, t10), (11, t11), (12, t12), (16, t16), (17, (V (.int .i64 0)))]⟩ (blockX 4 (seqX (fun s => plenumlaw31_ChooseSafe_r7 m ⟨s.H, [(3, gt s.T 3), (4, gt s.T 4), (5, gt s.T 5), (8, gt s.T 8), (9, gt s.T 9), (10, gt s.T 10), (11, gt s.T 11), (12, gt s.T 12), (16, gt s.T 16)]⟩) (plenumlaw31_ChooseSafe_fin))) := by
  refine (joinW_eq Try.prog GG (plenumlaw31_ChooseSafe_env m) m ⟨189, []⟩ (cdR (cdR (cdR (cdR (cdR (cdR plenumlaw31_ChooseSafe_c)))))) plenumlaw31_ChooseSafe_h.r.r.r.r.r.r ⟨H, [(3, t3), (4, t4), (5, t5), (6, t6), (7, t7), (8, t8), (9, t9), (10, t10), (11, t11), (12, t12)]⟩ (plenumlaw31_ChooseSafe_fin)).trans ?_
  kernel_rfl
theorem plenumlaw31_ChooseSafe_b2_eq (m : Nat) (H : List AObj) (t3 t4 t5 t6 t7 t8 t9 t10 t11 t12 t13 t14 : AV) (kc : ASt → RO) (kx : KO (AV × List AObj)) : plenumlaw31_ChooseSafe_b2 m ⟨H, [(3, t3), (4, t4), (5, t5), (6, t6), (7, t7), (8, t8), (9, t9), (10, t10), (11, t11), (12, t12), (13, t13), (14, t14)]⟩ kc kx =
  idxSE 8 H t3 t13 fun t52 =>
  fieldE (some (5, 1)) t52 fun t53 =>
  loadE 1 H t53 fun t54 =>
  lenE false true H t54 fun t55 =>
  binE none false false .lss t14 t55 fun t56 =>
  condE t56 (
   idxSE 8 H t3 t13 fun t61 =>
   fieldE (some (5, 1)) t61 fun t62 =>
   loadE 1 H t62 fun t63 =>
   idxSE 7 H t63 t14 fun t65 =>
   loadE 7 H t65 fun t66 =>
   allocE (some zc_api_Cert) ty_api_Cert H fun t15 H2 =>
   storeE 7 H2 t15 t66 fun H3 =>
   fieldE (some (0, 1)) t15 fun t67 =>
   loadE 1 H3 t67 fun t68 =>
   binE none false false .neq t68 t5 fun t70 =>
   condE t70 (
    plenumlaw31_ChooseSafe_r5 m H.length kc kx ⟨H3, [(3, t3), (4, t4), (5, t5), (6, t6), (7, t7), (8, t8), (9, t9), (10, t10), (11, t11), (12, t12), (13, t13), (14, t14)]⟩) (
    fieldE (some (1, 1)) t15 fun t71 =>
    loadE 1 H3 t71 fun t72 =>
    binE none false false .gtr t72 t8 fun t74 =>
    condE t74 (
     fieldE (some (1, 1)) t15 fun t75 =>
     loadE 1 H3 t75 fun t76 =>
     fieldE (some (2, 1)) t15 fun t77 =>
     loadE 1 H3 t77 fun t78 =>
     fieldE (some (3, 1)) t15 fun t79 =>
     loadE 1 H3 t79 fun t80 =>
     plenumlaw31_ChooseSafe_r6 m H.length kc kx ⟨H3, [(3, t3), (4, t4), (5, t5), (6, t6), (7, t7), (8, t76), (9, t78), (10, t80), (11, (V (.int .i64 0))), (12, (V (.bool true))), (13, t13), (14, t14), (15, t15)]⟩) (
     plenumlaw31_ChooseSafe_r6 m H.length kc kx ⟨H3, [(3, t3), (4, t4), (5, t5), (6, t6), (7, t7), (8, t8), (9, t9), (10, t10), (11, t11), (12, t12), (13, t13), (14, t14), (15, t15)]⟩))) (
   kx (.exit 2) ⟨H, [(3, t3), (4, t4), (5, t5), (6, t6), (7, t7), (8, t8), (9, t9), (10, t10), (11, t11), (12, t12), (13, t13)]⟩) := by
  refine (bodyW_eq Try.prog GG (plenumlaw31_ChooseSafe_env m) m ⟨189, []⟩ (cdL (cdL (cdR (cdL (cdL (cdR (cdL (cdL (cdR (cdL (cdR (cdR (cdR (cdR (cdR plenumlaw31_ChooseSafe_c))))))))))))))) plenumlaw31_ChooseSafe_h.r.r.r.r.r.l.r.c.c.r.l.c.r.c.c [3, 4, 5, 6, 7, 8, 9, 10, 11, 12, 13, 14] [3, 4, 5, 6, 7, 8, 9, 10, 11, 12, 13] ⟨H, [(3, t3), (4, t4), (5, t5), (6, t6), (7, t7), (8, t8), (9, t9), (10, t10), (11, t11), (12, t12), (13, t13), (14, t14)]⟩ kc kx).trans ?_
  kernel_rfl
theorem plenumlaw31_ChooseSafe_b1_eq (m : Nat) (H : List AObj) (t3 t4 t5 t6 t7 t8 t9 t10 t11 t12 t13 : AV) (kc : ASt → RO) (kx : KO (AV × List AObj)) : plenumlaw31_ChooseSafe_b1 m ⟨H, [(3, t3), (4, t4), (5, t5), (6, t6), (7, t7), (8, t8), (9, t9), (10, t10), (11, t11), (12, t12), (13, t13)]⟩ kc kx =
  lenE false true H t3 fun t45 =>
  binE none false false .lss t13 t45 fun t46 =>
  condE t46 (
   iterC m (plenumlaw31_ChooseSafe_b2 m) ⟨H, [(3, t3), (4, t4), (5, t5), (6, t6), (7, t7), (8, t8), (9, t9), (10, t10), (11, t11), (12, t12), (13, t13), (14, (V (.int .i64 0)))]⟩ (blockX 2 (blockX 1 (seqX (fun s => plenumlaw31_ChooseSafe_r4 m H.length kc kx ⟨s.H, [(3, gt s.T 3), (4, gt s.T 4), (5, gt s.T 5), (6, gt s.T 6), (7, gt s.T 7), (8, gt s.T 8), (9, gt s.T 9), (10, gt s.T 10), (11, gt s.T 11), (12, gt s.T 12), (13, gt s.T 13)]⟩) (backW H.length [3, 4, 5, 6, 7, 8, 9, 10, 11, 12, 13] [3, 4, 5, 6, 7, 8, 9, 10, 11, 12] kc kx))))) (
   kx (.exit 0) ⟨H, [(3, t3), (4, t4), (5, t5), (6, t6), (7, t7), (8, t8), (9, t9), (10, t10), (11, t11), (12, t12)]⟩) := by
  refine (bodyW_eq Try.prog GG (plenumlaw31_ChooseSafe_env m) m ⟨189, []⟩ (cdL (cdL (cdR (cdL (cdR (cdR (cdR (cdR (cdR plenumlaw31_ChooseSafe_c))))))))) plenumlaw31_ChooseSafe_h.r.r.r.r.r.l.r.c.c [3, 4, 5, 6, 7, 8, 9, 10, 11, 12, 13] [3, 4, 5, 6, 7, 8, 9, 10, 11, 12] ⟨H, [(3, t3), (4, t4), (5, t5), (6, t6), (7, t7), (8, t8), (9, t9), (10, t10), (11, t11), (12, t12), (13, t13)]⟩ kc kx).trans ?_
  kernel_rfl
theorem plenumlaw31_ChooseSafe_r2_eq (m : Nat) (H : List AObj) (t3 t4 t5 t6 t7 : AV) : plenumlaw31_ChooseSafe_r2 m ⟨H, [(3, t3), (4, t4), (5, t5), (6, t6), (7, t7)]⟩ =
  iterC m (plenumlaw31_ChooseSafe_b1 m) ⟨H, [(3, t3), (4, t4), (5, t5), (6, t6), (7, t7), (8, (V (.int .i64 (-1)))), (9, (V (.int .i64 0))), (10, (V (.string ⟨#[]⟩))), (11, (V (.int .i64 0))), (12, (V (.bool true))), (13, (V (.int .i64 0)))]⟩ (blockX 0 (seqX (fun s => plenumlaw31_ChooseSafe_r3 m ⟨s.H, [(3, gt s.T 3), (4, gt s.T 4), (5, gt s.T 5), (6, gt s.T 6), (7, gt s.T 7), (8, gt s.T 8), (9, gt s.T 9), (10, gt s.T 10), (11, gt s.T 11), (12, gt s.T 12)]⟩) (plenumlaw31_ChooseSafe_fin))) := by
  refine (joinW_eq Try.prog GG (plenumlaw31_ChooseSafe_env m) m ⟨189, []⟩ (cdR (cdR (cdR (cdR plenumlaw31_ChooseSafe_c)))) plenumlaw31_ChooseSafe_h.r.r.r.r ⟨H, [(3, t3), (4, t4), (5, t5), (6, t6), (7, t7)]⟩ (plenumlaw31_ChooseSafe_fin)).trans ?_
  kernel_rfl
theorem plenumlaw31_ChooseSafe_r1_eq (m : Nat) (H : List AObj) (t3 t4 t5 t6 t7 t41 : AV) : plenumlaw31_ChooseSafe_r1 m ⟨H, [(3, t3), (4, t4), (5, t5), (6, t6), (7, t7), (41, t41)]⟩ =
  condE t41 (
   tellE (plenumlaw31_awake m) [] fun t42 =>
   tellK H (ro H t42)) (
   plenumlaw31_ChooseSafe_r2 m ⟨H, [(3, t3), (4, t4), (5, t5), (6, t6), (7, t7)]⟩) := by
  refine (joinW_eq Try.prog GG (plenumlaw31_ChooseSafe_env m) m ⟨189, []⟩ (cdR (cdL (cdR (cdR (cdR plenumlaw31_ChooseSafe_c))))) plenumlaw31_ChooseSafe_h.r.r.r.l.r ⟨H, [(3, t3), (4, t4), (5, t5), (6, t6), (7, t7), (41, t41)]⟩ (seqX (fun s => plenumlaw31_ChooseSafe_r2 m ⟨s.H, [(3, gt s.T 3), (4, gt s.T 4), (5, gt s.T 5), (6, gt s.T 6), (7, gt s.T 7)]⟩) (plenumlaw31_ChooseSafe_fin))).trans ?_
  kernel_rfl
theorem plenumlaw31_ChooseSafe_eq (m : Nat) (t0 : AV) : plenumlaw31_ChooseSafe m t0 =
  boxE ty_plenumlaw31_Some [] t0 fun t1 H1 =>
  fieldE (some (0, 1)) t1 fun t23 =>
  loadE 1 H1 t23 fun t24 =>
  tellE (plenumlaw31_Few m (ro H1 t24)) [(ro H1 t24)] fun t25 =>
  fieldE (some (1, 1)) t1 fun t26 =>
  loadE 1 H1 t26 fun t27 =>
  fieldE (some (2, 1)) t1 fun t28 =>
  loadE 1 H1 t28 fun t29 =>
  fieldE (some (3, 1)) t1 fun t30 =>
  loadE 1 H1 t30 fun t31 =>
  tellE (plenumref05_Faults m (ro H1 t27)) [(ro H1 t27)] fun t33 =>
  binE none false false .eql t33 (V (.int .i64 0)) fun t35 =>
  condE t35 (
   plenumlaw31_ChooseSafe_r1 m ⟨H1, [(3, t25), (4, t27), (5, t29), (6, t31), (7, t33), (41, (V (.bool true)))]⟩) (
   tellE (plenumref31_May m (ro H1 t25) (ro H1 t27)) [(ro H1 t25), (ro H1 t27)] fun t39 =>
   unE .not t39 fun t40 =>
   plenumlaw31_ChooseSafe_r1 m ⟨H1, [(3, t25), (4, t27), (5, t29), (6, t31), (7, t33), (41, t40)]⟩) := by
  refine (tellX Try.prog GG (plenumlaw31_ChooseSafe_env m) m ⟨189, []⟩ plenumlaw31_ChooseSafe_c plenumlaw31_ChooseSafe_h ⟨[], argsT 0 [t0]⟩ [.tmp 2]).trans ?_
  kernel_rfl
noncomputable def plenumlaw31_ChooseSafe_t (m : Nat) : List AV → RO | [t0] => plenumlaw31_ChooseSafe m t0 | _ => none
theorem plenumlaw31_ChooseSafe_ok (m : Nat) : ∀ args X H', plenumlaw31_ChooseSafe_t m args = some (X, H') → ACp Try.prog GG 3 args X := by
  intro args X H' h
  unfold plenumlaw31_ChooseSafe_t at h
  split at h
  · exact tell_okK MIX (by
    intro f e h
    simp only [plenumlaw31_ChooseSafe_env, Prod.mk.injEq, List.mem_cons, List.not_mem_nil, or_false] at h
    rcases h with ⟨rfl, rfl⟩ | ⟨rfl, rfl⟩ | ⟨rfl, rfl⟩ | ⟨rfl, rfl⟩ | ⟨rfl, rfl⟩ | ⟨rfl, rfl⟩
    · exact plenumlaw31_Few_ok m
    · exact plenumref05_Faults_ok m
    · exact plenumref31_May_ok m
    · exact plenumlaw31_awake_ok m
    · exact choose_Low_ok m
    · exact choose_At_ok m) (f := 3) (c := plenumlaw31_ChooseSafe_c) Try.func3 rfl (by kernel_rfl) _ rfl Try.ntmps3 (Nat.le_of_ble_eq_true rfl) plenumlaw31_ChooseSafe_h h
  · cases h
end Go.Proofs.Ytbialapikbdolaa

namespace Go.Proofs.Ytbialapikbdolaa
open Go.RowKit
set_option linter.unusedVariables false
set_option linter.unusedSimpArgs false
set_option maxRecDepth 20000
attribute [local go_sem] Nat.zero_add Nat.add_zero Nat.mul_one Int.toNat_natCast Int.natCast_zero Int.cast_ofNat_Int or_false false_or or_true true_or Nat.sub_zero Int.natCast_nonneg Int.toNat_zero Bool.true_and Bool.and_true Bool.false_and Bool.and_false Bool.true_or Bool.or_true Bool.false_or Bool.or_false Bool.not_true Bool.not_false Bool.not_not true_and and_true false_and and_false not_true_eq_false not_false_eq_true eq_self decide_true decide_false ne_eq implies_true forall_const true_implies false_implies Bool.true_eq_false Bool.false_eq_true List.map_cons List.map_nil List.all_cons List.all_nil List.length_cons List.length_nil List.length_map List.length_append List.nil_append List.cons_append List.set_cons_zero List.set_cons_succ List.set_nil List.drop_zero List.drop_succ_cons List.drop_nil List.take_zero List.take_succ_cons List.take_nil Option.map_some Option.map_none Option.isSome_some List.all_append List.all_map Function.comp_def decide_eq_true_eq Bool.and_eq_true beq_self_eq_true or_self and_self ite_true ite_false Nat.le_refl Bool.not_eq_true decide_not Bool.not_eq_true' decide_eq_false_iff_not Bool.not_eq_false Bool.or_eq_true if_true if_false ite_self u_roF u_cvF u_cvC u_ceT u_ceK u_appS sm_it sm_len sm_sure sm_ltA sm_lt1 sm_all1 sm_ro sm_take sm_sl sm_set sm_noT sm_fr sm_st_fr sm_set_fr sm_kd sm_st_kd sm_set_kd sm_vw sm_st_vw sm_set_vw sm_sq sm_st_sq sm_set_sq sm_tm sm_st_tm sm_set_tm sms_ltA sms_len ce_it ce_len ce_sure ce_ltA ce_lt1 ce_all1 ce_ro ce_take ce_sl ce_set ce_noT ce_sq ce_st_sq ce_set_sq ce_vw ce_st_vw ce_set_vw ce_tm ce_st_tm ce_set_tm ce_body ce_st_body ce_set_body ce_vs ce_st_vs ce_set_vs zce_len zce_sure zce_lt1 zce_sl zce_ro zce_setz zce_set zce_setr zce_take ces_ltA ces_len cg_it cg_len cg_sure cg_ltA cg_lt1 cg_all1 cg_ro cg_take cg_sl cg_set cg_noT cg_fr cg_st_fr cg_set_fr cg_vw cg_st_vw cg_set_vw cg_st cg_st_st cg_set_st cg_rt cg_st_rt cg_set_rt cg_pf cg_st_pf cg_set_pf cg_cs cg_st_cs cg_set_cs zcg_len zcg_sure zcg_lt1 zcg_sl zcg_ro zcg_setz zcg_set zcg_setr zcg_take cgs_ltA cgs_len co_it co_len co_sure co_ltA co_lt1 co_all1 co_ro co_take co_sl co_set co_noT co_sq co_st_sq co_set_sq co_tm co_st_tm co_set_tm co_body co_st_body co_set_body co_nl co_st_nl co_set_nl zco_len zco_sure zco_lt1 zco_sl zco_ro zco_setz zco_set zco_setr zco_take cos_ltA cos_len natInt u_nthM u_bz u_bi1 u_bi2 u_bi3 u_bi4 u_bi5 u_bi6 u_bi7 ltO_o ltO_r u_eqE
attribute [local go_sem_proc] Nat.reduceAdd Nat.reduceSub Nat.reduceMul Nat.reduceLeDiff Nat.reduceLT Int.reduceEq Int.reduceNe Int.reduceLT Int.reduceLE Int.reduceAdd Int.reduceSub Int.reduceMul Int.reduceNeg Int.reduceToNat reduceCtorEq Nat.reduceEqDiff Nat.reduceBEq Nat.reduceGT
attribute [local go_sem_proc ↓] reduceIte
structure CeRef (st : Int) (cs : List Ce) (j : Nat) (x : Ce) : Prop where
  lo : st < x.sq
  hi : x.sq ≤ st + 16
  up : 0 < j → lastQ st cs j < x.sq
  vw : 0 ≤ x.vw
  bd : x.body.length ≤ 65536
def CsRef (st : Int) (cs : List Ce) (k : Nat) : Prop := ∀ (j : Nat) (h : j < cs.length), k ≤ j → CeRef st cs j cs[j]
theorem CsRef.succ {st : Int} {cs : List Ce} {k : Nat} (h : k < cs.length) (h1 : CeRef st cs k cs[k]) : CsRef st cs k ↔ CsRef st cs (k + 1) := by
  constructor
  · exact fun q j hj hk => q j hj (by omega)
  · intro q j hj hk
    by_cases e : j = k
    · subst e; exact h1
    · exact q j hj (by omega)
theorem CsRef.ok {st : Int} {cs : List Ce} (h : CsRef st cs 0) : CsOk st cs := fun j hj => by
  have q := h j hj (Nat.zero_le _)
  refine ⟨?_, q.hi, q.vw, q.bd⟩
  cases j with
  | zero => exact q.lo
  | succ j => exact q.up (by omega)
noncomputable def iteP (p : Prop) (x y : RO) : RO := @ite _ p (Classical.propDecidable p) x y
theorem iteP_pos {p : Prop} {x y : RO} (h : p) : iteP p x y = x := by unfold iteP; exact if_pos h
theorem iteP_neg {p : Prop} {x y : RO} (h : ¬ p) : iteP p x y = y := by unfold iteP; exact if_neg h
theorem iteP_iff {p q : Prop} {x y : RO} (h : p ↔ q) : iteP p x y = iteP q x y := by rw [show p = q from propext h]
theorem b3_s (m : Nat) (kc : ASt → RO) (kx : KO (AV × List AObj)) (l : List Ch) (n : Int) (i : Nat) (hi : i < 1000000) (x : Ch) (h0 : 0 ≤ x.st) (h1 : x.st ≤ 2147483647) (hl : x.cs.length ≤ 1000) (hm : 1000 < m) (hF : ∀ H, kx .ret ⟨H, [(4, bA false)]⟩ = some (bA false, [])) :
    plenumref31_May_r7 m 0 kc kx ⟨[⟨1, ty_api_Change, 0, cgC x⟩], [(0, chsA l), (1, nA n), (6, nA i), (7, OP 0 0)]⟩ = iteP (CsRef x.st x.cs 0) (kc ⟨[], [(0, chsA l), (1, nA n), (6, nA ((i : Int) + 1))]⟩) (some (bA false, [])) := by
  rw [plenumref31_May_r7_eq]
  refine iter_go (m := m) (ι := {k : Nat // k ≤ x.cs.length}) (fun k => ⟨[⟨1, ty_api_Change, 0, cgC x⟩], [(0, chsA l), (1, nA n), (6, nA i), (7, OP 0 0), (9, nA k.1)]⟩) (fun k => x.cs.length - k.1) (fun k => iteP (CsRef x.st x.cs k.1) (kc ⟨[], [(0, chsA l), (1, nA n), (6, nA ((i : Int) + 1))]⟩) (some (bA false, []))) ?_ ⟨0, Nat.zero_le _⟩ (by dsimp only; omega)
  rintro k2 hk2 ⟨k, hk⟩ kd hkd
  dsimp only at hkd ⊢
  rw [plenumref31_May_b3_eq]
  by_cases hlt : k < x.cs.length
  · have hlt' : (k : Int) < (x.cs.length : Int) := by omega
    have step := hkd ⟨k + 1, by omega⟩ (by dsimp only; omega)
    dsimp only at step
    by_cases c1 : x.cs[k].sq ≤ x.st
    · rw [iteP_neg fun q => by have := (q k hlt (Nat.le_refl _)).lo; omega]
      simp (config := {maxSteps := 4000000, implicitDefEqProofs := false}) (disch := omega) only [go_sem, hlt', hlt, c1, hk2, w_i64, plenumref31_May_r10_eq]
      exact hF _
    · by_cases c2 : x.st + 16 < x.cs[k].sq
      · rw [iteP_neg fun q => by have := (q k hlt (Nat.le_refl _)).hi; omega]
        simp (config := {maxSteps := 4000000, implicitDefEqProofs := false}) (disch := omega) only [go_sem, hlt', hlt, c1, c2, hk2, w_i64, plenumref31_May_r10_eq]
        exact hF _
      · cases k with
        | zero =>
          have hz : (0 : Int) < (x.cs.length : Int) := by omega
          by_cases c4 : x.cs[0].vw < 0
          · rw [iteP_neg fun q => by have := (q 0 hlt (Nat.le_refl _)).vw; omega]
            simp (config := {maxSteps := 4000000, implicitDefEqProofs := false}) (disch := omega) only [go_sem, hz, hlt, c1, c2, c4, hk2, w_i64, plenumref31_May_r10_eq]
            exact hF _
          · by_cases c5 : (65536 : Int) < (x.cs[0].body.length : Int)
            · rw [iteP_neg fun q => by have := (q 0 hlt (Nat.le_refl _)).bd; omega]
              simp (config := {maxSteps := 4000000, implicitDefEqProofs := false}) (disch := omega) only [go_sem, hz, hlt, c1, c2, c4, c5, hk2, w_i64, plenumref31_May_r10_eq]
              exact hF _
            · rw [iteP_iff (CsRef.succ hlt ⟨by omega, by omega, fun h => absurd h (by omega), by omega, by omega⟩)]
              simp (config := {maxSteps := 4000000, implicitDefEqProofs := false}) (disch := omega) only [go_sem, hz, hlt, c1, c2, c4, c5, hk2, chs_lt, w_i64, plenumref31_May_r10_eq, plenumref31_May_r11_eq]
              exact step
        | succ k =>
          have hk1 : k < x.cs.length := by omega
          have e1 : IntKind.i64.wrap (((k + 1 : Nat) : Int) - 1) = (k : Int) := by rw [w_i64 (by omega) (by omega)]; omega
          have e2 : (0 : Int) < ((k + 1 : Nat) : Int) := by omega
          by_cases c3 : x.cs[k + 1].sq ≤ x.cs[k].sq
          · rw [iteP_neg fun q => by have := (q (k + 1) hlt (Nat.le_refl _)).up (by omega); rw [lastQ_succ hk1] at this; omega]
            simp (config := {maxSteps := 4000000, implicitDefEqProofs := false}) (disch := omega) only [go_sem, hlt', hlt, hk1, e1, e2, c1, c2, c3, hk2, w_i64, plenumref31_May_r10_eq]
            exact hF _
          · by_cases c4 : x.cs[k + 1].vw < 0
            · rw [iteP_neg fun q => by have := (q (k + 1) hlt (Nat.le_refl _)).vw; omega]
              simp (config := {maxSteps := 4000000, implicitDefEqProofs := false}) (disch := omega) only [go_sem, hlt', hlt, hk1, e1, e2, c1, c2, c3, c4, hk2, w_i64, plenumref31_May_r10_eq]
              exact hF _
            · by_cases c5 : (65536 : Int) < (x.cs[k + 1].body.length : Int)
              · rw [iteP_neg fun q => by have := (q (k + 1) hlt (Nat.le_refl _)).bd; omega]
                simp (config := {maxSteps := 4000000, implicitDefEqProofs := false}) (disch := omega) only [go_sem, hlt', hlt, hk1, e1, e2, c1, c2, c3, c4, c5, hk2, w_i64, plenumref31_May_r10_eq]
                exact hF _
              · rw [iteP_iff (CsRef.succ hlt ⟨by omega, by omega, fun h => by rw [lastQ_succ hk1]; omega, by omega, by omega⟩)]
                simp (config := {maxSteps := 4000000, implicitDefEqProofs := false}) (disch := omega) only [go_sem, hlt', hlt, hk1, e1, e2, c1, c2, c3, c4, c5, hk2, chs_lt, w_i64, plenumref31_May_r10_eq, plenumref31_May_r11_eq]
                exact step
  · obtain rfl : k = x.cs.length := by omega
    have hlt' : ¬ (x.cs.length : Int) < (x.cs.length : Int) := Int.lt_irrefl _
    rw [iteP_pos (p := CsRef x.st x.cs x.cs.length) (fun j hj hk => by omega)]
    simp (config := {maxSteps := 4000000, implicitDefEqProofs := false}) (disch := omega) only [go_sem, hlt', hk2, w_i64, chs_lt, plenumref31_May_r9_eq]
def FrRef (l : List Ch) (q : Int) (i k : Nat) : Prop := ∀ (j : Nat) (h : j < l.length), k ≤ j → j < i → l[j].fr ≠ q
theorem FrRef.succ {l : List Ch} {q : Int} {i k : Nat} (h : k < l.length) (h1 : l[k].fr ≠ q) : FrRef l q i k ↔ FrRef l q i (k + 1) := by
  constructor
  · exact fun q j hj hk => q j hj (by omega)
  · intro q j hj hk
    by_cases e : j = k
    · subst e; exact fun _ => h1
    · exact q j hj (by omega)
theorem b2_s (m : Nat) (kc : ASt → RO) (kx : KO (AV × List AObj)) (l : List Ch) (n : Int) (i : Nat) (hi : i < l.length) (hll : l.length ≤ 1000) (x : Ch) (h0 : 0 ≤ x.st) (h1 : x.st ≤ 2147483647) (hl : x.cs.length ≤ 1000) (hm : 1000 < m) (hF : ∀ H, kx .ret ⟨H, [(4, bA false)]⟩ = some (bA false, [])) :
    plenumref31_May_r5 m 0 kc kx ⟨[⟨1, ty_api_Change, 0, cgC x⟩], [(0, chsA l), (1, nA n), (6, nA i), (7, OP 0 0)]⟩ = iteP (FrRef l x.fr i 0) (iteP (CsRef x.st x.cs 0) (kc ⟨[], [(0, chsA l), (1, nA n), (6, nA ((i : Int) + 1))]⟩) (some (bA false, []))) (some (bA false, [])) := by
  have g := b3_s m kc kx l n i (by omega) x h0 h1 hl hm hF
  rw [plenumref31_May_r5_eq]
  refine iter_go (m := m) (ι := {k : Nat // k ≤ i}) (fun k => ⟨[⟨1, ty_api_Change, 0, cgC x⟩], [(0, chsA l), (1, nA n), (6, nA i), (7, OP 0 0), (8, nA k.1)]⟩) (fun k => i - k.1) (fun k => iteP (FrRef l x.fr i k.1) (iteP (CsRef x.st x.cs 0) (kc ⟨[], [(0, chsA l), (1, nA n), (6, nA ((i : Int) + 1))]⟩) (some (bA false, []))) (some (bA false, []))) ?_ ⟨0, Nat.zero_le _⟩ (by dsimp only; omega)
  rintro k2 hk2 ⟨k, hk⟩ kd hkd
  dsimp only at hkd ⊢
  rw [plenumref31_May_b2_eq]
  by_cases hlt : k < i
  · have hlt' : (k : Int) < (i : Int) := by omega
    have hkl : k < l.length := by omega
    have step := hkd ⟨k + 1, by omega⟩ (by dsimp only; omega)
    dsimp only at step
    by_cases c1 : l[k].fr = x.fr
    · rw [iteP_neg (p := FrRef l x.fr i k) (fun q => q k hkl (Nat.le_refl _) hlt c1)]
      unfold chsA
      simp (config := {maxSteps := 4000000, implicitDefEqProofs := false}) (disch := omega) only [go_sem, hlt', hkl, c1, hk2, w_i64]
      exact hF _
    · rw [iteP_iff (FrRef.succ hkl c1)]
      unfold chsA at step ⊢
      simp (config := {maxSteps := 4000000, implicitDefEqProofs := false}) (disch := omega) only [go_sem, hlt', hkl, c1, hk2, w_i64]
      exact step
  · obtain rfl : k = i := by omega
    have hlt' : ¬ (k : Int) < (k : Int) := Int.lt_irrefl _
    rw [iteP_pos (p := FrRef l x.fr k k) (fun j hj h1 h2 => by omega)]
    simp (config := {maxSteps := 4000000, implicitDefEqProofs := false}) (disch := omega) only [go_sem, hlt', hk2, g]
structure ChRef (n : Int) (l : List Ch) (i : Nat) (c : Ch) : Prop where
  f0 : 0 ≤ c.fr
  fn : c.fr < n
  sd : c.st = 0 ∨ dueB c.st = true
  sl : c.st ≤ 2147483647
  one : FrRef l c.fr i 0
  cs : CsRef c.st c.cs 0
def LRef (n : Int) (l : List Ch) (k : Nat) : Prop := ∀ (i : Nat) (h : i < l.length), k ≤ i → ChRef n l i l[i]
theorem LRef.succ {n : Int} {l : List Ch} {k : Nat} (h : k < l.length) (h1 : ChRef n l k l[k]) : LRef n l k ↔ LRef n l (k + 1) := by
  constructor
  · exact fun q j hj hk => q j hj (by omega)
  · intro q j hj hk
    by_cases e : j = k
    · subst e; exact h1
    · exact q j hj (by omega)
theorem rmay2_s (m : Nat) (l : List Ch) (n : Int) (hf : FitL l) (hm : 1000 < m) : plenumref31_May_r2 m ⟨[], [(0, chsA l), (1, nA n)]⟩ = iteP (LRef n l 0) (some (bA true, [])) (some (bA false, [])) := by
  have hl := hf.1
  rw [plenumref31_May_r2_eq]
  refine iter_go (m := m) (ι := {k : Nat // k ≤ l.length}) (fun k => ⟨[], [(0, chsA l), (1, nA n), (6, nA k.1)]⟩) (fun k => l.length - k.1) (fun k => iteP (LRef n l k.1) (some (bA true, [])) (some (bA false, []))) ?_ ⟨0, Nat.zero_le _⟩ (by dsimp only; omega)
  rintro kx hkx ⟨k, hk⟩ kc hkc
  dsimp only at hkc ⊢
  rw [plenumref31_May_b1_eq]
  have hF : ∀ H, kx .ret ⟨H, [(4, bA false)]⟩ = some (bA false, []) := fun H => by
    rw [hkx]
    simp (config := {maxSteps := 4000000, implicitDefEqProofs := false}) (disch := omega) only [go_sem, ]
  by_cases hlt : k < l.length
  · have hlt' : (k : Int) < (l.length : Int) := by omega
    have step := hkc ⟨k + 1, by omega⟩ (by dsimp only; omega)
    dsimp only at step
    have hcl := hf.2 l[k] (List.getElem_mem hlt)
    by_cases c1 : l[k].fr < 0
    · rw [iteP_neg (p := LRef n l k) (fun q => by have := (q k hlt (Nat.le_refl _)).f0; omega)]
      unfold chsA
      simp (config := {maxSteps := 4000000, implicitDefEqProofs := false}) (disch := omega) only [go_sem, hlt', hlt, c1, plenumref31_May_r4_eq]
      exact hF _
    · by_cases c2 : n ≤ l[k].fr
      · rw [iteP_neg (p := LRef n l k) (fun q => by have := (q k hlt (Nat.le_refl _)).fn; omega)]
        unfold chsA
        simp (config := {maxSteps := 4000000, implicitDefEqProofs := false}) (disch := omega) only [go_sem, hlt', hlt, c1, c2, plenumref31_May_r4_eq]
        exact hF _
      · have g1 := rdue_s m l[k].st
        by_cases c3 : l[k].st = 0
        · have c4 : ¬ (2147483647 : Int) < l[k].st := by omega
          have g2 := b2_s m kc kx l n k hlt hl l[k] (by omega) (by omega) hcl hm hF
          by_cases c5 : FrRef l l[k].fr k 0
          · rw [iteP_pos c5] at g2
            by_cases c6 : CsRef l[k].st l[k].cs 0
            · rw [iteP_pos c6] at g2
              rw [iteP_iff (LRef.succ hlt ⟨by omega, by omega, .inl c3, by omega, c5, c6⟩)]
              unfold chsA at g2 step ⊢
              simp (config := {maxSteps := 4000000, implicitDefEqProofs := false}) (disch := omega) only [go_sem, hlt', hlt, c1, c2, c3, g2, plenumref31_May_r4_eq]
              exact step
            · rw [iteP_neg c6] at g2
              rw [iteP_neg (p := LRef n l k) (fun q => c6 (q k hlt (Nat.le_refl _)).cs)]
              unfold chsA at g2 ⊢
              simp (config := {maxSteps := 4000000, implicitDefEqProofs := false}) (disch := omega) only [go_sem, hlt', hlt, c1, c2, c3, g2, plenumref31_May_r4_eq]
          · rw [iteP_neg c5] at g2
            rw [iteP_neg (p := LRef n l k) (fun q => c5 (q k hlt (Nat.le_refl _)).one)]
            unfold chsA at g2 ⊢
            simp (config := {maxSteps := 4000000, implicitDefEqProofs := false}) (disch := omega) only [go_sem, hlt', hlt, c1, c2, c3, g2, plenumref31_May_r4_eq]
        · cases hd : dueB l[k].st with
          | false =>
            rw [iteP_neg (p := LRef n l k) (fun q => by
              rcases (q k hlt (Nat.le_refl _)).sd with e | e
              · exact c3 e
              · rw [hd] at e; cases e)]
            rw [hd] at g1
            unfold chsA
            simp (config := {maxSteps := 4000000, implicitDefEqProofs := false}) (disch := omega) only [go_sem, hlt', hlt, c1, c2, c3, g1, plenumref31_May_r4_eq]
            exact hF _
          | true =>
            rw [hd] at g1
            have hpos : 0 < l[k].st := by
              unfold dueB at hd
              simp only [Bool.and_eq_true, decide_eq_true_eq] at hd
              exact hd.1
            by_cases c4 : (2147483647 : Int) < l[k].st
            · rw [iteP_neg (p := LRef n l k) (fun q => by have := (q k hlt (Nat.le_refl _)).sl; omega)]
              unfold chsA
              simp (config := {maxSteps := 4000000, implicitDefEqProofs := false}) (disch := omega) only [go_sem, hlt', hlt, c1, c2, c3, c4, g1, plenumref31_May_r4_eq]
              exact hF _
            · have g2 := b2_s m kc kx l n k hlt hl l[k] (by omega) (by omega) hcl hm hF
              by_cases c5 : FrRef l l[k].fr k 0
              · rw [iteP_pos c5] at g2
                by_cases c6 : CsRef l[k].st l[k].cs 0
                · rw [iteP_pos c6] at g2
                  rw [iteP_iff (LRef.succ hlt ⟨by omega, by omega, .inr hd, by omega, c5, c6⟩)]
                  unfold chsA at g2 step ⊢
                  simp (config := {maxSteps := 4000000, implicitDefEqProofs := false}) (disch := omega) only [go_sem, hlt', hlt, c1, c2, c3, c4, g1, g2, plenumref31_May_r4_eq]
                  exact step
                · rw [iteP_neg c6] at g2
                  rw [iteP_neg (p := LRef n l k) (fun q => c6 (q k hlt (Nat.le_refl _)).cs)]
                  unfold chsA at g2 ⊢
                  simp (config := {maxSteps := 4000000, implicitDefEqProofs := false}) (disch := omega) only [go_sem, hlt', hlt, c1, c2, c3, c4, g1, g2, plenumref31_May_r4_eq]
              · rw [iteP_neg c5] at g2
                rw [iteP_neg (p := LRef n l k) (fun q => c5 (q k hlt (Nat.le_refl _)).one)]
                unfold chsA at g2 ⊢
                simp (config := {maxSteps := 4000000, implicitDefEqProofs := false}) (disch := omega) only [go_sem, hlt', hlt, c1, c2, c3, c4, g1, g2, plenumref31_May_r4_eq]
  · obtain rfl : k = l.length := by omega
    have hlt' : ¬ (l.length : Int) < (l.length : Int) := Int.lt_irrefl _
    rw [iteP_pos (p := LRef n l l.length) (fun j hj hk => by omega)]
    unfold chsA
    simp (config := {maxSteps := 4000000, implicitDefEqProofs := false}) (disch := omega) only [go_sem, hlt', hkx, plenumref31_May_r3_eq]
theorem LRef.ok {n : Int} {l : List Ch} (h : LRef n l 0) (hn : okN n = true) (hl : 2 * fN n + 1 ≤ l.length) : LOk n l := by
  refine ⟨hn, hl, fun c hc => ?_, ?_⟩
  · obtain ⟨i, hi, rfl⟩ := List.mem_iff_getElem.1 hc
    have q := h i hi (Nat.zero_le _)
    exact ⟨q.f0, q.fn, q.sd, q.sl, q.cs.ok⟩
  · refine List.pairwise_iff_getElem.2 fun i j hi hj hij => ?_
    rw [List.getElem_map, List.getElem_map]
    simp only [List.length_map] at hi hj
    exact (h j hj (Nat.zero_le _)).one i hi (Nat.zero_le _) hij
theorem fN_zero {n : Int} : fN n = 0 ↔ okN n = false := by
  constructor
  · intro h
    cases ho : okN n with
    | false => rfl
    | true =>
      have := fN_ok ho
      rcases okN_iff.1 ho with q | q | q | q | q <;> omega
  · intro h; unfold fN; rw [h]; rfl
theorem rmay_s (m : Nat) (l : List Ch) (n : Int) (hf : FitL l) (hm : 1000 < m) : ∃ b, plenumref31_May m (chsA l) (nA n) = some (bA b, []) ∧ (b = true → LOk n l) := by
  have hl := hf.1
  have hF := rfaults_s m n (by omega)
  have g := rmay2_s m l n hf hm
  have hle := fN_le n
  rw [plenumref31_May_eq]
  cases ho : okN n with
  | false =>
    refine ⟨false, ?_, fun h => by cases h⟩
    have h0 : fN n = 0 := fN_zero.2 ho
    rw [h0] at hF
    simp (config := {maxSteps := 4000000, implicitDefEqProofs := false}) (disch := omega) only [go_sem, hF, plenumref31_May_r1_eq]
  | true =>
    have hpos : ¬ (fN n : Int) = 0 := fun h => by
      have h' : fN n = 0 := by omega
      rw [fN_zero, ho] at h'; cases h'
    have e1 : IntKind.i64.wrap (2 * (fN n : Int)) = 2 * (fN n : Int) := w_i64 (by omega) (by omega)
    have e2 : IntKind.i64.wrap (2 * (fN n : Int) + 1) = 2 * (fN n : Int) + 1 := w_i64 (by omega) (by omega)
    by_cases c : (l.length : Int) < 2 * (fN n : Int) + 1
    · refine ⟨false, ?_, fun h => by cases h⟩
      unfold chsA
      simp (config := {maxSteps := 4000000, implicitDefEqProofs := false}) (disch := omega) only [go_sem, hF, hpos, e1, e2, c, plenumref31_May_r1_eq]
    · by_cases hL : LRef n l 0
      · refine ⟨true, ?_, fun _ => hL.ok ho (by omega)⟩
        rw [iteP_pos hL] at g
        unfold chsA at g ⊢
        simp (config := {maxSteps := 4000000, implicitDefEqProofs := false}) (disch := omega) only [go_sem, hF, hpos, e1, e2, c, g, plenumref31_May_r1_eq]
      · refine ⟨false, ?_, fun h => by cases h⟩
        rw [iteP_neg hL] at g
        unfold chsA at g ⊢
        simp (config := {maxSteps := 4000000, implicitDefEqProofs := false}) (disch := omega) only [go_sem, hF, hpos, e1, e2, c, g, plenumref31_May_r1_eq]
end Go.Proofs.Ytbialapikbdolaa

namespace Go.Proofs.Ytbialapikbdolaa
open Go.RowKit
set_option linter.unusedVariables false
set_option linter.unusedSimpArgs false
set_option maxRecDepth 20000
attribute [local go_sem] Nat.zero_add Nat.add_zero Nat.mul_one Int.toNat_natCast Int.natCast_zero Int.cast_ofNat_Int or_false false_or or_true true_or Nat.sub_zero Int.natCast_nonneg Int.toNat_zero Bool.true_and Bool.and_true Bool.false_and Bool.and_false Bool.true_or Bool.or_true Bool.false_or Bool.or_false Bool.not_true Bool.not_false Bool.not_not true_and and_true false_and and_false not_true_eq_false not_false_eq_true eq_self decide_true decide_false ne_eq implies_true forall_const true_implies false_implies Bool.true_eq_false Bool.false_eq_true List.map_cons List.map_nil List.all_cons List.all_nil List.length_cons List.length_nil List.length_map List.length_append List.nil_append List.cons_append List.set_cons_zero List.set_cons_succ List.set_nil List.drop_zero List.drop_succ_cons List.drop_nil List.take_zero List.take_succ_cons List.take_nil Option.map_some Option.map_none Option.isSome_some List.all_append List.all_map Function.comp_def decide_eq_true_eq Bool.and_eq_true beq_self_eq_true or_self and_self ite_true ite_false Nat.le_refl Bool.not_eq_true decide_not Bool.not_eq_true' decide_eq_false_iff_not Bool.not_eq_false Bool.or_eq_true if_true if_false ite_self u_roF u_cvF u_cvC u_ceT u_ceK u_appS sm_it sm_len sm_sure sm_ltA sm_lt1 sm_all1 sm_ro sm_take sm_sl sm_set sm_noT sm_fr sm_st_fr sm_set_fr sm_kd sm_st_kd sm_set_kd sm_vw sm_st_vw sm_set_vw sm_sq sm_st_sq sm_set_sq sm_tm sm_st_tm sm_set_tm sms_ltA sms_len ce_it ce_len ce_sure ce_ltA ce_lt1 ce_all1 ce_ro ce_take ce_sl ce_set ce_noT ce_sq ce_st_sq ce_set_sq ce_vw ce_st_vw ce_set_vw ce_tm ce_st_tm ce_set_tm ce_body ce_st_body ce_set_body ce_vs ce_st_vs ce_set_vs zce_len zce_sure zce_lt1 zce_sl zce_ro zce_setz zce_set zce_setr zce_take ces_ltA ces_len cg_it cg_len cg_sure cg_ltA cg_lt1 cg_all1 cg_ro cg_take cg_sl cg_set cg_noT cg_fr cg_st_fr cg_set_fr cg_vw cg_st_vw cg_set_vw cg_st cg_st_st cg_set_st cg_rt cg_st_rt cg_set_rt cg_pf cg_st_pf cg_set_pf cg_cs cg_st_cs cg_set_cs zcg_len zcg_sure zcg_lt1 zcg_sl zcg_ro zcg_setz zcg_set zcg_setr zcg_take cgs_ltA cgs_len co_it co_len co_sure co_ltA co_lt1 co_all1 co_ro co_take co_sl co_set co_noT co_sq co_st_sq co_set_sq co_tm co_st_tm co_set_tm co_body co_st_body co_set_body co_nl co_st_nl co_set_nl zco_len zco_sure zco_lt1 zco_sl zco_ro zco_setz zco_set zco_setr zco_take cos_ltA cos_len natInt u_nthM u_bz u_bi1 u_bi2 u_bi3 u_bi4 u_bi5 u_bi6 u_bi7 ltO_o ltO_r u_eqE
attribute [local go_sem_proc] Nat.reduceAdd Nat.reduceSub Nat.reduceMul Nat.reduceLeDiff Nat.reduceLT Int.reduceEq Int.reduceNe Int.reduceLT Int.reduceLE Int.reduceAdd Int.reduceSub Int.reduceMul Int.reduceNeg Int.reduceToNat reduceCtorEq Nat.reduceEqDiff Nat.reduceBEq Nat.reduceGT
attribute [local go_sem_proc ↓] reduceIte
def farB (low q : Int) : Bool := decide (q ≤ low) || decide (16 < q - low)
def atX (l : List Ch) (q : Int) : AV := if farB (lowC l).st q = true then TU [coE Co.zero, nA 22] else TU [coE (atF q l), nA 0]
section
variable {n : Int} {l : List Ch}
theorem low_rng (h : LOk n l) : 0 ≤ (lowC l).st ∧ (lowC l).st ≤ 2147483647 := by
  have h0 : 0 < l.length := by have := h.len; omega
  have hlo := (h.all _ (bestC_mem h0 l.length (Nat.le_refl _)))
  exact ⟨hlo.s0, hlo.sl⟩
theorem chooseAt_s (m : Nat) (q : Int) (h : LOk n l) (hf : FitL l) (hm : 1000 < m) (hq : q < 9223372036854775808) : choose_At m (chsA l) (nA n) (nA q) = some (atX l q, []) := by
  have g1 := low_s m h hf hm
  have g2 := choose_at_e m l q hf
  obtain ⟨r1, r2⟩ := low_rng h
  rw [choose_At_eq]
  unfold atX farB
  have hb : ∀ {K1 : AV → RO}, buildE (some pl_api_Choice) (some zc_api_Choice) [] K1 = K1 (.agg (coC Co.zero)) := _root_.id rfl
  unfold chsA at g1 g2 ⊢
  generalize (lowC l).st = lo at *
  generalize (lowC l).rt = ro' at *
  by_cases c1 : q ≤ lo
  · simp (config := {maxSteps := 4000000, implicitDefEqProofs := false}) (disch := omega) only [go_sem, g1, g2, c1, hb, choose_At_r1_eq]
  · have e1 : IntKind.i64.wrap (q - lo) = q - lo := w_i64 (by omega) (by omega)
    by_cases c2 : (16 : Int) < q - lo
    · simp (config := {maxSteps := 4000000, implicitDefEqProofs := false}) (disch := omega) only [go_sem, g1, g2, c1, c2, e1, hb, choose_At_r1_eq]
    · simp (config := {maxSteps := 4000000, implicitDefEqProofs := false}) (disch := omega) only [go_sem, g1, g2, c1, c2, e1, hb, choose_At_r1_eq, choose_At_r2_eq]
end
theorem u_coS {R : Type} {K1 : AV → Option R} {isB sl : Bool} {x : Co} : binE (some [.i .i64, .i .i64, .s, .b]) isB sl .eql (.agg (coC x)) (.agg (coC x)) K1 = K1 (bA true) := by
  have e : ∀ b : Bool, (b == b) = true := by decide
  show K1 (bA (decide (x.sq = x.sq) && (decide (x.tm = x.tm) && (decide (x.body.toArray.toList = x.body.toArray.toList) && (decide (x.nl = x.nl) && true))))) = _
  simp
theorem l3_ok : LOk 4 l3 := by
  refine ⟨by decide, by decide, fun c hc => ?_, by decide⟩
  simp only [l3, List.mem_cons, List.not_mem_nil, or_false] at hc
  have h1 : ∀ v t, CsOk 0 [⟨2, v, t, [], []⟩] ↔ 0 ≤ v := fun v t => by
    constructor
    · intro h; exact (h 0 (by simp)).vw
    · intro h j hj
      have : j = 0 := by simpa using hj
      subst this
      exact ⟨by simp [lastQ], by simp, h, by simp⟩
  rcases hc with rfl | rfl | rfl
  · exact ⟨by decide, by decide, .inl rfl, by decide, (h1 0 5).2 (by decide)⟩
  · exact ⟨by decide, by decide, .inl rfl, by decide, (h1 1 6).2 (by decide)⟩
  · exact ⟨by decide, by decide, .inl rfl, by decide, fun j hj => absurd hj (by simp)⟩
theorem l3_fit : FitL l3 := by
  refine ⟨by decide, fun c hc => ?_⟩
  simp only [l3, List.mem_cons, List.not_mem_nil, or_false] at hc
  rcases hc with rfl | rfl | rfl <;> decide
theorem awake_s (m : Nat) (hm : 1000 < m) : plenumlaw31_awake m = some (bA true, []) := by
  have g0 : three_Q_t m [] = some (chsA l3, []) := rfl
  have g1 := choose_Choices_e m l3 4 2 l3_ok l3_fit (by decide) (by decide)
  have g2 := low_s m l3_ok l3_fit hm
  have g3 := chooseAt_s m 17 l3_ok l3_fit hm (by decide)
  have e1 : choA l3 (lowC l3).st 2 = [⟨1, 0, [], true⟩, ⟨2, 6, [], false⟩] := by decide
  have e2 : (lowC l3).st = 0 := by decide
  have e3 : atX l3 17 = TU [coE Co.zero, nA 22] := by unfold atX; rw [if_pos (by decide)]
  rw [e1] at g1
  rw [e2] at g2
  rw [e3] at g3
  rw [plenumlaw31_awake_eq]
  unfold chsA at g0 g1 g2 g3
  have hb1 : ∀ {K1 : AV → RO}, buildE (some pl_api_Choice) (some zc_api_Choice) [(0, nA 1), (3, V (.bool true))] K1 = K1 (.agg (coC ⟨1, 0, [], true⟩)) := _root_.id rfl
  have hb2 : ∀ {K1 : AV → RO}, buildE (some pl_api_Choice) (some zc_api_Choice) [(0, nA 2), (1, nA 6)] K1 = K1 (.agg (coC ⟨2, 6, [], false⟩)) := _root_.id rfl
  simp (config := {maxSteps := 4000000, implicitDefEqProofs := false}) (disch := omega) only [go_sem, g0, g1, g2, g3, hb1, hb2, u_coS]
end Go.Proofs.Ytbialapikbdolaa

namespace Go.Proofs.Ytbialapikbdolaa
set_option linter.unusedVariables false
set_option linter.unusedSimpArgs false
structure Ac where
  v : Int
  t : Int
  s : List UInt8
  m : Nat
  o : Bool
def ac0 : Ac := ⟨-1, 0, [], 0, true⟩
def topC (a : Ac) (x : Ce) : Ac := if a.v < x.vw then ⟨x.vw, x.tm, x.body, 0, true⟩ else a
def addC (a : Ac) (x : Ce) : Ac := if x.vw = a.v then { a with m := a.m + 1, o := a.o && (decide (x.tm = a.t) && decide (x.body = a.s)) } else a
def stepC (q : Int) (a : Ac) (x : Ce) : Ac := if x.sq = q then addC (topC a x) x else a
def isP (q v : Int) (x : Ce) : Bool := decide (x.sq = q) && decide (x.vw = v)
def cnt (q v : Int) (d : List Ce) : Nat := (d.filter (isP q v)).length
structure Inv (q : Int) (a : Ac) (d : List Ce) : Prop where
  top : ∀ x ∈ d, x.sq = q → x.vw ≤ a.v
  one : a.o = true → ∀ x ∈ d, x.sq = q → x.vw = a.v → x.tm = a.t ∧ x.body = a.s
  num : a.m = cnt q a.v d
theorem cnt_snoc {q v : Int} {d : List Ce} {x : Ce} : cnt q v (d ++ [x]) = cnt q v d + if isP q v x = true then 1 else 0 := by
  unfold cnt
  rw [List.filter_append, List.length_append]
  congr 1
  cases h : isP q v x <;> simp [h]
theorem cnt_none {q v : Int} {d : List Ce} (h : ∀ x ∈ d, x.sq = q → x.vw < v) : cnt q v d = 0 := by
  unfold cnt
  rw [List.length_eq_zero_iff, List.filter_eq_nil_iff]
  intro x hx
  unfold isP
  intro q
  simp only [Bool.and_eq_true, decide_eq_true_eq] at q
  have := h x hx q.1
  omega
theorem Inv.step {q : Int} {a : Ac} {d : List Ce} (h : Inv q a d) (x : Ce) : Inv q (stepC q a x) (d ++ [x]) := by
  unfold stepC
  by_cases hq : x.sq = q
  · rw [if_pos hq]
    unfold topC
    by_cases hv : a.v < x.vw
    · rw [if_pos hv]
      unfold addC
      rw [if_pos rfl]
      refine ⟨?_, ?_, ?_⟩
      · intro y hy hyq
        rcases List.mem_append.1 hy with hy | hy
        · have := h.top y hy hyq; show y.vw ≤ x.vw; omega
        · obtain rfl := List.mem_singleton.1 hy
          exact Int.le_refl _
      · intro _ y hy hyq hyv
        rcases List.mem_append.1 hy with hy | hy
        · have := h.top y hy hyq
          have : y.vw = x.vw := hyv
          omega
        · obtain rfl := List.mem_singleton.1 hy
          exact ⟨rfl, rfl⟩
      · show 0 + 1 = cnt q x.vw (d ++ [x])
        rw [cnt_snoc, cnt_none (fun y hy hyq => by have := h.top y hy hyq; omega), if_pos (by simp [isP, hq])]
    · rw [if_neg hv]
      unfold addC
      by_cases he : x.vw = a.v
      · rw [if_pos he]
        refine ⟨?_, ?_, ?_⟩
        · intro y hy hyq
          rcases List.mem_append.1 hy with hy | hy
          · exact h.top y hy hyq
          · obtain rfl := List.mem_singleton.1 hy
            exact Int.le_of_eq he
        · intro ho y hy hyq hyv
          simp only [Bool.and_eq_true, decide_eq_true_eq] at ho
          rcases List.mem_append.1 hy with hy | hy
          · exact h.one ho.1 y hy hyq hyv
          · obtain rfl := List.mem_singleton.1 hy
            exact ho.2
        · show a.m + 1 = cnt q a.v (d ++ [x])
          rw [cnt_snoc, h.num, if_pos (by simp [isP, hq, he])]
      · rw [if_neg he]
        refine ⟨?_, ?_, ?_⟩
        · intro y hy hyq
          rcases List.mem_append.1 hy with hy | hy
          · exact h.top y hy hyq
          · obtain rfl := List.mem_singleton.1 hy
            omega
        · intro ho y hy hyq hyv
          rcases List.mem_append.1 hy with hy | hy
          · exact h.one ho y hy hyq hyv
          · obtain rfl := List.mem_singleton.1 hy
            exact absurd hyv he
        · rw [cnt_snoc, h.num, if_neg (by simp [isP, he])]
          rfl
  · rw [if_neg hq]
    refine ⟨?_, ?_, ?_⟩
    · intro y hy hyq
      rcases List.mem_append.1 hy with hy | hy
      · exact h.top y hy hyq
      · obtain rfl := List.mem_singleton.1 hy
        exact absurd hyq hq
    · intro ho y hy hyq hyv
      rcases List.mem_append.1 hy with hy | hy
      · exact h.one ho y hy hyq hyv
      · obtain rfl := List.mem_singleton.1 hy
        exact absurd hyq hq
    · rw [cnt_snoc, h.num, if_neg (by simp [isP, hq])]
      rfl
theorem Inv.fold {q : Int} : ∀ (l : List Ce) {a : Ac} {d : List Ce}, Inv q a d → Inv q (l.foldl (stepC q) a) (d ++ l)
  | [], a, d, h => by rw [List.append_nil]; exact h
  | x :: l, a, d, h => by
    have := Inv.fold l (h.step x)
    rw [List.append_assoc] at this
    exact this
def allC' (l : List Ch) : List Ce := l.flatMap Ch.cs
theorem foldL_flat {β : Type} {R : β → Ce → β} : ∀ (l : List Ch) (b : β), foldL R b l = (allC' l).foldl R b
  | [], b => rfl
  | c :: l, b => by
    have ih := foldL_flat (R := R) l (foldC R b c.cs)
    show foldL R (foldC R b c.cs) l = _
    rw [ih]
    show _ = ((c :: l).flatMap Ch.cs).foldl R b
    rw [List.flatMap_cons, List.foldl_append]
    rfl
theorem inv0 (q : Int) : Inv q ac0 [] := ⟨fun x hx => by simp at hx, fun _ x hx => by simp at hx, rfl⟩
theorem inv_l (q : Int) (l : List Ch) : Inv q (foldL (stepC q) ac0 l) (allC' l) := by
  rw [foldL_flat]
  have := Inv.fold (allC' l) (inv0 q)
  rwa [List.nil_append] at this
structure Kep (q : Int) (a : Int × Co) (d : List Ce) : Prop where
  top : ∀ x ∈ d, x.sq = q → x.vw ≤ a.1
  at_ : a.1 = -1 ∨ ∃ x ∈ d, x.sq = q ∧ x.vw = a.1 ∧ a.2 = ⟨q, x.tm, x.body, false⟩
theorem Kep.step {q : Int} {a : Int × Co} {d : List Ce} (h : Kep q a d) (x : Ce) : Kep q (keepC q a x) (d ++ [x]) := by
  unfold keepC
  by_cases hc : x.sq = q ∧ a.1 < x.vw
  · rw [if_pos hc]
    refine ⟨?_, .inr ⟨x, by simp, hc.1, rfl, rfl⟩⟩
    intro y hy hyq
    rcases List.mem_append.1 hy with hy | hy
    · have := h.top y hy hyq; have := hc.2; show y.vw ≤ x.vw; omega
    · obtain rfl := List.mem_singleton.1 hy
      exact Int.le_refl _
  · rw [if_neg hc]
    refine ⟨?_, ?_⟩
    · intro y hy hyq
      rcases List.mem_append.1 hy with hy | hy
      · exact h.top y hy hyq
      · obtain rfl := List.mem_singleton.1 hy
        rcases Int.lt_or_le a.1 y.vw with q1 | q1
        · exact absurd ⟨hyq, q1⟩ hc
        · exact q1
    · rcases h.at_ with q1 | ⟨y, hy, q1⟩
      · exact .inl q1
      · exact .inr ⟨y, List.mem_append.2 (.inl hy), q1⟩
theorem Kep.fold {q : Int} : ∀ (l : List Ce) {a : Int × Co} {d : List Ce}, Kep q a d → Kep q (l.foldl (keepC q) a) (d ++ l)
  | [], a, d, h => by rw [List.append_nil]; exact h
  | x :: l, a, d, h => by
    have := Kep.fold l (h.step x)
    rw [List.append_assoc] at this
    exact this
theorem kep_l (q : Int) (l : List Ch) : Kep q (foldL (keepC q) (-1, co0 q) l) (allC' l) := by
  rw [foldL_flat]
  have := Kep.fold (q := q) (allC' l) (a := (-1, co0 q)) (d := []) ⟨fun x hx => by simp at hx, .inl rfl⟩
  rwa [List.nil_append] at this
theorem CsOk.lt {st : Int} {cs : List Ce} (h : CsOk st cs) {i : Nat} : ∀ {j : Nat} (hij : i < j) (hj : j < cs.length), (cs[i]'(Nat.lt_trans hij hj)).sq < cs[j].sq
  | 0, hij, _ => by omega
  | j + 1, hij, hj => by
    have h1 := (h (j + 1) hj).lo
    rw [lastQ_succ (by omega)] at h1
    by_cases e : i = j
    · subst e; exact h1
    · have := CsOk.lt h (i := i) (j := j) (by omega) (by omega)
      omega
theorem CsOk.few {st : Int} {cs : List Ce} (h : CsOk st cs) (q v : Int) : cnt q v cs ≤ 1 := by
  have hp : cs.Pairwise fun x y => x.sq < y.sq := List.pairwise_iff_getElem.2 fun i j hi hj hij => h.lt hij hj
  have hf : (cs.filter (isP q v)).Pairwise fun x y => x.sq < y.sq := hp.sublist List.filter_sublist
  unfold cnt
  have hm : ∀ x ∈ cs.filter (isP q v), x.sq = q := fun x hx => by
    have := (List.mem_filter.1 hx).2
    unfold isP at this
    simp only [Bool.and_eq_true, decide_eq_true_eq] at this
    exact this.1
  generalize cs.filter (isP q v) = l at *
  match l, hf, hm with
  | [], _, _ => exact Nat.zero_le _
  | [x], _, _ => exact Nat.le_refl _
  | x :: y :: l, hf, hm =>
    exfalso
    have h1 := (List.pairwise_cons.1 hf).1 y (by simp)
    have h2 := hm x (by simp)
    have h3 := hm y (by simp)
    omega
theorem cnt_app {q v : Int} {a b : List Ce} : cnt q v (a ++ b) = cnt q v a + cnt q v b := by
  unfold cnt
  rw [List.filter_append, List.length_append]
theorem cnt_sub {q v : Int} {n : Int} : ∀ {s l : List Ch}, s.Sublist l → (∀ c ∈ l, ChOk n c) → cnt q v (allC' l) + s.length ≤ cnt q v (allC' s) + l.length
  | _, _, .slnil, _ => Nat.le_refl _
  | s, a :: l, .cons _ h, hl => by
    have ih := cnt_sub (q := q) (v := v) h fun c hc => hl c (List.mem_cons_of_mem _ hc)
    have h1 := (hl a (List.mem_cons_self ..)).cs.few q v
    show cnt q v ((a :: l).flatMap Ch.cs) + _ ≤ _
    rw [List.flatMap_cons, cnt_app, List.length_cons]
    have : cnt q v (allC' l) = cnt q v (l.flatMap Ch.cs) := rfl
    omega
  | a :: s, _ :: l, .cons_cons _ h, hl => by
    have ih := cnt_sub (q := q) (v := v) h fun c hc => hl c (List.mem_cons_of_mem _ hc)
    show cnt q v ((a :: l).flatMap Ch.cs) + _ ≤ cnt q v ((a :: s).flatMap Ch.cs) + _
    rw [List.flatMap_cons, List.flatMap_cons, cnt_app, cnt_app, List.length_cons, List.length_cons]
    have e1 : cnt q v (allC' l) = cnt q v (l.flatMap Ch.cs) := rfl
    have e2 : cnt q v (allC' s) = cnt q v (s.flatMap Ch.cs) := rfl
    omega
theorem allC_sub {s l : List Ch} (h : s.Sublist l) : ∀ x ∈ allC' s, x ∈ allC' l := by
  intro x hx
  unfold allC' at hx ⊢
  rw [List.mem_flatMap] at hx ⊢
  obtain ⟨c, hc, hx⟩ := hx
  exact ⟨c, h.subset hc, hx⟩
theorem safe {n : Int} {l s : List Ch} {q : Int} {a : Ac} (hs : s.Sublist l) (hl : ∀ c ∈ l, ChOk n c) (ha : foldL (stepC q) ac0 l = a) (h0 : 0 ≤ a.v) (hm : l.length < a.m + s.length) (ho : a.o = true) : atF q s = ⟨q, a.t, a.s, false⟩ := by
  have hi := inv_l q l
  rw [ha] at hi
  have hk := kep_l q s
  unfold atF
  generalize foldL (keepC q) (-1, co0 q) s = k at *
  have h1 := cnt_sub (q := q) (v := a.v) hs hl
  have h2 : 0 < cnt q a.v (allC' s) := by have := hi.num; omega
  unfold cnt at h2
  obtain ⟨x, hx⟩ := List.length_pos_iff_exists_mem.1 h2
  obtain ⟨hx1, hx2⟩ := List.mem_filter.1 hx
  unfold isP at hx2
  simp only [Bool.and_eq_true, decide_eq_true_eq] at hx2
  have h3 := hk.top x hx1 hx2.1
  rcases hk.at_ with q1 | ⟨y, hy, hyq, hyv, hyo⟩
  · omega
  · have h4 := hi.top y (allC_sub hs y hy) hyq
    obtain ⟨e1, e2⟩ := hi.one ho y (allC_sub hs y hy) hyq (by omega)
    rw [hyo, e1, e2]
end Go.Proofs.Ytbialapikbdolaa

namespace Go.Proofs.Ytbialapikbdolaa
open Go.RowKit
set_option linter.unusedVariables false
set_option linter.unusedSimpArgs false
set_option maxRecDepth 20000
attribute [local go_sem] Nat.zero_add Nat.add_zero Nat.mul_one Int.toNat_natCast Int.natCast_zero Int.cast_ofNat_Int or_false false_or or_true true_or Nat.sub_zero Int.natCast_nonneg Int.toNat_zero Bool.true_and Bool.and_true Bool.false_and Bool.and_false Bool.true_or Bool.or_true Bool.false_or Bool.or_false Bool.not_true Bool.not_false Bool.not_not true_and and_true false_and and_false not_true_eq_false not_false_eq_true eq_self decide_true decide_false ne_eq implies_true forall_const true_implies false_implies Bool.true_eq_false Bool.false_eq_true List.map_cons List.map_nil List.all_cons List.all_nil List.length_cons List.length_nil List.length_map List.length_append List.nil_append List.cons_append List.set_cons_zero List.set_cons_succ List.set_nil List.drop_zero List.drop_succ_cons List.drop_nil List.take_zero List.take_succ_cons List.take_nil Option.map_some Option.map_none Option.isSome_some List.all_append List.all_map Function.comp_def decide_eq_true_eq Bool.and_eq_true beq_self_eq_true or_self and_self ite_true ite_false Nat.le_refl Bool.not_eq_true decide_not Bool.not_eq_true' decide_eq_false_iff_not Bool.not_eq_false Bool.or_eq_true if_true if_false ite_self u_roF u_cvF u_cvC u_ceT u_ceK u_appS sm_it sm_len sm_sure sm_ltA sm_lt1 sm_all1 sm_ro sm_take sm_sl sm_set sm_noT sm_fr sm_st_fr sm_set_fr sm_kd sm_st_kd sm_set_kd sm_vw sm_st_vw sm_set_vw sm_sq sm_st_sq sm_set_sq sm_tm sm_st_tm sm_set_tm sms_ltA sms_len ce_it ce_len ce_sure ce_ltA ce_lt1 ce_all1 ce_ro ce_take ce_sl ce_set ce_noT ce_sq ce_st_sq ce_set_sq ce_vw ce_st_vw ce_set_vw ce_tm ce_st_tm ce_set_tm ce_body ce_st_body ce_set_body ce_vs ce_st_vs ce_set_vs zce_len zce_sure zce_lt1 zce_sl zce_ro zce_setz zce_set zce_setr zce_take ces_ltA ces_len cg_it cg_len cg_sure cg_ltA cg_lt1 cg_all1 cg_ro cg_take cg_sl cg_set cg_noT cg_fr cg_st_fr cg_set_fr cg_vw cg_st_vw cg_set_vw cg_st cg_st_st cg_set_st cg_rt cg_st_rt cg_set_rt cg_pf cg_st_pf cg_set_pf cg_cs cg_st_cs cg_set_cs zcg_len zcg_sure zcg_lt1 zcg_sl zcg_ro zcg_setz zcg_set zcg_setr zcg_take cgs_ltA cgs_len co_it co_len co_sure co_ltA co_lt1 co_all1 co_ro co_take co_sl co_set co_noT co_sq co_st_sq co_set_sq co_tm co_st_tm co_set_tm co_body co_st_body co_set_body co_nl co_st_nl co_set_nl zco_len zco_sure zco_lt1 zco_sl zco_ro zco_setz zco_set zco_setr zco_take cos_ltA cos_len natInt u_nthM u_bz u_bi1 u_bi2 u_bi3 u_bi4 u_bi5 u_bi6 u_bi7 ltO_o ltO_r u_eqE List.take_length
attribute [local go_sem_proc] Nat.reduceAdd Nat.reduceSub Nat.reduceMul Nat.reduceLeDiff Nat.reduceLT Int.reduceEq Int.reduceNe Int.reduceLT Int.reduceLE Int.reduceAdd Int.reduceSub Int.reduceMul Int.reduceNeg Int.reduceToNat reduceCtorEq Nat.reduceEqDiff Nat.reduceBEq Nat.reduceGT
attribute [local go_sem_proc ↓] reduceIte
def fewL (l : List Ch) : List Ch := (l.take 20).map cgF
theorem few1_s (m : Nat) (cs : List Ch) (hm : 70 < m) (hc : cs.length ≤ 20) (hv : ∀ y ∈ cs, BigC y) : plenumlaw31_Few_r1 m ⟨[], [(0, chsA cs)]⟩ = some (chsA (cs.map cgF), []) := by
  rw [plenumlaw31_Few_r1_eq]
  unfold chsA
  simp (config := {maxSteps := 4000000, implicitDefEqProofs := false}) (disch := omega) only [go_sem, ]
  refine iter_go (m := m) (ι := {k : Nat // k ≤ cs.length}) (fun k => ⟨[⟨2, ty_api_Change, 6, ((cs.take k.1).map cgF).map cgE⟩], [(0, SL (cs.map cgE)), (3, OW 0 k.1), (4, nA k.1)]⟩) (fun k => cs.length - k.1) (fun _ => some (SL ((cs.map cgF).map cgE), [])) ?_ ⟨0, Nat.zero_le _⟩ (by dsimp only; omega)
  rintro kx hkx ⟨k, hk⟩ kc hkc
  dsimp only at hkc ⊢
  rw [plenumlaw31_Few_b1_eq]
  have hxs : ∀ n, (((cs.take k).map cgF).map cgE).all (ltA n) = true := fun n => by rw [List.all_map]; exact cgs_ltA
  have hlen : (((cs.take k).map cgF).map cgE).length = k := by simp; omega
  by_cases hlt : k < cs.length
  · have hlt' : (k : Int) < (cs.length : Int) := by omega
    obtain ⟨v1, v2, v3⟩ := hv cs[k] (List.getElem_mem hlt)
    have g1 := fewChange_s m cs[k] hm v1 v2 v3
    rw [cg_it, cg_it] at g1
    have step := hkc ⟨k + 1, by omega⟩ (by dsimp only; omega)
    dsimp only at step
    rw [List.take_succ_eq_append_getElem hlt] at step
    simp only [List.map_append, List.map_cons, List.map_nil, cg_it] at step
    generalize hX : ((cs.take k).map cgF).map cgE = XS at *
    have hroom : k + 1 ≤ 34359738368 := by omega
    simp (config := {maxSteps := 4000000, implicitDefEqProofs := false}) (disch := omega) only [go_sem, hlt', hlt, g1, hxs, hlen, hroom, w_i64]
    exact step
  · obtain rfl : k = cs.length := by omega
    have hlt' : ¬ (cs.length : Int) < (cs.length : Int) := Int.lt_irrefl _
    have hk2 : cs.take cs.length = cs := List.take_of_length_le (Nat.le_refl _)
    rw [hk2] at hxs ⊢
    simp (config := {maxSteps := 4000000, implicitDefEqProofs := false}) (disch := omega) only [go_sem, hlt', hkx, hxs, plenumlaw31_Few_r2_eq]
theorem few31_s (m : Nat) (l : List Ch) (hm : 70 < m) (hl : l.length ≤ 9223372036854775807) (hv : ∀ y ∈ l, BigC y) : plenumlaw31_Few m (chsA l) = some (chsA (fewL l), []) := by
  rw [plenumlaw31_Few_eq]
  unfold fewL
  by_cases h1 : 20 < l.length
  · have h1' : (l.length : Int) > 20 := by omega
    have h3' : (20 : Int) ≤ (l.length : Int) := by omega
    have hF := few1_s m (l.take 20) hm (by simp; omega) (fun y hy => hv y (List.mem_of_mem_take hy))
    have hcut : cutE (l.map cgE) 0 20 = (l.take 20).map cgE := cutM (n := 20)
    unfold chsA at hF ⊢
    simp (config := {maxSteps := 4000000, implicitDefEqProofs := false}) (disch := omega) only [go_sem, h1', h3', hcut, hF]
  · have h1' : ¬ (l.length : Int) > 20 := by omega
    have hF := few1_s m l hm (by omega) hv
    rw [List.take_of_length_le (show l.length ≤ 20 by omega)]
    unfold chsA at hF ⊢
    simp (config := {maxSteps := 4000000, implicitDefEqProofs := false}) (disch := omega) only [go_sem, h1', hF]
theorem few_fit (l : List Ch) : FitL (fewL l) := by
  unfold fewL
  refine ⟨by simp; omega, fun c hc => ?_⟩
  obtain ⟨y, _, rfl⟩ := List.mem_map.1 hc
  unfold cgF
  simp; omega
end Go.Proofs.Ytbialapikbdolaa

namespace Go.Proofs.Ytbialapikbdolaa
open Go.RowKit
set_option linter.unusedVariables false
set_option linter.unusedSimpArgs false
set_option maxRecDepth 20000
attribute [local go_sem] Nat.zero_add Nat.add_zero Nat.mul_one Int.toNat_natCast Int.natCast_zero Int.cast_ofNat_Int or_false false_or or_true true_or Nat.sub_zero Int.natCast_nonneg Int.toNat_zero Bool.true_and Bool.and_true Bool.false_and Bool.and_false Bool.true_or Bool.or_true Bool.false_or Bool.or_false Bool.not_true Bool.not_false Bool.not_not true_and and_true false_and and_false not_true_eq_false not_false_eq_true eq_self decide_true decide_false ne_eq implies_true forall_const true_implies false_implies Bool.true_eq_false Bool.false_eq_true List.map_cons List.map_nil List.all_cons List.all_nil List.length_cons List.length_nil List.length_map List.length_append List.nil_append List.cons_append List.set_cons_zero List.set_cons_succ List.set_nil List.drop_zero List.drop_succ_cons List.drop_nil List.take_zero List.take_succ_cons List.take_nil Option.map_some Option.map_none Option.isSome_some List.all_append List.all_map Function.comp_def decide_eq_true_eq Bool.and_eq_true beq_self_eq_true or_self and_self ite_true ite_false Nat.le_refl Bool.not_eq_true decide_not Bool.not_eq_true' decide_eq_false_iff_not Bool.not_eq_false Bool.or_eq_true if_true if_false ite_self u_roF u_cvF u_cvC u_ceT u_ceK u_appS sm_it sm_len sm_sure sm_ltA sm_lt1 sm_all1 sm_ro sm_take sm_sl sm_set sm_noT sm_fr sm_st_fr sm_set_fr sm_kd sm_st_kd sm_set_kd sm_vw sm_st_vw sm_set_vw sm_sq sm_st_sq sm_set_sq sm_tm sm_st_tm sm_set_tm sms_ltA sms_len ce_it ce_len ce_sure ce_ltA ce_lt1 ce_all1 ce_ro ce_take ce_sl ce_set ce_noT ce_sq ce_st_sq ce_set_sq ce_vw ce_st_vw ce_set_vw ce_tm ce_st_tm ce_set_tm ce_body ce_st_body ce_set_body ce_vs ce_st_vs ce_set_vs zce_len zce_sure zce_lt1 zce_sl zce_ro zce_setz zce_set zce_setr zce_take ces_ltA ces_len cg_it cg_len cg_sure cg_ltA cg_lt1 cg_all1 cg_ro cg_take cg_sl cg_set cg_noT cg_fr cg_st_fr cg_set_fr cg_vw cg_st_vw cg_set_vw cg_st cg_st_st cg_set_st cg_rt cg_st_rt cg_set_rt cg_pf cg_st_pf cg_set_pf cg_cs cg_st_cs cg_set_cs zcg_len zcg_sure zcg_lt1 zcg_sl zcg_ro zcg_setz zcg_set zcg_setr zcg_take cgs_ltA cgs_len co_it co_len co_sure co_ltA co_lt1 co_all1 co_ro co_take co_sl co_set co_noT co_sq co_st_sq co_set_sq co_tm co_st_tm co_set_tm co_body co_st_body co_set_body co_nl co_st_nl co_set_nl zco_len zco_sure zco_lt1 zco_sl zco_ro zco_setz zco_set zco_setr zco_take cos_ltA cos_len natInt u_nthM u_bz u_bi1 u_bi2 u_bi3 u_bi4 u_bi5 u_bi6 u_bi7 ltO_o ltO_r u_eqE
attribute [local go_sem_proc] Nat.reduceAdd Nat.reduceSub Nat.reduceMul Nat.reduceLeDiff Nat.reduceLT Int.reduceEq Int.reduceNe Int.reduceLT Int.reduceLE Int.reduceAdd Int.reduceSub Int.reduceMul Int.reduceNeg Int.reduceToNat reduceCtorEq Nat.reduceEqDiff Nat.reduceBEq Nat.reduceGT
attribute [local go_sem_proc ↓] reduceIte
abbrev lvA (lv : Int) : AV := V (.int .u16 lv)
def sBox (l0 : List Ch) (n q lv : Int) : AObj := ⟨1, ty_plenumlaw31_Some, 0, [SL (l0.map cgE), nA n, nA q, lvA lv]⟩
abbrev Ta (l : List Ch) (n q lv : Int) (f : Nat) (a : Ac) (r : Tm) : Tm := (3, SL (l.map cgE)) :: (4, nA n) :: (5, nA q) :: (6, lvA lv) :: (7, nA f) :: (8, nA a.v) :: (9, nA a.t) :: (10, sA a.s) :: (11, nA a.m) :: (12, bA a.o) :: r
section
variable {l0 l : List Ch} {n q lv : Int} {f : Nat}
theorem r6_s (m : Nat) (kc : ASt → RO) (kx : KO (AV × List AObj)) (a : Ac) (x : Ce) (i j : Nat) (hj : j < 1000000) (hm : a.m < 1000000) (M : Int) (hM : M = a.m) :
    plenumlaw31_ChooseSafe_r6 m 1 kc kx ⟨[sBox l0 n q lv, ⟨1, ty_api_Cert, 0, ceC x⟩], [(3, SL (l.map cgE)), (4, nA n), (5, nA q), (6, lvA lv), (7, nA f), (8, nA a.v), (9, nA a.t), (10, sA a.s), (11, nA M), (12, bA a.o), (13, nA i), (14, nA j), (15, OP 1 0)]⟩ = kc ⟨[sBox l0 n q lv], Ta l n q lv f (addC a x) [(13, nA i), (14, nA ((j : Int) + 1))]⟩ := by
  subst hM
  rw [plenumlaw31_ChooseSafe_r6_eq]
  unfold addC sBox
  by_cases c1 : x.vw = a.v
  · rw [if_pos c1]
    cases ho : a.o with
    | false =>
      simp (config := {maxSteps := 4000000, implicitDefEqProofs := false}) (disch := omega) only [go_sem, c1, w_i64, plenumlaw31_ChooseSafe_r9_eq]
      rfl
    | true =>
      by_cases c2 : x.tm = a.t
      · simp (config := {maxSteps := 4000000, implicitDefEqProofs := false}) (disch := omega) only [go_sem, c1, c2, w_i64, plenumlaw31_ChooseSafe_r9_eq]
        rfl
      · simp (config := {maxSteps := 4000000, implicitDefEqProofs := false}) (disch := omega) only [go_sem, c1, c2, w_i64, plenumlaw31_ChooseSafe_r9_eq]
        rfl
  · rw [if_neg c1]
    simp (config := {maxSteps := 4000000, implicitDefEqProofs := false}) (disch := omega) only [go_sem, c1, w_i64, plenumlaw31_ChooseSafe_r9_eq]
theorem step_m {q : Int} {a : Ac} {x : Ce} : (stepC q a x).m ≤ a.m + 1 := by
  unfold stepC addC topC
  split
  · split
    · split
      · dsimp only; omega
      · dsimp only; omega
    · split
      · dsimp only; omega
      · omega
  · omega
theorem foldC_m {q : Int} : ∀ (cs : List Ce) (a : Ac), (foldC (stepC q) a cs).m ≤ a.m + cs.length
  | [], a => Nat.le_refl _
  | x :: cs, a => by
    have ih := foldC_m (q := q) cs (stepC q a x)
    have h := step_m (q := q) (a := a) (x := x)
    show (foldC (stepC q) (stepC q a x) cs).m ≤ _
    rw [List.length_cons]
    omega
theorem foldL_m {q : Int} : ∀ (l : List Ch) (a : Ac), (∀ c ∈ l, c.cs.length ≤ 1000) → (foldL (stepC q) a l).m ≤ a.m + 1000 * l.length
  | [], a, _ => Nat.le_refl _
  | c :: l, a, h => by
    have ih := foldL_m (q := q) l (foldC (stepC q) a c.cs) fun d hd => h d (List.mem_cons_of_mem _ hd)
    have h1 := foldC_m (q := q) c.cs a
    have h2 := h c (List.mem_cons_self ..)
    show (foldL (stepC q) (foldC (stepC q) a c.cs) l).m ≤ _
    rw [List.length_cons]
    omega
theorem b2c_s (m : Nat) (kc : ASt → RO) (kx : KO (AV × List AObj)) (a : Ac) (i : Nat) (hf : FitL l) (hi : i < l.length) (ha : a.m ≤ 900000) (hm : 1000 < m) :
    iterC m (plenumlaw31_ChooseSafe_b2 m) ⟨[sBox l0 n q lv], Ta l n q lv f a [(13, nA i), (14, V (.int .i64 0))]⟩ (blockX 2 (blockX 1 (seqX (fun s => plenumlaw31_ChooseSafe_r4 m 1 kc kx ⟨s.H, [(3, get s.T 3), (4, get s.T 4), (5, get s.T 5), (6, get s.T 6), (7, get s.T 7), (8, get s.T 8), (9, get s.T 9), (10, get s.T 10), (11, get s.T 11), (12, get s.T 12), (13, get s.T 13)]⟩) (backW 1 [3, 4, 5, 6, 7, 8, 9, 10, 11, 12, 13] [3, 4, 5, 6, 7, 8, 9, 10, 11, 12] kc kx)))) =
      kc ⟨[sBox l0 n q lv], Ta l n q lv f (foldC (stepC q) a l[i].cs) [(13, nA ((i : Int) + 1))]⟩ := by
  have hl := hf.1
  have hcl := hf.2 l[i] (List.getElem_mem hi)
  refine iter_go (m := m) (ι := {k : Nat // k ≤ l[i].cs.length}) (fun k => ⟨[sBox l0 n q lv], Ta l n q lv f (foldC (stepC q) a (l[i].cs.take k.1)) [(13, nA i), (14, nA k.1)]⟩) (fun k => l[i].cs.length - k.1) (fun _ => kc ⟨[sBox l0 n q lv], Ta l n q lv f (foldC (stepC q) a l[i].cs) [(13, nA ((i : Int) + 1))]⟩) ?_ ⟨0, Nat.zero_le _⟩ (by dsimp only; omega)
  rintro k2 hk2 ⟨k, hk⟩ kd hkd
  dsimp only at hkd ⊢
  rw [plenumlaw31_ChooseSafe_b2_eq]
  by_cases hlt : k < l[i].cs.length
  · have hlt' : (k : Int) < (l[i].cs.length : Int) := by omega
    have step := hkd ⟨k + 1, by omega⟩ (by dsimp only; omega)
    dsimp only at step
    rw [foldC_snoc hlt] at step
    have hb := foldC_m (q := q) (l[i].cs.take k) a
    rw [List.length_take] at hb
    generalize foldC (stepC q) a (l[i].cs.take k) = A at *
    have hz : foldC (stepC q) a l[i].cs = foldC (stepC q) a l[i].cs := rfl
    generalize foldC (stepC q) a l[i].cs = Z at *
    by_cases c1 : l[i].cs[k].sq = q
    · rw [show stepC q A l[i].cs[k] = addC (topC A l[i].cs[k]) l[i].cs[k] from if_pos c1] at step
      by_cases c2 : A.v < l[i].cs[k].vw
      · have e2 : topC A l[i].cs[k] = ⟨l[i].cs[k].vw, l[i].cs[k].tm, l[i].cs[k].body, 0, true⟩ := if_pos c2
        rw [e2] at step
        have g2 := r6_s (l0 := l0) (l := l) (n := n) (q := q) (lv := lv) (f := f) m kd k2 ⟨l[i].cs[k].vw, l[i].cs[k].tm, l[i].cs[k].body, 0, true⟩ l[i].cs[k] i k (by omega) (Nat.zero_lt_of_lt (Nat.lt_succ_self 999999)) 0 rfl
        unfold sBox at g2 step ⊢
        dsimp only [Ta] at g2 step ⊢
        simp (config := {maxSteps := 4000000, implicitDefEqProofs := false}) (disch := omega) only [go_sem, hlt', hlt, hi, c1, c2, g2]
        exact step
      · rw [show topC A l[i].cs[k] = A from if_neg c2] at step
        have g1 := r6_s (l0 := l0) (l := l) (n := n) (q := q) (lv := lv) (f := f) m kd k2 A l[i].cs[k] i k (by omega) (by omega) A.m rfl
        unfold sBox at g1 step ⊢
        dsimp only [Ta] at g1 step ⊢
        simp (config := {maxSteps := 4000000, implicitDefEqProofs := false}) (disch := omega) only [go_sem, hlt', hlt, hi, c1, c2, g1]
        exact step
    · rw [show stepC q A l[i].cs[k] = A from if_neg c1] at step
      unfold sBox at step ⊢
      dsimp only [Ta] at step ⊢
      simp (config := {maxSteps := 4000000, implicitDefEqProofs := false}) (disch := omega) only [go_sem, hlt', hlt, hi, c1, w_i64, plenumlaw31_ChooseSafe_r5_eq]
      exact step
  · obtain rfl : k = l[i].cs.length := by omega
    have hlt' : ¬ (l[i].cs.length : Int) < (l[i].cs.length : Int) := Int.lt_irrefl _
    rw [List.take_of_length_le (Nat.le_refl _)]
    generalize foldC (stepC q) a l[i].cs = A at *
    unfold sBox at hk2 ⊢
    dsimp only [Ta] at hk2 ⊢
    simp (config := {maxSteps := 4000000, implicitDefEqProofs := false}) (disch := omega) only [go_sem, hlt', hi, hk2, w_i64, plenumlaw31_ChooseSafe_r4_eq]
theorem b1c_s (m : Nat) (hf : FitL l) (hm : 1000 < m) (hl : l.length ≤ 20) :
    plenumlaw31_ChooseSafe_r2 m ⟨[sBox l0 n q lv], [(3, SL (l.map cgE)), (4, nA n), (5, nA q), (6, lvA lv), (7, nA f)]⟩ = plenumlaw31_ChooseSafe_r3 m ⟨[sBox l0 n q lv], Ta l n q lv f (foldL (stepC q) ac0 l) []⟩ := by
  rw [plenumlaw31_ChooseSafe_r2_eq]
  refine iter_go (m := m) (ι := {k : Nat // k ≤ l.length}) (fun k => ⟨[sBox l0 n q lv], Ta l n q lv f (foldL (stepC q) ac0 (l.take k.1)) [(13, nA k.1)]⟩) (fun k => l.length - k.1) (fun _ => plenumlaw31_ChooseSafe_r3 m ⟨[sBox l0 n q lv], Ta l n q lv f (foldL (stepC q) ac0 l) []⟩) ?_ ⟨0, Nat.zero_le _⟩ (by dsimp only; omega)
  rintro kx hkx ⟨k, hk⟩ kc hkc
  dsimp only at hkc ⊢
  rw [plenumlaw31_ChooseSafe_b1_eq]
  by_cases hlt : k < l.length
  · have hlt' : (k : Int) < (l.length : Int) := by omega
    have step := hkc ⟨k + 1, by omega⟩ (by dsimp only; omega)
    dsimp only at step
    rw [foldL_snoc hlt] at step
    have hb := foldL_m (q := q) (l.take k) ac0 (fun c hc => hf.2 c (List.mem_of_mem_take hc))
    rw [List.length_take] at hb
    have h0 : ac0.m = 0 := rfl
    generalize foldL (stepC q) ac0 (l.take k) = A at *
    have g := b2c_s (l0 := l0) (l := l) (n := n) (q := q) (lv := lv) (f := f) m kc kx A k hf hlt (by omega) hm
    unfold sBox at g step ⊢
    dsimp only [Ta] at g step ⊢
    simp (config := {maxSteps := 4000000, implicitDefEqProofs := false}) (disch := omega) only [go_sem, hlt']
    exact g.trans step
  · obtain rfl : k = l.length := by omega
    have hlt' : ¬ (l.length : Int) < (l.length : Int) := Int.lt_irrefl _
    rw [List.take_of_length_le (Nat.le_refl _)]
    generalize foldL (stepC q) ac0 l = A at *
    unfold sBox at hkx ⊢
    dsimp only [Ta] at hkx ⊢
    simp (config := {maxSteps := 4000000, implicitDefEqProofs := false}) (disch := omega) only [go_sem, hlt', hkx]
end
end Go.Proofs.Ytbialapikbdolaa

namespace Go.Proofs.Ytbialapikbdolaa
open Go.RowKit
set_option linter.unusedVariables false
set_option linter.unusedSimpArgs false
set_option maxRecDepth 20000
attribute [local go_sem] Nat.zero_add Nat.add_zero Nat.mul_one Int.toNat_natCast Int.natCast_zero Int.cast_ofNat_Int or_false false_or or_true true_or Nat.sub_zero Int.natCast_nonneg Int.toNat_zero Bool.true_and Bool.and_true Bool.false_and Bool.and_false Bool.true_or Bool.or_true Bool.false_or Bool.or_false Bool.not_true Bool.not_false Bool.not_not true_and and_true false_and and_false not_true_eq_false not_false_eq_true eq_self decide_true decide_false ne_eq implies_true forall_const true_implies false_implies Bool.true_eq_false Bool.false_eq_true List.map_cons List.map_nil List.all_cons List.all_nil List.length_cons List.length_nil List.length_map List.length_append List.nil_append List.cons_append List.set_cons_zero List.set_cons_succ List.set_nil List.drop_zero List.drop_succ_cons List.drop_nil List.take_zero List.take_succ_cons List.take_nil Option.map_some Option.map_none Option.isSome_some List.all_append List.all_map Function.comp_def decide_eq_true_eq Bool.and_eq_true beq_self_eq_true or_self and_self ite_true ite_false Nat.le_refl Bool.not_eq_true decide_not Bool.not_eq_true' decide_eq_false_iff_not Bool.not_eq_false Bool.or_eq_true if_true if_false ite_self u_roF u_cvF u_cvC u_ceT u_ceK u_appS sm_it sm_len sm_sure sm_ltA sm_lt1 sm_all1 sm_ro sm_take sm_sl sm_set sm_noT sm_fr sm_st_fr sm_set_fr sm_kd sm_st_kd sm_set_kd sm_vw sm_st_vw sm_set_vw sm_sq sm_st_sq sm_set_sq sm_tm sm_st_tm sm_set_tm sms_ltA sms_len ce_it ce_len ce_sure ce_ltA ce_lt1 ce_all1 ce_ro ce_take ce_sl ce_set ce_noT ce_sq ce_st_sq ce_set_sq ce_vw ce_st_vw ce_set_vw ce_tm ce_st_tm ce_set_tm ce_body ce_st_body ce_set_body ce_vs ce_st_vs ce_set_vs zce_len zce_sure zce_lt1 zce_sl zce_ro zce_setz zce_set zce_setr zce_take ces_ltA ces_len cg_it cg_len cg_sure cg_ltA cg_lt1 cg_all1 cg_ro cg_take cg_sl cg_set cg_noT cg_fr cg_st_fr cg_set_fr cg_vw cg_st_vw cg_set_vw cg_st cg_st_st cg_set_st cg_rt cg_st_rt cg_set_rt cg_pf cg_st_pf cg_set_pf cg_cs cg_st_cs cg_set_cs zcg_len zcg_sure zcg_lt1 zcg_sl zcg_ro zcg_setz zcg_set zcg_setr zcg_take cgs_ltA cgs_len co_it co_len co_sure co_ltA co_lt1 co_all1 co_ro co_take co_sl co_set co_noT co_sq co_st_sq co_set_sq co_tm co_st_tm co_set_tm co_body co_st_body co_set_body co_nl co_st_nl co_set_nl zco_len zco_sure zco_lt1 zco_sl zco_ro zco_setz zco_set zco_setr zco_take cos_ltA cos_len natInt u_nthM u_bz u_bi1 u_bi2 u_bi3 u_bi4 u_bi5 u_bi6 u_bi7 ltO_o ltO_r u_eqE
attribute [local go_sem_proc] Nat.reduceAdd Nat.reduceSub Nat.reduceMul Nat.reduceLeDiff Nat.reduceLT Int.reduceEq Int.reduceNe Int.reduceLT Int.reduceLE Int.reduceAdd Int.reduceSub Int.reduceMul Int.reduceNeg Int.reduceToNat reduceCtorEq Nat.reduceEqDiff Nat.reduceBEq Nat.reduceGT
attribute [local go_sem_proc ↓] reduceIte
def lvB (lv : Int) (k : Nat) : Bool := decide (bits .and .u16 (lv.fdiv (2 ^ (min k 16))) 1 = 0)
def selL (lv : Int) (f : Nat) (l : List Ch) : Nat → List Ch
  | 0 => []
  | k + 1 => if lvB lv k = true ∨ (selL lv f l k).length + l.length - k - 1 < 2 * f + 1 then selL lv f l k ++ [l.getD k Ch.zero] else selL lv f l k
theorem sel_sub {lv : Int} {f : Nat} {l : List Ch} : ∀ k, k ≤ l.length → (selL lv f l k).Sublist (l.take k)
  | 0, _ => by simp [selL]
  | k + 1, hk => by
    have ih := sel_sub (lv := lv) (f := f) (l := l) k (by omega)
    rw [List.take_succ_eq_append_getElem (by omega)]
    unfold selL
    split
    · rw [List.getD_eq_getElem?_getD, List.getElem?_eq_getElem (by omega)]
      exact ih.append (List.Sublist.refl _)
    · exact ih.trans (List.sublist_append_left _ _)
theorem sel_len {lv : Int} {f : Nat} {l : List Ch} (h : 2 * f + 1 ≤ l.length) : ∀ k, k ≤ l.length → 2 * f + 1 ≤ (selL lv f l k).length + (l.length - k)
  | 0, _ => by omega
  | k + 1, hk => by
    have ih := sel_len (lv := lv) h k (by omega)
    unfold selL
    split
    · rw [List.length_append, List.length_singleton]; omega
    · rename_i hc
      have : ¬ (selL lv f l k).length + l.length - k - 1 < 2 * f + 1 := fun q => hc (.inr q)
      omega
section
variable {l0 l : List Ch} {n q lv : Int} {f : Nat}
theorem r3_s (m : Nat) (a : Ac) (hf : FitL l) (hm : 1000 < m) (hl : l.length ≤ 20) (hff : f ≤ 5) :
    plenumlaw31_ChooseSafe_r3 m ⟨[sBox l0 n q lv], Ta l n q lv f a []⟩ = plenumlaw31_ChooseSafe_r7 m ⟨[sBox l0 n q lv, ⟨2, ty_api_Change, 6, (selL lv f l l.length).map cgE⟩], [(3, SL (l.map cgE)), (4, nA n), (5, nA q), (8, nA a.v), (9, nA a.t), (10, sA a.s), (11, nA a.m), (12, bA a.o), (16, OW 1 (selL lv f l l.length).length)]⟩ := by
  rw [plenumlaw31_ChooseSafe_r3_eq]
  unfold sBox
  simp (config := {maxSteps := 4000000, implicitDefEqProofs := false}) (disch := omega) only [go_sem, ]
  refine iter_go (m := m) (ι := {k : Nat // k ≤ l.length}) (fun k => ⟨[sBox l0 n q lv, ⟨2, ty_api_Change, 6, (selL lv f l k.1).map cgE⟩], Ta l n q lv f a [(16, OW 1 (selL lv f l k.1).length), (17, nA k.1)]⟩) (fun k => l.length - k.1) (fun _ => plenumlaw31_ChooseSafe_r7 m ⟨[sBox l0 n q lv, ⟨2, ty_api_Change, 6, (selL lv f l l.length).map cgE⟩], [(3, SL (l.map cgE)), (4, nA n), (5, nA q), (8, nA a.v), (9, nA a.t), (10, sA a.s), (11, nA a.m), (12, bA a.o), (16, OW 1 (selL lv f l l.length).length)]⟩) ?_ ⟨0, Nat.zero_le _⟩ (by dsimp only; omega)
  rintro kx hkx ⟨k, hk⟩ kc hkc
  dsimp only at hkc ⊢
  rw [plenumlaw31_ChooseSafe_b3_eq]
  have hsl := (sel_sub (lv := lv) (f := f) (l := l) k hk).length_le
  rw [List.length_take] at hsl
  by_cases hlt : k < l.length
  · have hlt' : (k : Int) < (l.length : Int) := by omega
    have step := hkc ⟨k + 1, by omega⟩ (by dsimp only; omega)
    dsimp only at step
    have hxs : ∀ n, ((selL lv f l k).map cgE).all (ltA n) = true := fun n => by rw [List.all_map]; exact cgs_ltA
    have hlen : ((selL lv f l k).map cgE).length = (selL lv f l k).length := List.length_map ..
    have e0 : selL lv f l (k + 1) = if lvB lv k = true ∨ (selL lv f l k).length + l.length - k - 1 < 2 * f + 1 then selL lv f l k ++ [l[k]] else selL lv f l k := by
      have : l.getD k Ch.zero = l[k] := by simp [List.getD, hlt]
      rw [← this]; rfl
    rw [e0] at step
    generalize selL lv f l k = X at *
    have w1 : IntKind.u64.wrap (k : Int) = (k : Int) := w_u64 (by omega) (by omega)
    have w2 : IntKind.i64.wrap ((X.length : Int) + (l.length : Int)) = (X.length : Int) + (l.length : Int) := w_i64 (by omega) (by omega)
    have w3 : IntKind.i64.wrap ((X.length : Int) + (l.length : Int) - (k : Int)) = (X.length : Int) + (l.length : Int) - (k : Int) := w_i64 (by omega) (by omega)
    have w4 : IntKind.i64.wrap ((X.length : Int) + (l.length : Int) - (k : Int) - 1) = (X.length : Int) + (l.length : Int) - (k : Int) - 1 := w_i64 (by omega) (by omega)
    have w5 : IntKind.i64.wrap (2 * (f : Int)) = 2 * (f : Int) := w_i64 (by omega) (by omega)
    have w6 : IntKind.i64.wrap (2 * (f : Int) + 1) = 2 * (f : Int) + 1 := w_i64 (by omega) (by omega)
    have hroom : X.length + 1 ≤ 34359738368 := by omega
    unfold sBox at step ⊢
    dsimp only [Ta] at step ⊢
    simp (config := {maxSteps := 4000000, implicitDefEqProofs := false}) (disch := omega) only [go_sem, hlt', hlt, w1, w2, w3, w4, w5, w6, hxs, hlen, hroom, w_i64, plenumlaw31_ChooseSafe_r8_eq, plenumlaw31_ChooseSafe_r11_eq]
    by_cases hb : bits .and .u16 (lv.fdiv (2 ^ (min k 16))) 1 = 0
    · rw [if_pos hb]
      rw [if_pos (.inl (decide_eq_true hb)), List.map_append, List.length_append] at step
      exact step
    · rw [if_neg hb]
      have hlb : ¬ lvB lv k = true := fun h => hb (of_decide_eq_true h)
      by_cases hc : (X.length : Int) + (l.length : Int) - (k : Int) - 1 < 2 * (f : Int) + 1
      · rw [if_pos hc]
        rw [if_pos (.inr (by omega)), List.map_append, List.length_append] at step
        exact step
      · rw [if_neg hc]
        rw [if_neg (by
          rintro (h | h)
          · exact hlb h
          · omega)] at step
        exact step
  · obtain rfl : k = l.length := by omega
    have hlt' : ¬ (l.length : Int) < (l.length : Int) := Int.lt_irrefl _
    unfold sBox
    simp (config := {maxSteps := 4000000, implicitDefEqProofs := false}) (disch := omega) only [go_sem, hlt', hkx]
end
end Go.Proofs.Ytbialapikbdolaa

namespace Go.Proofs.Ytbialapikbdolaa
open Go.RowKit
set_option linter.unusedVariables false
set_option linter.unusedSimpArgs false
set_option maxRecDepth 20000
attribute [local go_sem] Nat.zero_add Nat.add_zero Nat.mul_one Int.toNat_natCast Int.natCast_zero Int.cast_ofNat_Int or_false false_or or_true true_or Nat.sub_zero Int.natCast_nonneg Int.toNat_zero Bool.true_and Bool.and_true Bool.false_and Bool.and_false Bool.true_or Bool.or_true Bool.false_or Bool.or_false Bool.not_true Bool.not_false Bool.not_not true_and and_true false_and and_false not_true_eq_false not_false_eq_true eq_self decide_true decide_false ne_eq implies_true forall_const true_implies false_implies Bool.true_eq_false Bool.false_eq_true List.map_cons List.map_nil List.all_cons List.all_nil List.length_cons List.length_nil List.length_map List.length_append List.nil_append List.cons_append List.set_cons_zero List.set_cons_succ List.set_nil List.drop_zero List.drop_succ_cons List.drop_nil List.take_zero List.take_succ_cons List.take_nil Option.map_some Option.map_none Option.isSome_some List.all_append List.all_map Function.comp_def decide_eq_true_eq Bool.and_eq_true beq_self_eq_true or_self and_self ite_true ite_false Nat.le_refl Bool.not_eq_true decide_not Bool.not_eq_true' decide_eq_false_iff_not Bool.not_eq_false Bool.or_eq_true if_true if_false ite_self u_roF u_cvF u_cvC u_ceT u_ceK u_appS sm_it sm_len sm_sure sm_ltA sm_lt1 sm_all1 sm_ro sm_take sm_sl sm_set sm_noT sm_fr sm_st_fr sm_set_fr sm_kd sm_st_kd sm_set_kd sm_vw sm_st_vw sm_set_vw sm_sq sm_st_sq sm_set_sq sm_tm sm_st_tm sm_set_tm sms_ltA sms_len ce_it ce_len ce_sure ce_ltA ce_lt1 ce_all1 ce_ro ce_take ce_sl ce_set ce_noT ce_sq ce_st_sq ce_set_sq ce_vw ce_st_vw ce_set_vw ce_tm ce_st_tm ce_set_tm ce_body ce_st_body ce_set_body ce_vs ce_st_vs ce_set_vs zce_len zce_sure zce_lt1 zce_sl zce_ro zce_setz zce_set zce_setr zce_take ces_ltA ces_len cg_it cg_len cg_sure cg_ltA cg_lt1 cg_all1 cg_ro cg_take cg_sl cg_set cg_noT cg_fr cg_st_fr cg_set_fr cg_vw cg_st_vw cg_set_vw cg_st cg_st_st cg_set_st cg_rt cg_st_rt cg_set_rt cg_pf cg_st_pf cg_set_pf cg_cs cg_st_cs cg_set_cs zcg_len zcg_sure zcg_lt1 zcg_sl zcg_ro zcg_setz zcg_set zcg_setr zcg_take cgs_ltA cgs_len co_it co_len co_sure co_ltA co_lt1 co_all1 co_ro co_take co_sl co_set co_noT co_sq co_st_sq co_set_sq co_tm co_st_tm co_set_tm co_body co_st_body co_set_body co_nl co_st_nl co_set_nl zco_len zco_sure zco_lt1 zco_sl zco_ro zco_setz zco_set zco_setr zco_take cos_ltA cos_len natInt u_nthM u_bz u_bi1 u_bi2 u_bi3 u_bi4 u_bi5 u_bi6 u_bi7 ltO_o ltO_r u_eqE
attribute [local go_sem_proc] Nat.reduceAdd Nat.reduceSub Nat.reduceMul Nat.reduceLeDiff Nat.reduceLT Int.reduceEq Int.reduceNe Int.reduceLT Int.reduceLE Int.reduceAdd Int.reduceSub Int.reduceMul Int.reduceNeg Int.reduceToNat reduceCtorEq Nat.reduceEqDiff Nat.reduceBEq Nat.reduceGT
attribute [local go_sem_proc ↓] reduceIte
section
variable {l0 l : List Ch} {n q lv : Int} {f : Nat}
theorem sel_ok (h : LOk n l) : LOk n (selL lv (fN n) l l.length) := by
  have h1 := sel_sub (lv := lv) (f := fN n) (l := l) l.length (Nat.le_refl _)
  rw [List.take_length] at h1
  have h2 := sel_len (lv := lv) h.len l.length (Nat.le_refl _)
  exact ⟨h.nn, by omega, fun c hc => h.all c (h1.subset hc), h.one.sublist (h1.map Ch.fr)⟩
theorem sel_fit (h : FitL l) : FitL (selL lv f l l.length) := by
  have h1 := sel_sub (lv := lv) (f := f) (l := l) l.length (Nat.le_refl _)
  rw [List.take_length] at h1
  exact ⟨Nat.le_trans h1.length_le h.1, fun c hc => h.2 c (h1.subset hc)⟩
theorem atX_some (l : List Ch) (q : Int) : ∃ c e, atX l q = TU [coE c, nA e] := by
  unfold atX
  split
  · exact ⟨_, _, rfl⟩
  · exact ⟨_, _, rfl⟩
theorem r7_s (m : Nat) (h : LOk n l) (hf : FitL l) (hm : 1000 < m) (hl : l.length ≤ 20) (hq : q < 9223372036854775808) :
    plenumlaw31_ChooseSafe_r7 m ⟨[sBox l0 n q lv, ⟨2, ty_api_Change, 6, (selL lv (fN n) l l.length).map cgE⟩], [(3, SL (l.map cgE)), (4, nA n), (5, nA q), (8, nA (foldL (stepC q) ac0 l).v), (9, nA (foldL (stepC q) ac0 l).t), (10, sA (foldL (stepC q) ac0 l).s), (11, nA (foldL (stepC q) ac0 l).m), (12, bA (foldL (stepC q) ac0 l).o), (16, OW 1 (selL lv (fN n) l l.length).length)]⟩ = some (bA true, []) := by
  have hS := sel_ok (lv := lv) h
  have hSf := sel_fit (lv := lv) (f := fN n) hf
  have hsub := sel_sub (lv := lv) (f := fN n) (l := l) l.length (Nat.le_refl _)
  rw [List.take_length] at hsub
  have hsl := hsub.length_le
  have g1 := low_s m hS hSf hm
  have g2 := chooseAt_s m q hS hSf hm hq
  have g3 := awake_s m hm
  obtain ⟨r1, r2⟩ := low_rng hS
  have hP := fun a ha h0 hm' ho => safe (q := q) (a := a) hsub h.all ha h0 hm' ho
  have hP := hP (foldL (stepC q) ac0 l) rfl
  rw [plenumlaw31_ChooseSafe_r7_eq]
  have hm2 := foldL_m (q := q) l ac0 hf.2
  have hm0 : ac0.m = 0 := rfl
  generalize foldL (stepC q) ac0 l = A at *
  generalize selL lv (fN n) l l.length = X at *
  have hxs : ∀ n, (X.map cgE).all (ltA n) = true := fun n => by rw [List.all_map]; exact cgs_ltA
  have hb : ∀ {a b : Int} {s : List UInt8} {K1 : AV → RO}, buildE (some pl_api_Choice) (some zc_api_Choice) [(0, nA a), (1, nA b), (2, sA s)] K1 = K1 (.agg (coC ⟨a, b, s, false⟩)) := _root_.id rfl
  have e1 : IntKind.i64.wrap ((l.length : Int) - (X.length : Int)) = (l.length : Int) - (X.length : Int) := w_i64 (by omega) (by omega)
  have e2 : IntKind.i64.wrap ((lowC X).st + 16) = (lowC X).st + 16 := w_i64 (by omega) (by omega)
  unfold chsA at g1 g2
  unfold sBox
  by_cases hall : 0 ≤ A.v ∧ (l.length : Int) < A.m + X.length ∧ A.o = true ∧ (lowC X).st < q ∧ q ≤ (lowC X).st + 16
  · obtain ⟨c1, c2, c3, c4, c5⟩ := hall
    have hat := hP c1 (by omega) c3
    have hfar : farB (lowC X).st q = false := by
      unfold farB
      rw [decide_eq_false (by omega), decide_eq_false (by omega)]
      rfl
    have hx : atX X q = TU [coE (atF q X), nA 0] := by unfold atX; rw [hfar]; rfl
    rw [hx, hat] at g2
    have d1 : ¬ A.v < 0 := by omega
    have d2 : ¬ (A.m : Int) ≤ (l.length : Int) - (X.length : Int) := by omega
    have d4 : ¬ q ≤ (lowC X).st := by omega
    have d5 : ¬ (lowC X).st + 16 < q := by omega
    simp (config := {maxSteps := 4000000, implicitDefEqProofs := false}) (disch := omega) only [go_sem, g1, g2, g3, hxs, hb, e1, e2, d1, d2, c3, d4, d5, u_coS, plenumlaw31_ChooseSafe_r10_eq, plenumlaw31_ChooseSafe_r12_eq]
  · obtain ⟨c, e, hx⟩ := atX_some X q
    rw [hx] at g2
    by_cases d1 : A.v < 0
    · simp (config := {maxSteps := 4000000, implicitDefEqProofs := false}) (disch := omega) only [go_sem, g1, g2, g3, hxs, e1, e2, d1, plenumlaw31_ChooseSafe_r10_eq]
    · by_cases d2 : (A.m : Int) ≤ (l.length : Int) - (X.length : Int)
      · simp (config := {maxSteps := 4000000, implicitDefEqProofs := false}) (disch := omega) only [go_sem, g1, g2, g3, hxs, e1, e2, d1, d2, plenumlaw31_ChooseSafe_r10_eq]
      · cases d3 : A.o with
        | false => simp (config := {maxSteps := 4000000, implicitDefEqProofs := false}) (disch := omega) only [go_sem, g1, g2, g3, hxs, e1, e2, d1, d2, d3, plenumlaw31_ChooseSafe_r10_eq]
        | true =>
          by_cases d4 : q ≤ (lowC X).st
          · simp (config := {maxSteps := 4000000, implicitDefEqProofs := false}) (disch := omega) only [go_sem, g1, g2, g3, hxs, e1, e2, d1, d2, d3, d4, plenumlaw31_ChooseSafe_r10_eq]
          · have d5 : (lowC X).st + 16 < q := by
              rcases Int.lt_or_le ((lowC X).st + 16) q with k | k
              · exact k
              · exact absurd ⟨by omega, by omega, d3, by omega, k⟩ hall
            simp (config := {maxSteps := 4000000, implicitDefEqProofs := false}) (disch := omega) only [go_sem, g1, g2, g3, hxs, e1, e2, d1, d2, d3, d4, d5, plenumlaw31_ChooseSafe_r10_eq]
theorem safe_s (m : Nat) (hm : 1000 < m) (hl : l.length ≤ 9223372036854775807) (hv : ∀ y ∈ l, BigC y) (hq : q < 9223372036854775808) : plenumlaw31_ChooseSafe m (.agg [chsA l, nA n, nA q, lvA lv]) = some (bA true, []) := by
  have g0 := few31_s m l (by omega) hl hv
  have hf := few_fit l
  have hl20 : (fewL l).length ≤ 20 := by unfold fewL; simp; omega
  have g1 := rfaults_s m n (by omega)
  obtain ⟨b, g2, hb⟩ := rmay_s m (fewL l) n hf hm
  have g3 := awake_s m hm
  rw [plenumlaw31_ChooseSafe_eq]
  unfold chsA at g0 g2 ⊢
  by_cases h0 : (fN n : Int) = 0
  · simp (config := {maxSteps := 4000000, implicitDefEqProofs := false}) (disch := omega) only [go_sem, g0, g1, g2, g3, h0, plenumlaw31_ChooseSafe_r1_eq]
  · cases b with
    | false => simp (config := {maxSteps := 4000000, implicitDefEqProofs := false}) (disch := omega) only [go_sem, g0, g1, g2, g3, h0, plenumlaw31_ChooseSafe_r1_eq]
    | true =>
      have hL := hb rfl
      have k1 := b1c_s (l0 := l) (l := fewL l) (n := n) (q := q) (lv := lv) (f := fN n) m hf hm hl20
      have k2 := r3_s (l0 := l) (l := fewL l) (n := n) (q := q) (lv := lv) (f := fN n) m (foldL (stepC q) ac0 (fewL l)) hf hm hl20 (fN_le n)
      have k3 := r7_s (l0 := l) (lv := lv) m hL hf hm hl20 hq
      have k := (k1.trans k2).trans k3
      unfold sBox at k
      simp (config := {maxSteps := 4000000, implicitDefEqProofs := false}) (disch := omega) only [go_sem, g0, g1, g2, g3, h0, k, plenumlaw31_ChooseSafe_r1_eq]
end
end Go.Proofs.Ytbialapikbdolaa

namespace Go.Proofs.Ytbialapikbdolaa
open Go.RowKit
set_option linter.unusedVariables false
set_option linter.unusedSimpArgs false
set_option maxRecDepth 100000
def OpSm (x : Sm) : Prop := (-9223372036854775808 ≤ x.fr ∧ x.fr < 9223372036854775808) ∧ (-9223372036854775808 ≤ x.kd ∧ x.kd < 9223372036854775808) ∧ (-9223372036854775808 ≤ x.vw ∧ x.vw < 9223372036854775808) ∧ (-9223372036854775808 ≤ x.sq ∧ x.sq < 9223372036854775808) ∧ (-9223372036854775808 ≤ x.tm ∧ x.tm < 9223372036854775808)
theorem ofT_sm {n : Nat} {ds : List AV} (h : ofT Try.prog n 87 ds) : ∃ x : Sm, ds = smC x ∧ OpSm x := by
  obtain ⟨m, a0, b0, rfl, h0, a1, b1, rfl, h1, a2, b2, rfl, h2, a3, b3, rfl, h3, a4, b4, rfl, h4, rfl⟩ := ofT_struct Try.underlying87 h
  obtain ⟨x0, rfl, q0⟩ := ofT_i64 Try.underlying3 h0
  obtain ⟨x1, rfl, q1⟩ := ofT_i64 Try.underlying3 h1
  obtain ⟨x2, rfl, q2⟩ := ofT_i64 Try.underlying3 h2
  obtain ⟨x3, rfl, q3⟩ := ofT_i64 Try.underlying3 h3
  obtain ⟨x4, rfl, q4⟩ := ofT_i64 Try.underlying3 h4
  exact ⟨⟨x0, x1, x2, x3, x4⟩, rfl, q0, q1, q2, q3, q4⟩
theorem ofT_sms {n : Nat} {ds : List AV} (h : ofT Try.prog n 30 ds) : ∃ l : List Sm, ds = [SL (l.map smE)] ∧ l.length ≤ 9223372036854775807 ∧ ∀ x ∈ l, OpSm x := by
  obtain ⟨m, es, rfl, hl, he⟩ := ofT_slice Try.underlying30 h
  obtain ⟨l, rfl, hi⟩ := list_of (f := smE) (Q := OpSm) fun x hx => by
    obtain ⟨q1, q2⟩ := he x hx
    obtain ⟨y, hy, hi⟩ := ofT_sm q1
    exact ⟨y, by rw [cells_agg (q2.trans (by kernel_rfl)), hy]; rfl, hi⟩
  exact ⟨l, rfl, by rw [List.length_map] at hl; exact hl, hi⟩
def OpCe (x : Ce) : Prop := (-9223372036854775808 ≤ x.sq ∧ x.sq < 9223372036854775808) ∧ (-9223372036854775808 ≤ x.vw ∧ x.vw < 9223372036854775808) ∧ (-9223372036854775808 ≤ x.tm ∧ x.tm < 9223372036854775808) ∧ x.body.length ≤ 9223372036854775807 ∧ x.vs.length ≤ 9223372036854775807 ∧ (∀ y ∈ x.vs, OpSm y)
theorem ofT_ce {n : Nat} {ds : List AV} (h : ofT Try.prog n 35 ds) : ∃ x : Ce, ds = ceC x ∧ OpCe x := by
  obtain ⟨m, a0, b0, rfl, h0, a1, b1, rfl, h1, a2, b2, rfl, h2, a3, b3, rfl, h3, a4, b4, rfl, h4, rfl⟩ := ofT_struct Try.underlying35 h
  obtain ⟨x0, rfl, q0⟩ := ofT_i64 Try.underlying3 h0
  obtain ⟨x1, rfl, q1⟩ := ofT_i64 Try.underlying3 h1
  obtain ⟨x2, rfl, q2⟩ := ofT_i64 Try.underlying3 h2
  obtain ⟨x3, rfl, q3⟩ := ofT_str Try.underlying9 h3
  obtain ⟨x4, rfl, q4, r4⟩ := ofT_sms h4
  exact ⟨⟨x0, x1, x2, x3, x4⟩, rfl, q0, q1, q2, q3, q4, r4⟩
theorem ofT_ces {n : Nat} {ds : List AV} (h : ofT Try.prog n 31 ds) : ∃ l : List Ce, ds = [SL (l.map ceE)] ∧ l.length ≤ 9223372036854775807 ∧ ∀ x ∈ l, OpCe x := by
  obtain ⟨m, es, rfl, hl, he⟩ := ofT_slice Try.underlying31 h
  obtain ⟨l, rfl, hi⟩ := list_of (f := ceE) (Q := OpCe) fun x hx => by
    obtain ⟨q1, q2⟩ := he x hx
    obtain ⟨y, hy, hi⟩ := ofT_ce q1
    exact ⟨y, by rw [cells_agg (q2.trans (by kernel_rfl)), hy]; rfl, hi⟩
  exact ⟨l, rfl, by rw [List.length_map] at hl; exact hl, hi⟩
def OpCh (x : Ch) : Prop := (-9223372036854775808 ≤ x.fr ∧ x.fr < 9223372036854775808) ∧ (-9223372036854775808 ≤ x.vw ∧ x.vw < 9223372036854775808) ∧ (-9223372036854775808 ≤ x.st ∧ x.st < 9223372036854775808) ∧ (-9223372036854775808 ≤ x.rt ∧ x.rt < 9223372036854775808) ∧ x.pf.length ≤ 9223372036854775807 ∧ (∀ y ∈ x.pf, OpSm y) ∧ x.cs.length ≤ 9223372036854775807 ∧ (∀ y ∈ x.cs, OpCe y)
theorem ofT_cg {n : Nat} {ds : List AV} (h : ofT Try.prog n 33 ds) : ∃ x : Ch, ds = cgC x ∧ OpCh x := by
  obtain ⟨m, a0, b0, rfl, h0, a1, b1, rfl, h1, a2, b2, rfl, h2, a3, b3, rfl, h3, a4, b4, rfl, h4, a5, b5, rfl, h5, rfl⟩ := ofT_struct Try.underlying33 h
  obtain ⟨x0, rfl, q0⟩ := ofT_i64 Try.underlying3 h0
  obtain ⟨x1, rfl, q1⟩ := ofT_i64 Try.underlying3 h1
  obtain ⟨x2, rfl, q2⟩ := ofT_i64 Try.underlying3 h2
  obtain ⟨x3, rfl, q3⟩ := ofT_i64 Try.underlying3 h3
  obtain ⟨x4, rfl, q4, r4⟩ := ofT_sms h4
  obtain ⟨x5, rfl, q5, r5⟩ := ofT_ces h5
  exact ⟨⟨x0, x1, x2, x3, x4, x5⟩, rfl, q0, q1, q2, q3, q4, r4, q5, r5⟩
theorem ofT_cgs {n : Nat} {ds : List AV} (h : ofT Try.prog n 22 ds) : ∃ l : List Ch, ds = [SL (l.map cgE)] ∧ l.length ≤ 9223372036854775807 ∧ ∀ x ∈ l, OpCh x := by
  obtain ⟨m, es, rfl, hl, he⟩ := ofT_slice Try.underlying22 h
  obtain ⟨l, rfl, hi⟩ := list_of (f := cgE) (Q := OpCh) fun x hx => by
    obtain ⟨q1, q2⟩ := he x hx
    obtain ⟨y, hy, hi⟩ := ofT_cg q1
    exact ⟨y, by rw [cells_agg (q2.trans (by kernel_rfl)), hy]; rfl, hi⟩
  exact ⟨l, rfl, by rw [List.length_map] at hl; exact hl, hi⟩
theorem OpCh.big {x : Ch} (h : OpCh x) : BigC x := ⟨h.2.2.2.2.1, h.2.2.2.2.2.2.1, fun y hy => ⟨(h.2.2.2.2.2.2.2 y hy).2.2.2.1, (h.2.2.2.2.2.2.2 y hy).2.2.2.2.1⟩⟩
theorem arg_some {W : World} {v : Value} (h : Arg Try.prog W 25 v) : ∃ (l : List Ch) (n q lv : Int), (l.length ≤ 9223372036854775807 ∧ (∀ x ∈ l, OpCh x) ∧ q < 9223372036854775808) ∧ rep (SW W) [] (.agg [chsA l, nA n, nA q, lvA lv]) v := by
  obtain ⟨n, ds, h1, h2⟩ := h
  obtain ⟨m, a0, b0, rfl, h0, a1, b1, rfl, h5, a2, b2, rfl, h3, a3, b3, rfl, h4, rfl⟩ := ofT_struct Try.underlying25 h1
  obtain ⟨l, rfl, q0, r0⟩ := ofT_cgs h0
  obtain ⟨x1, rfl, q1⟩ := ofT_i64 Try.underlying3 h5
  obtain ⟨x2, rfl, q2⟩ := ofT_i64 Try.underlying3 h3
  obtain ⟨x3, rfl, q3⟩ := ofT_int Try.underlying23 h4
  rw [mk_many (by kernel_rfl)] at h2
  exact ⟨l, x1, x2, x3, ⟨q0, r0, q2.2⟩, h2⟩
theorem walk_ChooseSafe (W : World) (v0 : Value) (h0 : Arg Try.prog W 25 v0) :
    Calls Try.prog 3 #[v0] W fun e W' => e = .returned (.bool true) ∧ Below W.heap.size W W' := by
  obtain ⟨l, n, q, lv, ⟨hl, ht, hq⟩, r0⟩ := arg_some h0
  exact run_tells (plenumlaw31_ChooseSafe_ok 1001 [_] _ _ (safe_s 1001 (by omega) hl (fun y hy => (ht y hy).big) hq)) gok_nil (vs := [v0]) rfl (reps1 r0)
end Go.Proofs.Ytbialapikbdolaa
