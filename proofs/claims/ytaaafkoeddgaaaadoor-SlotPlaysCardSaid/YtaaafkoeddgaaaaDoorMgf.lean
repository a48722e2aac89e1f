/-
  Texts laid together, part 6 of 6: laws of a walk over data, contracts of functions, each whole by itself.
-/
import Derived.Test.YtaaafkoeddgaaaaDoorMge
import Derived.Test.YtaaafkoeddgaaaaDoorMgb
namespace Go.Proofs.YtaaafkoeddgaaaaDoor
open Go.RowKit
set_option linter.unusedVariables false
set_option maxRecDepth 100000
noncomputable def plenumlaw29_awake_c : Code := (Tryd.f17.body).getD .skip
def plenumlaw29_awake_h : Hint := (.two .n (.two .n (.two .n (.two .n (.two .n (.two .n (.two .n (.join [1, 2, 3, 4, 6, 7, 8] (.two .n (.one (.lp [] [1, 2, 3, 4, 6, 7, 8, 9] [1, 2, 3, 4, 6, 7, 8] (.two (.two .n (.two .n .n)) (.two (.one .n) .n))))) (.two .n .n)))))))))
noncomputable def plenumlaw29_awake_env (m : Nat) : Env := [(8, .tell (slot_Propose_t m)), (9, .tell (slot_Prepare_t m)), (37, .tell (slot_Voices_t m)), (10, .tell (slot_Commit_t m)), (19, .tell (slot_Prepared_t m)), (21, .tell (slot_Committed_t m))]
noncomputable abbrev plenumlaw29_awake_fin : KO (AV × List AObj) := tellFK Tryd.prog [.tmp 0]
noncomputable def plenumlaw29_awake_r1 (m : Nat) (s : ASt) : RO := joinW Tryd.prog GG (plenumlaw29_awake_env m) m ⟨86, []⟩ (cdR (cdR (cdR (cdR (cdR (cdR (cdR (cdR plenumlaw29_awake_c)))))))) plenumlaw29_awake_h.r.r.r.r.r.r.r.r s (plenumlaw29_awake_fin)
noncomputable def plenumlaw29_awake_b1 (m : Nat) (s : ASt) (kc : ASt → RO) (kx : KO (AV × List AObj)) : RO := bodyW Tryd.prog GG (plenumlaw29_awake_env m) m ⟨86, []⟩ (cdL (cdL (cdR (cdL (cdR (cdR (cdR (cdR (cdR (cdR (cdR plenumlaw29_awake_c))))))))))) plenumlaw29_awake_h.r.r.r.r.r.r.r.l.r.c.c [1, 2, 3, 4, 6, 7, 8, 9] [1, 2, 3, 4, 6, 7, 8] s kc kx
noncomputable def plenumlaw29_awake (m : Nat) : RO := exec Tryd.prog GG (plenumlaw29_awake_env m) m ⟨86, []⟩ plenumlaw29_awake_c plenumlaw29_awake_h ⟨[], argsT 0 []⟩ (plenumlaw29_awake_fin)
theorem plenumlaw29_awake_r1_eq (m : Nat) (H : List AObj) (t1 t2 t3 t4 t6 t7 t8 : AV) : plenumlaw29_awake_r1 m ⟨H, [(1, t1), (2, t2), (3, t3), (4, t4), (6, t6), (7, t7), (8, t8)]⟩ =
  binE none false false .eql t2 (V (.int .i64 0)) fun t48 =>
  condE t48 (
   binE none false false .eql t3 (V (.int .i64 0)) fun t51 =>
   condE t51 (
   binE none false false .eql t4 (V (.int .i64 0)) fun t55 =>
   condE t55 (
   binE none false false .eql t6 (V (.int .i64 23)) fun t59 =>
   condE t59 (
   loadE 8 H t1 fun t62 =>
   tellE (slot_Prepared m (ro H t62) (V (.int .i64 4))) [(ro H t62), (V (.int .i64 4))] fun t63 =>
   condE t63 (
   loadE 8 H t1 fun t66 =>
   tellE (slot_Committed m (ro H t66) (V (.int .i64 4))) [(ro H t66), (V (.int .i64 4))] fun t67 =>
   unE .not t67 fun t68 =>
   condE t68 (
   lenE false true H t7 fun t72 =>
   binE none false false .eql t72 (V (.int .i64 3)) fun t73 =>
   condE t73 (
   idxSE 7 H t7 (V (.int .i64 2)) fun t77 =>
   loadE 7 H t77 fun t78 =>
   buildE (some pl_api_Stmt) (some zc_api_Stmt) [(0, (V (.int .i64 2))), (1, (V (.int .i64 3))), (3, (V (.int .i64 5))), (4, (V (.int .i64 7)))] fun t79 =>
   binE (some [.i .i64, .i .i64, .i .i64, .i .i64, .i .i64]) false false .eql t78 t79 fun t80 =>
   condE t80 (
   loadE 8 H t8 fun t83 =>
   tellE (slot_Committed m (ro H t83) (V (.int .i64 4))) [(ro H t83), (V (.int .i64 4))] fun t84 =>
   tellK H (ro H t84)) (
   tellK H (ro H (V (.bool false))))) (
   tellK H (ro H (V (.bool false))))) (
   tellK H (ro H (V (.bool false))))) (
   tellK H (ro H (V (.bool false))))) (
   tellK H (ro H (V (.bool false))))) (
   tellK H (ro H (V (.bool false))))) (
   tellK H (ro H (V (.bool false))))) (
   tellK H (ro H (V (.bool false)))) := by
  refine (joinW_eq Tryd.prog GG (plenumlaw29_awake_env m) m ⟨86, []⟩ (cdR (cdR (cdR (cdR (cdR (cdR (cdR (cdR plenumlaw29_awake_c)))))))) plenumlaw29_awake_h.r.r.r.r.r.r.r.r ⟨H, [(1, t1), (2, t2), (3, t3), (4, t4), (6, t6), (7, t7), (8, t8)]⟩ (plenumlaw29_awake_fin)).trans ?_
  kernel_rfl
theorem plenumlaw29_awake_b1_eq (m : Nat) (H : List AObj) (t1 t2 t3 t4 t6 t7 t8 t9 : AV) (kc : ASt → RO) (kx : KO (AV × List AObj)) : plenumlaw29_awake_b1 m ⟨H, [(1, t1), (2, t2), (3, t3), (4, t4), (6, t6), (7, t7), (8, t8), (9, t9)]⟩ kc kx =
  binE none false false .lss t9 (V (.int .i64 3)) fun t37 =>
  condE t37 (
   loadE 8 H t8 fun t41 =>
   buildE (some pl_api_Vote) (some zc_api_Vote) [(0, t9), (2, (V (.int .i64 7)))] fun t43 =>
   tellE (slot_Commit m (ro H t41) (ro H t43)) [(ro H t41), (ro H t43)] fun t44 =>
   extE t44 0 fun t45 =>
   extE t44 1 fun t46 =>
   storeE 8 H t8 t45 fun H2 =>
   binE none false false .add t9 (V (.int .i64 1)) fun t39 =>
   backE H.length H2 [(1, t1), (2, t2), (3, t3), (4, t4), (6, t6), (7, t7), (8, t8), (9, t39)] kc) (
   kx (.exit 0) ⟨H, [(1, t1), (2, t2), (3, t3), (4, t4), (6, t6), (7, t7), (8, t8)]⟩) := by
  refine (bodyW_eq Tryd.prog GG (plenumlaw29_awake_env m) m ⟨86, []⟩ (cdL (cdL (cdR (cdL (cdR (cdR (cdR (cdR (cdR (cdR (cdR plenumlaw29_awake_c))))))))))) plenumlaw29_awake_h.r.r.r.r.r.r.r.l.r.c.c [1, 2, 3, 4, 6, 7, 8, 9] [1, 2, 3, 4, 6, 7, 8] ⟨H, [(1, t1), (2, t2), (3, t3), (4, t4), (6, t6), (7, t7), (8, t8), (9, t9)]⟩ kc kx).trans ?_
  kernel_rfl
theorem plenumlaw29_awake_eq (m : Nat) : plenumlaw29_awake m =
  buildE (some pl_api_Slot) (some zc_api_Slot) [] fun t11 =>
  tellE (slot_Propose m (ro [] t11) (V (.int .i64 0)) (V (.int .i64 7)) (V (.string ⟨#[98]⟩))) [(ro [] t11), (V (.int .i64 0)), (V (.int .i64 7)), (V (.string ⟨#[98]⟩))] fun t12 =>
  extE t12 0 fun t13 =>
  extE t12 1 fun t14 =>
  allocE (some zc_api_Slot) ty_api_Slot [] fun t1 H1 =>
  storeE 8 H1 t1 t13 fun H2 =>
  loadE 8 H2 t1 fun t16 =>
  buildE (some pl_api_Vote) (some zc_api_Vote) [(0, (V (.int .i64 1))), (2, (V (.int .i64 7)))] fun t17 =>
  tellE (slot_Prepare m (ro H2 t16) (ro H2 t17)) [(ro H2 t16), (ro H2 t17)] fun t18 =>
  extE t18 0 fun t19 =>
  extE t18 1 fun t20 =>
  storeE 8 H2 t1 t19 fun H3 =>
  loadE 8 H3 t1 fun t22 =>
  buildE (some pl_api_Vote) (some zc_api_Vote) [(0, (V (.int .i64 2))), (2, (V (.int .i64 7)))] fun t23 =>
  tellE (slot_Prepare m (ro H3 t22) (ro H3 t23)) [(ro H3 t22), (ro H3 t23)] fun t24 =>
  extE t24 0 fun t25 =>
  extE t24 1 fun t26 =>
  storeE 8 H3 t1 t25 fun H4 =>
  loadE 8 H4 t1 fun t28 =>
  buildE (some pl_api_Vote) (some zc_api_Vote) [(0, (V (.int .i64 1))), (2, (V (.int .i64 8)))] fun t29 =>
  tellE (slot_Prepare m (ro H4 t28) (ro H4 t29)) [(ro H4 t28), (ro H4 t29)] fun t30 =>
  extE t30 0 fun t31 =>
  extE t30 1 fun t32 =>
  allocE (some zc_api_Slot) ty_api_Slot H4 fun t5 H5 =>
  storeE 8 H5 t5 t31 fun H6 =>
  loadE 8 H6 t1 fun t33 =>
  tellE (slot_Voices_t m [(ro H6 t33), (V (.int .i64 5)), (V (.int .i64 4))]) [(ro H6 t33), (V (.int .i64 5)), (V (.int .i64 4))] fun t34 =>
  loadE 8 H6 t1 fun t35 =>
  allocE (some zc_api_Slot) ty_api_Slot H6 fun t8 H7 =>
  storeE 8 H7 t8 t35 fun H8 =>
  iterC m (plenumlaw29_awake_b1 m) ⟨H8, [(1, t1), (2, t14), (3, t20), (4, t26), (6, t32), (7, t34), (8, t8), (9, (V (.int .i64 0)))]⟩ (blockX 0 (seqX (fun s => plenumlaw29_awake_r1 m ⟨s.H, [(1, gt s.T 1), (2, gt s.T 2), (3, gt s.T 3), (4, gt s.T 4), (6, gt s.T 6), (7, gt s.T 7), (8, gt s.T 8)]⟩) (plenumlaw29_awake_fin))) := by
  refine (tellX Tryd.prog GG (plenumlaw29_awake_env m) m ⟨86, []⟩ plenumlaw29_awake_c plenumlaw29_awake_h ⟨[], argsT 0 []⟩ [.tmp 0]).trans ?_
  kernel_rfl
noncomputable def plenumlaw29_awake_t (m : Nat) : List AV → RO | [] => plenumlaw29_awake m | _ => none
theorem plenumlaw29_awake_ok (m : Nat) : ∀ args X H', plenumlaw29_awake_t m args = some (X, H') → ACp Tryd.prog GG 17 args X := by
  intro args X H' h
  unfold plenumlaw29_awake_t at h
  split at h
  · exact tell_okK MIX (by
    intro f e h
    simp only [plenumlaw29_awake_env, Prod.mk.injEq, List.mem_cons, List.not_mem_nil, or_false] at h
    rcases h with ⟨rfl, rfl⟩ | ⟨rfl, rfl⟩ | ⟨rfl, rfl⟩ | ⟨rfl, rfl⟩ | ⟨rfl, rfl⟩ | ⟨rfl, rfl⟩
    · exact slot_Propose_ok m
    · exact slot_Prepare_ok m
    · exact slot_Voices_ok m
    · exact slot_Commit_ok m
    · exact slot_Prepared_ok m
    · exact slot_Committed_ok m) (f := 17) (c := plenumlaw29_awake_c) Tryd.func17 rfl (by kernel_rfl) _ rfl Tryd.ntmps17 (Nat.le_of_ble_eq_true rfl) plenumlaw29_awake_h h
  · cases h
noncomputable def plenumlaw29_SlotDoes_c : Code := (Tryd.f3.body).getD .skip
def plenumlaw29_SlotDoes_h : Hint := (.two .n (.two .n (.two .n (.two .n (.two .n (.two .n (.two .n (.two .n (.two .n (.two .n (.two .n (.join [3, 7] (.join [3, 7, 109] .n (.two (.two .n .n) .n)) (.two .n .n)))))))))))))
noncomputable def plenumlaw29_SlotDoes_env (m : Nat) : Env := [(6, .tell (plenumlaw29_Few_t m)), (7, .tell (plenumlaw29_text_t m)), (8, .tell (slot_Propose_t m)), (9, .tell (slot_Prepare_t m)), (10, .tell (slot_Commit_t m)), (11, .tell (plenumref29_Propose_t m)), (12, .tell (plenumref29_Prepare_t m)), (13, .tell (plenumref29_Commit_t m)), (14, .tell (plenumref29_Same_t m)), (15, .tell (slot_May_t m)), (16, .tell (plenumref29_May_t m)), (17, .tell (plenumlaw29_awake_t m))]
noncomputable abbrev plenumlaw29_SlotDoes_fin : KO (AV × List AObj) := tellFK Tryd.prog [.tmp 6]
noncomputable def plenumlaw29_SlotDoes_r2 (m : Nat) (s : ASt) : RO := joinW Tryd.prog GG (plenumlaw29_SlotDoes_env m) m ⟨123, []⟩ (cdR (cdR (cdR (cdR (cdR (cdR (cdR (cdR (cdR (cdR (cdR (cdR plenumlaw29_SlotDoes_c)))))))))))) plenumlaw29_SlotDoes_h.r.r.r.r.r.r.r.r.r.r.r.r s (plenumlaw29_SlotDoes_fin)
noncomputable def plenumlaw29_SlotDoes_r1 (m : Nat) (s : ASt) : RO := joinW Tryd.prog GG (plenumlaw29_SlotDoes_env m) m ⟨123, []⟩ (cdR (cdL (cdR (cdR (cdR (cdR (cdR (cdR (cdR (cdR (cdR (cdR (cdR plenumlaw29_SlotDoes_c))))))))))))) plenumlaw29_SlotDoes_h.r.r.r.r.r.r.r.r.r.r.r.l.r s (seqX (fun s => plenumlaw29_SlotDoes_r2 m ⟨s.H, [(3, gt s.T 3), (7, gt s.T 7)]⟩) (plenumlaw29_SlotDoes_fin))
noncomputable def plenumlaw29_SlotDoes (m : Nat) (t0 t1 t2 : AV) : RO := exec Tryd.prog GG (plenumlaw29_SlotDoes_env m) m ⟨123, []⟩ plenumlaw29_SlotDoes_c plenumlaw29_SlotDoes_h ⟨[], argsT 0 [t0, t1, t2]⟩ (plenumlaw29_SlotDoes_fin)
theorem plenumlaw29_SlotDoes_r2_eq (m : Nat) (H : List AObj) (t3 t7 : AV) : plenumlaw29_SlotDoes_r2 m ⟨H, [(3, t3), (7, t7)]⟩ =
  loadE 8 H t3 fun t110 =>
  tellE (slot_May m (ro H t110)) [(ro H t110)] fun t111 =>
  loadE 8 H t3 fun t112 =>
  tellE (plenumref29_May m (ro H t112)) [(ro H t112)] fun t113 =>
  binE none true false .eql t111 t113 fun t114 =>
  condE t114 (
   loadE 8 H t3 fun t116 =>
   loadE 8 H t7 fun t117 =>
   tellE (plenumref29_Same m (ro H t116) (ro H t117)) [(ro H t116), (ro H t117)] fun t118 =>
   condE t118 (
   tellE (plenumlaw29_awake m) [] fun t121 =>
   tellK H (ro H t121)) (
   tellK H (ro H (V (.bool false))))) (
   tellK H (ro H (V (.bool false)))) := by
  refine (joinW_eq Tryd.prog GG (plenumlaw29_SlotDoes_env m) m ⟨123, []⟩ (cdR (cdR (cdR (cdR (cdR (cdR (cdR (cdR (cdR (cdR (cdR (cdR plenumlaw29_SlotDoes_c)))))))))))) plenumlaw29_SlotDoes_h.r.r.r.r.r.r.r.r.r.r.r.r ⟨H, [(3, t3), (7, t7)]⟩ (plenumlaw29_SlotDoes_fin)).trans ?_
  kernel_rfl
theorem plenumlaw29_SlotDoes_r1_eq (m : Nat) (H : List AObj) (t3 t7 t109 : AV) : plenumlaw29_SlotDoes_r1 m ⟨H, [(3, t3), (7, t7), (109, t109)]⟩ =
  condE t109 (
   tellK H (ro H (V (.bool false)))) (
   plenumlaw29_SlotDoes_r2 m ⟨H, [(3, t3), (7, t7)]⟩) := by
  refine (joinW_eq Tryd.prog GG (plenumlaw29_SlotDoes_env m) m ⟨123, []⟩ (cdR (cdL (cdR (cdR (cdR (cdR (cdR (cdR (cdR (cdR (cdR (cdR (cdR plenumlaw29_SlotDoes_c))))))))))))) plenumlaw29_SlotDoes_h.r.r.r.r.r.r.r.r.r.r.r.l.r ⟨H, [(3, t3), (7, t7), (109, t109)]⟩ (seqX (fun s => plenumlaw29_SlotDoes_r2 m ⟨s.H, [(3, gt s.T 3), (7, gt s.T 7)]⟩) (plenumlaw29_SlotDoes_fin))).trans ?_
  kernel_rfl
theorem plenumlaw29_SlotDoes_eq (m : Nat) (t0 t1 t2 : AV) : plenumlaw29_SlotDoes m t0 t1 t2 =
  boxE ty_api_Slot [] t0 fun t3 H1 =>
  boxE ty_api_Vote H1 t1 fun t4 H2 =>
  loadE 8 H2 t3 fun t20 =>
  tellE (plenumlaw29_Few m (ro H2 t20)) [(ro H2 t20)] fun t21 =>
  tellE (plenumlaw29_text m (ro H2 t2)) [(ro H2 t2)] fun t23 =>
  storeE 8 H2 t3 t21 fun H3 =>
  loadE 8 H3 t3 fun t24 =>
  allocE (some zc_api_Slot) ty_api_Slot H3 fun t7 H4 =>
  storeE 8 H4 t7 t24 fun H5 =>
  buildSE (some (ty_api_Vote, 3)) 0 [] fun t25 =>
  fieldE (some (4, 1)) t3 fun t26 =>
  loadE 1 H5 t26 fun t27 =>
  appE (some (ty_api_Vote, 3)) H5 t25 t27 fun t28 H6 =>
  fieldE (some (4, 1)) t7 fun t29 =>
  storeE 1 H6 t29 t28 fun H7 =>
  buildSE (some (ty_api_Vote, 3)) 0 [] fun t30 =>
  fieldE (some (5, 1)) t3 fun t31 =>
  loadE 1 H7 t31 fun t32 =>
  appE (some (ty_api_Vote, 3)) H7 t30 t32 fun t33 H8 =>
  fieldE (some (5, 1)) t7 fun t34 =>
  storeE 1 H8 t34 t33 fun H9 =>
  loadE 8 H9 t3 fun t36 =>
  fieldE (some (1, 1)) t4 fun t37 =>
  loadE 1 H9 t37 fun t38 =>
  fieldE (some (2, 1)) t4 fun t39 =>
  loadE 1 H9 t39 fun t40 =>
  tellE (slot_Propose m (ro H9 t36) (ro H9 t38) (ro H9 t40) (ro H9 t23)) [(ro H9 t36), (ro H9 t38), (ro H9 t40), (ro H9 t23)] fun t42 =>
  extE t42 0 fun t43 =>
  extE t42 1 fun t44 =>
  allocE (some zc_api_Slot) ty_api_Slot H9 fun t8 H10 =>
  storeE 8 H10 t8 t43 fun H11 =>
  loadE 8 H11 t3 fun t46 =>
  loadE 5 H11 t4 fun t47 =>
  tellE (slot_Prepare m (ro H11 t46) (ro H11 t47)) [(ro H11 t46), (ro H11 t47)] fun t48 =>
  extE t48 0 fun t49 =>
  extE t48 1 fun t50 =>
  allocE (some zc_api_Slot) ty_api_Slot H11 fun t10 H12 =>
  storeE 8 H12 t10 t49 fun H13 =>
  loadE 8 H13 t3 fun t52 =>
  loadE 5 H13 t4 fun t53 =>
  tellE (slot_Commit m (ro H13 t52) (ro H13 t53)) [(ro H13 t52), (ro H13 t53)] fun t54 =>
  extE t54 0 fun t55 =>
  extE t54 1 fun t56 =>
  allocE (some zc_api_Slot) ty_api_Slot H13 fun t12 H14 =>
  storeE 8 H14 t12 t55 fun H15 =>
  loadE 8 H15 t7 fun t58 =>
  fieldE (some (1, 1)) t4 fun t59 =>
  loadE 1 H15 t59 fun t60 =>
  fieldE (some (2, 1)) t4 fun t61 =>
  loadE 1 H15 t61 fun t62 =>
  tellE (plenumref29_Propose m (ro H15 t58) (ro H15 t60) (ro H15 t62) (ro H15 t23)) [(ro H15 t58), (ro H15 t60), (ro H15 t62), (ro H15 t23)] fun t64 =>
  extE t64 0 fun t65 =>
  extE t64 1 fun t66 =>
  allocE (some zc_api_Slot) ty_api_Slot H15 fun t14 H16 =>
  storeE 8 H16 t14 t65 fun H17 =>
  loadE 8 H17 t7 fun t68 =>
  loadE 5 H17 t4 fun t69 =>
  tellE (plenumref29_Prepare m (ro H17 t68) (ro H17 t69)) [(ro H17 t68), (ro H17 t69)] fun t70 =>
  extE t70 0 fun t71 =>
  extE t70 1 fun t72 =>
  allocE (some zc_api_Slot) ty_api_Slot H17 fun t16 H18 =>
  storeE 8 H18 t16 t71 fun H19 =>
  loadE 8 H19 t7 fun t74 =>
  loadE 5 H19 t4 fun t75 =>
  tellE (plenumref29_Commit m (ro H19 t74) (ro H19 t75)) [(ro H19 t74), (ro H19 t75)] fun t76 =>
  extE t76 0 fun t77 =>
  extE t76 1 fun t78 =>
  allocE (some zc_api_Slot) ty_api_Slot H19 fun t18 H20 =>
  storeE 8 H20 t18 t77 fun H21 =>
  loadE 8 H21 t8 fun t79 =>
  loadE 8 H21 t14 fun t80 =>
  tellE (plenumref29_Same m (ro H21 t79) (ro H21 t80)) [(ro H21 t79), (ro H21 t80)] fun t81 =>
  unE .not t81 fun t82 =>
  condE t82 (
   plenumlaw29_SlotDoes_r1 m ⟨H21, [(3, t3), (7, t7), (109, (V (.bool true)))]⟩) (
   binE none false false .neq t44 t66 fun t86 =>
   condE t86 (
   plenumlaw29_SlotDoes_r1 m ⟨H21, [(3, t3), (7, t7), (109, (V (.bool true)))]⟩) (
   loadE 8 H21 t10 fun t89 =>
   loadE 8 H21 t16 fun t90 =>
   tellE (plenumref29_Same m (ro H21 t89) (ro H21 t90)) [(ro H21 t89), (ro H21 t90)] fun t91 =>
   unE .not t91 fun t92 =>
   condE t92 (
   plenumlaw29_SlotDoes_r1 m ⟨H21, [(3, t3), (7, t7), (109, (V (.bool true)))]⟩) (
   binE none false false .neq t50 t72 fun t97 =>
   condE t97 (
   plenumlaw29_SlotDoes_r1 m ⟨H21, [(3, t3), (7, t7), (109, (V (.bool true)))]⟩) (
   loadE 8 H21 t12 fun t100 =>
   loadE 8 H21 t18 fun t101 =>
   tellE (plenumref29_Same m (ro H21 t100) (ro H21 t101)) [(ro H21 t100), (ro H21 t101)] fun t102 =>
   unE .not t102 fun t103 =>
   condE t103 (
   plenumlaw29_SlotDoes_r1 m ⟨H21, [(3, t3), (7, t7), (109, (V (.bool true)))]⟩) (
   binE none false false .neq t56 t78 fun t108 =>
   plenumlaw29_SlotDoes_r1 m ⟨H21, [(3, t3), (7, t7), (109, t108)]⟩))))) := by
  refine (tellX Tryd.prog GG (plenumlaw29_SlotDoes_env m) m ⟨123, []⟩ plenumlaw29_SlotDoes_c plenumlaw29_SlotDoes_h ⟨[], argsT 0 [t0, t1, t2]⟩ [.tmp 6]).trans ?_
  kernel_rfl
noncomputable def plenumlaw29_SlotDoes_t (m : Nat) : List AV → RO | [t0, t1, t2] => plenumlaw29_SlotDoes m t0 t1 t2 | _ => none
theorem plenumlaw29_SlotDoes_ok (m : Nat) : ∀ args X H', plenumlaw29_SlotDoes_t m args = some (X, H') → ACp Tryd.prog GG 3 args X := by
  intro args X H' h
  unfold plenumlaw29_SlotDoes_t at h
  split at h
  · exact tell_okK MIX (by
    intro f e h
    simp only [plenumlaw29_SlotDoes_env, Prod.mk.injEq, List.mem_cons, List.not_mem_nil, or_false] at h
    rcases h with ⟨rfl, rfl⟩ | ⟨rfl, rfl⟩ | ⟨rfl, rfl⟩ | ⟨rfl, rfl⟩ | ⟨rfl, rfl⟩ | ⟨rfl, rfl⟩ | ⟨rfl, rfl⟩ | ⟨rfl, rfl⟩ | ⟨rfl, rfl⟩ | ⟨rfl, rfl⟩ | ⟨rfl, rfl⟩ | ⟨rfl, rfl⟩
    · exact plenumlaw29_Few_ok m
    · exact plenumlaw29_text_ok m
    · exact slot_Propose_ok m
    · exact slot_Prepare_ok m
    · exact slot_Commit_ok m
    · exact plenumref29_Propose_ok m
    · exact plenumref29_Prepare_ok m
    · exact plenumref29_Commit_ok m
    · exact plenumref29_Same_ok m
    · exact slot_May_ok m
    · exact plenumref29_May_ok m
    · exact plenumlaw29_awake_ok m) (f := 3) (c := plenumlaw29_SlotDoes_c) Tryd.func3 rfl (by kernel_rfl) _ rfl Tryd.ntmps3 (Nat.le_of_ble_eq_true rfl) plenumlaw29_SlotDoes_h h
  · cases h
noncomputable def plenumlaw29_SlotPlays_c : Code := (Tryd.f4.body).getD .skip
def plenumlaw29_SlotPlays_h : Hint := (.two .n (.two .n (.join [] (.two .n (.one (.lp [] [0, 1, 5, 6, 7] [4] (.join [0, 1, 5, 6, 7] (.join [0, 1, 5, 6, 7, 22] .n (.two .n .n)) (.join [0, 1, 5, 6, 7] (.one (.two .n (.two .n (.two .n (.join [0, 1, 5, 6, 7, 9, 10, 11, 12] (.one (.two .n (.two (.two .n .n) (.join [0, 1, 5, 6, 7, 8, 11, 12, 62] .n (.two (.two .n .n) (.two .n .n)))))) (.join [0, 1, 5, 6, 7, 10, 11, 12] (.join [0, 1, 5, 6, 7, 10, 11, 12, 100] .n (.two (.two .n .n) .n)) (.join [0, 1, 5, 6, 7] (.two .n (.two .n .n)) (.join [0, 1, 5, 6, 7, 125] .n (.two (.two .n .n) .n))))))))) .n))))) (.two .n .n))))
noncomputable def plenumlaw29_SlotPlays_env (m : Nat) : Env := [(17, .tell (plenumlaw29_awake_t m)), (10, .tell (slot_Commit_t m)), (13, .tell (plenumref29_Commit_t m)), (18, .tell (plenumref05_Primary_t m)), (14, .tell (plenumref29_Same_t m)), (8, .tell (slot_Propose_t m)), (11, .tell (plenumref29_Propose_t m)), (9, .tell (slot_Prepare_t m)), (12, .tell (plenumref29_Prepare_t m)), (15, .tell (slot_May_t m)), (19, .tell (slot_Prepared_t m)), (20, .tell (plenumref29_Prepared_t m)), (21, .tell (slot_Committed_t m)), (22, .tell (plenumref29_Committed_t m))]
noncomputable abbrev plenumlaw29_SlotPlays_fin : KO (AV × List AObj) := tellFK Tryd.prog [.tmp 4]
noncomputable def plenumlaw29_SlotPlays_r25 (m : Nat) (n0 : Nat) (kc : ASt → RO) (kx : KO (AV × List AObj)) (s : ASt) : RO := joinW Tryd.prog GG (plenumlaw29_SlotPlays_env m) m ⟨127, []⟩ (cdR (cdR (cdL (cdL (cdR (cdL (cdR (cdR plenumlaw29_SlotPlays_c)))))))) plenumlaw29_SlotPlays_h.r.r.l.r.c.c.r.r s (backW n0 [0, 1, 5, 6, 7] [4] kc kx)
noncomputable def plenumlaw29_SlotPlays_r24 (m : Nat) (n0 : Nat) (kc : ASt → RO) (kx : KO (AV × List AObj)) (s : ASt) : RO := joinW Tryd.prog GG (plenumlaw29_SlotPlays_env m) m ⟨127, []⟩ (cdR (cdR (cdL (cdL (cdR (cdL (cdR (cdR plenumlaw29_SlotPlays_c)))))))) plenumlaw29_SlotPlays_h.r.r.l.r.c.c.r.r s (backW n0 [0, 1, 5, 6, 7] [4] kc kx)
noncomputable def plenumlaw29_SlotPlays_r23 (m : Nat) (n0 : Nat) (kc : ASt → RO) (kx : KO (AV × List AObj)) (s : ASt) : RO := joinW Tryd.prog GG (plenumlaw29_SlotPlays_env m) m ⟨127, []⟩ (cdR (cdR (cdR (cdR (cdR (cdR (cdR (cdL (cdL (cdR (cdL (cdL (cdR (cdL (cdR (cdR plenumlaw29_SlotPlays_c)))))))))))))))) plenumlaw29_SlotPlays_h.r.r.l.r.c.c.r.l.c.r.r.r.r.r.r.r s (blockX 1 (seqX (fun s => plenumlaw29_SlotPlays_r25 m n0 kc kx ⟨s.H, [(0, gt s.T 0), (1, gt s.T 1), (5, gt s.T 5), (6, gt s.T 6), (7, gt s.T 7)]⟩) (backW n0 [0, 1, 5, 6, 7] [4] kc kx)))
noncomputable def plenumlaw29_SlotPlays_r22 (m : Nat) (n0 : Nat) (kc : ASt → RO) (kx : KO (AV × List AObj)) (s : ASt) : RO := joinW Tryd.prog GG (plenumlaw29_SlotPlays_env m) m ⟨127, []⟩ (cdR (cdR (cdL (cdL (cdR (cdL (cdR (cdR plenumlaw29_SlotPlays_c)))))))) plenumlaw29_SlotPlays_h.r.r.l.r.c.c.r.r s (backW n0 [0, 1, 5, 6, 7] [4] kc kx)
noncomputable def plenumlaw29_SlotPlays_r21 (m : Nat) (n0 : Nat) (kc : ASt → RO) (kx : KO (AV × List AObj)) (s : ASt) : RO := joinW Tryd.prog GG (plenumlaw29_SlotPlays_env m) m ⟨127, []⟩ (cdR (cdR (cdL (cdL (cdR (cdL (cdR (cdR plenumlaw29_SlotPlays_c)))))))) plenumlaw29_SlotPlays_h.r.r.l.r.c.c.r.r s (backW n0 [0, 1, 5, 6, 7] [4] kc kx)
noncomputable def plenumlaw29_SlotPlays_r20 (m : Nat) (n0 : Nat) (kc : ASt → RO) (kx : KO (AV × List AObj)) (s : ASt) : RO := joinW Tryd.prog GG (plenumlaw29_SlotPlays_env m) m ⟨127, []⟩ (cdR (cdR (cdR (cdR (cdR (cdR (cdL (cdL (cdR (cdL (cdL (cdR (cdL (cdR (cdR plenumlaw29_SlotPlays_c))))))))))))))) plenumlaw29_SlotPlays_h.r.r.l.r.c.c.r.l.c.r.r.r.r.r.r s (blockX 1 (seqX (fun s => plenumlaw29_SlotPlays_r24 m n0 kc kx ⟨s.H, [(0, gt s.T 0), (1, gt s.T 1), (5, gt s.T 5), (6, gt s.T 6), (7, gt s.T 7)]⟩) (backW n0 [0, 1, 5, 6, 7] [4] kc kx)))
noncomputable def plenumlaw29_SlotPlays_r19 (m : Nat) (n0 : Nat) (kc : ASt → RO) (kx : KO (AV × List AObj)) (s : ASt) : RO := joinW Tryd.prog GG (plenumlaw29_SlotPlays_env m) m ⟨127, []⟩ (cdR (cdR (cdL (cdL (cdR (cdL (cdR (cdR plenumlaw29_SlotPlays_c)))))))) plenumlaw29_SlotPlays_h.r.r.l.r.c.c.r.r s (backW n0 [0, 1, 5, 6, 7] [4] kc kx)
noncomputable def plenumlaw29_SlotPlays_r18 (m : Nat) (n0 : Nat) (kc : ASt → RO) (kx : KO (AV × List AObj)) (s : ASt) : RO := joinW Tryd.prog GG (plenumlaw29_SlotPlays_env m) m ⟨127, []⟩ (cdR (cdR (cdR (cdR (cdR (cdR (cdR (cdL (cdL (cdR (cdL (cdL (cdR (cdL (cdR (cdR plenumlaw29_SlotPlays_c)))))))))))))))) plenumlaw29_SlotPlays_h.r.r.l.r.c.c.r.l.c.r.r.r.r.r.r.r s (blockX 1 (seqX (fun s => plenumlaw29_SlotPlays_r22 m n0 kc kx ⟨s.H, [(0, gt s.T 0), (1, gt s.T 1), (5, gt s.T 5), (6, gt s.T 6), (7, gt s.T 7)]⟩) (backW n0 [0, 1, 5, 6, 7] [4] kc kx)))
noncomputable def plenumlaw29_SlotPlays_r17 (m : Nat) (n0 : Nat) (kc : ASt → RO) (kx : KO (AV × List AObj)) (s : ASt) : RO := joinW Tryd.prog GG (plenumlaw29_SlotPlays_env m) m ⟨127, []⟩ (cdR (cdR (cdL (cdL (cdR (cdL (cdR (cdR plenumlaw29_SlotPlays_c)))))))) plenumlaw29_SlotPlays_h.r.r.l.r.c.c.r.r s (backW n0 [0, 1, 5, 6, 7] [4] kc kx)
noncomputable def plenumlaw29_SlotPlays_r16 (m : Nat) (n0 : Nat) (kc : ASt → RO) (kx : KO (AV × List AObj)) (s : ASt) : RO := joinW Tryd.prog GG (plenumlaw29_SlotPlays_env m) m ⟨127, []⟩ (cdR (cdR (cdR (cdR (cdR (cdL (cdL (cdR (cdL (cdL (cdR (cdL (cdR (cdR plenumlaw29_SlotPlays_c)))))))))))))) plenumlaw29_SlotPlays_h.r.r.l.r.c.c.r.l.c.r.r.r.r.r s (blockX 1 (seqX (fun s => plenumlaw29_SlotPlays_r21 m n0 kc kx ⟨s.H, [(0, gt s.T 0), (1, gt s.T 1), (5, gt s.T 5), (6, gt s.T 6), (7, gt s.T 7)]⟩) (backW n0 [0, 1, 5, 6, 7] [4] kc kx)))
noncomputable def plenumlaw29_SlotPlays_r15 (m : Nat) (n0 : Nat) (kc : ASt → RO) (kx : KO (AV × List AObj)) (s : ASt) : RO := joinW Tryd.prog GG (plenumlaw29_SlotPlays_env m) m ⟨127, []⟩ (cdR (cdR (cdL (cdL (cdR (cdL (cdR (cdR plenumlaw29_SlotPlays_c)))))))) plenumlaw29_SlotPlays_h.r.r.l.r.c.c.r.r s (backW n0 [0, 1, 5, 6, 7] [4] kc kx)
noncomputable def plenumlaw29_SlotPlays_r14 (m : Nat) (n0 : Nat) (kc : ASt → RO) (kx : KO (AV × List AObj)) (s : ASt) : RO := joinW Tryd.prog GG (plenumlaw29_SlotPlays_env m) m ⟨127, []⟩ (cdR (cdR (cdR (cdR (cdR (cdR (cdL (cdL (cdR (cdL (cdL (cdR (cdL (cdR (cdR plenumlaw29_SlotPlays_c))))))))))))))) plenumlaw29_SlotPlays_h.r.r.l.r.c.c.r.l.c.r.r.r.r.r.r s (blockX 1 (seqX (fun s => plenumlaw29_SlotPlays_r19 m n0 kc kx ⟨s.H, [(0, gt s.T 0), (1, gt s.T 1), (5, gt s.T 5), (6, gt s.T 6), (7, gt s.T 7)]⟩) (backW n0 [0, 1, 5, 6, 7] [4] kc kx)))
noncomputable def plenumlaw29_SlotPlays_r13 (m : Nat) (n0 : Nat) (kc : ASt → RO) (kx : KO (AV × List AObj)) (s : ASt) : RO := joinW Tryd.prog GG (plenumlaw29_SlotPlays_env m) m ⟨127, []⟩ (cdR (cdR (cdL (cdL (cdR (cdL (cdR (cdR plenumlaw29_SlotPlays_c)))))))) plenumlaw29_SlotPlays_h.r.r.l.r.c.c.r.r s (backW n0 [0, 1, 5, 6, 7] [4] kc kx)
noncomputable def plenumlaw29_SlotPlays_r12 (m : Nat) (n0 : Nat) (kc : ASt → RO) (kx : KO (AV × List AObj)) (s : ASt) : RO := joinW Tryd.prog GG (plenumlaw29_SlotPlays_env m) m ⟨127, []⟩ (cdR (cdL (cdR (cdR (cdR (cdR (cdL (cdL (cdR (cdL (cdL (cdR (cdL (cdR (cdR plenumlaw29_SlotPlays_c))))))))))))))) plenumlaw29_SlotPlays_h.r.r.l.r.c.c.r.l.c.r.r.r.r.l.r s (seqX (fun s => plenumlaw29_SlotPlays_r16 m n0 kc kx ⟨s.H, [(0, gt s.T 0), (1, gt s.T 1), (5, gt s.T 5), (6, gt s.T 6), (7, gt s.T 7), (10, gt s.T 10), (11, gt s.T 11), (12, gt s.T 12)]⟩) (blockX 1 (seqX (fun s => plenumlaw29_SlotPlays_r17 m n0 kc kx ⟨s.H, [(0, gt s.T 0), (1, gt s.T 1), (5, gt s.T 5), (6, gt s.T 6), (7, gt s.T 7)]⟩) (backW n0 [0, 1, 5, 6, 7] [4] kc kx))))
noncomputable def plenumlaw29_SlotPlays_r11 (m : Nat) (n0 : Nat) (kc : ASt → RO) (kx : KO (AV × List AObj)) (s : ASt) : RO := joinW Tryd.prog GG (plenumlaw29_SlotPlays_env m) m ⟨127, []⟩ (cdR (cdR (cdL (cdL (cdR (cdL (cdR (cdR plenumlaw29_SlotPlays_c)))))))) plenumlaw29_SlotPlays_h.r.r.l.r.c.c.r.r s (backW n0 [0, 1, 5, 6, 7] [4] kc kx)
noncomputable def plenumlaw29_SlotPlays_r10 (m : Nat) (n0 : Nat) (kc : ASt → RO) (kx : KO (AV × List AObj)) (s : ASt) : RO := joinW Tryd.prog GG (plenumlaw29_SlotPlays_env m) m ⟨127, []⟩ (cdR (cdR (cdR (cdR (cdR (cdL (cdL (cdR (cdL (cdL (cdR (cdL (cdR (cdR plenumlaw29_SlotPlays_c)))))))))))))) plenumlaw29_SlotPlays_h.r.r.l.r.c.c.r.l.c.r.r.r.r.r s (blockX 1 (seqX (fun s => plenumlaw29_SlotPlays_r15 m n0 kc kx ⟨s.H, [(0, gt s.T 0), (1, gt s.T 1), (5, gt s.T 5), (6, gt s.T 6), (7, gt s.T 7)]⟩) (backW n0 [0, 1, 5, 6, 7] [4] kc kx)))
noncomputable def plenumlaw29_SlotPlays_r9 (m : Nat) (n0 : Nat) (kc : ASt → RO) (kx : KO (AV × List AObj)) (s : ASt) : RO := joinW Tryd.prog GG (plenumlaw29_SlotPlays_env m) m ⟨127, []⟩ (cdR (cdR (cdL (cdL (cdR (cdL (cdR (cdR plenumlaw29_SlotPlays_c)))))))) plenumlaw29_SlotPlays_h.r.r.l.r.c.c.r.r s (backW n0 [0, 1, 5, 6, 7] [4] kc kx)
noncomputable def plenumlaw29_SlotPlays_r8 (m : Nat) (n0 : Nat) (kc : ASt → RO) (kx : KO (AV × List AObj)) (s : ASt) : RO := joinW Tryd.prog GG (plenumlaw29_SlotPlays_env m) m ⟨127, []⟩ (cdR (cdR (cdR (cdR (cdL (cdL (cdR (cdL (cdL (cdR (cdL (cdR (cdR plenumlaw29_SlotPlays_c))))))))))))) plenumlaw29_SlotPlays_h.r.r.l.r.c.c.r.l.c.r.r.r.r s (blockX 1 (seqX (fun s => plenumlaw29_SlotPlays_r13 m n0 kc kx ⟨s.H, [(0, gt s.T 0), (1, gt s.T 1), (5, gt s.T 5), (6, gt s.T 6), (7, gt s.T 7)]⟩) (backW n0 [0, 1, 5, 6, 7] [4] kc kx)))
noncomputable def plenumlaw29_SlotPlays_r7 (m : Nat) (n0 : Nat) (kc : ASt → RO) (kx : KO (AV × List AObj)) (s : ASt) : RO := joinW Tryd.prog GG (plenumlaw29_SlotPlays_env m) m ⟨127, []⟩ (cdR (cdR (cdL (cdL (cdR (cdL (cdR (cdR plenumlaw29_SlotPlays_c)))))))) plenumlaw29_SlotPlays_h.r.r.l.r.c.c.r.r s (backW n0 [0, 1, 5, 6, 7] [4] kc kx)
noncomputable def plenumlaw29_SlotPlays_r6 (m : Nat) (n0 : Nat) (kc : ASt → RO) (kx : KO (AV × List AObj)) (s : ASt) : RO := joinW Tryd.prog GG (plenumlaw29_SlotPlays_env m) m ⟨127, []⟩ (cdR (cdL (cdR (cdR (cdR (cdR (cdL (cdL (cdR (cdL (cdL (cdR (cdL (cdR (cdR plenumlaw29_SlotPlays_c))))))))))))))) plenumlaw29_SlotPlays_h.r.r.l.r.c.c.r.l.c.r.r.r.r.l.r s (seqX (fun s => plenumlaw29_SlotPlays_r10 m n0 kc kx ⟨s.H, [(0, gt s.T 0), (1, gt s.T 1), (5, gt s.T 5), (6, gt s.T 6), (7, gt s.T 7), (10, gt s.T 10), (11, gt s.T 11), (12, gt s.T 12)]⟩) (blockX 1 (seqX (fun s => plenumlaw29_SlotPlays_r11 m n0 kc kx ⟨s.H, [(0, gt s.T 0), (1, gt s.T 1), (5, gt s.T 5), (6, gt s.T 6), (7, gt s.T 7)]⟩) (backW n0 [0, 1, 5, 6, 7] [4] kc kx))))
noncomputable def plenumlaw29_SlotPlays_r5 (m : Nat) (n0 : Nat) (kc : ASt → RO) (kx : KO (AV × List AObj)) (s : ASt) : RO := joinW Tryd.prog GG (plenumlaw29_SlotPlays_env m) m ⟨127, []⟩ (cdR (cdR (cdR (cdL (cdL (cdR (cdR (cdR (cdL (cdL (cdR (cdL (cdL (cdR (cdL (cdR (cdR plenumlaw29_SlotPlays_c))))))))))))))))) plenumlaw29_SlotPlays_h.r.r.l.r.c.c.r.l.c.r.r.r.l.c.r.r.r s (blockX 2 (seqX (fun s => plenumlaw29_SlotPlays_r8 m n0 kc kx ⟨s.H, [(0, gt s.T 0), (1, gt s.T 1), (5, gt s.T 5), (6, gt s.T 6), (7, gt s.T 7), (9, gt s.T 9), (10, gt s.T 10), (11, gt s.T 11), (12, gt s.T 12)]⟩) (blockX 1 (seqX (fun s => plenumlaw29_SlotPlays_r9 m n0 kc kx ⟨s.H, [(0, gt s.T 0), (1, gt s.T 1), (5, gt s.T 5), (6, gt s.T 6), (7, gt s.T 7)]⟩) (backW n0 [0, 1, 5, 6, 7] [4] kc kx)))))
noncomputable def plenumlaw29_SlotPlays_r4 (m : Nat) (n0 : Nat) (kc : ASt → RO) (kx : KO (AV × List AObj)) (s : ASt) : RO := joinW Tryd.prog GG (plenumlaw29_SlotPlays_env m) m ⟨127, []⟩ (cdR (cdR (cdR (cdR (cdL (cdL (cdR (cdL (cdL (cdR (cdL (cdR (cdR plenumlaw29_SlotPlays_c))))))))))))) plenumlaw29_SlotPlays_h.r.r.l.r.c.c.r.l.c.r.r.r.r s (blockX 1 (seqX (fun s => plenumlaw29_SlotPlays_r7 m n0 kc kx ⟨s.H, [(0, gt s.T 0), (1, gt s.T 1), (5, gt s.T 5), (6, gt s.T 6), (7, gt s.T 7)]⟩) (backW n0 [0, 1, 5, 6, 7] [4] kc kx)))
noncomputable def plenumlaw29_SlotPlays_r3 (m : Nat) (n0 : Nat) (kc : ASt → RO) (kx : KO (AV × List AObj)) (s : ASt) : RO := joinW Tryd.prog GG (plenumlaw29_SlotPlays_env m) m ⟨127, []⟩ (cdR (cdL (cdL (cdR (cdL (cdR (cdR plenumlaw29_SlotPlays_c))))))) plenumlaw29_SlotPlays_h.r.r.l.r.c.c.r s (backW n0 [0, 1, 5, 6, 7] [4] kc kx)
noncomputable def plenumlaw29_SlotPlays_r2 (m : Nat) (n0 : Nat) (kc : ASt → RO) (kx : KO (AV × List AObj)) (s : ASt) : RO := joinW Tryd.prog GG (plenumlaw29_SlotPlays_env m) m ⟨127, []⟩ (cdR (cdL (cdL (cdL (cdR (cdL (cdR (cdR plenumlaw29_SlotPlays_c)))))))) plenumlaw29_SlotPlays_h.r.r.l.r.c.c.l.r s (seqX (fun s => plenumlaw29_SlotPlays_r3 m n0 kc kx ⟨s.H, [(0, gt s.T 0), (1, gt s.T 1), (5, gt s.T 5), (6, gt s.T 6), (7, gt s.T 7)]⟩) (backW n0 [0, 1, 5, 6, 7] [4] kc kx))
noncomputable def plenumlaw29_SlotPlays_r1 (m : Nat) (s : ASt) : RO := joinW Tryd.prog GG (plenumlaw29_SlotPlays_env m) m ⟨127, []⟩ (cdR (cdR (cdR plenumlaw29_SlotPlays_c))) plenumlaw29_SlotPlays_h.r.r.r s (plenumlaw29_SlotPlays_fin)
noncomputable def plenumlaw29_SlotPlays_b1 (m : Nat) (s : ASt) (kc : ASt → RO) (kx : KO (AV × List AObj)) : RO := bodyW Tryd.prog GG (plenumlaw29_SlotPlays_env m) m ⟨127, []⟩ (cdL (cdL (cdR (cdL (cdR (cdR plenumlaw29_SlotPlays_c)))))) plenumlaw29_SlotPlays_h.r.r.l.r.c.c [0, 1, 5, 6, 7] [4] s kc kx
noncomputable def plenumlaw29_SlotPlays (m : Nat) (t0 t1 : AV) : RO := exec Tryd.prog GG (plenumlaw29_SlotPlays_env m) m ⟨127, []⟩ plenumlaw29_SlotPlays_c plenumlaw29_SlotPlays_h ⟨[], argsT 0 [t0, t1]⟩ (plenumlaw29_SlotPlays_fin)
theorem plenumlaw29_SlotPlays_r25_eq (m : Nat) (n0 : Nat) (kc : ASt → RO) (kx : KO (AV × List AObj)) (H : List AObj) (t0 t1 t5 t6 t7 : AV) : plenumlaw29_SlotPlays_r25 m n0 kc kx ⟨H, [(0, t0), (1, t1), (5, t5), (6, t6), (7, t7)]⟩ =
  binE none false false .add t7 (V (.int .i64 1)) fun t24 =>
  backE n0 H [(0, t0), (1, t1), (5, t5), (6, t6), (7, t24)] kc := by
  refine (joinW_eq Tryd.prog GG (plenumlaw29_SlotPlays_env m) m ⟨127, []⟩ (cdR (cdR (cdL (cdL (cdR (cdL (cdR (cdR plenumlaw29_SlotPlays_c)))))))) plenumlaw29_SlotPlays_h.r.r.l.r.c.c.r.r ⟨H, [(0, t0), (1, t1), (5, t5), (6, t6), (7, t7)]⟩ (backW n0 [0, 1, 5, 6, 7] [4] kc kx)).trans ?_
  kernel_rfl
theorem plenumlaw29_SlotPlays_r24_eq (m : Nat) (n0 : Nat) (kc : ASt → RO) (kx : KO (AV × List AObj)) (H : List AObj) (t0 t1 t5 t6 t7 : AV) : plenumlaw29_SlotPlays_r24 m n0 kc kx ⟨H, [(0, t0), (1, t1), (5, t5), (6, t6), (7, t7)]⟩ =
  binE none false false .add t7 (V (.int .i64 1)) fun t24 =>
  backE n0 H [(0, t0), (1, t1), (5, t5), (6, t6), (7, t24)] kc := by
  refine (joinW_eq Tryd.prog GG (plenumlaw29_SlotPlays_env m) m ⟨127, []⟩ (cdR (cdR (cdL (cdL (cdR (cdL (cdR (cdR plenumlaw29_SlotPlays_c)))))))) plenumlaw29_SlotPlays_h.r.r.l.r.c.c.r.r ⟨H, [(0, t0), (1, t1), (5, t5), (6, t6), (7, t7)]⟩ (backW n0 [0, 1, 5, 6, 7] [4] kc kx)).trans ?_
  kernel_rfl
theorem plenumlaw29_SlotPlays_r23_eq (m : Nat) (n0 : Nat) (kc : ASt → RO) (kx : KO (AV × List AObj)) (H : List AObj) (t0 t1 t5 t6 t7 t125 : AV) : plenumlaw29_SlotPlays_r23 m n0 kc kx ⟨H, [(0, t0), (1, t1), (5, t5), (6, t6), (7, t7), (125, t125)]⟩ =
  condE t125 (
   kx .ret ⟨H, [(4, (V (.bool false)))]⟩) (
   plenumlaw29_SlotPlays_r25 m n0 kc kx ⟨H, [(0, t0), (1, t1), (5, t5), (6, t6), (7, t7)]⟩) := by
  refine (joinW_eq Tryd.prog GG (plenumlaw29_SlotPlays_env m) m ⟨127, []⟩ (cdR (cdR (cdR (cdR (cdR (cdR (cdR (cdL (cdL (cdR (cdL (cdL (cdR (cdL (cdR (cdR plenumlaw29_SlotPlays_c)))))))))))))))) plenumlaw29_SlotPlays_h.r.r.l.r.c.c.r.l.c.r.r.r.r.r.r.r ⟨H, [(0, t0), (1, t1), (5, t5), (6, t6), (7, t7), (125, t125)]⟩ (blockX 1 (seqX (fun s => plenumlaw29_SlotPlays_r25 m n0 kc kx ⟨s.H, [(0, gt s.T 0), (1, gt s.T 1), (5, gt s.T 5), (6, gt s.T 6), (7, gt s.T 7)]⟩) (backW n0 [0, 1, 5, 6, 7] [4] kc kx)))).trans ?_
  kernel_rfl
theorem plenumlaw29_SlotPlays_r22_eq (m : Nat) (n0 : Nat) (kc : ASt → RO) (kx : KO (AV × List AObj)) (H : List AObj) (t0 t1 t5 t6 t7 : AV) : plenumlaw29_SlotPlays_r22 m n0 kc kx ⟨H, [(0, t0), (1, t1), (5, t5), (6, t6), (7, t7)]⟩ =
  binE none false false .add t7 (V (.int .i64 1)) fun t24 =>
  backE n0 H [(0, t0), (1, t1), (5, t5), (6, t6), (7, t24)] kc := by
  refine (joinW_eq Tryd.prog GG (plenumlaw29_SlotPlays_env m) m ⟨127, []⟩ (cdR (cdR (cdL (cdL (cdR (cdL (cdR (cdR plenumlaw29_SlotPlays_c)))))))) plenumlaw29_SlotPlays_h.r.r.l.r.c.c.r.r ⟨H, [(0, t0), (1, t1), (5, t5), (6, t6), (7, t7)]⟩ (backW n0 [0, 1, 5, 6, 7] [4] kc kx)).trans ?_
  kernel_rfl
theorem plenumlaw29_SlotPlays_r21_eq (m : Nat) (n0 : Nat) (kc : ASt → RO) (kx : KO (AV × List AObj)) (H : List AObj) (t0 t1 t5 t6 t7 : AV) : plenumlaw29_SlotPlays_r21 m n0 kc kx ⟨H, [(0, t0), (1, t1), (5, t5), (6, t6), (7, t7)]⟩ =
  binE none false false .add t7 (V (.int .i64 1)) fun t24 =>
  backE n0 H [(0, t0), (1, t1), (5, t5), (6, t6), (7, t24)] kc := by
  refine (joinW_eq Tryd.prog GG (plenumlaw29_SlotPlays_env m) m ⟨127, []⟩ (cdR (cdR (cdL (cdL (cdR (cdL (cdR (cdR plenumlaw29_SlotPlays_c)))))))) plenumlaw29_SlotPlays_h.r.r.l.r.c.c.r.r ⟨H, [(0, t0), (1, t1), (5, t5), (6, t6), (7, t7)]⟩ (backW n0 [0, 1, 5, 6, 7] [4] kc kx)).trans ?_
  kernel_rfl
theorem plenumlaw29_SlotPlays_r20_eq (m : Nat) (n0 : Nat) (kc : ASt → RO) (kx : KO (AV × List AObj)) (H : List AObj) (t0 t1 t5 t6 t7 : AV) : plenumlaw29_SlotPlays_r20 m n0 kc kx ⟨H, [(0, t0), (1, t1), (5, t5), (6, t6), (7, t7)]⟩ =
  loadE 8 H t5 fun t105 =>
  tellE (slot_May m (ro H t105)) [(ro H t105)] fun t106 =>
  unE .not t106 fun t107 =>
  condE t107 (
   plenumlaw29_SlotPlays_r23 m n0 kc kx ⟨H, [(0, t0), (1, t1), (5, t5), (6, t6), (7, t7), (125, (V (.bool true)))]⟩) (
   loadE 8 H t5 fun t109 =>
   tellE (slot_Prepared m (ro H t109) (ro H t0)) [(ro H t109), (ro H t0)] fun t111 =>
   loadE 8 H t6 fun t112 =>
   tellE (plenumref29_Prepared m (ro H t112) (ro H t0)) [(ro H t112), (ro H t0)] fun t114 =>
   binE none true false .neq t111 t114 fun t115 =>
   condE t115 (
   plenumlaw29_SlotPlays_r23 m n0 kc kx ⟨H, [(0, t0), (1, t1), (5, t5), (6, t6), (7, t7), (125, (V (.bool true)))]⟩) (
   loadE 8 H t5 fun t118 =>
   tellE (slot_Committed m (ro H t118) (ro H t0)) [(ro H t118), (ro H t0)] fun t120 =>
   loadE 8 H t6 fun t121 =>
   tellE (plenumref29_Committed m (ro H t121) (ro H t0)) [(ro H t121), (ro H t0)] fun t123 =>
   binE none true false .neq t120 t123 fun t124 =>
   plenumlaw29_SlotPlays_r23 m n0 kc kx ⟨H, [(0, t0), (1, t1), (5, t5), (6, t6), (7, t7), (125, t124)]⟩)) := by
  refine (joinW_eq Tryd.prog GG (plenumlaw29_SlotPlays_env m) m ⟨127, []⟩ (cdR (cdR (cdR (cdR (cdR (cdR (cdL (cdL (cdR (cdL (cdL (cdR (cdL (cdR (cdR plenumlaw29_SlotPlays_c))))))))))))))) plenumlaw29_SlotPlays_h.r.r.l.r.c.c.r.l.c.r.r.r.r.r.r ⟨H, [(0, t0), (1, t1), (5, t5), (6, t6), (7, t7)]⟩ (blockX 1 (seqX (fun s => plenumlaw29_SlotPlays_r24 m n0 kc kx ⟨s.H, [(0, gt s.T 0), (1, gt s.T 1), (5, gt s.T 5), (6, gt s.T 6), (7, gt s.T 7)]⟩) (backW n0 [0, 1, 5, 6, 7] [4] kc kx)))).trans ?_
  kernel_rfl
theorem plenumlaw29_SlotPlays_r19_eq (m : Nat) (n0 : Nat) (kc : ASt → RO) (kx : KO (AV × List AObj)) (H : List AObj) (t0 t1 t5 t6 t7 : AV) : plenumlaw29_SlotPlays_r19 m n0 kc kx ⟨H, [(0, t0), (1, t1), (5, t5), (6, t6), (7, t7)]⟩ =
  binE none false false .add t7 (V (.int .i64 1)) fun t24 =>
  backE n0 H [(0, t0), (1, t1), (5, t5), (6, t6), (7, t24)] kc := by
  refine (joinW_eq Tryd.prog GG (plenumlaw29_SlotPlays_env m) m ⟨127, []⟩ (cdR (cdR (cdL (cdL (cdR (cdL (cdR (cdR plenumlaw29_SlotPlays_c)))))))) plenumlaw29_SlotPlays_h.r.r.l.r.c.c.r.r ⟨H, [(0, t0), (1, t1), (5, t5), (6, t6), (7, t7)]⟩ (backW n0 [0, 1, 5, 6, 7] [4] kc kx)).trans ?_
  kernel_rfl
theorem plenumlaw29_SlotPlays_r18_eq (m : Nat) (n0 : Nat) (kc : ASt → RO) (kx : KO (AV × List AObj)) (H : List AObj) (t0 t1 t5 t6 t7 t125 : AV) : plenumlaw29_SlotPlays_r18 m n0 kc kx ⟨H, [(0, t0), (1, t1), (5, t5), (6, t6), (7, t7), (125, t125)]⟩ =
  condE t125 (
   kx .ret ⟨H, [(4, (V (.bool false)))]⟩) (
   plenumlaw29_SlotPlays_r22 m n0 kc kx ⟨H, [(0, t0), (1, t1), (5, t5), (6, t6), (7, t7)]⟩) := by
  refine (joinW_eq Tryd.prog GG (plenumlaw29_SlotPlays_env m) m ⟨127, []⟩ (cdR (cdR (cdR (cdR (cdR (cdR (cdR (cdL (cdL (cdR (cdL (cdL (cdR (cdL (cdR (cdR plenumlaw29_SlotPlays_c)))))))))))))))) plenumlaw29_SlotPlays_h.r.r.l.r.c.c.r.l.c.r.r.r.r.r.r.r ⟨H, [(0, t0), (1, t1), (5, t5), (6, t6), (7, t7), (125, t125)]⟩ (blockX 1 (seqX (fun s => plenumlaw29_SlotPlays_r22 m n0 kc kx ⟨s.H, [(0, gt s.T 0), (1, gt s.T 1), (5, gt s.T 5), (6, gt s.T 6), (7, gt s.T 7)]⟩) (backW n0 [0, 1, 5, 6, 7] [4] kc kx)))).trans ?_
  kernel_rfl
theorem plenumlaw29_SlotPlays_r17_eq (m : Nat) (n0 : Nat) (kc : ASt → RO) (kx : KO (AV × List AObj)) (H : List AObj) (t0 t1 t5 t6 t7 : AV) : plenumlaw29_SlotPlays_r17 m n0 kc kx ⟨H, [(0, t0), (1, t1), (5, t5), (6, t6), (7, t7)]⟩ =
  binE none false false .add t7 (V (.int .i64 1)) fun t24 =>
  backE n0 H [(0, t0), (1, t1), (5, t5), (6, t6), (7, t24)] kc := by
  refine (joinW_eq Tryd.prog GG (plenumlaw29_SlotPlays_env m) m ⟨127, []⟩ (cdR (cdR (cdL (cdL (cdR (cdL (cdR (cdR plenumlaw29_SlotPlays_c)))))))) plenumlaw29_SlotPlays_h.r.r.l.r.c.c.r.r ⟨H, [(0, t0), (1, t1), (5, t5), (6, t6), (7, t7)]⟩ (backW n0 [0, 1, 5, 6, 7] [4] kc kx)).trans ?_
  kernel_rfl
theorem plenumlaw29_SlotPlays_r16_eq (m : Nat) (n0 : Nat) (kc : ASt → RO) (kx : KO (AV × List AObj)) (H : List AObj) (t0 t1 t5 t6 t7 t10 t11 t12 : AV) : plenumlaw29_SlotPlays_r16 m n0 kc kx ⟨H, [(0, t0), (1, t1), (5, t5), (6, t6), (7, t7), (10, t10), (11, t11), (12, t12)]⟩ =
  binE none false false .eql t10 (V (.int .i64 0)) fun t102 =>
  condE t102 (
   loadE 8 H t11 fun t103 =>
   loadE 8 H t12 fun t104 =>
   storeE 8 H t5 t103 fun H2 =>
   loadE 8 H2 t12 fun t8018 =>
   eqE t104 t8018 (
   storeE 8 H2 t6 t104 fun H3 =>
   loadE 8 H3 t12 fun t8020 =>
   eqE t104 t8020 (
   plenumlaw29_SlotPlays_r20 m n0 kc kx ⟨H3, [(0, t0), (1, t1), (5, t5), (6, t6), (7, t7)]⟩))) (
   plenumlaw29_SlotPlays_r20 m n0 kc kx ⟨H, [(0, t0), (1, t1), (5, t5), (6, t6), (7, t7)]⟩) := by
  refine (joinW_eq Tryd.prog GG (plenumlaw29_SlotPlays_env m) m ⟨127, []⟩ (cdR (cdR (cdR (cdR (cdR (cdL (cdL (cdR (cdL (cdL (cdR (cdL (cdR (cdR plenumlaw29_SlotPlays_c)))))))))))))) plenumlaw29_SlotPlays_h.r.r.l.r.c.c.r.l.c.r.r.r.r.r ⟨H, [(0, t0), (1, t1), (5, t5), (6, t6), (7, t7), (10, t10), (11, t11), (12, t12)]⟩ (blockX 1 (seqX (fun s => plenumlaw29_SlotPlays_r21 m n0 kc kx ⟨s.H, [(0, gt s.T 0), (1, gt s.T 1), (5, gt s.T 5), (6, gt s.T 6), (7, gt s.T 7)]⟩) (backW n0 [0, 1, 5, 6, 7] [4] kc kx)))).trans ?_
  kernel_rfl
theorem plenumlaw29_SlotPlays_r15_eq (m : Nat) (n0 : Nat) (kc : ASt → RO) (kx : KO (AV × List AObj)) (H : List AObj) (t0 t1 t5 t6 t7 : AV) : plenumlaw29_SlotPlays_r15 m n0 kc kx ⟨H, [(0, t0), (1, t1), (5, t5), (6, t6), (7, t7)]⟩ =
  binE none false false .add t7 (V (.int .i64 1)) fun t24 =>
  backE n0 H [(0, t0), (1, t1), (5, t5), (6, t6), (7, t24)] kc := by
  refine (joinW_eq Tryd.prog GG (plenumlaw29_SlotPlays_env m) m ⟨127, []⟩ (cdR (cdR (cdL (cdL (cdR (cdL (cdR (cdR plenumlaw29_SlotPlays_c)))))))) plenumlaw29_SlotPlays_h.r.r.l.r.c.c.r.r ⟨H, [(0, t0), (1, t1), (5, t5), (6, t6), (7, t7)]⟩ (backW n0 [0, 1, 5, 6, 7] [4] kc kx)).trans ?_
  kernel_rfl
theorem plenumlaw29_SlotPlays_r14_eq (m : Nat) (n0 : Nat) (kc : ASt → RO) (kx : KO (AV × List AObj)) (H : List AObj) (t0 t1 t5 t6 t7 : AV) : plenumlaw29_SlotPlays_r14 m n0 kc kx ⟨H, [(0, t0), (1, t1), (5, t5), (6, t6), (7, t7)]⟩ =
  loadE 8 H t5 fun t105 =>
  tellE (slot_May m (ro H t105)) [(ro H t105)] fun t106 =>
  unE .not t106 fun t107 =>
  condE t107 (
   plenumlaw29_SlotPlays_r18 m n0 kc kx ⟨H, [(0, t0), (1, t1), (5, t5), (6, t6), (7, t7), (125, (V (.bool true)))]⟩) (
   loadE 8 H t5 fun t109 =>
   tellE (slot_Prepared m (ro H t109) (ro H t0)) [(ro H t109), (ro H t0)] fun t111 =>
   loadE 8 H t6 fun t112 =>
   tellE (plenumref29_Prepared m (ro H t112) (ro H t0)) [(ro H t112), (ro H t0)] fun t114 =>
   binE none true false .neq t111 t114 fun t115 =>
   condE t115 (
   plenumlaw29_SlotPlays_r18 m n0 kc kx ⟨H, [(0, t0), (1, t1), (5, t5), (6, t6), (7, t7), (125, (V (.bool true)))]⟩) (
   loadE 8 H t5 fun t118 =>
   tellE (slot_Committed m (ro H t118) (ro H t0)) [(ro H t118), (ro H t0)] fun t120 =>
   loadE 8 H t6 fun t121 =>
   tellE (plenumref29_Committed m (ro H t121) (ro H t0)) [(ro H t121), (ro H t0)] fun t123 =>
   binE none true false .neq t120 t123 fun t124 =>
   plenumlaw29_SlotPlays_r18 m n0 kc kx ⟨H, [(0, t0), (1, t1), (5, t5), (6, t6), (7, t7), (125, t124)]⟩)) := by
  refine (joinW_eq Tryd.prog GG (plenumlaw29_SlotPlays_env m) m ⟨127, []⟩ (cdR (cdR (cdR (cdR (cdR (cdR (cdL (cdL (cdR (cdL (cdL (cdR (cdL (cdR (cdR plenumlaw29_SlotPlays_c))))))))))))))) plenumlaw29_SlotPlays_h.r.r.l.r.c.c.r.l.c.r.r.r.r.r.r ⟨H, [(0, t0), (1, t1), (5, t5), (6, t6), (7, t7)]⟩ (blockX 1 (seqX (fun s => plenumlaw29_SlotPlays_r19 m n0 kc kx ⟨s.H, [(0, gt s.T 0), (1, gt s.T 1), (5, gt s.T 5), (6, gt s.T 6), (7, gt s.T 7)]⟩) (backW n0 [0, 1, 5, 6, 7] [4] kc kx)))).trans ?_
  kernel_rfl
theorem plenumlaw29_SlotPlays_r13_eq (m : Nat) (n0 : Nat) (kc : ASt → RO) (kx : KO (AV × List AObj)) (H : List AObj) (t0 t1 t5 t6 t7 : AV) : plenumlaw29_SlotPlays_r13 m n0 kc kx ⟨H, [(0, t0), (1, t1), (5, t5), (6, t6), (7, t7)]⟩ =
  binE none false false .add t7 (V (.int .i64 1)) fun t24 =>
  backE n0 H [(0, t0), (1, t1), (5, t5), (6, t6), (7, t24)] kc := by
  refine (joinW_eq Tryd.prog GG (plenumlaw29_SlotPlays_env m) m ⟨127, []⟩ (cdR (cdR (cdL (cdL (cdR (cdL (cdR (cdR plenumlaw29_SlotPlays_c)))))))) plenumlaw29_SlotPlays_h.r.r.l.r.c.c.r.r ⟨H, [(0, t0), (1, t1), (5, t5), (6, t6), (7, t7)]⟩ (backW n0 [0, 1, 5, 6, 7] [4] kc kx)).trans ?_
  kernel_rfl
theorem plenumlaw29_SlotPlays_r12_eq (m : Nat) (n0 : Nat) (kc : ASt → RO) (kx : KO (AV × List AObj)) (H : List AObj) (t0 t1 t5 t6 t7 t10 t11 t12 t100 : AV) : plenumlaw29_SlotPlays_r12 m n0 kc kx ⟨H, [(0, t0), (1, t1), (5, t5), (6, t6), (7, t7), (10, t10), (11, t11), (12, t12), (100, t100)]⟩ =
  condE t100 (
   kx .ret ⟨H, [(4, (V (.bool false)))]⟩) (
   plenumlaw29_SlotPlays_r16 m n0 kc kx ⟨H, [(0, t0), (1, t1), (5, t5), (6, t6), (7, t7), (10, t10), (11, t11), (12, t12)]⟩) := by
  refine (joinW_eq Tryd.prog GG (plenumlaw29_SlotPlays_env m) m ⟨127, []⟩ (cdR (cdL (cdR (cdR (cdR (cdR (cdL (cdL (cdR (cdL (cdL (cdR (cdL (cdR (cdR plenumlaw29_SlotPlays_c))))))))))))))) plenumlaw29_SlotPlays_h.r.r.l.r.c.c.r.l.c.r.r.r.r.l.r ⟨H, [(0, t0), (1, t1), (5, t5), (6, t6), (7, t7), (10, t10), (11, t11), (12, t12), (100, t100)]⟩ (seqX (fun s => plenumlaw29_SlotPlays_r16 m n0 kc kx ⟨s.H, [(0, gt s.T 0), (1, gt s.T 1), (5, gt s.T 5), (6, gt s.T 6), (7, gt s.T 7), (10, gt s.T 10), (11, gt s.T 11), (12, gt s.T 12)]⟩) (blockX 1 (seqX (fun s => plenumlaw29_SlotPlays_r17 m n0 kc kx ⟨s.H, [(0, gt s.T 0), (1, gt s.T 1), (5, gt s.T 5), (6, gt s.T 6), (7, gt s.T 7)]⟩) (backW n0 [0, 1, 5, 6, 7] [4] kc kx))))).trans ?_
  kernel_rfl
theorem plenumlaw29_SlotPlays_r11_eq (m : Nat) (n0 : Nat) (kc : ASt → RO) (kx : KO (AV × List AObj)) (H : List AObj) (t0 t1 t5 t6 t7 : AV) : plenumlaw29_SlotPlays_r11 m n0 kc kx ⟨H, [(0, t0), (1, t1), (5, t5), (6, t6), (7, t7)]⟩ =
  binE none false false .add t7 (V (.int .i64 1)) fun t24 =>
  backE n0 H [(0, t0), (1, t1), (5, t5), (6, t6), (7, t24)] kc := by
  refine (joinW_eq Tryd.prog GG (plenumlaw29_SlotPlays_env m) m ⟨127, []⟩ (cdR (cdR (cdL (cdL (cdR (cdL (cdR (cdR plenumlaw29_SlotPlays_c)))))))) plenumlaw29_SlotPlays_h.r.r.l.r.c.c.r.r ⟨H, [(0, t0), (1, t1), (5, t5), (6, t6), (7, t7)]⟩ (backW n0 [0, 1, 5, 6, 7] [4] kc kx)).trans ?_
  kernel_rfl
theorem plenumlaw29_SlotPlays_r10_eq (m : Nat) (n0 : Nat) (kc : ASt → RO) (kx : KO (AV × List AObj)) (H : List AObj) (t0 t1 t5 t6 t7 t10 t11 t12 : AV) : plenumlaw29_SlotPlays_r10 m n0 kc kx ⟨H, [(0, t0), (1, t1), (5, t5), (6, t6), (7, t7), (10, t10), (11, t11), (12, t12)]⟩ =
  binE none false false .eql t10 (V (.int .i64 0)) fun t102 =>
  condE t102 (
   loadE 8 H t11 fun t103 =>
   loadE 8 H t12 fun t104 =>
   storeE 8 H t5 t103 fun H2 =>
   loadE 8 H2 t12 fun t8018 =>
   eqE t104 t8018 (
   storeE 8 H2 t6 t104 fun H3 =>
   loadE 8 H3 t12 fun t8020 =>
   eqE t104 t8020 (
   plenumlaw29_SlotPlays_r14 m n0 kc kx ⟨H3, [(0, t0), (1, t1), (5, t5), (6, t6), (7, t7)]⟩))) (
   plenumlaw29_SlotPlays_r14 m n0 kc kx ⟨H, [(0, t0), (1, t1), (5, t5), (6, t6), (7, t7)]⟩) := by
  refine (joinW_eq Tryd.prog GG (plenumlaw29_SlotPlays_env m) m ⟨127, []⟩ (cdR (cdR (cdR (cdR (cdR (cdL (cdL (cdR (cdL (cdL (cdR (cdL (cdR (cdR plenumlaw29_SlotPlays_c)))))))))))))) plenumlaw29_SlotPlays_h.r.r.l.r.c.c.r.l.c.r.r.r.r.r ⟨H, [(0, t0), (1, t1), (5, t5), (6, t6), (7, t7), (10, t10), (11, t11), (12, t12)]⟩ (blockX 1 (seqX (fun s => plenumlaw29_SlotPlays_r15 m n0 kc kx ⟨s.H, [(0, gt s.T 0), (1, gt s.T 1), (5, gt s.T 5), (6, gt s.T 6), (7, gt s.T 7)]⟩) (backW n0 [0, 1, 5, 6, 7] [4] kc kx)))).trans ?_
  kernel_rfl
theorem plenumlaw29_SlotPlays_r9_eq (m : Nat) (n0 : Nat) (kc : ASt → RO) (kx : KO (AV × List AObj)) (H : List AObj) (t0 t1 t5 t6 t7 : AV) : plenumlaw29_SlotPlays_r9 m n0 kc kx ⟨H, [(0, t0), (1, t1), (5, t5), (6, t6), (7, t7)]⟩ =
  binE none false false .add t7 (V (.int .i64 1)) fun t24 =>
  backE n0 H [(0, t0), (1, t1), (5, t5), (6, t6), (7, t24)] kc := by
  refine (joinW_eq Tryd.prog GG (plenumlaw29_SlotPlays_env m) m ⟨127, []⟩ (cdR (cdR (cdL (cdL (cdR (cdL (cdR (cdR plenumlaw29_SlotPlays_c)))))))) plenumlaw29_SlotPlays_h.r.r.l.r.c.c.r.r ⟨H, [(0, t0), (1, t1), (5, t5), (6, t6), (7, t7)]⟩ (backW n0 [0, 1, 5, 6, 7] [4] kc kx)).trans ?_
  kernel_rfl
theorem plenumlaw29_SlotPlays_r8_eq (m : Nat) (n0 : Nat) (kc : ASt → RO) (kx : KO (AV × List AObj)) (H : List AObj) (t0 t1 t5 t6 t7 t9 t10 t11 t12 : AV) : plenumlaw29_SlotPlays_r8 m n0 kc kx ⟨H, [(0, t0), (1, t1), (5, t5), (6, t6), (7, t7), (9, t9), (10, t10), (11, t11), (12, t12)]⟩ =
  loadE 8 H t11 fun t92 =>
  loadE 8 H t12 fun t93 =>
  tellE (plenumref29_Same m (ro H t92) (ro H t93)) [(ro H t92), (ro H t93)] fun t94 =>
  unE .not t94 fun t95 =>
  condE t95 (
   plenumlaw29_SlotPlays_r12 m n0 kc kx ⟨H, [(0, t0), (1, t1), (5, t5), (6, t6), (7, t7), (10, t10), (11, t11), (12, t12), (100, (V (.bool true)))]⟩) (
   binE none false false .neq t9 t10 fun t99 =>
   plenumlaw29_SlotPlays_r12 m n0 kc kx ⟨H, [(0, t0), (1, t1), (5, t5), (6, t6), (7, t7), (10, t10), (11, t11), (12, t12), (100, t99)]⟩) := by
  refine (joinW_eq Tryd.prog GG (plenumlaw29_SlotPlays_env m) m ⟨127, []⟩ (cdR (cdR (cdR (cdR (cdL (cdL (cdR (cdL (cdL (cdR (cdL (cdR (cdR plenumlaw29_SlotPlays_c))))))))))))) plenumlaw29_SlotPlays_h.r.r.l.r.c.c.r.l.c.r.r.r.r ⟨H, [(0, t0), (1, t1), (5, t5), (6, t6), (7, t7), (9, t9), (10, t10), (11, t11), (12, t12)]⟩ (blockX 1 (seqX (fun s => plenumlaw29_SlotPlays_r13 m n0 kc kx ⟨s.H, [(0, gt s.T 0), (1, gt s.T 1), (5, gt s.T 5), (6, gt s.T 6), (7, gt s.T 7)]⟩) (backW n0 [0, 1, 5, 6, 7] [4] kc kx)))).trans ?_
  kernel_rfl
theorem plenumlaw29_SlotPlays_r7_eq (m : Nat) (n0 : Nat) (kc : ASt → RO) (kx : KO (AV × List AObj)) (H : List AObj) (t0 t1 t5 t6 t7 : AV) : plenumlaw29_SlotPlays_r7 m n0 kc kx ⟨H, [(0, t0), (1, t1), (5, t5), (6, t6), (7, t7)]⟩ =
  binE none false false .add t7 (V (.int .i64 1)) fun t24 =>
  backE n0 H [(0, t0), (1, t1), (5, t5), (6, t6), (7, t24)] kc := by
  refine (joinW_eq Tryd.prog GG (plenumlaw29_SlotPlays_env m) m ⟨127, []⟩ (cdR (cdR (cdL (cdL (cdR (cdL (cdR (cdR plenumlaw29_SlotPlays_c)))))))) plenumlaw29_SlotPlays_h.r.r.l.r.c.c.r.r ⟨H, [(0, t0), (1, t1), (5, t5), (6, t6), (7, t7)]⟩ (backW n0 [0, 1, 5, 6, 7] [4] kc kx)).trans ?_
  kernel_rfl
theorem plenumlaw29_SlotPlays_r6_eq (m : Nat) (n0 : Nat) (kc : ASt → RO) (kx : KO (AV × List AObj)) (H : List AObj) (t0 t1 t5 t6 t7 t10 t11 t12 t100 : AV) : plenumlaw29_SlotPlays_r6 m n0 kc kx ⟨H, [(0, t0), (1, t1), (5, t5), (6, t6), (7, t7), (10, t10), (11, t11), (12, t12), (100, t100)]⟩ =
  condE t100 (
   kx .ret ⟨H, [(4, (V (.bool false)))]⟩) (
   plenumlaw29_SlotPlays_r10 m n0 kc kx ⟨H, [(0, t0), (1, t1), (5, t5), (6, t6), (7, t7), (10, t10), (11, t11), (12, t12)]⟩) := by
  refine (joinW_eq Tryd.prog GG (plenumlaw29_SlotPlays_env m) m ⟨127, []⟩ (cdR (cdL (cdR (cdR (cdR (cdR (cdL (cdL (cdR (cdL (cdL (cdR (cdL (cdR (cdR plenumlaw29_SlotPlays_c))))))))))))))) plenumlaw29_SlotPlays_h.r.r.l.r.c.c.r.l.c.r.r.r.r.l.r ⟨H, [(0, t0), (1, t1), (5, t5), (6, t6), (7, t7), (10, t10), (11, t11), (12, t12), (100, t100)]⟩ (seqX (fun s => plenumlaw29_SlotPlays_r10 m n0 kc kx ⟨s.H, [(0, gt s.T 0), (1, gt s.T 1), (5, gt s.T 5), (6, gt s.T 6), (7, gt s.T 7), (10, gt s.T 10), (11, gt s.T 11), (12, gt s.T 12)]⟩) (blockX 1 (seqX (fun s => plenumlaw29_SlotPlays_r11 m n0 kc kx ⟨s.H, [(0, gt s.T 0), (1, gt s.T 1), (5, gt s.T 5), (6, gt s.T 6), (7, gt s.T 7)]⟩) (backW n0 [0, 1, 5, 6, 7] [4] kc kx))))).trans ?_
  kernel_rfl
theorem plenumlaw29_SlotPlays_r5_eq (m : Nat) (n0 : Nat) (kc : ASt → RO) (kx : KO (AV × List AObj)) (H : List AObj) (t0 t1 t5 t6 t7 t8 t11 t12 t62 : AV) : plenumlaw29_SlotPlays_r5 m n0 kc kx ⟨H, [(0, t0), (1, t1), (5, t5), (6, t6), (7, t7), (8, t8), (11, t11), (12, t12), (62, t62)]⟩ =
  condE t62 (
   loadE 8 H t5 fun t75 =>
   fieldE (some (1, 1)) t8 fun t76 =>
   loadE 1 H t76 fun t77 =>
   fieldE (some (2, 1)) t8 fun t78 =>
   loadE 1 H t78 fun t79 =>
   tellE (slot_Propose m (ro H t75) (ro H t77) (ro H t79) (V (.string ⟨#[]⟩))) [(ro H t75), (ro H t77), (ro H t79), (V (.string ⟨#[]⟩))] fun t80 =>
   extE t80 0 fun t81 =>
   extE t80 1 fun t82 =>
   storeE 8 H t11 t81 fun H2 =>
   loadE 8 H2 t6 fun t84 =>
   fieldE (some (1, 1)) t8 fun t85 =>
   loadE 1 H2 t85 fun t86 =>
   fieldE (some (2, 1)) t8 fun t87 =>
   loadE 1 H2 t87 fun t88 =>
   tellE (plenumref29_Propose m (ro H2 t84) (ro H2 t86) (ro H2 t88) (V (.string ⟨#[]⟩))) [(ro H2 t84), (ro H2 t86), (ro H2 t88), (V (.string ⟨#[]⟩))] fun t89 =>
   extE t89 0 fun t90 =>
   extE t89 1 fun t91 =>
   storeE 8 H2 t12 t90 fun H3 =>
   plenumlaw29_SlotPlays_r8 m n0 kc kx ⟨H3, [(0, t0), (1, t1), (5, t5), (6, t6), (7, t7), (9, t82), (10, t91), (11, t11), (12, t12)]⟩) (
   loadE 8 H t5 fun t33 =>
   loadE 5 H t8 fun t34 =>
   tellE (slot_Prepare m (ro H t33) (ro H t34)) [(ro H t33), (ro H t34)] fun t35 =>
   extE t35 0 fun t36 =>
   extE t35 1 fun t37 =>
   storeE 8 H t11 t36 fun H2 =>
   loadE 8 H2 t6 fun t39 =>
   loadE 5 H2 t8 fun t40 =>
   tellE (plenumref29_Prepare m (ro H2 t39) (ro H2 t40)) [(ro H2 t39), (ro H2 t40)] fun t41 =>
   extE t41 0 fun t42 =>
   extE t41 1 fun t43 =>
   storeE 8 H2 t12 t42 fun H3 =>
   plenumlaw29_SlotPlays_r8 m n0 kc kx ⟨H3, [(0, t0), (1, t1), (5, t5), (6, t6), (7, t7), (9, t37), (10, t43), (11, t11), (12, t12)]⟩) := by
  refine (joinW_eq Tryd.prog GG (plenumlaw29_SlotPlays_env m) m ⟨127, []⟩ (cdR (cdR (cdR (cdL (cdL (cdR (cdR (cdR (cdL (cdL (cdR (cdL (cdL (cdR (cdL (cdR (cdR plenumlaw29_SlotPlays_c))))))))))))))))) plenumlaw29_SlotPlays_h.r.r.l.r.c.c.r.l.c.r.r.r.l.c.r.r.r ⟨H, [(0, t0), (1, t1), (5, t5), (6, t6), (7, t7), (8, t8), (11, t11), (12, t12), (62, t62)]⟩ (blockX 2 (seqX (fun s => plenumlaw29_SlotPlays_r8 m n0 kc kx ⟨s.H, [(0, gt s.T 0), (1, gt s.T 1), (5, gt s.T 5), (6, gt s.T 6), (7, gt s.T 7), (9, gt s.T 9), (10, gt s.T 10), (11, gt s.T 11), (12, gt s.T 12)]⟩) (blockX 1 (seqX (fun s => plenumlaw29_SlotPlays_r9 m n0 kc kx ⟨s.H, [(0, gt s.T 0), (1, gt s.T 1), (5, gt s.T 5), (6, gt s.T 6), (7, gt s.T 7)]⟩) (backW n0 [0, 1, 5, 6, 7] [4] kc kx)))))).trans ?_
  kernel_rfl
theorem plenumlaw29_SlotPlays_r4_eq (m : Nat) (n0 : Nat) (kc : ASt → RO) (kx : KO (AV × List AObj)) (H : List AObj) (t0 t1 t5 t6 t7 t9 t10 t11 t12 : AV) : plenumlaw29_SlotPlays_r4 m n0 kc kx ⟨H, [(0, t0), (1, t1), (5, t5), (6, t6), (7, t7), (9, t9), (10, t10), (11, t11), (12, t12)]⟩ =
  loadE 8 H t11 fun t92 =>
  loadE 8 H t12 fun t93 =>
  tellE (plenumref29_Same m (ro H t92) (ro H t93)) [(ro H t92), (ro H t93)] fun t94 =>
  unE .not t94 fun t95 =>
  condE t95 (
   plenumlaw29_SlotPlays_r6 m n0 kc kx ⟨H, [(0, t0), (1, t1), (5, t5), (6, t6), (7, t7), (10, t10), (11, t11), (12, t12), (100, (V (.bool true)))]⟩) (
   binE none false false .neq t9 t10 fun t99 =>
   plenumlaw29_SlotPlays_r6 m n0 kc kx ⟨H, [(0, t0), (1, t1), (5, t5), (6, t6), (7, t7), (10, t10), (11, t11), (12, t12), (100, t99)]⟩) := by
  refine (joinW_eq Tryd.prog GG (plenumlaw29_SlotPlays_env m) m ⟨127, []⟩ (cdR (cdR (cdR (cdR (cdL (cdL (cdR (cdL (cdL (cdR (cdL (cdR (cdR plenumlaw29_SlotPlays_c))))))))))))) plenumlaw29_SlotPlays_h.r.r.l.r.c.c.r.l.c.r.r.r.r ⟨H, [(0, t0), (1, t1), (5, t5), (6, t6), (7, t7), (9, t9), (10, t10), (11, t11), (12, t12)]⟩ (blockX 1 (seqX (fun s => plenumlaw29_SlotPlays_r7 m n0 kc kx ⟨s.H, [(0, gt s.T 0), (1, gt s.T 1), (5, gt s.T 5), (6, gt s.T 6), (7, gt s.T 7)]⟩) (backW n0 [0, 1, 5, 6, 7] [4] kc kx)))).trans ?_
  kernel_rfl
theorem plenumlaw29_SlotPlays_r3_eq (m : Nat) (n0 : Nat) (kc : ASt → RO) (kx : KO (AV × List AObj)) (H : List AObj) (t0 t1 t5 t6 t7 : AV) : plenumlaw29_SlotPlays_r3 m n0 kc kx ⟨H, [(0, t0), (1, t1), (5, t5), (6, t6), (7, t7)]⟩ =
  idxSE 6 H t1 t7 fun t27 =>
  fieldE (some (1, 5)) t27 fun t28 =>
  loadE 5 H t28 fun t29 =>
  allocE (some zc_api_Vote) ty_api_Vote H fun t8 H2 =>
  storeE 5 H2 t8 t29 fun H3 =>
  buildE (some pl_api_Slot) (some zc_api_Slot) [] fun t30 =>
  buildE (some pl_api_Slot) (some zc_api_Slot) [] fun t31 =>
  allocE (some zc_api_Slot) ty_api_Slot H3 fun t11 H4 =>
  allocE (some zc_api_Slot) ty_api_Slot H4 fun t12 H5 =>
  storeE 8 H5 t11 t30 fun H6 =>
  storeE 8 H6 t12 t31 fun H7 =>
  idxSE 6 H7 t1 t7 fun t47 =>
  fieldE (some (0, 1)) t47 fun t48 =>
  loadE 1 H7 t48 fun t49 =>
  condE t49 (
   loadE 8 H7 t5 fun t51 =>
   loadE 5 H7 t8 fun t52 =>
   tellE (slot_Commit m (ro H7 t51) (ro H7 t52)) [(ro H7 t51), (ro H7 t52)] fun t53 =>
   extE t53 0 fun t54 =>
   extE t53 1 fun t55 =>
   storeE 8 H7 t11 t54 fun H8 =>
   loadE 8 H8 t6 fun t57 =>
   loadE 5 H8 t8 fun t58 =>
   tellE (plenumref29_Commit m (ro H8 t57) (ro H8 t58)) [(ro H8 t57), (ro H8 t58)] fun t59 =>
   extE t59 0 fun t60 =>
   extE t59 1 fun t61 =>
   storeE 8 H8 t12 t60 fun H9 =>
   plenumlaw29_SlotPlays_r4 m n0 kc kx ⟨H9, [(0, t0), (1, t1), (5, t5), (6, t6), (7, t7), (9, t55), (10, t61), (11, t11), (12, t12)]⟩) (
   fieldE (some (1, 1)) t8 fun t63 =>
   loadE 1 H7 t63 fun t64 =>
   tellE (plenumref05_Primary m (ro H7 t64) (ro H7 t0)) [(ro H7 t64), (ro H7 t0)] fun t66 =>
   fieldE (some (0, 1)) t8 fun t67 =>
   loadE 1 H7 t67 fun t68 =>
   binE none false false .eql t66 t68 fun t69 =>
   condE t69 (
    binE none false false .gtr t0 (V (.int .i64 0)) fun t72 =>
    plenumlaw29_SlotPlays_r5 m n0 kc kx ⟨H7, [(0, t0), (1, t1), (5, t5), (6, t6), (7, t7), (8, t8), (11, t11), (12, t12), (62, t72)]⟩) (
    plenumlaw29_SlotPlays_r5 m n0 kc kx ⟨H7, [(0, t0), (1, t1), (5, t5), (6, t6), (7, t7), (8, t8), (11, t11), (12, t12), (62, (V (.bool false)))]⟩)) := by
  refine (joinW_eq Tryd.prog GG (plenumlaw29_SlotPlays_env m) m ⟨127, []⟩ (cdR (cdL (cdL (cdR (cdL (cdR (cdR plenumlaw29_SlotPlays_c))))))) plenumlaw29_SlotPlays_h.r.r.l.r.c.c.r ⟨H, [(0, t0), (1, t1), (5, t5), (6, t6), (7, t7)]⟩ (backW n0 [0, 1, 5, 6, 7] [4] kc kx)).trans ?_
  kernel_rfl
theorem plenumlaw29_SlotPlays_r2_eq (m : Nat) (n0 : Nat) (kc : ASt → RO) (kx : KO (AV × List AObj)) (H : List AObj) (t0 t1 t5 t6 t7 t22 : AV) : plenumlaw29_SlotPlays_r2 m n0 kc kx ⟨H, [(0, t0), (1, t1), (5, t5), (6, t6), (7, t7), (22, t22)]⟩ =
  condE t22 (
   plenumlaw29_SlotPlays_r3 m n0 kc kx ⟨H, [(0, t0), (1, t1), (5, t5), (6, t6), (7, t7)]⟩) (
   kx (.exit 0) ⟨H, [(4, .nil)]⟩) := by
  refine (joinW_eq Tryd.prog GG (plenumlaw29_SlotPlays_env m) m ⟨127, []⟩ (cdR (cdL (cdL (cdL (cdR (cdL (cdR (cdR plenumlaw29_SlotPlays_c)))))))) plenumlaw29_SlotPlays_h.r.r.l.r.c.c.l.r ⟨H, [(0, t0), (1, t1), (5, t5), (6, t6), (7, t7), (22, t22)]⟩ (seqX (fun s => plenumlaw29_SlotPlays_r3 m n0 kc kx ⟨s.H, [(0, gt s.T 0), (1, gt s.T 1), (5, gt s.T 5), (6, gt s.T 6), (7, gt s.T 7)]⟩) (backW n0 [0, 1, 5, 6, 7] [4] kc kx))).trans ?_
  kernel_rfl
theorem plenumlaw29_SlotPlays_r1_eq (m : Nat) (H : List AObj) : plenumlaw29_SlotPlays_r1 m ⟨H, []⟩ =
  tellE (plenumlaw29_awake m) [] fun t126 =>
  tellK H (ro H t126) := by
  refine (joinW_eq Tryd.prog GG (plenumlaw29_SlotPlays_env m) m ⟨127, []⟩ (cdR (cdR (cdR plenumlaw29_SlotPlays_c))) plenumlaw29_SlotPlays_h.r.r.r ⟨H, []⟩ (plenumlaw29_SlotPlays_fin)).trans ?_
  kernel_rfl
theorem plenumlaw29_SlotPlays_b1_eq (m : Nat) (H : List AObj) (t0 t1 t5 t6 t7 : AV) (kc : ASt → RO) (kx : KO (AV × List AObj)) : plenumlaw29_SlotPlays_b1 m ⟨H, [(0, t0), (1, t1), (5, t5), (6, t6), (7, t7)]⟩ kc kx =
  lenE false true H t1 fun t17 =>
  binE none false false .lss t7 t17 fun t18 =>
  condE t18 (
   binE none false false .lss t7 (V (.int .i64 90)) fun t21 =>
   plenumlaw29_SlotPlays_r2 m H.length kc kx ⟨H, [(0, t0), (1, t1), (5, t5), (6, t6), (7, t7), (22, t21)]⟩) (
   plenumlaw29_SlotPlays_r2 m H.length kc kx ⟨H, [(0, t0), (1, t1), (5, t5), (6, t6), (7, t7), (22, (V (.bool false)))]⟩) := by
  refine (bodyW_eq Tryd.prog GG (plenumlaw29_SlotPlays_env m) m ⟨127, []⟩ (cdL (cdL (cdR (cdL (cdR (cdR plenumlaw29_SlotPlays_c)))))) plenumlaw29_SlotPlays_h.r.r.l.r.c.c [0, 1, 5, 6, 7] [4] ⟨H, [(0, t0), (1, t1), (5, t5), (6, t6), (7, t7)]⟩ kc kx).trans ?_
  kernel_rfl
theorem plenumlaw29_SlotPlays_eq (m : Nat) (t0 t1 : AV) : plenumlaw29_SlotPlays m t0 t1 =
  buildE (some pl_api_Slot) (some zc_api_Slot) [] fun t13 =>
  buildE (some pl_api_Slot) (some zc_api_Slot) [] fun t14 =>
  allocE (some zc_api_Slot) ty_api_Slot [] fun t5 H1 =>
  allocE (some zc_api_Slot) ty_api_Slot H1 fun t6 H2 =>
  storeE 8 H2 t5 t13 fun H3 =>
  storeE 8 H3 t6 t14 fun H4 =>
  iterC m (plenumlaw29_SlotPlays_b1 m) ⟨H4, [(0, t0), (1, t1), (5, t5), (6, t6), (7, (V (.int .i64 0)))]⟩ (blockX 0 (seqX (fun s => plenumlaw29_SlotPlays_r1 m ⟨s.H, []⟩) (plenumlaw29_SlotPlays_fin))) := by
  refine (tellX Tryd.prog GG (plenumlaw29_SlotPlays_env m) m ⟨127, []⟩ plenumlaw29_SlotPlays_c plenumlaw29_SlotPlays_h ⟨[], argsT 0 [t0, t1]⟩ [.tmp 4]).trans ?_
  kernel_rfl
noncomputable def plenumlaw29_SlotPlays_t (m : Nat) : List AV → RO | [t0, t1] => plenumlaw29_SlotPlays m t0 t1 | _ => none
theorem plenumlaw29_SlotPlays_ok (m : Nat) : ∀ args X H', plenumlaw29_SlotPlays_t m args = some (X, H') → ACp Tryd.prog GG 4 args X := by
  intro args X H' h
  unfold plenumlaw29_SlotPlays_t at h
  split at h
  · exact tell_okK MIX (by
    intro f e h
    simp only [plenumlaw29_SlotPlays_env, Prod.mk.injEq, List.mem_cons, List.not_mem_nil, or_false] at h
    rcases h with ⟨rfl, rfl⟩ | ⟨rfl, rfl⟩ | ⟨rfl, rfl⟩ | ⟨rfl, rfl⟩ | ⟨rfl, rfl⟩ | ⟨rfl, rfl⟩ | ⟨rfl, rfl⟩ | ⟨rfl, rfl⟩ | ⟨rfl, rfl⟩ | ⟨rfl, rfl⟩ | ⟨rfl, rfl⟩ | ⟨rfl, rfl⟩ | ⟨rfl, rfl⟩ | ⟨rfl, rfl⟩
    · exact plenumlaw29_awake_ok m
    · exact slot_Commit_ok m
    · exact plenumref29_Commit_ok m
    · exact plenumref05_Primary_ok m
    · exact plenumref29_Same_ok m
    · exact slot_Propose_ok m
    · exact plenumref29_Propose_ok m
    · exact slot_Prepare_ok m
    · exact plenumref29_Prepare_ok m
    · exact slot_May_ok m
    · exact slot_Prepared_ok m
    · exact plenumref29_Prepared_ok m
    · exact slot_Committed_ok m
    · exact plenumref29_Committed_ok m) (f := 4) (c := plenumlaw29_SlotPlays_c) Tryd.func4 rfl (by kernel_rfl) _ rfl Tryd.ntmps4 (Nat.le_of_ble_eq_true rfl) plenumlaw29_SlotPlays_h h
  · cases h
noncomputable def plenumlaw29_SlotAgree_c : Code := (Tryd.f5.body).getD .skip
def plenumlaw29_SlotAgree_h : Hint := (.two .n (.two .n (.two .n (.join [2, 3, 4, 7] (.join [2, 3, 4, 7, 36] .n (.two (.two .n .n) .n)) (.two .n (.join [2, 3, 4, 7, 8, 9] (.two .n (.one (.lp [] [2, 3, 4, 7, 8, 9, 10] [2, 3, 4, 7, 8, 9] (.two (.two .n (.two .n .n)) (.join [2, 3, 4, 7, 8, 9, 10] (.one (.two .n (.two .n (.join [2, 3, 4, 7, 8, 9, 10, 11, 13] (.join [2, 3, 4, 7, 8, 9, 10, 11, 13, 79] .n (.two .n .n)) (.two .n (.two .n (.join [2, 3, 4, 7, 8, 9, 10, 118] .n (.two .n .n)))))))) .n))))) (.join [2, 3, 4, 7, 9] (.join [2, 3, 4, 7, 9, 133] .n (.two (.two .n .n) .n)) (.two .n .n))))))))
noncomputable def plenumlaw29_SlotAgree_env (m : Nat) : Env := [(6, .tell (plenumlaw29_Few_t m)), (23, .tell (plenumref05_Faults_t m)), (17, .tell (plenumlaw29_awake_t m)), (24, .tell (plenumlaw29_votesOf_t m)), (19, .tell (slot_Prepared_t m)), (21, .tell (slot_Committed_t m))]
noncomputable abbrev plenumlaw29_SlotAgree_fin : KO (AV × List AObj) := tellFK Tryd.prog [.tmp 6]
noncomputable def plenumlaw29_SlotAgree_r11 (m : Nat) (n0 : Nat) (kc : ASt → RO) (kx : KO (AV × List AObj)) (s : ASt) : RO := joinW Tryd.prog GG (plenumlaw29_SlotAgree_env m) m ⟨152, []⟩ (cdR (cdR (cdL (cdL (cdR (cdL (cdR (cdR (cdR (cdR (cdR plenumlaw29_SlotAgree_c))))))))))) plenumlaw29_SlotAgree_h.r.r.r.r.r.l.r.c.c.r.r s (backW n0 [2, 3, 4, 7, 8, 9, 10] [2, 3, 4, 7, 8, 9] kc kx)
noncomputable def plenumlaw29_SlotAgree_r10 (m : Nat) (n0 : Nat) (kc : ASt → RO) (kx : KO (AV × List AObj)) (s : ASt) : RO := joinW Tryd.prog GG (plenumlaw29_SlotAgree_env m) m ⟨152, []⟩ (cdR (cdR (cdL (cdL (cdR (cdL (cdR (cdR (cdR (cdR (cdR plenumlaw29_SlotAgree_c))))))))))) plenumlaw29_SlotAgree_h.r.r.r.r.r.l.r.c.c.r.r s (backW n0 [2, 3, 4, 7, 8, 9, 10] [2, 3, 4, 7, 8, 9] kc kx)
noncomputable def plenumlaw29_SlotAgree_r9 (m : Nat) (n0 : Nat) (kc : ASt → RO) (kx : KO (AV × List AObj)) (s : ASt) : RO := joinW Tryd.prog GG (plenumlaw29_SlotAgree_env m) m ⟨152, []⟩ (cdR (cdR (cdR (cdR (cdR (cdR (cdL (cdL (cdR (cdL (cdL (cdR (cdL (cdR (cdR (cdR (cdR (cdR plenumlaw29_SlotAgree_c)))))))))))))))))) plenumlaw29_SlotAgree_h.r.r.r.r.r.l.r.c.c.r.l.c.r.r.r.r.r.r s (blockX 1 (seqX (fun s => plenumlaw29_SlotAgree_r11 m n0 kc kx ⟨s.H, [(2, gt s.T 2), (3, gt s.T 3), (4, gt s.T 4), (7, gt s.T 7), (8, gt s.T 8), (9, gt s.T 9), (10, gt s.T 10)]⟩) (backW n0 [2, 3, 4, 7, 8, 9, 10] [2, 3, 4, 7, 8, 9] kc kx)))
noncomputable def plenumlaw29_SlotAgree_r8 (m : Nat) (s : ASt) : RO := joinW Tryd.prog GG (plenumlaw29_SlotAgree_env m) m ⟨152, []⟩ (cdR (cdR (cdR (cdR (cdR (cdR (cdR plenumlaw29_SlotAgree_c))))))) plenumlaw29_SlotAgree_h.r.r.r.r.r.r.r s (plenumlaw29_SlotAgree_fin)
noncomputable def plenumlaw29_SlotAgree_r7 (m : Nat) (n0 : Nat) (kc : ASt → RO) (kx : KO (AV × List AObj)) (s : ASt) : RO := joinW Tryd.prog GG (plenumlaw29_SlotAgree_env m) m ⟨152, []⟩ (cdR (cdR (cdL (cdL (cdR (cdL (cdR (cdR (cdR (cdR (cdR plenumlaw29_SlotAgree_c))))))))))) plenumlaw29_SlotAgree_h.r.r.r.r.r.l.r.c.c.r.r s (backW n0 [2, 3, 4, 7, 8, 9, 10] [2, 3, 4, 7, 8, 9] kc kx)
noncomputable def plenumlaw29_SlotAgree_r6 (m : Nat) (n0 : Nat) (kc : ASt → RO) (kx : KO (AV × List AObj)) (s : ASt) : RO := joinW Tryd.prog GG (plenumlaw29_SlotAgree_env m) m ⟨152, []⟩ (cdR (cdR (cdR (cdL (cdL (cdR (cdL (cdL (cdR (cdL (cdR (cdR (cdR (cdR (cdR plenumlaw29_SlotAgree_c))))))))))))))) plenumlaw29_SlotAgree_h.r.r.r.r.r.l.r.c.c.r.l.c.r.r.r s (blockX 1 (seqX (fun s => plenumlaw29_SlotAgree_r10 m n0 kc kx ⟨s.H, [(2, gt s.T 2), (3, gt s.T 3), (4, gt s.T 4), (7, gt s.T 7), (8, gt s.T 8), (9, gt s.T 9), (10, gt s.T 10)]⟩) (backW n0 [2, 3, 4, 7, 8, 9, 10] [2, 3, 4, 7, 8, 9] kc kx)))
noncomputable def plenumlaw29_SlotAgree_r5 (m : Nat) (s : ASt) : RO := joinW Tryd.prog GG (plenumlaw29_SlotAgree_env m) m ⟨152, []⟩ (cdR (cdL (cdR (cdR (cdR (cdR (cdR (cdR plenumlaw29_SlotAgree_c)))))))) plenumlaw29_SlotAgree_h.r.r.r.r.r.r.l.r s (seqX (fun s => plenumlaw29_SlotAgree_r8 m ⟨s.H, [(2, gt s.T 2), (3, gt s.T 3), (4, gt s.T 4), (7, gt s.T 7), (9, gt s.T 9)]⟩) (plenumlaw29_SlotAgree_fin))
noncomputable def plenumlaw29_SlotAgree_r4 (m : Nat) (n0 : Nat) (kc : ASt → RO) (kx : KO (AV × List AObj)) (s : ASt) : RO := joinW Tryd.prog GG (plenumlaw29_SlotAgree_env m) m ⟨152, []⟩ (cdR (cdL (cdR (cdR (cdL (cdL (cdR (cdL (cdL (cdR (cdL (cdR (cdR (cdR (cdR (cdR plenumlaw29_SlotAgree_c)))))))))))))))) plenumlaw29_SlotAgree_h.r.r.r.r.r.l.r.c.c.r.l.c.r.r.l.r s (seqX (fun s => plenumlaw29_SlotAgree_r6 m n0 kc kx ⟨s.H, [(2, gt s.T 2), (3, gt s.T 3), (4, gt s.T 4), (7, gt s.T 7), (8, gt s.T 8), (9, gt s.T 9), (10, gt s.T 10), (11, gt s.T 11), (13, gt s.T 13)]⟩) (blockX 1 (seqX (fun s => plenumlaw29_SlotAgree_r7 m n0 kc kx ⟨s.H, [(2, gt s.T 2), (3, gt s.T 3), (4, gt s.T 4), (7, gt s.T 7), (8, gt s.T 8), (9, gt s.T 9), (10, gt s.T 10)]⟩) (backW n0 [2, 3, 4, 7, 8, 9, 10] [2, 3, 4, 7, 8, 9] kc kx))))
noncomputable def plenumlaw29_SlotAgree_r3 (m : Nat) (s : ASt) : RO := joinW Tryd.prog GG (plenumlaw29_SlotAgree_env m) m ⟨152, []⟩ (cdR (cdR (cdR (cdR (cdR (cdR plenumlaw29_SlotAgree_c)))))) plenumlaw29_SlotAgree_h.r.r.r.r.r.r s (plenumlaw29_SlotAgree_fin)
noncomputable def plenumlaw29_SlotAgree_b1 (m : Nat) (s : ASt) (kc : ASt → RO) (kx : KO (AV × List AObj)) : RO := bodyW Tryd.prog GG (plenumlaw29_SlotAgree_env m) m ⟨152, []⟩ (cdL (cdL (cdR (cdL (cdR (cdR (cdR (cdR (cdR plenumlaw29_SlotAgree_c))))))))) plenumlaw29_SlotAgree_h.r.r.r.r.r.l.r.c.c [2, 3, 4, 7, 8, 9, 10] [2, 3, 4, 7, 8, 9] s kc kx
noncomputable def plenumlaw29_SlotAgree_r2 (m : Nat) (s : ASt) : RO := joinW Tryd.prog GG (plenumlaw29_SlotAgree_env m) m ⟨152, []⟩ (cdR (cdR (cdR (cdR plenumlaw29_SlotAgree_c)))) plenumlaw29_SlotAgree_h.r.r.r.r s (plenumlaw29_SlotAgree_fin)
noncomputable def plenumlaw29_SlotAgree_r1 (m : Nat) (s : ASt) : RO := joinW Tryd.prog GG (plenumlaw29_SlotAgree_env m) m ⟨152, []⟩ (cdR (cdL (cdR (cdR (cdR plenumlaw29_SlotAgree_c))))) plenumlaw29_SlotAgree_h.r.r.r.l.r s (seqX (fun s => plenumlaw29_SlotAgree_r2 m ⟨s.H, [(2, gt s.T 2), (3, gt s.T 3), (4, gt s.T 4), (7, gt s.T 7)]⟩) (plenumlaw29_SlotAgree_fin))
noncomputable def plenumlaw29_SlotAgree (m : Nat) (t0 t1 t2 : AV) : RO := exec Tryd.prog GG (plenumlaw29_SlotAgree_env m) m ⟨152, []⟩ plenumlaw29_SlotAgree_c plenumlaw29_SlotAgree_h ⟨[], argsT 0 [t0, t1, t2]⟩ (plenumlaw29_SlotAgree_fin)
theorem plenumlaw29_SlotAgree_r11_eq (m : Nat) (n0 : Nat) (kc : ASt → RO) (kx : KO (AV × List AObj)) (H : List AObj) (t2 t3 t4 t7 t8 t9 t10 : AV) : plenumlaw29_SlotAgree_r11 m n0 kc kx ⟨H, [(2, t2), (3, t3), (4, t4), (7, t7), (8, t8), (9, t9), (10, t10)]⟩ =
  binE none false false .add t10 (V (.int .i64 1)) fun t42 =>
  backE n0 H [(2, t2), (3, t3), (4, t4), (7, t7), (8, t8), (9, t9), (10, t42)] kc := by
  refine (joinW_eq Tryd.prog GG (plenumlaw29_SlotAgree_env m) m ⟨152, []⟩ (cdR (cdR (cdL (cdL (cdR (cdL (cdR (cdR (cdR (cdR (cdR plenumlaw29_SlotAgree_c))))))))))) plenumlaw29_SlotAgree_h.r.r.r.r.r.l.r.c.c.r.r ⟨H, [(2, t2), (3, t3), (4, t4), (7, t7), (8, t8), (9, t9), (10, t10)]⟩ (backW n0 [2, 3, 4, 7, 8, 9, 10] [2, 3, 4, 7, 8, 9] kc kx)).trans ?_
  kernel_rfl
theorem plenumlaw29_SlotAgree_r10_eq (m : Nat) (n0 : Nat) (kc : ASt → RO) (kx : KO (AV × List AObj)) (H : List AObj) (t2 t3 t4 t7 t8 t9 t10 : AV) : plenumlaw29_SlotAgree_r10 m n0 kc kx ⟨H, [(2, t2), (3, t3), (4, t4), (7, t7), (8, t8), (9, t9), (10, t10)]⟩ =
  binE none false false .add t10 (V (.int .i64 1)) fun t42 =>
  backE n0 H [(2, t2), (3, t3), (4, t4), (7, t7), (8, t8), (9, t9), (10, t42)] kc := by
  refine (joinW_eq Tryd.prog GG (plenumlaw29_SlotAgree_env m) m ⟨152, []⟩ (cdR (cdR (cdL (cdL (cdR (cdL (cdR (cdR (cdR (cdR (cdR plenumlaw29_SlotAgree_c))))))))))) plenumlaw29_SlotAgree_h.r.r.r.r.r.l.r.c.c.r.r ⟨H, [(2, t2), (3, t3), (4, t4), (7, t7), (8, t8), (9, t9), (10, t10)]⟩ (backW n0 [2, 3, 4, 7, 8, 9, 10] [2, 3, 4, 7, 8, 9] kc kx)).trans ?_
  kernel_rfl
theorem plenumlaw29_SlotAgree_r9_eq (m : Nat) (n0 : Nat) (kc : ASt → RO) (kx : KO (AV × List AObj)) (H : List AObj) (t2 t3 t4 t7 t8 t9 t10 t118 : AV) : plenumlaw29_SlotAgree_r9 m n0 kc kx ⟨H, [(2, t2), (3, t3), (4, t4), (7, t7), (8, t8), (9, t9), (10, t10), (118, t118)]⟩ =
  condE t118 (
   binE none false false .add t9 (V (.int .i64 1)) fun t120 =>
   plenumlaw29_SlotAgree_r11 m n0 kc kx ⟨H, [(2, t2), (3, t3), (4, t4), (7, t7), (8, t8), (9, t120), (10, t10)]⟩) (
   plenumlaw29_SlotAgree_r11 m n0 kc kx ⟨H, [(2, t2), (3, t3), (4, t4), (7, t7), (8, t8), (9, t9), (10, t10)]⟩) := by
  refine (joinW_eq Tryd.prog GG (plenumlaw29_SlotAgree_env m) m ⟨152, []⟩ (cdR (cdR (cdR (cdR (cdR (cdR (cdL (cdL (cdR (cdL (cdL (cdR (cdL (cdR (cdR (cdR (cdR (cdR plenumlaw29_SlotAgree_c)))))))))))))))))) plenumlaw29_SlotAgree_h.r.r.r.r.r.l.r.c.c.r.l.c.r.r.r.r.r.r ⟨H, [(2, t2), (3, t3), (4, t4), (7, t7), (8, t8), (9, t9), (10, t10), (118, t118)]⟩ (blockX 1 (seqX (fun s => plenumlaw29_SlotAgree_r11 m n0 kc kx ⟨s.H, [(2, gt s.T 2), (3, gt s.T 3), (4, gt s.T 4), (7, gt s.T 7), (8, gt s.T 8), (9, gt s.T 9), (10, gt s.T 10)]⟩) (backW n0 [2, 3, 4, 7, 8, 9, 10] [2, 3, 4, 7, 8, 9] kc kx)))).trans ?_
  kernel_rfl
theorem plenumlaw29_SlotAgree_r8_eq (m : Nat) (H : List AObj) (t2 t3 t4 t7 t9 : AV) : plenumlaw29_SlotAgree_r8 m ⟨H, [(2, t2), (3, t3), (4, t4), (7, t7), (9, t9)]⟩ =
  loadE 8 H t3 fun t134 =>
  tellE (slot_Committed m (ro H t134) (ro H t2)) [(ro H t134), (ro H t2)] fun t136 =>
  unE .not t136 fun t137 =>
  condE t137 (
   tellE (plenumlaw29_awake m) [] fun t150 =>
   tellK H (ro H t150)) (
   loadE 8 H t4 fun t139 =>
   tellE (slot_Committed m (ro H t139) (ro H t2)) [(ro H t139), (ro H t2)] fun t141 =>
   unE .not t141 fun t142 =>
   condE t142 (
   tellE (plenumlaw29_awake m) [] fun t150 =>
   tellK H (ro H t150)) (
   binE none false false .gtr t9 t7 fun t147 =>
   condE t147 (
   tellE (plenumlaw29_awake m) [] fun t150 =>
   tellK H (ro H t150)) (
   tellK H (ro H (V (.bool false)))))) := by
  refine (joinW_eq Tryd.prog GG (plenumlaw29_SlotAgree_env m) m ⟨152, []⟩ (cdR (cdR (cdR (cdR (cdR (cdR (cdR plenumlaw29_SlotAgree_c))))))) plenumlaw29_SlotAgree_h.r.r.r.r.r.r.r ⟨H, [(2, t2), (3, t3), (4, t4), (7, t7), (9, t9)]⟩ (plenumlaw29_SlotAgree_fin)).trans ?_
  kernel_rfl
theorem plenumlaw29_SlotAgree_r7_eq (m : Nat) (n0 : Nat) (kc : ASt → RO) (kx : KO (AV × List AObj)) (H : List AObj) (t2 t3 t4 t7 t8 t9 t10 : AV) : plenumlaw29_SlotAgree_r7 m n0 kc kx ⟨H, [(2, t2), (3, t3), (4, t4), (7, t7), (8, t8), (9, t9), (10, t10)]⟩ =
  binE none false false .add t10 (V (.int .i64 1)) fun t42 =>
  backE n0 H [(2, t2), (3, t3), (4, t4), (7, t7), (8, t8), (9, t9), (10, t42)] kc := by
  refine (joinW_eq Tryd.prog GG (plenumlaw29_SlotAgree_env m) m ⟨152, []⟩ (cdR (cdR (cdL (cdL (cdR (cdL (cdR (cdR (cdR (cdR (cdR plenumlaw29_SlotAgree_c))))))))))) plenumlaw29_SlotAgree_h.r.r.r.r.r.l.r.c.c.r.r ⟨H, [(2, t2), (3, t3), (4, t4), (7, t7), (8, t8), (9, t9), (10, t10)]⟩ (backW n0 [2, 3, 4, 7, 8, 9, 10] [2, 3, 4, 7, 8, 9] kc kx)).trans ?_
  kernel_rfl
theorem plenumlaw29_SlotAgree_r6_eq (m : Nat) (n0 : Nat) (kc : ASt → RO) (kx : KO (AV × List AObj)) (H : List AObj) (t2 t3 t4 t7 t8 t9 t10 t11 t13 : AV) : plenumlaw29_SlotAgree_r6 m n0 kc kx ⟨H, [(2, t2), (3, t3), (4, t4), (7, t7), (8, t8), (9, t9), (10, t10), (11, t11), (13, t13)]⟩ =
  fieldE (some (5, 1)) t3 fun t83 =>
  loadE 1 H t83 fun t84 =>
  tellE (plenumlaw29_votesOf m (ro H t84) (ro H t10)) [(ro H t84), (ro H t10)] fun t86 =>
  extE t86 0 fun t87 =>
  extE t86 1 fun t88 =>
  storeE 5 H t11 t87 fun H2 =>
  fieldE (some (5, 1)) t4 fun t90 =>
  loadE 1 H2 t90 fun t91 =>
  tellE (plenumlaw29_votesOf m (ro H2 t91) (ro H2 t10)) [(ro H2 t91), (ro H2 t10)] fun t93 =>
  extE t93 0 fun t94 =>
  extE t93 1 fun t95 =>
  storeE 5 H2 t13 t94 fun H3 =>
  condE t88 (
   condE t95 (
   loadE 5 H3 t11 fun t101 =>
   loadE 5 H3 t13 fun t102 =>
   binE (some [.i .i64, .i .i64, .i .i64]) false false .neq t101 t102 fun t103 =>
   condE t103 (
   fieldE (some (1, 1)) t11 fun t106 =>
   loadE 1 H3 t106 fun t107 =>
   fieldE (some (1, 1)) t3 fun t108 =>
   loadE 1 H3 t108 fun t109 =>
   binE none false false .eql t107 t109 fun t110 =>
   condE t110 (
   fieldE (some (1, 1)) t13 fun t113 =>
   loadE 1 H3 t113 fun t114 =>
   fieldE (some (1, 1)) t3 fun t115 =>
   loadE 1 H3 t115 fun t116 =>
   binE none false false .eql t114 t116 fun t117 =>
   plenumlaw29_SlotAgree_r9 m n0 kc kx ⟨H3, [(2, t2), (3, t3), (4, t4), (7, t7), (8, t8), (9, t9), (10, t10), (118, t117)]⟩) (
   plenumlaw29_SlotAgree_r9 m n0 kc kx ⟨H3, [(2, t2), (3, t3), (4, t4), (7, t7), (8, t8), (9, t9), (10, t10), (118, (V (.bool false)))]⟩)) (
   plenumlaw29_SlotAgree_r9 m n0 kc kx ⟨H3, [(2, t2), (3, t3), (4, t4), (7, t7), (8, t8), (9, t9), (10, t10), (118, (V (.bool false)))]⟩)) (
   plenumlaw29_SlotAgree_r9 m n0 kc kx ⟨H3, [(2, t2), (3, t3), (4, t4), (7, t7), (8, t8), (9, t9), (10, t10), (118, (V (.bool false)))]⟩)) (
   plenumlaw29_SlotAgree_r9 m n0 kc kx ⟨H3, [(2, t2), (3, t3), (4, t4), (7, t7), (8, t8), (9, t9), (10, t10), (118, (V (.bool false)))]⟩) := by
  refine (joinW_eq Tryd.prog GG (plenumlaw29_SlotAgree_env m) m ⟨152, []⟩ (cdR (cdR (cdR (cdL (cdL (cdR (cdL (cdL (cdR (cdL (cdR (cdR (cdR (cdR (cdR plenumlaw29_SlotAgree_c))))))))))))))) plenumlaw29_SlotAgree_h.r.r.r.r.r.l.r.c.c.r.l.c.r.r.r ⟨H, [(2, t2), (3, t3), (4, t4), (7, t7), (8, t8), (9, t9), (10, t10), (11, t11), (13, t13)]⟩ (blockX 1 (seqX (fun s => plenumlaw29_SlotAgree_r10 m n0 kc kx ⟨s.H, [(2, gt s.T 2), (3, gt s.T 3), (4, gt s.T 4), (7, gt s.T 7), (8, gt s.T 8), (9, gt s.T 9), (10, gt s.T 10)]⟩) (backW n0 [2, 3, 4, 7, 8, 9, 10] [2, 3, 4, 7, 8, 9] kc kx)))).trans ?_
  kernel_rfl
theorem plenumlaw29_SlotAgree_r5_eq (m : Nat) (H : List AObj) (t2 t3 t4 t7 t9 t133 : AV) : plenumlaw29_SlotAgree_r5 m ⟨H, [(2, t2), (3, t3), (4, t4), (7, t7), (9, t9), (133, t133)]⟩ =
  condE t133 (
   tellK H (ro H (V (.bool false)))) (
   plenumlaw29_SlotAgree_r8 m ⟨H, [(2, t2), (3, t3), (4, t4), (7, t7), (9, t9)]⟩) := by
  refine (joinW_eq Tryd.prog GG (plenumlaw29_SlotAgree_env m) m ⟨152, []⟩ (cdR (cdL (cdR (cdR (cdR (cdR (cdR (cdR plenumlaw29_SlotAgree_c)))))))) plenumlaw29_SlotAgree_h.r.r.r.r.r.r.l.r ⟨H, [(2, t2), (3, t3), (4, t4), (7, t7), (9, t9), (133, t133)]⟩ (seqX (fun s => plenumlaw29_SlotAgree_r8 m ⟨s.H, [(2, gt s.T 2), (3, gt s.T 3), (4, gt s.T 4), (7, gt s.T 7), (9, gt s.T 9)]⟩) (plenumlaw29_SlotAgree_fin))).trans ?_
  kernel_rfl
theorem plenumlaw29_SlotAgree_r4_eq (m : Nat) (n0 : Nat) (kc : ASt → RO) (kx : KO (AV × List AObj)) (H : List AObj) (t2 t3 t4 t7 t8 t9 t10 t11 t13 t79 : AV) : plenumlaw29_SlotAgree_r4 m n0 kc kx ⟨H, [(2, t2), (3, t3), (4, t4), (7, t7), (8, t8), (9, t9), (10, t10), (11, t11), (13, t13), (79, t79)]⟩ =
  condE t79 (
   binE none false false .add t8 (V (.int .i64 1)) fun t81 =>
   plenumlaw29_SlotAgree_r6 m n0 kc kx ⟨H, [(2, t2), (3, t3), (4, t4), (7, t7), (8, t81), (9, t9), (10, t10), (11, t11), (13, t13)]⟩) (
   plenumlaw29_SlotAgree_r6 m n0 kc kx ⟨H, [(2, t2), (3, t3), (4, t4), (7, t7), (8, t8), (9, t9), (10, t10), (11, t11), (13, t13)]⟩) := by
  refine (joinW_eq Tryd.prog GG (plenumlaw29_SlotAgree_env m) m ⟨152, []⟩ (cdR (cdL (cdR (cdR (cdL (cdL (cdR (cdL (cdL (cdR (cdL (cdR (cdR (cdR (cdR (cdR plenumlaw29_SlotAgree_c)))))))))))))))) plenumlaw29_SlotAgree_h.r.r.r.r.r.l.r.c.c.r.l.c.r.r.l.r ⟨H, [(2, t2), (3, t3), (4, t4), (7, t7), (8, t8), (9, t9), (10, t10), (11, t11), (13, t13), (79, t79)]⟩ (seqX (fun s => plenumlaw29_SlotAgree_r6 m n0 kc kx ⟨s.H, [(2, gt s.T 2), (3, gt s.T 3), (4, gt s.T 4), (7, gt s.T 7), (8, gt s.T 8), (9, gt s.T 9), (10, gt s.T 10), (11, gt s.T 11), (13, gt s.T 13)]⟩) (blockX 1 (seqX (fun s => plenumlaw29_SlotAgree_r7 m n0 kc kx ⟨s.H, [(2, gt s.T 2), (3, gt s.T 3), (4, gt s.T 4), (7, gt s.T 7), (8, gt s.T 8), (9, gt s.T 9), (10, gt s.T 10)]⟩) (backW n0 [2, 3, 4, 7, 8, 9, 10] [2, 3, 4, 7, 8, 9] kc kx))))).trans ?_
  kernel_rfl
theorem plenumlaw29_SlotAgree_r3_eq (m : Nat) (H : List AObj) (t2 t3 t4 t7 t8 t9 : AV) : plenumlaw29_SlotAgree_r3 m ⟨H, [(2, t2), (3, t3), (4, t4), (7, t7), (8, t8), (9, t9)]⟩ =
  loadE 8 H t3 fun t121 =>
  tellE (slot_Prepared m (ro H t121) (ro H t2)) [(ro H t121), (ro H t2)] fun t123 =>
  condE t123 (
   loadE 8 H t4 fun t125 =>
   tellE (slot_Prepared m (ro H t125) (ro H t2)) [(ro H t125), (ro H t2)] fun t127 =>
   condE t127 (
   binE none false false .lss t8 t7 fun t132 =>
   plenumlaw29_SlotAgree_r5 m ⟨H, [(2, t2), (3, t3), (4, t4), (7, t7), (9, t9), (133, t132)]⟩) (
   plenumlaw29_SlotAgree_r5 m ⟨H, [(2, t2), (3, t3), (4, t4), (7, t7), (9, t9), (133, (V (.bool false)))]⟩)) (
   plenumlaw29_SlotAgree_r5 m ⟨H, [(2, t2), (3, t3), (4, t4), (7, t7), (9, t9), (133, (V (.bool false)))]⟩) := by
  refine (joinW_eq Tryd.prog GG (plenumlaw29_SlotAgree_env m) m ⟨152, []⟩ (cdR (cdR (cdR (cdR (cdR (cdR plenumlaw29_SlotAgree_c)))))) plenumlaw29_SlotAgree_h.r.r.r.r.r.r ⟨H, [(2, t2), (3, t3), (4, t4), (7, t7), (8, t8), (9, t9)]⟩ (plenumlaw29_SlotAgree_fin)).trans ?_
  kernel_rfl
theorem plenumlaw29_SlotAgree_b1_eq (m : Nat) (H : List AObj) (t2 t3 t4 t7 t8 t9 t10 : AV) (kc : ASt → RO) (kx : KO (AV × List AObj)) : plenumlaw29_SlotAgree_b1 m ⟨H, [(2, t2), (3, t3), (4, t4), (7, t7), (8, t8), (9, t9), (10, t10)]⟩ kc kx =
  binE none false false .lss t10 t2 fun t40 =>
  condE t40 (
   fieldE (some (4, 1)) t3 fun t44 =>
   loadE 1 H t44 fun t45 =>
   tellE (plenumlaw29_votesOf m (ro H t45) (ro H t10)) [(ro H t45), (ro H t10)] fun t47 =>
   extE t47 0 fun t48 =>
   extE t47 1 fun t49 =>
   allocE (some zc_api_Vote) ty_api_Vote H fun t11 H2 =>
   storeE 5 H2 t11 t48 fun H3 =>
   fieldE (some (4, 1)) t4 fun t51 =>
   loadE 1 H3 t51 fun t52 =>
   tellE (plenumlaw29_votesOf m (ro H3 t52) (ro H3 t10)) [(ro H3 t52), (ro H3 t10)] fun t54 =>
   extE t54 0 fun t55 =>
   extE t54 1 fun t56 =>
   allocE (some zc_api_Vote) ty_api_Vote H3 fun t13 H4 =>
   storeE 5 H4 t13 t55 fun H5 =>
   condE t49 (
    condE t56 (
    loadE 5 H5 t11 fun t62 =>
    loadE 5 H5 t13 fun t63 =>
    binE (some [.i .i64, .i .i64, .i .i64]) false false .neq t62 t63 fun t64 =>
    condE t64 (
    fieldE (some (1, 1)) t11 fun t67 =>
    loadE 1 H5 t67 fun t68 =>
    fieldE (some (1, 1)) t3 fun t69 =>
    loadE 1 H5 t69 fun t70 =>
    binE none false false .eql t68 t70 fun t71 =>
    condE t71 (
    fieldE (some (1, 1)) t13 fun t74 =>
    loadE 1 H5 t74 fun t75 =>
    fieldE (some (1, 1)) t3 fun t76 =>
    loadE 1 H5 t76 fun t77 =>
    binE none false false .eql t75 t77 fun t78 =>
    plenumlaw29_SlotAgree_r4 m H.length kc kx ⟨H5, [(2, t2), (3, t3), (4, t4), (7, t7), (8, t8), (9, t9), (10, t10), (11, t11), (13, t13), (79, t78)]⟩) (
    plenumlaw29_SlotAgree_r4 m H.length kc kx ⟨H5, [(2, t2), (3, t3), (4, t4), (7, t7), (8, t8), (9, t9), (10, t10), (11, t11), (13, t13), (79, (V (.bool false)))]⟩)) (
    plenumlaw29_SlotAgree_r4 m H.length kc kx ⟨H5, [(2, t2), (3, t3), (4, t4), (7, t7), (8, t8), (9, t9), (10, t10), (11, t11), (13, t13), (79, (V (.bool false)))]⟩)) (
    plenumlaw29_SlotAgree_r4 m H.length kc kx ⟨H5, [(2, t2), (3, t3), (4, t4), (7, t7), (8, t8), (9, t9), (10, t10), (11, t11), (13, t13), (79, (V (.bool false)))]⟩)) (
    plenumlaw29_SlotAgree_r4 m H.length kc kx ⟨H5, [(2, t2), (3, t3), (4, t4), (7, t7), (8, t8), (9, t9), (10, t10), (11, t11), (13, t13), (79, (V (.bool false)))]⟩)) (
   kx (.exit 0) ⟨H, [(2, t2), (3, t3), (4, t4), (7, t7), (8, t8), (9, t9)]⟩) := by
  refine (bodyW_eq Tryd.prog GG (plenumlaw29_SlotAgree_env m) m ⟨152, []⟩ (cdL (cdL (cdR (cdL (cdR (cdR (cdR (cdR (cdR plenumlaw29_SlotAgree_c))))))))) plenumlaw29_SlotAgree_h.r.r.r.r.r.l.r.c.c [2, 3, 4, 7, 8, 9, 10] [2, 3, 4, 7, 8, 9] ⟨H, [(2, t2), (3, t3), (4, t4), (7, t7), (8, t8), (9, t9), (10, t10)]⟩ kc kx).trans ?_
  kernel_rfl
theorem plenumlaw29_SlotAgree_r2_eq (m : Nat) (H : List AObj) (t2 t3 t4 t7 : AV) : plenumlaw29_SlotAgree_r2 m ⟨H, [(2, t2), (3, t3), (4, t4), (7, t7)]⟩ =
  iterC m (plenumlaw29_SlotAgree_b1 m) ⟨H, [(2, t2), (3, t3), (4, t4), (7, t7), (8, (V (.int .i64 0))), (9, (V (.int .i64 0))), (10, (V (.int .i64 0)))]⟩ (blockX 0 (seqX (fun s => plenumlaw29_SlotAgree_r3 m ⟨s.H, [(2, gt s.T 2), (3, gt s.T 3), (4, gt s.T 4), (7, gt s.T 7), (8, gt s.T 8), (9, gt s.T 9)]⟩) (plenumlaw29_SlotAgree_fin))) := by
  refine (joinW_eq Tryd.prog GG (plenumlaw29_SlotAgree_env m) m ⟨152, []⟩ (cdR (cdR (cdR (cdR plenumlaw29_SlotAgree_c)))) plenumlaw29_SlotAgree_h.r.r.r.r ⟨H, [(2, t2), (3, t3), (4, t4), (7, t7)]⟩ (plenumlaw29_SlotAgree_fin)).trans ?_
  kernel_rfl
theorem plenumlaw29_SlotAgree_r1_eq (m : Nat) (H : List AObj) (t2 t3 t4 t7 t36 : AV) : plenumlaw29_SlotAgree_r1 m ⟨H, [(2, t2), (3, t3), (4, t4), (7, t7), (36, t36)]⟩ =
  condE t36 (
   tellE (plenumlaw29_awake m) [] fun t37 =>
   tellK H (ro H t37)) (
   plenumlaw29_SlotAgree_r2 m ⟨H, [(2, t2), (3, t3), (4, t4), (7, t7)]⟩) := by
  refine (joinW_eq Tryd.prog GG (plenumlaw29_SlotAgree_env m) m ⟨152, []⟩ (cdR (cdL (cdR (cdR (cdR plenumlaw29_SlotAgree_c))))) plenumlaw29_SlotAgree_h.r.r.r.l.r ⟨H, [(2, t2), (3, t3), (4, t4), (7, t7), (36, t36)]⟩ (seqX (fun s => plenumlaw29_SlotAgree_r2 m ⟨s.H, [(2, gt s.T 2), (3, gt s.T 3), (4, gt s.T 4), (7, gt s.T 7)]⟩) (plenumlaw29_SlotAgree_fin))).trans ?_
  kernel_rfl
theorem plenumlaw29_SlotAgree_eq (m : Nat) (t0 t1 t2 : AV) : plenumlaw29_SlotAgree m t0 t1 t2 =
  boxE ty_api_Slot [] t0 fun t3 H1 =>
  boxE ty_api_Slot H1 t1 fun t4 H2 =>
  loadE 8 H2 t3 fun t15 =>
  tellE (plenumlaw29_Few m (ro H2 t15)) [(ro H2 t15)] fun t16 =>
  loadE 8 H2 t4 fun t17 =>
  tellE (plenumlaw29_Few m (ro H2 t17)) [(ro H2 t17)] fun t18 =>
  storeE 8 H2 t3 t16 fun H3 =>
  storeE 8 H3 t4 t18 fun H4 =>
  tellE (plenumref05_Faults m (ro H4 t2)) [(ro H4 t2)] fun t20 =>
  binE none false false .eql t20 (V (.int .i64 0)) fun t22 =>
  condE t22 (
   plenumlaw29_SlotAgree_r1 m ⟨H4, [(2, t2), (3, t3), (4, t4), (7, t20), (36, (V (.bool true)))]⟩) (
   fieldE (some (1, 1)) t3 fun t24 =>
   loadE 1 H4 t24 fun t25 =>
   fieldE (some (1, 1)) t4 fun t26 =>
   loadE 1 H4 t26 fun t27 =>
   binE none false false .neq t25 t27 fun t28 =>
   condE t28 (
   plenumlaw29_SlotAgree_r1 m ⟨H4, [(2, t2), (3, t3), (4, t4), (7, t20), (36, (V (.bool true)))]⟩) (
   fieldE (some (2, 1)) t3 fun t31 =>
   loadE 1 H4 t31 fun t32 =>
   fieldE (some (2, 1)) t4 fun t33 =>
   loadE 1 H4 t33 fun t34 =>
   binE none false false .eql t32 t34 fun t35 =>
   plenumlaw29_SlotAgree_r1 m ⟨H4, [(2, t2), (3, t3), (4, t4), (7, t20), (36, t35)]⟩)) := by
  refine (tellX Tryd.prog GG (plenumlaw29_SlotAgree_env m) m ⟨152, []⟩ plenumlaw29_SlotAgree_c plenumlaw29_SlotAgree_h ⟨[], argsT 0 [t0, t1, t2]⟩ [.tmp 6]).trans ?_
  kernel_rfl
noncomputable def plenumlaw29_SlotAgree_t (m : Nat) : List AV → RO | [t0, t1, t2] => plenumlaw29_SlotAgree m t0 t1 t2 | _ => none
theorem plenumlaw29_SlotAgree_ok (m : Nat) : ∀ args X H', plenumlaw29_SlotAgree_t m args = some (X, H') → ACp Tryd.prog GG 5 args X := by
  intro args X H' h
  unfold plenumlaw29_SlotAgree_t at h
  split at h
  · exact tell_okK MIX (by
    intro f e h
    simp only [plenumlaw29_SlotAgree_env, Prod.mk.injEq, List.mem_cons, List.not_mem_nil, or_false] at h
    rcases h with ⟨rfl, rfl⟩ | ⟨rfl, rfl⟩ | ⟨rfl, rfl⟩ | ⟨rfl, rfl⟩ | ⟨rfl, rfl⟩ | ⟨rfl, rfl⟩
    · exact plenumlaw29_Few_ok m
    · exact plenumref05_Faults_ok m
    · exact plenumlaw29_awake_ok m
    · exact plenumlaw29_votesOf_ok m
    · exact slot_Prepared_ok m
    · exact slot_Committed_ok m) (f := 5) (c := plenumlaw29_SlotAgree_c) Tryd.func5 rfl (by kernel_rfl) _ rfl Tryd.ntmps5 (Nat.le_of_ble_eq_true rfl) plenumlaw29_SlotAgree_h h
  · cases h
end Go.Proofs.YtaaafkoeddgaaaaDoor

namespace Go.Proofs.YtaaafkoeddgaaaaDoor
open Go.RowKit
set_option linter.unusedVariables false
set_option linter.unusedSimpArgs false
set_option maxRecDepth 20000
attribute [local go_sem] Nat.zero_add Nat.add_zero Nat.mul_one Int.toNat_natCast Int.natCast_zero Int.cast_ofNat_Int or_false false_or or_true true_or Nat.sub_zero Int.natCast_nonneg Int.toNat_zero Bool.true_and Bool.and_true Bool.false_and Bool.and_false Bool.true_or Bool.or_true Bool.false_or Bool.or_false Bool.not_true Bool.not_false Bool.not_not true_and and_true false_and and_false not_true_eq_false not_false_eq_true eq_self decide_true decide_false ne_eq implies_true forall_const true_implies false_implies Bool.true_eq_false Bool.false_eq_true List.map_cons List.map_nil List.all_cons List.all_nil List.length_cons List.length_nil List.length_map List.length_append List.nil_append List.cons_append List.set_cons_zero List.set_cons_succ List.set_nil List.drop_zero List.drop_succ_cons List.drop_nil List.take_zero List.take_succ_cons List.take_nil Option.map_some Option.map_none Option.isSome_some List.all_append List.all_map Function.comp_def decide_eq_true_eq Bool.and_eq_true beq_self_eq_true or_self and_self ite_true ite_false Nat.le_refl Bool.not_eq_true decide_not Bool.not_eq_true' decide_eq_false_iff_not Bool.not_eq_false Bool.or_eq_true if_true if_false ite_self vE_it vc_len vc_sure vc_ltA vc_lt1 vc_all1 vc_ro vc_take vc_sl vc_set vc_fr vc_vw vc_tm zcV_eq sc_len sc_sure sc_ltA sc_lt1 sc_all1 sc_ro sc_take sc_set sc_has sc_vw sc_tm sc_body sc_p sc_c zs_len zs_sure zs_ltA zs_ro zs_set zs_set2 zs_set3 zs_take zs_b vs_ltA vs_len3 natInt u_nthM all_tt
theorem vo_b {R : Type} {K1 : AV → Option R} {a t : Int} : buildE (some pl_api_Vote) (some (vC Vo.zero)) [(0, nA a), (2, nA t)] K1 = K1 (.agg (vC ⟨a, 0, t⟩)) := _root_.id rfl
theorem st_eq {R : Type} {K1 : AV → Option R} {isB sl : Bool} {a b c d e a' b' c' d' e' : Int} : binE (some [.i .i64, .i .i64, .i .i64, .i .i64, .i .i64]) isB sl .eql (.agg [nA a, nA b, nA c, nA d, nA e]) (.agg [nA a', nA b', nA c', nA d', nA e']) K1 = K1 (bA (decide (a = a') && (decide (b = b') && (decide (c = c') && (decide (d = d') && (decide (e = e') && true)))))) := _root_.id rfl
theorem st_b {R : Type} {K1 : AV → Option R} {a b d e : Int} : buildE (some pl_api_Stmt) (some zc_api_Stmt) [(0, nA a), (1, nA b), (3, nA d), (4, nA e)] K1 = K1 (.agg [nA a, nA b, nA 0, nA d, nA e]) := _root_.id rfl
def sY (l : List Vo) : So := { sX with c := l }
theorem zs_ok {m : Nat} (hm : 1000 < m) : SZ.Ok m := by
  unfold SZ So.Ok
  simp only [List.length_nil]
  omega
theorem sY_ok {m : Nat} {l : List Vo} (hm : 1000 < m) (h : l.length ≤ 3) : (sY l).Ok m := by
  unfold sY sX So.Ok
  simp only [List.length_cons, List.length_nil]
  omega
theorem awake29_s (m : Nat) (hm : 1000 < m) : plenumlaw29_awake m = some (bA true, []) := by
  have a1 := propose_s m SZ 0 7 [98] (zs_ok hm)
  have e1 : propF SZ 0 7 [98] = (⟨true, 0, 7, [98], [], []⟩, 0) := by decide +kernel
  rw [e1] at a1
  have a2 := prep_s m ⟨true, 0, 7, [98], [], []⟩ ⟨1, 0, 7⟩ (by unfold So.Ok; simp only [List.length_nil, List.length_cons]; omega)
  have e2 : prepF ⟨true, 0, 7, [98], [], []⟩ ⟨1, 0, 7⟩ = (⟨true, 0, 7, [98], [⟨1, 0, 7⟩], []⟩, 0) := by decide +kernel
  rw [e2] at a2
  have a3 := prep_s m ⟨true, 0, 7, [98], [⟨1, 0, 7⟩], []⟩ ⟨2, 0, 7⟩ (by unfold So.Ok; simp only [List.length_nil, List.length_cons]; omega)
  have e3 : prepF ⟨true, 0, 7, [98], [⟨1, 0, 7⟩], []⟩ ⟨2, 0, 7⟩ = (sX, 0) := by decide +kernel
  rw [e3] at a3
  have a4 := prep_s m sX ⟨1, 0, 8⟩ (sX_ok hm)
  have e4 : prepF sX ⟨1, 0, 8⟩ = (SZ, 23) := by decide +kernel
  rw [e4] at a4
  have a5 := voices_s m hm
  have a6 := prepared_s m sX 4 (sX_ok hm)
  have e6 : prepB sX 4 = true := by decide +kernel
  rw [e6] at a6
  have a7 := committed_s m sX 4 (sX_ok hm)
  have e7 : commB sX 4 = false := by decide +kernel
  rw [e7] at a7
  have a8 := comm_s m sX ⟨0, 0, 7⟩ (sX_ok hm)
  have e8 : commF sX ⟨0, 0, 7⟩ = (sY [⟨0, 0, 7⟩], 0) := by decide +kernel
  rw [e8] at a8
  have a9 := comm_s m (sY [⟨0, 0, 7⟩]) ⟨1, 0, 7⟩ (sY_ok hm (by decide))
  have e9 : commF (sY [⟨0, 0, 7⟩]) ⟨1, 0, 7⟩ = (sY [⟨0, 0, 7⟩, ⟨1, 0, 7⟩], 0) := by decide +kernel
  rw [e9] at a9
  have b1 := comm_s m (sY [⟨0, 0, 7⟩, ⟨1, 0, 7⟩]) ⟨2, 0, 7⟩ (sY_ok hm (by decide))
  have e10 : commF (sY [⟨0, 0, 7⟩, ⟨1, 0, 7⟩]) ⟨2, 0, 7⟩ = (sY [⟨0, 0, 7⟩, ⟨1, 0, 7⟩, ⟨2, 0, 7⟩], 0) := by decide +kernel
  rw [e10] at b1
  have b2 := committed_s m (sY [⟨0, 0, 7⟩, ⟨1, 0, 7⟩, ⟨2, 0, 7⟩]) 4 (sY_ok hm (by decide))
  have e11 : commB (sY [⟨0, 0, 7⟩, ⟨1, 0, 7⟩, ⟨2, 0, 7⟩]) 4 = true := by decide +kernel
  rw [e11] at b2
  clear e1 e2 e3 e4 e6 e7 e8 e9 e10 e11
  simp only [SE_it, vE_it] at a1 a2 a3 a4 a5 a6 a7 a8 a9 b1 b2
  have a1 : slot_Propose m (.agg (SC SZ)) (V (.int .i64 0)) (V (.int .i64 7)) (V (.string ⟨#[98]⟩)) = _ := a1
  rw [plenumlaw29_awake_eq]
  obtain ⟨m, rfl⟩ : ∃ k, m = k + 1 + 1 + 1 + 1 := ⟨m - 4, by omega⟩
  simp (config := {maxSteps := 4000000, implicitDefEqProofs := false}) (disch := omega) only [go_sem, ↓reduceIte, Nat.reduceAdd, Nat.reduceSub, Nat.reduceMul, Nat.reduceLeDiff, Nat.reduceLT, Int.reduceEq, Int.reduceNe, Int.reduceLT, Int.reduceLE, Int.reduceAdd, Int.reduceSub, Int.reduceMul, Int.reduceNeg, Int.reduceToNat, reduceCtorEq, Nat.reduceEqDiff, Nat.reduceBEq, Nat.reduceGT, vo_b, st_b, st_eq, stA, a1, a2, a3, a4, a5, a6, a7, a8, a9, b1, b2, iterC, plenumlaw29_awake_b1_eq, plenumlaw29_awake_r1_eq, w_i64]
theorem r1_r4 {o o' o2 o3 : AObj} {H : List AObj} {e : TypeId} {z m : Nat} {c : List AV} : ro1 (o :: o' :: o2 :: o3 :: ⟨2, e, z, c⟩ :: H) (OW 4 m) = if m = c.length then SL c else OW 4 m := by simp [ro1]
theorem u_bs0 {R : Type} {K1 : AV → Option R} {e : TypeId} {z : Nat} : buildSE (some (e, z)) 0 [] K1 = K1 ZV := by
  simp [buildSE, allCE, bsV, List.range, List.range.loop, whenE]
theorem sc_setp {s : So} {x : AV} : setCells (SC s) 4 [x] = [bA s.has, nA s.vw, nA s.tm, sA s.body, x, SL (s.c.map vE)] := _root_.id rfl
theorem sc_setq {s : So} {x : AV} : (SC s).set 4 x = [bA s.has, nA s.vw, nA s.tm, sA s.body, x, SL (s.c.map vE)] := _root_.id rfl
theorem sc_lit {s : So} : (.agg [bA s.has, nA s.vw, nA s.tm, sA s.body, SL (s.p.map vE), SL (s.c.map vE)] : AV) = .agg (SC s) := _root_.id rfl
theorem prepF_ok {m : Nat} {s : So} {x : Vo} (hm : 1000 < m) (hp : s.p.length ≤ 66) (hc : s.c.length ≤ 66) (hb : s.body.length ≤ 65540) : (prepF s x).1.Ok m := by
  unfold prepF
  have hl : (layF s.p x).1.length ≤ 67 := by
    unfold layF
    split
    · split
      · split
        · rw [List.length_set]; omega
        · simp
      · rw [List.length_append, List.length_cons, List.length_take, List.length_drop]; omega
    · rw [List.length_append, List.length_cons, List.length_take, List.length_drop]; omega
  split
  · split
    · unfold So.Ok; dsimp only; omega
    · exact zs_ok hm
  · exact zs_ok hm
theorem commF_ok {m : Nat} {s : So} {x : Vo} (hm : 1000 < m) (hp : s.p.length ≤ 66) (hc : s.c.length ≤ 66) (hb : s.body.length ≤ 65540) : (commF s x).1.Ok m := by
  unfold commF
  have hl : (layF s.c x).1.length ≤ 67 := by
    unfold layF
    split
    · split
      · split
        · rw [List.length_set]; omega
        · simp
      · rw [List.length_append, List.length_cons, List.length_take, List.length_drop]; omega
    · rw [List.length_append, List.length_cons, List.length_take, List.length_drop]; omega
  split
  · split
    · unfold So.Ok; dsimp only; omega
    · exact zs_ok hm
  · exact zs_ok hm
theorem propF_ok {m : Nat} {s : So} {v t : Int} {b : List UInt8} (hm : 1000 < m) (hp : s.p.length ≤ 66) (hc : s.c.length ≤ 66) (hb : b.length ≤ 65540) : (propF s v t b).1.Ok m := by
  unfold propF
  split
  · split
    · exact zs_ok hm
    · unfold So.Ok; dsimp only; omega
  · exact zs_ok hm
set_option maxHeartbeats 2000000 in
theorem does_s (m : Nat) (s : So) (x : Vo) (b : List UInt8) (hm : 1000 < m) (hsb : s.body.length ≤ 9223372036854775807) (hsp : s.p.length ≤ 9223372036854775807) (hsc : s.c.length ≤ 9223372036854775807) (hb : b.length ≤ 9223372036854775807) : plenumlaw29_SlotDoes m (SE s) (vE x) (sA b) = some (bA true, []) := by
  have hF := few_s m s hsb hsp hsc
  have hT := text_s m b hb
  have hok := few_ok (m := m) s hm
  have hp : (fewS s).p.length ≤ 66 := by unfold fewS; simp only [List.length_take]; omega
  have hc : (fewS s).c.length ≤ 66 := by unfold fewS; simp only [List.length_take]; omega
  have hbo : (fewS s).body.length ≤ 65540 := by unfold fewS; simp only [List.length_take]; omega
  have hb2 : (b.take 65540).length ≤ 65540 := by rw [List.length_take]; omega
  generalize fewS s = f at *
  generalize b.take 65540 = y at *
  have a1 := propose_s m f x.vw x.tm y hok
  have a2 := prep_s m f x hok
  have a3 := comm_s m f x hok
  have b1 := rpropose_s m f x.vw x.tm y hok
  have b2 := rprep_s m f x hok
  have b3 := rcomm_s m f x hok
  have s1 := same_s m (propF f x.vw x.tm y).1 (propF f x.vw x.tm y).1 (propF_ok hm hp hc hb2)
  have s2 := same_s m (prepF f x).1 (prepF f x).1 (prepF_ok hm hp hc hbo)
  have s3 := same_s m (commF f x).1 (commF f x).1 (commF_ok hm hp hc hbo)
  have s4 := same_s m f f hok
  have c1 := may_s m f hok
  have c2 := rmay_s m f hok
  have aw := awake29_s m hm
  rw [decide_eq_true rfl] at s1 s2 s3 s4
  generalize propF f x.vw x.tm y = P1 at *
  generalize prepF f x = P2 at *
  generalize commF f x = P3 at *
  generalize mayB f = mb at *
  obtain ⟨Q1, e1⟩ := P1
  obtain ⟨Q2, e2⟩ := P2
  obtain ⟨Q3, e3⟩ := P3
  dsimp only at *
  rw [plenumlaw29_SlotDoes_eq]
  simp only [SE_it, vE_it] at *
  have hpl : f.p.length ≤ 34359738368 := by omega
  have hcl : f.c.length ≤ 34359738368 := by omega
  simp (config := {maxSteps := 4000000, implicitDefEqProofs := false}) (disch := omega) only [go_sem, ↓reduceIte, Nat.reduceAdd, Nat.reduceSub, Nat.reduceMul, Nat.reduceLeDiff, Nat.reduceLT, Int.reduceEq, Int.reduceNe, Int.reduceLT, Int.reduceLE, Int.reduceAdd, Int.reduceSub, Int.reduceMul, Int.reduceNeg, Int.reduceToNat, reduceCtorEq, Nat.reduceEqDiff, Nat.reduceBEq, Nat.reduceGT, hF, hT, a1, a2, a3, b1, b2, b3, s1, s2, s3, s4, c1, c2, aw, u_bs0, sc_setp, sc_setq, sc_lit, r1_r4, hpl, hcl, plenumlaw29_SlotDoes_r2_eq, plenumlaw29_SlotDoes_r1_eq]
end Go.Proofs.YtaaafkoeddgaaaaDoor

namespace Go.Proofs.YtaaafkoeddgaaaaDoor
open Go.RowKit
set_option linter.unusedVariables false
set_option linter.unusedSimpArgs false
set_option maxRecDepth 100000
theorem mk_lone {t : TypeId} {d : AV} (h : aggT Tryd.prog t = false) : mkA Tryd.prog t [d] = d := by
  unfold mkA
  rw [if_neg (by rw [h]; decide)]
  rfl
theorem mk_many {t : TypeId} {ds : List AV} (h : aggT Tryd.prog t = true) : mkA Tryd.prog t ds = .agg ds := by
  unfold mkA
  rw [if_pos h]
theorem arg_int {W : World} {v : Value} (h : Arg Tryd.prog W 3 v) : ∃ i : Int, (-9223372036854775808 ≤ i ∧ i < 9223372036854775808) ∧ rep (SW W) [] (nA i) v := by
  obtain ⟨n, ds, h1, h2⟩ := h
  obtain ⟨t, rfl, ht⟩ := ofT_i64 Tryd.underlying3 h1
  rw [mk_lone (by kernel_rfl)] at h2
  exact ⟨t, ht, h2⟩
theorem arg_str {W : World} {v : Value} (h : Arg Tryd.prog W 9 v) : ∃ s : List UInt8, s.length ≤ maxLen ∧ rep (SW W) [] (sA s) v := by
  obtain ⟨n, ds, h1, h2⟩ := h
  obtain ⟨t, rfl, ht⟩ := ofT_str Tryd.underlying9 h1
  rw [mk_lone (by kernel_rfl)] at h2
  exact ⟨t, ht, h2⟩
theorem reps2 {S : SS} {d0 d1 : AV} {v0 v1 : Value} (h0 : rep S [] d0 v0) (h1 : rep S [] d1 v1) : ∀ (j : Nat) (d : AV) (v : Value), [d0, d1][j]? = some d → [v0, v1][j]? = some v → rep S [] d v := by
  intro j d v hd hv
  match j with
  | 0 => simp at hd hv; subst hd hv; exact h0
  | 1 => simp at hd hv; subst hd hv; exact h1
  | j + 2 => simp at hd
theorem reps3 {S : SS} {d0 d1 d2 : AV} {v0 v1 v2 : Value} (h0 : rep S [] d0 v0) (h1 : rep S [] d1 v1) (h2 : rep S [] d2 v2) : ∀ (j : Nat) (d : AV) (v : Value), [d0, d1, d2][j]? = some d → [v0, v1, v2][j]? = some v → rep S [] d v := by
  intro j d v hd hv
  match j with
  | 0 => simp at hd hv; subst hd hv; exact h0
  | 1 => simp at hd hv; subst hd hv; exact h1
  | 2 => simp at hd hv; subst hd hv; exact h2
  | j + 3 => simp at hd
def Vo.In (x : Vo) : Prop := (-9223372036854775808 ≤ x.fr ∧ x.fr < 9223372036854775808) ∧ (-9223372036854775808 ≤ x.vw ∧ x.vw < 9223372036854775808)
theorem ofT_vote {n : Nat} {ds : List AV} (h : ofT Tryd.prog n 26 ds) : ∃ x : Vo, ds = vC x ∧ x.In := by
  obtain ⟨m, a1, b1, rfl, h1, a2, b2, rfl, h2, a3, b3, rfl, h3, rfl⟩ := ofT_struct Tryd.underlying26 h
  obtain ⟨f, rfl, hf⟩ := ofT_i64 Tryd.underlying3 h1
  obtain ⟨q, rfl, hq⟩ := ofT_i64 Tryd.underlying3 h2
  obtain ⟨t, rfl, _⟩ := ofT_i64 Tryd.underlying3 h3
  exact ⟨⟨f, q, t⟩, rfl, hf, hq⟩
theorem ofT_votes {n : Nat} {ds : List AV} (h : ofT Tryd.prog n 22 ds) : ∃ l : List Vo, ds = [SL (l.map vE)] ∧ l.length ≤ maxLen := by
  obtain ⟨m, es, rfl, hl, he⟩ := ofT_slice Tryd.underlying22 h
  obtain ⟨l, rfl, hi⟩ := list_of (f := vE) (Q := fun x => True) fun x hx => by
    obtain ⟨q1, q2⟩ := he x hx
    obtain ⟨y, hy, hi⟩ := ofT_vote q1
    exact ⟨y, by rw [cells_agg (q2.trans (by kernel_rfl)), hy]; rfl, trivial⟩
  exact ⟨l, rfl, by simpa using hl⟩
def So.In (s : So) : Prop := s.body.length ≤ maxLen ∧ s.p.length ≤ maxLen ∧ s.c.length ≤ maxLen
theorem ofT_slot {n : Nat} {ds : List AV} (h : ofT Tryd.prog n 24 ds) : ∃ s : So, ds = SC s ∧ s.In := by
  obtain ⟨m, a1, b1, rfl, h1, a2, b2, rfl, h2, a3, b3, rfl, h3, a4, b4, rfl, h4, a5, b5, rfl, h5, a6, b6, rfl, h6, rfl⟩ := ofT_struct Tryd.underlying24 h
  obtain ⟨f, rfl⟩ := ofT_bool Tryd.underlying4 h1
  obtain ⟨q, rfl, _⟩ := ofT_i64 Tryd.underlying3 h2
  obtain ⟨t, rfl, _⟩ := ofT_i64 Tryd.underlying3 h3
  obtain ⟨b, rfl, hb⟩ := ofT_str Tryd.underlying9 h4
  obtain ⟨p, rfl, hp⟩ := ofT_votes h5
  obtain ⟨c, rfl, hc⟩ := ofT_votes h6
  exact ⟨⟨f, q, t, b, p, c⟩, rfl, hb, hp, hc⟩
theorem arg_slot {W : World} {v : Value} (h : Arg Tryd.prog W 24 v) : ∃ s : So, s.In ∧ rep (SW W) [] (SE s) v := by
  obtain ⟨n, ds, h1, h2⟩ := h
  obtain ⟨t, rfl, ht⟩ := ofT_slot h1
  rw [mk_many (by kernel_rfl)] at h2
  exact ⟨t, ht, h2⟩
theorem arg_vote {W : World} {v : Value} (h : Arg Tryd.prog W 26 v) : ∃ x : Vo, x.In ∧ rep (SW W) [] (vE x) v := by
  obtain ⟨n, ds, h1, h2⟩ := h
  obtain ⟨t, rfl, ht⟩ := ofT_vote h1
  rw [mk_many (by kernel_rfl)] at h2
  exact ⟨t, ht, h2⟩
theorem walk_SlotDoes (W : World) (hS : SigT W) (v0 : Value) (h0 : Arg Tryd.prog W 24 v0) (v1 : Value) (h1 : Arg Tryd.prog W 26 v1) (v2 : Value) (h2 : Arg Tryd.prog W 9 v2) :
    Calls Tryd.prog 3 #[v0, v1, v2] W fun e W' => e = .returned (.bool true) ∧ Below W.heap.size W W' := by
  obtain ⟨s, ⟨hb, hp, hc⟩, r0⟩ := arg_slot h0
  obtain ⟨x, _, r1⟩ := arg_vote h1
  obtain ⟨b, hb2, r2⟩ := arg_str h2
  exact run_tells (plenumlaw29_SlotDoes_ok 16000001 [_, _, _] _ _ (does_s _ s x b (by omega) hb hp hc hb2)) (gok_sigT hS) (vs := [v0, v1, v2]) rfl (reps3 r0 r1 r2)
end Go.Proofs.YtaaafkoeddgaaaaDoor

namespace Go.Proofs.YtaaafkoeddgaaaaDoor
open Go.RowKit
set_option linter.unusedVariables false
set_option linter.unusedSimpArgs false
set_option maxRecDepth 20000
attribute [local go_sem] Nat.zero_add Nat.add_zero Nat.mul_one Int.toNat_natCast Int.natCast_zero Int.cast_ofNat_Int or_false false_or or_true true_or Nat.sub_zero Int.natCast_nonneg Int.toNat_zero Bool.true_and Bool.and_true Bool.false_and Bool.and_false Bool.true_or Bool.or_true Bool.false_or Bool.or_false Bool.not_true Bool.not_false Bool.not_not true_and and_true false_and and_false not_true_eq_false not_false_eq_true eq_self decide_true decide_false ne_eq implies_true forall_const true_implies false_implies Bool.true_eq_false Bool.false_eq_true List.map_cons List.map_nil List.all_cons List.all_nil List.length_cons List.length_nil List.length_map List.length_append List.nil_append List.cons_append List.set_cons_zero List.set_cons_succ List.set_nil List.drop_zero List.drop_succ_cons List.drop_nil List.take_zero List.take_succ_cons List.take_nil Option.map_some Option.map_none Option.isSome_some List.all_append List.all_map Function.comp_def decide_eq_true_eq Bool.and_eq_true beq_self_eq_true or_self and_self ite_true ite_false Nat.le_refl Bool.not_eq_true decide_not Bool.not_eq_true' decide_eq_false_iff_not Bool.not_eq_false Bool.or_eq_true if_true if_false ite_self vE_it vc_len vc_sure vc_ltA vc_lt1 vc_all1 vc_ro vc_take vc_sl vc_set vc_fr vc_vw vc_tm zcV_eq sc_len sc_sure sc_ltA sc_lt1 sc_all1 sc_ro sc_take sc_set sc_has sc_vw sc_tm sc_body sc_p sc_c zs_len zs_sure zs_ltA zs_ro zs_set zs_set2 zs_set3 zs_take zs_b vs_ltA vs_len3 natInt u_nthM all_tt
structure Sd where
  c : Bool
  v : Vo
def sdC (x : Sd) : List AV := [bA x.c, nA x.v.fr, nA x.v.vw, nA x.v.tm]
def sdE (x : Sd) : AV := .agg (sdC x)
def XC : Option So → List AV | none => zc_api_Slot | some s => SC s
def soO : Option So → So | none => SZ | some s => s
section
variable {R : Type} {x : Sd} {o : Option So} {s : So} {n : Nat} {H : List AObj} {K1 : AV → Option R}
theorem sd_len : (sdC x).length = 4 := _root_.id rfl
theorem sd_c : nthE (sdC x) 0 K1 = K1 (bA x.c) := _root_.id rfl
theorem sd_v : List.take 3 (List.drop 1 (sdC x)) = vC x.v := _root_.id rfl
theorem xc_len : (XC o).length = 6 := by cases o <;> rfl
theorem xc_sure : (XC o).all sure = true := by cases o <;> rfl
theorem xc_ltA : (XC o).all (ltA n) = true := by cases o <;> rfl
theorem xc_lt1 : (XC o).all (lt1 n) = true := by cases o <;> rfl
theorem xc_take : (XC o).take 6 = XC o := by cases o <;> rfl
theorem xc_ro : (XC o).map (ro1 H) = SC (soO o) := by cases o <;> rfl
theorem xc_set : setCells (XC o) 0 (SC s) = SC s := by cases o <;> rfl
theorem sdE_it : sdE x = .agg (sdC x) := _root_.id rfl
end
theorem votesG_app {p : Option Vo} : ∀ {l : List Vo}, (∀ y ∈ l, voteB y = true) → Srt l → (∀ y, p = some y → ∀ x ∈ l, y.fr < x.fr) → votesG p l = true
  | [], _, _, _ => rfl
  | a :: r, h1, h2, h3 => by
    unfold votesG
    have ih := votesG_app (p := some a) (l := r) (fun y hy => h1 y (List.mem_cons_of_mem _ hy)) (fun i j hj hi => by
      have := h2 (i + 1) (j + 1) (by simpa using hj) (by omega)
      simpa using this) (fun y hy x hx => by
        cases hy
        obtain ⟨j, hj, rfl⟩ := List.getElem_of_mem hx
        have := h2 0 (j + 1) (by simpa using hj) (by omega)
        simpa using this)
    rw [h1 a (List.mem_cons_self ..), ih, Bool.true_and, Bool.and_true]
    cases p with
    | none => rfl
    | some y => exact decide_eq_true (h3 y rfl a (List.mem_cons_self ..))
theorem lay_votes {l : List Vo} {x : Vo} (hl : votesG none l = true) (hx : voteB x = true) (he : (layF l x).2 = 0) : votesG none (layF l x).1 = true := by
  have hs := (votes_srt hl).1
  have hv := votes_ok hl
  have hlt := pos_lt (l := l) (x := x)
  have hle := pos_le l x
  have hnew : (∀ q : posV l x < l.length, ¬ l[posV l x].fr = x.fr) → votesG none (l.take (posV l x) ++ x :: l.drop (posV l x)) = true := by
    intro hne
    have hgt : ∀ (i : Nat) (h : i < l.length), posV l x ≤ i → x.fr < l[i].fr := fun i h hi => by
      have h0 := pos_ge (l := l) (x := x) (by omega)
      have h1 := hne (by omega)
      rcases Nat.lt_or_ge (posV l x) i with r | r
      · have := hs (posV l x) i h r; omega
      · have : i = posV l x := by omega
        subst this; omega
    refine votesG_app (fun y hy => ?_) (fun i j hj hi => ?_) (fun y hy => by cases hy)
    · rcases List.mem_append.1 hy with hy | hy
      · exact hv y (List.mem_of_mem_take hy)
      · rcases List.mem_cons.1 hy with rfl | hy
        · exact hx
        · exact hv y (List.mem_of_mem_drop hy)
    · generalize posV l x = p at *
      have hjl : j < l.length + 1 := by
        rw [List.length_append, List.length_cons, List.length_take, List.length_drop] at hj; omega
      have at_ : ∀ (q : Nat) (hq : q < (l.take p ++ x :: l.drop p).length), (q < p → ∃ h : q < l.length, (l.take p ++ x :: l.drop p)[q] = l[q]) ∧ (q = p → (l.take p ++ x :: l.drop p)[q] = x) ∧ (p < q → ∃ h : q - 1 < l.length, (l.take p ++ x :: l.drop p)[q] = l[q - 1]) := by
        intro q hq
        have hlen : (l.take p).length = p := by rw [List.length_take]; omega
        rw [List.length_append, List.length_cons, List.length_take, List.length_drop] at hq
        refine ⟨fun h => ⟨by omega, ?_⟩, fun h => ?_, fun h => ⟨by omega, ?_⟩⟩
        · rw [List.getElem_append_left (by omega), List.getElem_take]
        · rw [List.getElem_append_right (by omega)]
          simp [hlen, h]
        · rw [List.getElem_append_right (by omega)]
          simp only [hlen]
          obtain ⟨d, rfl⟩ : ∃ d, q = p + 1 + d := ⟨q - p - 1, by omega⟩
          simp only [show p + 1 + d - p = d + 1 by omega, List.getElem_cons_succ, List.getElem_drop]
          congr 1; omega
      obtain ⟨i1, i2, i3⟩ := at_ i (by omega)
      obtain ⟨j1, j2, j3⟩ := at_ j hj
      rcases Nat.lt_trichotomy i p with a | a | a
      · obtain ⟨h1, e1⟩ := i1 a
        rw [e1]
        rcases Nat.lt_trichotomy j p with b | b | b
        · obtain ⟨h2, e2⟩ := j1 b
          rw [e2]; exact hs i j h2 hi
        · rw [j2 b]; exact hlt i h1 a
        · obtain ⟨h2, e2⟩ := j3 b
          rw [e2]
          have := hlt i h1 a
          have := hgt (j - 1) h2 (by omega)
          omega
      · rw [i2 a]
        obtain ⟨h2, e2⟩ := j3 (by omega)
        rw [e2]; exact hgt (j - 1) h2 (by omega)
      · obtain ⟨h1, e1⟩ := i3 a
        obtain ⟨h2, e2⟩ := j3 (by omega)
        rw [e1, e2]; exact hs (i - 1) (j - 1) h2 (by omega)
  unfold layF at he ⊢
  rcases Nat.lt_or_ge (posV l x) l.length with q | q
  · rw [List.getElem?_eq_getElem q] at he ⊢
    dsimp only at he ⊢
    by_cases c : l[posV l x].fr = x.fr
    · rw [if_pos c] at he ⊢
      by_cases c2 : againI x.vw l[posV l x].vw (decide (x.tm = l[posV l x].tm)) = 0
      · rw [if_pos c2]
        generalize posV l x = p at *
        refine votesG_app (fun y hy => ?_) (fun i j hj hi => ?_) (fun y hy => by cases hy)
        · rcases List.mem_or_eq_of_mem_set hy with hy | rfl
          · exact hv y hy
          · exact hx
        · rw [List.length_set] at hj
          have hsl := hs i j hj hi
          rw [List.getElem_set, List.getElem_set]
          split
          · rename_i e; subst e
            rw [if_neg (by omega)]; omega
          · split
            · rename_i e; subst e; omega
            · exact hsl
      · rw [if_neg c2] at he
        exact (c2 he).elim
    · rw [if_neg c]
      exact hnew fun _ => c
  · rw [List.getElem?_eq_none (by omega)]
    exact hnew fun h => by omega
theorem lay_len {l : List Vo} {x : Vo} : (layF l x).1.length ≤ l.length + 1 := by
  unfold layF
  split
  · split
    · split
      · rw [List.length_set]; omega
      · simp
    · rw [List.length_append, List.length_cons, List.length_take, List.length_drop]; omega
  · rw [List.length_append, List.length_cons, List.length_take, List.length_drop]; omega
def Inv (k : Nat) (s : So) : Prop := mayB s = true ∧ s.p.length ≤ k ∧ s.c.length ≤ k ∧ s.body = []
theorem Inv.ok {k m : Nat} {s : So} (h : Inv k s) (hm : 1000 < m) (hk : k ≤ 100) : s.Ok m := by
  obtain ⟨_, h1, h2, h3⟩ := h
  unfold So.Ok
  rw [h3]
  simp only [List.length_nil]
  omega
theorem Inv.le {k j : Nat} {s : So} (h : Inv k s) (hj : k ≤ j) : Inv j s := ⟨h.1, by have := h.2.1; omega, by have := h.2.2.1; omega, h.2.2.2⟩
theorem inv_zero : Inv 0 SZ := ⟨by decide, by decide, by decide, rfl⟩
theorem mayB_split {s : So} : mayB s = true ↔ (s.has || emptyB s) = true ∧ numB s.vw = true ∧ numB s.tm = true ∧ s.body.length ≤ 65536 ∧ votesG none s.p = true ∧ votesG none s.c = true := by
  unfold mayB
  simp only [Bool.and_eq_true, decide_eq_true_eq]
theorem prep_inv {k : Nat} {s : So} {x : Vo} (h : Inv k s) (he : (prepF s x).2 = 0) : Inv (k + 1) (prepF s x).1 := by
  obtain ⟨h0, h1, h2, h3⟩ := h
  unfold prepF at he ⊢
  split at he
  · rename_i hc
    rw [if_pos hc]
    split at he
    · rename_i hl
      rw [if_pos hl]
      obtain ⟨a1, a2, a3, a4, a5, a6⟩ := mayB_split.1 h0
      refine ⟨mayB_split.2 ⟨a1, a2, a3, a4, lay_votes a5 hc.2 hl, a6⟩, ?_, ?_, h3⟩
      · exact Nat.le_trans lay_len (by omega)
      · show s.c.length ≤ k + 1; omega
    · rename_i hl; exact (hl he).elim
  · cases he
theorem comm_inv {k : Nat} {s : So} {x : Vo} (h : Inv k s) (he : (commF s x).2 = 0) : Inv (k + 1) (commF s x).1 := by
  obtain ⟨h0, h1, h2, h3⟩ := h
  unfold commF at he ⊢
  split at he
  · rename_i hc
    rw [if_pos hc]
    split at he
    · rename_i hl
      rw [if_pos hl]
      obtain ⟨a1, a2, a3, a4, a5, a6⟩ := mayB_split.1 h0
      refine ⟨mayB_split.2 ⟨a1, a2, a3, a4, a5, lay_votes a6 hc.2 hl⟩, ?_, ?_, h3⟩
      · show s.p.length ≤ k + 1; omega
      · exact Nat.le_trans lay_len (by omega)
    · rename_i hl; exact (hl he).elim
  · cases he
theorem prop_inv {k : Nat} {s : So} {v t : Int} (h : Inv k s) (he : (propF s v t []).2 = 0) : Inv (k + 1) (propF s v t []).1 := by
  obtain ⟨h0, h1, h2, h3⟩ := h
  unfold propF at he ⊢
  split at he
  · rename_i hc
    rw [if_pos hc]
    split at he
    · rename_i hl; exact (hl.2 he).elim
    · rename_i hl
      rw [if_neg hl]
      obtain ⟨a1, a2, a3, a4, a5, a6⟩ := mayB_split.1 h0
      exact ⟨mayB_split.2 ⟨rfl, hc.2.1, hc.2.2.1, Nat.zero_le _, a5, a6⟩, by show s.p.length ≤ k + 1; omega, by show s.c.length ≤ k + 1; omega, rfl⟩
  · cases he
theorem all_ok {m : Nat} {k : Nat} {s : So} {x : Vo} (hm : 1000 < m) (h : Inv k s) (hk : k ≤ 90) : (prepF s x).1.Ok m ∧ (commF s x).1.Ok m ∧ ∀ v t, (propF s v t []).1.Ok m := by
  obtain ⟨_, h1, h2, h3⟩ := h
  have hb : s.body.length = 0 := by rw [h3]; rfl
  have l1 := lay_len (l := s.p) (x := x)
  have l2 := lay_len (l := s.c) (x := x)
  refine ⟨?_, ?_, fun v t => ?_⟩
  · unfold prepF
    split
    · split
      · unfold So.Ok; dsimp only; omega
      · exact zs_ok hm
    · exact zs_ok hm
  · unfold commF
    split
    · split
      · unfold So.Ok; dsimp only; omega
      · exact zs_ok hm
    · exact zs_ok hm
  · unfold propF
    split
    · split
      · exact zs_ok hm
      · unfold So.Ok; dsimp only [List.length_nil]; omega
    · exact zs_ok hm
theorem fin4 (m : Nat) (n : Int) (L : List Sd) (k : Nat) (o : Option So) (x : Vo) (Q : So) (e : Int) (g : RO) (kc : ASt → RO) (kx : KO (AV × List AObj)) (hm : 1000 < m) (hk : k < 90) (hi : Inv k (soO o)) (hq : Q.Ok m) (hqi : e = 0 → Inv (k + 1) Q)
    (step : ∀ o', Inv (k + 1) (soO o') → kc ⟨[⟨1, ty_api_Slot, 0, XC o'⟩, ⟨1, ty_api_Slot, 0, XC o'⟩], [(0, nA n), (1, SL (L.map sdE)), (5, OP 0 0), (6, OP 1 0), (7, nA ((k : Int) + 1))]⟩ = g) :
    plenumlaw29_SlotPlays_r4 m 2 kc kx ⟨[⟨1, ty_api_Slot, 0, XC o⟩, ⟨1, ty_api_Slot, 0, XC o⟩, ⟨1, ty_api_Vote, 0, vC x⟩, ⟨1, ty_api_Slot, 0, SC Q⟩, ⟨1, ty_api_Slot, 0, SC Q⟩], [(0, nA n), (1, SL (L.map sdE)), (5, OP 0 0), (6, OP 1 0), (7, nA k), (9, nA e), (10, nA e), (11, OP 3 0), (12, OP 4 0)]⟩ = g := by
  have s1 := same_s m Q Q hq
  rw [decide_eq_true rfl, SE_it] at s1
  rw [plenumlaw29_SlotPlays_r4_eq]
  by_cases he : e = 0
  · have hi2 := hqi he
    subst he
    have ho := hi2.ok hm (by omega)
    have a1 := may_s m Q ho
    rw [hi2.1] at a1
    have a2 := prepared_s m Q n ho
    have a3 := rprepared_s m Q n (by omega) ho
    have a4 := committed_s m Q n ho
    have a5 := rcommitted_s m Q n (by omega) ho
    have st : kc ⟨[⟨1, ty_api_Slot, 0, SC Q⟩, ⟨1, ty_api_Slot, 0, SC Q⟩], [(0, nA n), (1, SL (L.map sdE)), (5, OP 0 0), (6, OP 1 0), (7, nA ((k : Int) + 1))]⟩ = g := step (some Q) hi2
    simp only [SE_it] at a1 a2 a3 a4 a5
    simp (config := {maxSteps := 4000000, implicitDefEqProofs := false}) (disch := omega) only [go_sem, ↓reduceIte, Nat.reduceAdd, Nat.reduceSub, Nat.reduceMul, Nat.reduceLeDiff, Nat.reduceLT, Int.reduceEq, Int.reduceNe, Int.reduceLT, Int.reduceLE, Int.reduceAdd, Int.reduceSub, Int.reduceMul, Int.reduceNeg, Int.reduceToNat, reduceCtorEq, Nat.reduceEqDiff, Nat.reduceBEq, Nat.reduceGT, xc_len, xc_sure, xc_ltA, xc_lt1, xc_take, xc_ro, xc_set, s1, a1, a2, a3, a4, a5, w_i64, u_bneq, plenumlaw29_SlotPlays_r25_eq, plenumlaw29_SlotPlays_r24_eq, plenumlaw29_SlotPlays_r23_eq, plenumlaw29_SlotPlays_r22_eq, plenumlaw29_SlotPlays_r21_eq, plenumlaw29_SlotPlays_r20_eq, plenumlaw29_SlotPlays_r19_eq, plenumlaw29_SlotPlays_r18_eq, plenumlaw29_SlotPlays_r17_eq, plenumlaw29_SlotPlays_r16_eq, plenumlaw29_SlotPlays_r15_eq, plenumlaw29_SlotPlays_r14_eq, plenumlaw29_SlotPlays_r13_eq, plenumlaw29_SlotPlays_r12_eq, plenumlaw29_SlotPlays_r11_eq, plenumlaw29_SlotPlays_r10_eq, plenumlaw29_SlotPlays_r9_eq, plenumlaw29_SlotPlays_r8_eq, plenumlaw29_SlotPlays_r7_eq, plenumlaw29_SlotPlays_r6_eq, plenumlaw29_SlotPlays_r5_eq, plenumlaw29_SlotPlays_r4_eq, plenumlaw29_SlotPlays_r3_eq, plenumlaw29_SlotPlays_r2_eq, plenumlaw29_SlotPlays_r1_eq]
    exact st
  · have ho := hi.ok hm (by omega)
    have a1 := may_s m (soO o) ho
    rw [hi.1] at a1
    have a2 := prepared_s m (soO o) n ho
    have a3 := rprepared_s m (soO o) n (by omega) ho
    have a4 := committed_s m (soO o) n ho
    have a5 := rcommitted_s m (soO o) n (by omega) ho
    have st := step o (hi.le (by omega))
    simp only [SE_it] at a1 a2 a3 a4 a5
    simp (config := {maxSteps := 4000000, implicitDefEqProofs := false}) (disch := omega) only [go_sem, ↓reduceIte, Nat.reduceAdd, Nat.reduceSub, Nat.reduceMul, Nat.reduceLeDiff, Nat.reduceLT, Int.reduceEq, Int.reduceNe, Int.reduceLT, Int.reduceLE, Int.reduceAdd, Int.reduceSub, Int.reduceMul, Int.reduceNeg, Int.reduceToNat, reduceCtorEq, Nat.reduceEqDiff, Nat.reduceBEq, Nat.reduceGT, xc_len, xc_sure, xc_ltA, xc_lt1, xc_take, xc_ro, xc_set, s1, he, a1, a2, a3, a4, a5, w_i64, u_bneq, plenumlaw29_SlotPlays_r25_eq, plenumlaw29_SlotPlays_r24_eq, plenumlaw29_SlotPlays_r23_eq, plenumlaw29_SlotPlays_r22_eq, plenumlaw29_SlotPlays_r21_eq, plenumlaw29_SlotPlays_r20_eq, plenumlaw29_SlotPlays_r19_eq, plenumlaw29_SlotPlays_r18_eq, plenumlaw29_SlotPlays_r17_eq, plenumlaw29_SlotPlays_r16_eq, plenumlaw29_SlotPlays_r15_eq, plenumlaw29_SlotPlays_r14_eq, plenumlaw29_SlotPlays_r13_eq, plenumlaw29_SlotPlays_r12_eq, plenumlaw29_SlotPlays_r11_eq, plenumlaw29_SlotPlays_r10_eq, plenumlaw29_SlotPlays_r9_eq, plenumlaw29_SlotPlays_r8_eq, plenumlaw29_SlotPlays_r7_eq, plenumlaw29_SlotPlays_r6_eq, plenumlaw29_SlotPlays_r5_eq, plenumlaw29_SlotPlays_r4_eq, plenumlaw29_SlotPlays_r3_eq, plenumlaw29_SlotPlays_r2_eq, plenumlaw29_SlotPlays_r1_eq]
    exact st
theorem fin8 (m : Nat) (n : Int) (L : List Sd) (k : Nat) (o : Option So) (x : Vo) (Q : So) (e : Int) (g : RO) (kc : ASt → RO) (kx : KO (AV × List AObj)) (hm : 1000 < m) (hk : k < 90) (hi : Inv k (soO o)) (hq : Q.Ok m) (hqi : e = 0 → Inv (k + 1) Q)
    (step : ∀ o', Inv (k + 1) (soO o') → kc ⟨[⟨1, ty_api_Slot, 0, XC o'⟩, ⟨1, ty_api_Slot, 0, XC o'⟩], [(0, nA n), (1, SL (L.map sdE)), (5, OP 0 0), (6, OP 1 0), (7, nA ((k : Int) + 1))]⟩ = g) :
    plenumlaw29_SlotPlays_r8 m 2 kc kx ⟨[⟨1, ty_api_Slot, 0, XC o⟩, ⟨1, ty_api_Slot, 0, XC o⟩, ⟨1, ty_api_Vote, 0, vC x⟩, ⟨1, ty_api_Slot, 0, SC Q⟩, ⟨1, ty_api_Slot, 0, SC Q⟩], [(0, nA n), (1, SL (L.map sdE)), (5, OP 0 0), (6, OP 1 0), (7, nA k), (9, nA e), (10, nA e), (11, OP 3 0), (12, OP 4 0)]⟩ = g := by
  have s1 := same_s m Q Q hq
  rw [decide_eq_true rfl, SE_it] at s1
  rw [plenumlaw29_SlotPlays_r8_eq]
  by_cases he : e = 0
  · have hi2 := hqi he
    subst he
    have ho := hi2.ok hm (by omega)
    have a1 := may_s m Q ho
    rw [hi2.1] at a1
    have a2 := prepared_s m Q n ho
    have a3 := rprepared_s m Q n (by omega) ho
    have a4 := committed_s m Q n ho
    have a5 := rcommitted_s m Q n (by omega) ho
    have st : kc ⟨[⟨1, ty_api_Slot, 0, SC Q⟩, ⟨1, ty_api_Slot, 0, SC Q⟩], [(0, nA n), (1, SL (L.map sdE)), (5, OP 0 0), (6, OP 1 0), (7, nA ((k : Int) + 1))]⟩ = g := step (some Q) hi2
    simp only [SE_it] at a1 a2 a3 a4 a5
    simp (config := {maxSteps := 4000000, implicitDefEqProofs := false}) (disch := omega) only [go_sem, ↓reduceIte, Nat.reduceAdd, Nat.reduceSub, Nat.reduceMul, Nat.reduceLeDiff, Nat.reduceLT, Int.reduceEq, Int.reduceNe, Int.reduceLT, Int.reduceLE, Int.reduceAdd, Int.reduceSub, Int.reduceMul, Int.reduceNeg, Int.reduceToNat, reduceCtorEq, Nat.reduceEqDiff, Nat.reduceBEq, Nat.reduceGT, xc_len, xc_sure, xc_ltA, xc_lt1, xc_take, xc_ro, xc_set, s1, a1, a2, a3, a4, a5, w_i64, u_bneq, plenumlaw29_SlotPlays_r25_eq, plenumlaw29_SlotPlays_r24_eq, plenumlaw29_SlotPlays_r23_eq, plenumlaw29_SlotPlays_r22_eq, plenumlaw29_SlotPlays_r21_eq, plenumlaw29_SlotPlays_r20_eq, plenumlaw29_SlotPlays_r19_eq, plenumlaw29_SlotPlays_r18_eq, plenumlaw29_SlotPlays_r17_eq, plenumlaw29_SlotPlays_r16_eq, plenumlaw29_SlotPlays_r15_eq, plenumlaw29_SlotPlays_r14_eq, plenumlaw29_SlotPlays_r13_eq, plenumlaw29_SlotPlays_r12_eq, plenumlaw29_SlotPlays_r11_eq, plenumlaw29_SlotPlays_r10_eq, plenumlaw29_SlotPlays_r9_eq, plenumlaw29_SlotPlays_r8_eq, plenumlaw29_SlotPlays_r7_eq, plenumlaw29_SlotPlays_r6_eq, plenumlaw29_SlotPlays_r5_eq, plenumlaw29_SlotPlays_r4_eq, plenumlaw29_SlotPlays_r3_eq, plenumlaw29_SlotPlays_r2_eq, plenumlaw29_SlotPlays_r1_eq]
    exact st
  · have ho := hi.ok hm (by omega)
    have a1 := may_s m (soO o) ho
    rw [hi.1] at a1
    have a2 := prepared_s m (soO o) n ho
    have a3 := rprepared_s m (soO o) n (by omega) ho
    have a4 := committed_s m (soO o) n ho
    have a5 := rcommitted_s m (soO o) n (by omega) ho
    have st := step o (hi.le (by omega))
    simp only [SE_it] at a1 a2 a3 a4 a5
    simp (config := {maxSteps := 4000000, implicitDefEqProofs := false}) (disch := omega) only [go_sem, ↓reduceIte, Nat.reduceAdd, Nat.reduceSub, Nat.reduceMul, Nat.reduceLeDiff, Nat.reduceLT, Int.reduceEq, Int.reduceNe, Int.reduceLT, Int.reduceLE, Int.reduceAdd, Int.reduceSub, Int.reduceMul, Int.reduceNeg, Int.reduceToNat, reduceCtorEq, Nat.reduceEqDiff, Nat.reduceBEq, Nat.reduceGT, xc_len, xc_sure, xc_ltA, xc_lt1, xc_take, xc_ro, xc_set, s1, he, a1, a2, a3, a4, a5, w_i64, u_bneq, plenumlaw29_SlotPlays_r25_eq, plenumlaw29_SlotPlays_r24_eq, plenumlaw29_SlotPlays_r23_eq, plenumlaw29_SlotPlays_r22_eq, plenumlaw29_SlotPlays_r21_eq, plenumlaw29_SlotPlays_r20_eq, plenumlaw29_SlotPlays_r19_eq, plenumlaw29_SlotPlays_r18_eq, plenumlaw29_SlotPlays_r17_eq, plenumlaw29_SlotPlays_r16_eq, plenumlaw29_SlotPlays_r15_eq, plenumlaw29_SlotPlays_r14_eq, plenumlaw29_SlotPlays_r13_eq, plenumlaw29_SlotPlays_r12_eq, plenumlaw29_SlotPlays_r11_eq, plenumlaw29_SlotPlays_r10_eq, plenumlaw29_SlotPlays_r9_eq, plenumlaw29_SlotPlays_r8_eq, plenumlaw29_SlotPlays_r7_eq, plenumlaw29_SlotPlays_r6_eq, plenumlaw29_SlotPlays_r5_eq, plenumlaw29_SlotPlays_r4_eq, plenumlaw29_SlotPlays_r3_eq, plenumlaw29_SlotPlays_r2_eq, plenumlaw29_SlotPlays_r1_eq]
    exact st
theorem plays_s (m : Nat) (n : Int) (L : List Sd) (hm : 1000 < m) (hv : ∀ x ∈ L, -9223372036854775808 ≤ x.v.vw ∧ x.v.vw < 9223372036854775808) (hn : n < 9223372036854775808) (hL : L.length ≤ 9223372036854775807) : plenumlaw29_SlotPlays m (nA n) (SL (L.map sdE)) = some (bA true, []) := by
  have aw := awake29_s m hm
  rw [plenumlaw29_SlotPlays_eq]
  simp (config := {maxSteps := 4000000, implicitDefEqProofs := false}) (disch := omega) only [go_sem, ↓reduceIte, Nat.reduceAdd, Nat.reduceSub, Nat.reduceMul, Nat.reduceLeDiff, Nat.reduceLT, Int.reduceEq, Int.reduceNe, Int.reduceLT, Int.reduceLE, Int.reduceAdd, Int.reduceSub, Int.reduceMul, Int.reduceNeg, Int.reduceToNat, reduceCtorEq, Nat.reduceEqDiff, Nat.reduceBEq, Nat.reduceGT]
  refine iter_go (ι := {p : Nat × Option So // p.1 ≤ 90 ∧ p.1 ≤ L.length ∧ Inv p.1 (soO p.2)}) (fun p => ⟨[⟨1, ty_api_Slot, 0, XC p.1.2⟩, ⟨1, ty_api_Slot, 0, XC p.1.2⟩], [(0, nA n), (1, SL (L.map sdE)), (5, OP 0 0), (6, OP 1 0), (7, nA p.1.1)]⟩) (fun p => 90 - p.1.1) (fun _ => some (bA true, [])) ?_ ⟨(0, none), by decide, Nat.zero_le _, inv_zero⟩ (by dsimp only; omega)
  rintro kx hkx ⟨⟨k, o⟩, hk, hkl, hi⟩ kc hkc
  dsimp only at hkc hk hkl hi ⊢
  rw [plenumlaw29_SlotPlays_b1_eq]
  by_cases hlt : k < L.length
  case neg =>
    have hlt' : ¬ (k : Int) < (L.length : Int) := by omega
    simp (config := {maxSteps := 4000000, implicitDefEqProofs := false}) (disch := omega) only [go_sem, ↓reduceIte, Nat.reduceAdd, Nat.reduceSub, Nat.reduceMul, Nat.reduceLeDiff, Nat.reduceLT, Int.reduceEq, Int.reduceNe, Int.reduceLT, Int.reduceLE, Int.reduceAdd, Int.reduceSub, Int.reduceMul, Int.reduceNeg, Int.reduceToNat, reduceCtorEq, Nat.reduceEqDiff, Nat.reduceBEq, Nat.reduceGT, hlt', hkx, aw, plenumlaw29_SlotPlays_r2_eq, plenumlaw29_SlotPlays_r1_eq]
  have hlt' : (k : Int) < (L.length : Int) := by omega
  by_cases h90 : k < 90
  case neg =>
    have h90' : ¬ (k : Int) < 90 := by omega
    simp (config := {maxSteps := 4000000, implicitDefEqProofs := false}) (disch := omega) only [go_sem, ↓reduceIte, Nat.reduceAdd, Nat.reduceSub, Nat.reduceMul, Nat.reduceLeDiff, Nat.reduceLT, Int.reduceEq, Int.reduceNe, Int.reduceLT, Int.reduceLE, Int.reduceAdd, Int.reduceSub, Int.reduceMul, Int.reduceNeg, Int.reduceToNat, reduceCtorEq, Nat.reduceEqDiff, Nat.reduceBEq, Nat.reduceGT, hlt', h90', hkx, aw, plenumlaw29_SlotPlays_r2_eq, plenumlaw29_SlotPlays_r1_eq]
  have h90' : (k : Int) < 90 := by omega
  have step : ∀ o', Inv (k + 1) (soO o') → kc ⟨[⟨1, ty_api_Slot, 0, XC o'⟩, ⟨1, ty_api_Slot, 0, XC o'⟩], [(0, nA n), (1, SL (L.map sdE)), (5, OP 0 0), (6, OP 1 0), (7, nA ((k : Int) + 1))]⟩ = some (bA true, []) := fun o' h => by
    have := hkc ⟨(k + 1, o'), by dsimp only; omega, by dsimp only; omega, h⟩ (by dsimp only; omega)
    have e : ((k + 1 : Nat) : Int) = (k : Int) + 1 := by omega
    dsimp only at this
    rw [e] at this
    exact this
  have hx := hv L[k] (List.getElem_mem hlt)
  obtain ⟨o1, o2, o3⟩ := all_ok (x := L[k].v) hm hi (by omega)
  have hok := hi.ok hm (by omega)
  have F4 := fun Q e hq hqi => fin4 m n L k o L[k].v Q e _ kc kx hm h90 hi hq hqi step
  have F8 := fun Q e hq hqi => fin8 m n L k o L[k].v Q e _ kc kx hm h90 hi hq hqi step
  have c1 := comm_s m (soO o) L[k].v hok
  have c2 := rcomm_s m (soO o) L[k].v hok
  have c3 := prep_s m (soO o) L[k].v hok
  have c4 := rprep_s m (soO o) L[k].v hok
  have c5 := propose_s m (soO o) L[k].v.vw L[k].v.tm [] hok
  have c6 := rpropose_s m (soO o) L[k].v.vw L[k].v.tm [] hok
  have hC := F4 _ _ o2 (comm_inv hi)
  have hP := F8 _ _ o1 (prep_inv hi)
  have hO := F8 _ _ (o3 L[k].v.vw L[k].v.tm) (prop_inv hi)
  have pr := rprimary_s m L[k].v.vw n hx hn
  generalize commF (soO o) L[k].v = G1 at *
  generalize prepF (soO o) L[k].v = G2 at *
  generalize propF (soO o) L[k].v.vw L[k].v.tm [] = G3 at *
  obtain ⟨Q1, e1⟩ := G1
  obtain ⟨Q2, e2⟩ := G2
  obtain ⟨Q3, e3⟩ := G3
  simp only [SE_it, vE_it] at c1 c2 c3 c4 c5 c6
  have c5 : slot_Propose m (.agg (SC (soO o))) (nA L[k].v.vw) (nA L[k].v.tm) (V (.string ⟨#[]⟩)) = _ := c5
  have c6 : plenumref29_Propose m (.agg (SC (soO o))) (nA L[k].v.vw) (nA L[k].v.tm) (V (.string ⟨#[]⟩)) = _ := c6
  cases hcm : L[k].c with
  | true =>
    simp (config := {maxSteps := 4000000, implicitDefEqProofs := false}) (disch := omega) only [go_sem, ↓reduceIte, Nat.reduceAdd, Nat.reduceSub, Nat.reduceMul, Nat.reduceLeDiff, Nat.reduceLT, Int.reduceEq, Int.reduceNe, Int.reduceLT, Int.reduceLE, Int.reduceAdd, Int.reduceSub, Int.reduceMul, Int.reduceNeg, Int.reduceToNat, reduceCtorEq, Nat.reduceEqDiff, Nat.reduceBEq, Nat.reduceGT, sdE_it, sd_len, sd_c, sd_v, xc_len, xc_sure, xc_ltA, xc_lt1, xc_take, xc_ro, hlt', h90', hcm, c1, c2, plenumlaw29_SlotPlays_r2_eq, plenumlaw29_SlotPlays_r3_eq]
    exact hC
  | false =>
    generalize (if n < 1 then 0 else L[k].v.vw % n) = pv at pr
    by_cases q1 : pv = L[k].v.fr
    · by_cases q2 : 0 < n
      · simp (config := {maxSteps := 4000000, implicitDefEqProofs := false}) (disch := omega) only [go_sem, ↓reduceIte, Nat.reduceAdd, Nat.reduceSub, Nat.reduceMul, Nat.reduceLeDiff, Nat.reduceLT, Int.reduceEq, Int.reduceNe, Int.reduceLT, Int.reduceLE, Int.reduceAdd, Int.reduceSub, Int.reduceMul, Int.reduceNeg, Int.reduceToNat, reduceCtorEq, Nat.reduceEqDiff, Nat.reduceBEq, Nat.reduceGT, sdE_it, sd_len, sd_c, sd_v, xc_len, xc_sure, xc_ltA, xc_lt1, xc_take, xc_ro, hlt', h90', hcm, pr, q1, q2, c5, c6, plenumlaw29_SlotPlays_r2_eq, plenumlaw29_SlotPlays_r3_eq, plenumlaw29_SlotPlays_r5_eq]
        exact hO
      · simp (config := {maxSteps := 4000000, implicitDefEqProofs := false}) (disch := omega) only [go_sem, ↓reduceIte, Nat.reduceAdd, Nat.reduceSub, Nat.reduceMul, Nat.reduceLeDiff, Nat.reduceLT, Int.reduceEq, Int.reduceNe, Int.reduceLT, Int.reduceLE, Int.reduceAdd, Int.reduceSub, Int.reduceMul, Int.reduceNeg, Int.reduceToNat, reduceCtorEq, Nat.reduceEqDiff, Nat.reduceBEq, Nat.reduceGT, sdE_it, sd_len, sd_c, sd_v, xc_len, xc_sure, xc_ltA, xc_lt1, xc_take, xc_ro, hlt', h90', hcm, pr, q1, q2, c3, c4, plenumlaw29_SlotPlays_r2_eq, plenumlaw29_SlotPlays_r3_eq, plenumlaw29_SlotPlays_r5_eq]
        exact hP
    · simp (config := {maxSteps := 4000000, implicitDefEqProofs := false}) (disch := omega) only [go_sem, ↓reduceIte, Nat.reduceAdd, Nat.reduceSub, Nat.reduceMul, Nat.reduceLeDiff, Nat.reduceLT, Int.reduceEq, Int.reduceNe, Int.reduceLT, Int.reduceLE, Int.reduceAdd, Int.reduceSub, Int.reduceMul, Int.reduceNeg, Int.reduceToNat, reduceCtorEq, Nat.reduceEqDiff, Nat.reduceBEq, Nat.reduceGT, sdE_it, sd_len, sd_c, sd_v, xc_len, xc_sure, xc_ltA, xc_lt1, xc_take, xc_ro, hlt', h90', hcm, pr, q1, c3, c4, plenumlaw29_SlotPlays_r2_eq, plenumlaw29_SlotPlays_r3_eq, plenumlaw29_SlotPlays_r5_eq]
      exact hP
end Go.Proofs.YtaaafkoeddgaaaaDoor

namespace Go.Proofs.YtaaafkoeddgaaaaDoor
open Go.RowKit
set_option linter.unusedVariables false
set_option linter.unusedSimpArgs false
set_option maxRecDepth 20000
attribute [local go_sem] Nat.zero_add Nat.add_zero Nat.mul_one Int.toNat_natCast Int.natCast_zero Int.cast_ofNat_Int or_false false_or or_true true_or Nat.sub_zero Int.natCast_nonneg Int.toNat_zero Bool.true_and Bool.and_true Bool.false_and Bool.and_false Bool.true_or Bool.or_true Bool.false_or Bool.or_false Bool.not_true Bool.not_false Bool.not_not true_and and_true false_and and_false not_true_eq_false not_false_eq_true eq_self decide_true decide_false ne_eq implies_true forall_const true_implies false_implies Bool.true_eq_false Bool.false_eq_true List.map_cons List.map_nil List.all_cons List.all_nil List.length_cons List.length_nil List.length_map List.length_append List.nil_append List.cons_append List.set_cons_zero List.set_cons_succ List.set_nil List.drop_zero List.drop_succ_cons List.drop_nil List.take_zero List.take_succ_cons List.take_nil Option.map_some Option.map_none Option.isSome_some List.all_append List.all_map Function.comp_def decide_eq_true_eq Bool.and_eq_true beq_self_eq_true or_self and_self ite_true ite_false Nat.le_refl Bool.not_eq_true decide_not Bool.not_eq_true' decide_eq_false_iff_not Bool.not_eq_false Bool.or_eq_true if_true if_false ite_self vE_it vc_len vc_sure vc_ltA vc_lt1 vc_all1 vc_ro vc_take vc_sl vc_set vc_fr vc_vw vc_tm zcV_eq sc_len sc_sure sc_ltA sc_lt1 sc_all1 sc_ro sc_take sc_set sc_has sc_vw sc_tm sc_body sc_p sc_c zs_len zs_sure zs_ltA zs_ro zs_set zs_set2 zs_set3 zs_take zs_b vs_ltA vs_len3 natInt u_nthM all_tt
def findV (l : List Vo) (p : Int) : Option Vo := l.find? fun y => decide (y.fr = p)
theorem vc_set0 {x : Vo} : setCells (vC Vo.zero) 0 (vC x) = vC x := _root_.id rfl
theorem zv_b {R : Type} {K1 : AV → Option R} : buildE (some pl_api_Vote) (some (vC Vo.zero)) [] K1 = K1 (.agg (vC Vo.zero)) := _root_.id rfl
theorem votesOf_s (m : Nat) (l : List Vo) (p : Int) (hm : l.length < m) (hl : l.length ≤ 1000000) : plenumlaw29_votesOf m (SL (l.map vE)) (nA p) = some (TU [vE ((findV l p).getD Vo.zero), bA (findV l p).isSome], []) := by
  rw [plenumlaw29_votesOf_eq]
  simp (config := {maxSteps := 4000000, implicitDefEqProofs := false}) (disch := omega) only [go_sem, ↓reduceIte, Nat.reduceAdd, Nat.reduceSub, Nat.reduceMul, Nat.reduceLeDiff, Nat.reduceLT, Int.reduceEq, Int.reduceNe, Int.reduceLT, Int.reduceLE, Int.reduceAdd, Int.reduceSub, Int.reduceMul, Int.reduceNeg, Int.reduceToNat, reduceCtorEq, Nat.reduceEqDiff, Nat.reduceBEq, Nat.reduceGT]
  generalize hg : findV l p = g
  refine iter_go (ι := {k : Nat // k ≤ l.length ∧ findV (l.drop k) p = g}) (fun k => ⟨[⟨1, ty_api_Vote, 0, vC Vo.zero⟩], [(0, SL (l.map vE)), (1, nA p), (4, OP 0 0), (6, nA k.1)]⟩) (fun k => l.length - k.1) (fun _ => some (TU [vE (g.getD Vo.zero), bA g.isSome], [])) ?_ ⟨0, Nat.zero_le _, hg⟩ (by dsimp only; omega)
  rintro kx hkx ⟨k, hk, hG⟩ kc hkc
  dsimp only at hkc hG ⊢
  rw [plenumlaw29_votesOf_b1_eq]
  by_cases hlt : k < l.length
  · have hlt' : (k : Int) < (l.length : Int) := by omega
    rw [List.drop_eq_getElem_cons hlt] at hG
    unfold findV at hG
    rw [List.find?_cons] at hG
    by_cases q : l[k].fr = p
    · rw [decide_eq_true q] at hG
      have hG : some l[k] = g := hG
      subst hG
      simp (config := {maxSteps := 4000000, implicitDefEqProofs := false}) (disch := omega) only [go_sem, ↓reduceIte, Nat.reduceAdd, Nat.reduceSub, Nat.reduceMul, Nat.reduceLeDiff, Nat.reduceLT, Int.reduceEq, Int.reduceNe, Int.reduceLT, Int.reduceLE, Int.reduceAdd, Int.reduceSub, Int.reduceMul, Int.reduceNeg, Int.reduceToNat, reduceCtorEq, Nat.reduceEqDiff, Nat.reduceBEq, Nat.reduceGT, hlt', q, hkx, Option.getD_some]
      rfl
    · rw [decide_eq_false q] at hG
      have step := hkc ⟨k + 1, by omega, hG⟩ (by dsimp only; omega)
      simp (config := {maxSteps := 4000000, implicitDefEqProofs := false}) (disch := omega) only [go_sem, ↓reduceIte, Nat.reduceAdd, Nat.reduceSub, Nat.reduceMul, Nat.reduceLeDiff, Nat.reduceLT, Int.reduceEq, Int.reduceNe, Int.reduceLT, Int.reduceLE, Int.reduceAdd, Int.reduceSub, Int.reduceMul, Int.reduceNeg, Int.reduceToNat, reduceCtorEq, Nat.reduceEqDiff, Nat.reduceBEq, Nat.reduceGT, hlt', q, w_i64]
      exact step
  · have hlt' : ¬ (k : Int) < (l.length : Int) := by omega
    rw [List.drop_of_length_le (by omega)] at hG
    have hG : none = g := hG
    subst hG
    simp (config := {maxSteps := 4000000, implicitDefEqProofs := false}) (disch := omega) only [go_sem, ↓reduceIte, Nat.reduceAdd, Nat.reduceSub, Nat.reduceMul, Nat.reduceLeDiff, Nat.reduceLT, Int.reduceEq, Int.reduceNe, Int.reduceLT, Int.reduceLE, Int.reduceAdd, Int.reduceSub, Int.reduceMul, Int.reduceNeg, Int.reduceToNat, reduceCtorEq, Nat.reduceEqDiff, Nat.reduceBEq, Nat.reduceGT, hlt', hkx, zv_b, plenumlaw29_votesOf_r1_eq]
    rfl
def bothB (v : Int) (l l2 : List Vo) (p : Nat) : Bool := match findV l (p : Int), findV l2 (p : Int) with
  | some x, some y => !decide (x = y) && (decide (x.vw = v) && decide (y.vw = v))
  | _, _ => false
def manyB (v : Int) (l l2 : List Vo) (k : Nat) : Nat := ((List.range k).filter (bothB v l l2)).length
theorem many_succ (v : Int) (l l2 : List Vo) (k : Nat) : manyB v l l2 (k + 1) = manyB v l l2 k + (if bothB v l l2 k = true then 1 else 0) := by
  unfold manyB
  rw [List.range_succ, List.filter_append, List.length_append, List.filter_cons]
  split <;> rfl
theorem many_le (v : Int) (l l2 : List Vo) (k : Nat) : manyB v l l2 k ≤ k := by
  have := List.length_filter_le (bothB v l l2) (List.range k)
  rw [List.length_range] at this
  exact this
theorem many_P (v : Int) (l l2 : List Vo) (k : Nat) (hk : k ≤ 64) : manyB v l l2 k = cP fun j => bothB v l l2 j && decide (j < k) := by
  unfold manyB cP
  have e : List.range 64 = List.range k ++ (List.range (64 - k)).map (k + ·) := by
    rw [← List.range_add]; congr 1; omega
  rw [e, List.filter_append, List.length_append]
  have e1 : (List.range k).filter (fun j => bothB v l l2 j && decide (j < k)) = (List.range k).filter (bothB v l l2) := by
    refine List.filter_congr fun j hj => ?_
    rw [decide_eq_true (List.mem_range.1 hj), Bool.and_true]
  have e2 : ((List.range (64 - k)).map (k + ·)).filter (fun j => bothB v l l2 j && decide (j < k)) = [] := by
    refine List.filter_eq_nil_iff.2 fun j hj => ?_
    obtain ⟨i, _, rfl⟩ := List.mem_map.1 hj
    rw [decide_eq_false (by omega), Bool.and_false]
    simp
  rw [e1, e2]; rfl
theorem find_of {l : List Vo} (hp : l.Pairwise fun a b => a.fr ≠ b.fr) {y : Vo} (hy : y ∈ l) {p : Int} (h : y.fr = p) : findV l p = some y := by
  induction l with
  | nil => cases hy
  | cons a r ih =>
    obtain ⟨p1, p2⟩ := List.pairwise_cons.1 hp
    unfold findV
    rw [List.find?_cons]
    rcases List.mem_cons.1 hy with rfl | hy
    · rw [decide_eq_true h]
    · have := p1 y hy
      rw [decide_eq_false (show ¬ a.fr = p by omega)]
      exact ih p2 hy
theorem agree_any {a b : So} {la lb : List Vo} {n : Int} {sa sb : Vo → Bool} (ha : votesG none la = true) (hb : votesG none lb = true) (hv : a.vw = b.vw) (ht : a.tm ≠ b.tm) (h1 : ∀ y, sa y = true → selB a n y = true) (h2 : ∀ y, sb y = true → selB b n y = true) {j : Nat} (hj : ((la.any fun y => sa y && decide (y.fr = (j : Int))) && lb.any fun y => sb y && decide (y.fr = (j : Int))) = true) : bothB a.vw la lb j = true ∧ (j : Int) < n := by
  simp only [Bool.and_eq_true, List.any_eq_true, decide_eq_true_eq] at hj
  obtain ⟨⟨x, hx, sx, ex⟩, ⟨y, hy, sy, ey⟩⟩ := hj
  have k1 := h1 x sx
  have k2 := h2 y sy
  unfold selB at k1 k2
  simp only [Bool.and_eq_true, decide_eq_true_eq] at k1 k2
  refine ⟨?_, by omega⟩
  unfold bothB
  rw [find_of (votes_dom ha).2 hx ex, find_of (votes_dom hb).2 hy ey]
  dsimp only
  have : ¬ x = y := fun e => by subst e; exact ht (k1.2.2.symm.trans k2.2.2)
  rw [decide_eq_false this, decide_eq_true k1.2.1, decide_eq_true (by rw [k2.2.1, hv])]
  rfl
theorem agree_prep {a b : So} {n : Int} (ha : prepB a n = true) (hb : prepB b n = true) (hv : a.vw = b.vw) (ht : a.tm ≠ b.tm) : fN n ≤ manyB a.vw a.p b.p n.toNat := by
  unfold prepB at ha hb
  simp only [Bool.and_eq_true, decide_eq_true_eq] at ha hb
  obtain ⟨hn, ma, _, ca⟩ := ha
  obtain ⟨_, mb, _, cb⟩ := hb
  obtain ⟨va, pa, _⟩ := may_vw ma
  obtain ⟨vb, pb, _⟩ := may_vw mb
  have hn2 := okN_iff.1 hn
  have hf := fN_ok hn
  rw [many_P _ _ _ _ (by omega)]
  have e1 := cnt_any (sel := fun y => selB a n y && !decide (y.fr = a.vw % n)) (votes_dom pa).1 (votes_dom pa).2
  have e2 := cnt_any (sel := fun y => selB b n y && !decide (y.fr = b.vw % n)) (votes_dom pb).1 (votes_dom pb).2
  have two := cP_two (fun j => a.p.any fun y => (selB a n y && !decide (y.fr = a.vw % n)) && decide (y.fr = (j : Int))) (fun j => b.p.any fun y => (selB b n y && !decide (y.fr = b.vw % n)) && decide (y.fr = (j : Int)))
  unfold whoL at ca cb
  rw [e1, e2] at two
  have le1 := cP_mono (p := fun j => (a.p.any fun y => (selB a n y && !decide (y.fr = a.vw % n)) && decide (y.fr = (j : Int))) && b.p.any fun y => (selB b n y && !decide (y.fr = b.vw % n)) && decide (y.fr = (j : Int))) (q := fun j => bothB a.vw a.p b.p j && decide (j < n.toNat)) fun j hj h => by
    obtain ⟨k1, k2⟩ := agree_any pa pb hv ht (fun y q => by simp only [Bool.and_eq_true] at q; exact q.1) (fun y q => by simp only [Bool.and_eq_true] at q; exact q.1) h
    rw [k1, decide_eq_true (by omega)]; rfl
  have hpr0 := Int.emod_nonneg a.vw (show n ≠ 0 by omega)
  have hpr1 := Int.emod_lt_of_pos a.vw (show 0 < n by omega)
  have one : cP (fun j => decide (j = (a.vw % n).toNat)) = 1 := cP_1 (by omega)
  have two2 := cP_two (fun j => (a.p.any fun y => (selB a n y && !decide (y.fr = a.vw % n)) && decide (y.fr = (j : Int))) || b.p.any fun y => (selB b n y && !decide (y.fr = b.vw % n)) && decide (y.fr = (j : Int))) (fun j => decide (j = (a.vw % n).toNat))
  have zero : cP (fun j => ((a.p.any fun y => (selB a n y && !decide (y.fr = a.vw % n)) && decide (y.fr = (j : Int))) || b.p.any fun y => (selB b n y && !decide (y.fr = b.vw % n)) && decide (y.fr = (j : Int))) && decide (j = (a.vw % n).toNat)) = 0 := by
    rw [← cP_none]
    refine cP_ext fun j hj => ?_
    by_cases q : j = (a.vw % n).toNat
    · have q2 : (j : Int) = a.vw % n := by omega
      have z1 : (a.p.any fun y => (selB a n y && !decide (y.fr = a.vw % n)) && decide (y.fr = (j : Int))) = false := by
        rw [List.any_eq_false]
        intro y hy hc
        simp only [Bool.and_eq_true, decide_eq_true_eq, Bool.not_eq_true', decide_eq_false_iff_not] at hc
        omega
      have z2 : (b.p.any fun y => (selB b n y && !decide (y.fr = b.vw % n)) && decide (y.fr = (j : Int))) = false := by
        rw [List.any_eq_false]
        intro y hy hc
        simp only [Bool.and_eq_true, decide_eq_true_eq, Bool.not_eq_true', decide_eq_false_iff_not] at hc
        rw [← hv] at hc
        omega
      rw [z1, z2]; rfl
    · rw [decide_eq_false q, Bool.and_false]
  have le2 := cP_mono (p := fun j => ((a.p.any fun y => (selB a n y && !decide (y.fr = a.vw % n)) && decide (y.fr = (j : Int))) || b.p.any fun y => (selB b n y && !decide (y.fr = b.vw % n)) && decide (y.fr = (j : Int))) || decide (j = (a.vw % n).toNat)) (q := fun j => decide ((j : Int) < n)) fun j hj h => by
    simp only [Bool.or_eq_true, List.any_eq_true, Bool.and_eq_true, decide_eq_true_eq] at h ⊢
    rcases h with (⟨y, hy, ⟨hs, _⟩, e⟩ | ⟨y, hy, ⟨hs, _⟩, e⟩) | h
    · unfold selB at hs
      simp only [Bool.and_eq_true, decide_eq_true_eq] at hs
      omega
    · unfold selB at hs
      simp only [Bool.and_eq_true, decide_eq_true_eq] at hs
      omega
    · omega
  have le3 := cP_lt n hn
  omega
theorem agree_comm {a b : So} {n : Int} (ha : commB a n = true) (hb : commB b n = true) (hv : a.vw = b.vw) (ht : a.tm ≠ b.tm) : fN n < manyB a.vw a.c b.c n.toNat := by
  unfold commB prepB at ha hb
  simp only [Bool.and_eq_true, decide_eq_true_eq] at ha hb
  obtain ⟨⟨hn, ma, _, _⟩, ca⟩ := ha
  obtain ⟨⟨_, mb, _, _⟩, cb⟩ := hb
  obtain ⟨va, _, pa⟩ := may_vw ma
  obtain ⟨vb, _, pb⟩ := may_vw mb
  have hn2 := okN_iff.1 hn
  have hf := fN_ok hn
  rw [many_P _ _ _ _ (by omega)]
  have e1 := cnt_any (sel := fun y => selB a n y && !decide (y.fr = -1)) (votes_dom pa).1 (votes_dom pa).2
  have e2 := cnt_any (sel := fun y => selB b n y && !decide (y.fr = -1)) (votes_dom pb).1 (votes_dom pb).2
  have two := cP_two (fun j => a.c.any fun y => (selB a n y && !decide (y.fr = -1)) && decide (y.fr = (j : Int))) (fun j => b.c.any fun y => (selB b n y && !decide (y.fr = -1)) && decide (y.fr = (j : Int)))
  unfold whoL at ca cb
  rw [e1, e2] at two
  have le1 := cP_mono (p := fun j => (a.c.any fun y => (selB a n y && !decide (y.fr = -1)) && decide (y.fr = (j : Int))) && b.c.any fun y => (selB b n y && !decide (y.fr = -1)) && decide (y.fr = (j : Int))) (q := fun j => bothB a.vw a.c b.c j && decide (j < n.toNat)) fun j hj h => by
    obtain ⟨k1, k2⟩ := agree_any pa pb hv ht (fun y q => by simp only [Bool.and_eq_true] at q; exact q.1) (fun y q => by simp only [Bool.and_eq_true] at q; exact q.1) h
    rw [k1, decide_eq_true (by omega)]; rfl
  have le2 := cP_mono (p := fun j => (a.c.any fun y => (selB a n y && !decide (y.fr = -1)) && decide (y.fr = (j : Int))) || b.c.any fun y => (selB b n y && !decide (y.fr = -1)) && decide (y.fr = (j : Int))) (q := fun j => decide ((j : Int) < n)) fun j hj h => by
    simp only [Bool.or_eq_true, List.any_eq_true, Bool.and_eq_true, decide_eq_true_eq] at h ⊢
    rcases h with ⟨y, hy, ⟨hs, _⟩, e⟩ | ⟨y, hy, ⟨hs, _⟩, e⟩
    · unfold selB at hs
      simp only [Bool.and_eq_true, decide_eq_true_eq] at hs
      omega
    · unfold selB at hs
      simp only [Bool.and_eq_true, decide_eq_true_eq] at hs
      omega
  have le3 := cP_lt n hn
  omega
theorem loop_s (m : Nat) (a b : So) (n : Int) (hm : 1000 < m) (ha : a.Ok m) (hb : b.Ok m) (hn : okN n = true) (hv : a.vw = b.vw) (ht : a.tm ≠ b.tm) : plenumlaw29_SlotAgree_r2 m ⟨[⟨1, ty_api_Slot, 0, SC a⟩, ⟨1, ty_api_Slot, 0, SC b⟩], [(2, nA n), (3, OP 0 0), (4, OP 1 0), (7, nA (fN n))]⟩ = some (bA true, []) := by
  have hn2 := okN_iff.1 hn
  have aw := awake29_s m hm
  rw [plenumlaw29_SlotAgree_r2_eq]
  refine iter_go (ι := {k : Nat // (k : Int) ≤ n}) (fun k => ⟨[⟨1, ty_api_Slot, 0, SC a⟩, ⟨1, ty_api_Slot, 0, SC b⟩], [(2, nA n), (3, OP 0 0), (4, OP 1 0), (7, nA (fN n)), (8, nA (manyB a.vw a.p b.p k.1)), (9, nA (manyB a.vw a.c b.c k.1)), (10, nA k.1)]⟩) (fun k => 20 - k.1) (fun _ => some (bA true, [])) ?_ ⟨0, by omega⟩ (by dsimp only; omega)
  rintro kx hkx ⟨k, hk⟩ kc hkc
  dsimp only at hkc ⊢
  rw [plenumlaw29_SlotAgree_b1_eq]
  by_cases hlt : (k : Int) < n
  · have step := hkc ⟨k + 1, by omega⟩ (by dsimp only; omega)
    dsimp only at step
    rw [many_succ, many_succ] at step
    obtain ⟨p1, p2, c1, c2, _⟩ := ha
    obtain ⟨q1, q2, d1, d2, _⟩ := hb
    have v1 := votesOf_s m a.p k p1 p2
    have v2 := votesOf_s m b.p k q1 q2
    have v3 := votesOf_s m a.c k c1 c2
    have v4 := votesOf_s m b.c k d1 d2
    have le1 := many_le a.vw a.p b.p k
    have le2 := many_le a.vw a.c b.c k
    have w1 : IntKind.i64.wrap ((manyB a.vw a.p b.p k : Int) + 1) = (manyB a.vw a.p b.p k : Int) + 1 := w_i64 (by omega) (by omega)
    have w2 : IntKind.i64.wrap ((manyB a.vw a.c b.c k : Int) + 1) = (manyB a.vw a.c b.c k : Int) + 1 := w_i64 (by omega) (by omega)
    have w3 : IntKind.i64.wrap ((k : Int) + 1) = (k : Int) + 1 := w_i64 (by omega) (by omega)
    have e3 : ((k + 1 : Nat) : Int) = (k : Int) + 1 := by omega
    rw [e3] at step
    have six : ∀ (t8 : Nat) (x y : Vo), t8 ≤ 20 → (t8 = manyB a.vw a.p b.p k + (if bothB a.vw a.p b.p k = true then 1 else 0)) → plenumlaw29_SlotAgree_r6 m 2 kc kx ⟨[⟨1, ty_api_Slot, 0, SC a⟩, ⟨1, ty_api_Slot, 0, SC b⟩, ⟨1, ty_api_Vote, 0, vC x⟩, ⟨1, ty_api_Vote, 0, vC y⟩], [(2, nA n), (3, OP 0 0), (4, OP 1 0), (7, nA (fN n)), (8, nA t8), (9, nA (manyB a.vw a.c b.c k)), (10, nA k), (11, OP 2 0), (13, OP 3 0)]⟩ = some (bA true, []) := by
      intro t8 x y _ ht8
      rw [← ht8] at step
      unfold bothB at step
      rw [plenumlaw29_SlotAgree_r6_eq]
      cases g1 : findV a.c k with
      | none =>
        rw [g1] at step v3
        rw [if_neg (by simp), Nat.add_zero] at step
        simp (config := {maxSteps := 4000000, implicitDefEqProofs := false}) (disch := omega) only [go_sem, ↓reduceIte, Nat.reduceAdd, Nat.reduceSub, Nat.reduceMul, Nat.reduceLeDiff, Nat.reduceLT, Int.reduceEq, Int.reduceNe, Int.reduceLT, Int.reduceLE, Int.reduceAdd, Int.reduceSub, Int.reduceMul, Int.reduceNeg, Int.reduceToNat, reduceCtorEq, Nat.reduceEqDiff, Nat.reduceBEq, Nat.reduceGT, v3, v4, w2, w3, Option.getD_none, Option.isSome_none, plenumlaw29_SlotAgree_r9_eq, plenumlaw29_SlotAgree_r10_eq, plenumlaw29_SlotAgree_r11_eq]
        exact step
      | some x1 =>
      rw [g1] at step v3
      cases g2 : findV b.c k with
      | none =>
        rw [g2] at step v4
        rw [if_neg (by simp), Nat.add_zero] at step
        simp (config := {maxSteps := 4000000, implicitDefEqProofs := false}) (disch := omega) only [go_sem, ↓reduceIte, Nat.reduceAdd, Nat.reduceSub, Nat.reduceMul, Nat.reduceLeDiff, Nat.reduceLT, Int.reduceEq, Int.reduceNe, Int.reduceLT, Int.reduceLE, Int.reduceAdd, Int.reduceSub, Int.reduceMul, Int.reduceNeg, Int.reduceToNat, reduceCtorEq, Nat.reduceEqDiff, Nat.reduceBEq, Nat.reduceGT, v3, v4, w2, w3, Option.getD_none, Option.isSome_none, Option.getD_some, plenumlaw29_SlotAgree_r9_eq, plenumlaw29_SlotAgree_r10_eq, plenumlaw29_SlotAgree_r11_eq]
        exact step
      | some x2 =>
      rw [g2] at step v4
      dsimp only at step
      by_cases r1 : x1 = x2
      · rw [if_neg (by simp [r1]), Nat.add_zero] at step
        subst r1
        simp (config := {maxSteps := 4000000, implicitDefEqProofs := false}) (disch := omega) only [go_sem, ↓reduceIte, Nat.reduceAdd, Nat.reduceSub, Nat.reduceMul, Nat.reduceLeDiff, Nat.reduceLT, Int.reduceEq, Int.reduceNe, Int.reduceLT, Int.reduceLE, Int.reduceAdd, Int.reduceSub, Int.reduceMul, Int.reduceNeg, Int.reduceToNat, reduceCtorEq, Nat.reduceEqDiff, Nat.reduceBEq, Nat.reduceGT, v3, v4, w2, w3, u_neVo, Option.getD_some, plenumlaw29_SlotAgree_r9_eq, plenumlaw29_SlotAgree_r10_eq, plenumlaw29_SlotAgree_r11_eq]
        exact step
      by_cases r2 : x1.vw = a.vw
      · by_cases r3 : x2.vw = a.vw
        · rw [if_pos (by simp [r1, r2, r3])] at step
          have e4 : ((manyB a.vw a.c b.c k + 1 : Nat) : Int) = (manyB a.vw a.c b.c k : Int) + 1 := by omega
          rw [e4] at step
          simp (config := {maxSteps := 4000000, implicitDefEqProofs := false}) (disch := omega) only [go_sem, ↓reduceIte, Nat.reduceAdd, Nat.reduceSub, Nat.reduceMul, Nat.reduceLeDiff, Nat.reduceLT, Int.reduceEq, Int.reduceNe, Int.reduceLT, Int.reduceLE, Int.reduceAdd, Int.reduceSub, Int.reduceMul, Int.reduceNeg, Int.reduceToNat, reduceCtorEq, Nat.reduceEqDiff, Nat.reduceBEq, Nat.reduceGT, v3, v4, w2, w3, u_neVo, r1, r2, r3, Option.getD_some, plenumlaw29_SlotAgree_r9_eq, plenumlaw29_SlotAgree_r10_eq, plenumlaw29_SlotAgree_r11_eq]
          exact step
        · rw [if_neg (by simp [r3]), Nat.add_zero] at step
          simp (config := {maxSteps := 4000000, implicitDefEqProofs := false}) (disch := omega) only [go_sem, ↓reduceIte, Nat.reduceAdd, Nat.reduceSub, Nat.reduceMul, Nat.reduceLeDiff, Nat.reduceLT, Int.reduceEq, Int.reduceNe, Int.reduceLT, Int.reduceLE, Int.reduceAdd, Int.reduceSub, Int.reduceMul, Int.reduceNeg, Int.reduceToNat, reduceCtorEq, Nat.reduceEqDiff, Nat.reduceBEq, Nat.reduceGT, v3, v4, w2, w3, u_neVo, r1, r2, r3, Option.getD_some, plenumlaw29_SlotAgree_r9_eq, plenumlaw29_SlotAgree_r10_eq, plenumlaw29_SlotAgree_r11_eq]
          exact step
      · rw [if_neg (by simp [r2]), Nat.add_zero] at step
        simp (config := {maxSteps := 4000000, implicitDefEqProofs := false}) (disch := omega) only [go_sem, ↓reduceIte, Nat.reduceAdd, Nat.reduceSub, Nat.reduceMul, Nat.reduceLeDiff, Nat.reduceLT, Int.reduceEq, Int.reduceNe, Int.reduceLT, Int.reduceLE, Int.reduceAdd, Int.reduceSub, Int.reduceMul, Int.reduceNeg, Int.reduceToNat, reduceCtorEq, Nat.reduceEqDiff, Nat.reduceBEq, Nat.reduceGT, v3, v4, w2, w3, u_neVo, r1, r2, Option.getD_some, plenumlaw29_SlotAgree_r9_eq, plenumlaw29_SlotAgree_r10_eq, plenumlaw29_SlotAgree_r11_eq]
        exact step
    have e5 : ((manyB a.vw a.p b.p k + 1 : Nat) : Int) = (manyB a.vw a.p b.p k : Int) + 1 := by omega
    clear step v3 v4
    unfold bothB at six
    cases g1 : findV a.p k with
    | none =>
      rw [g1] at six v1
      have := six _ Vo.zero ((findV b.p k).getD Vo.zero) (by dsimp only; rw [if_neg (by simp)]; omega) rfl
      dsimp only at this
      rw [if_neg (by simp), Nat.add_zero] at this
      simp (config := {maxSteps := 4000000, implicitDefEqProofs := false}) (disch := omega) only [go_sem, ↓reduceIte, Nat.reduceAdd, Nat.reduceSub, Nat.reduceMul, Nat.reduceLeDiff, Nat.reduceLT, Int.reduceEq, Int.reduceNe, Int.reduceLT, Int.reduceLE, Int.reduceAdd, Int.reduceSub, Int.reduceMul, Int.reduceNeg, Int.reduceToNat, reduceCtorEq, Nat.reduceEqDiff, Nat.reduceBEq, Nat.reduceGT, hlt, v1, v2, w1, this, vc_set0, Option.getD_none, Option.isSome_none, plenumlaw29_SlotAgree_r4_eq]
    | some x1 =>
    rw [g1] at six v1
    cases g2 : findV b.p k with
    | none =>
      rw [g2] at six v2
      have := six _ x1 Vo.zero (by dsimp only; rw [if_neg (by simp)]; omega) rfl
      dsimp only at this
      rw [if_neg (by simp), Nat.add_zero] at this
      simp (config := {maxSteps := 4000000, implicitDefEqProofs := false}) (disch := omega) only [go_sem, ↓reduceIte, Nat.reduceAdd, Nat.reduceSub, Nat.reduceMul, Nat.reduceLeDiff, Nat.reduceLT, Int.reduceEq, Int.reduceNe, Int.reduceLT, Int.reduceLE, Int.reduceAdd, Int.reduceSub, Int.reduceMul, Int.reduceNeg, Int.reduceToNat, reduceCtorEq, Nat.reduceEqDiff, Nat.reduceBEq, Nat.reduceGT, hlt, v1, v2, w1, this, vc_set0, Option.getD_none, Option.isSome_none, Option.getD_some, plenumlaw29_SlotAgree_r4_eq]
    | some x2 =>
    rw [g2] at six v2
    have this := six _ x1 x2 (by dsimp only; split <;> omega) rfl
    dsimp only at this
    by_cases r1 : x1 = x2
    · rw [if_neg (by simp [r1]), Nat.add_zero] at this
      subst r1
      simp (config := {maxSteps := 4000000, implicitDefEqProofs := false}) (disch := omega) only [go_sem, ↓reduceIte, Nat.reduceAdd, Nat.reduceSub, Nat.reduceMul, Nat.reduceLeDiff, Nat.reduceLT, Int.reduceEq, Int.reduceNe, Int.reduceLT, Int.reduceLE, Int.reduceAdd, Int.reduceSub, Int.reduceMul, Int.reduceNeg, Int.reduceToNat, reduceCtorEq, Nat.reduceEqDiff, Nat.reduceBEq, Nat.reduceGT, hlt, v1, v2, w1, this, vc_set0, u_neVo, Option.getD_some, plenumlaw29_SlotAgree_r4_eq]
    by_cases r2 : x1.vw = a.vw
    · by_cases r3 : x2.vw = a.vw
      · rw [if_pos (by simp [r1, r2, r3]), e5] at this
        simp (config := {maxSteps := 4000000, implicitDefEqProofs := false}) (disch := omega) only [go_sem, ↓reduceIte, Nat.reduceAdd, Nat.reduceSub, Nat.reduceMul, Nat.reduceLeDiff, Nat.reduceLT, Int.reduceEq, Int.reduceNe, Int.reduceLT, Int.reduceLE, Int.reduceAdd, Int.reduceSub, Int.reduceMul, Int.reduceNeg, Int.reduceToNat, reduceCtorEq, Nat.reduceEqDiff, Nat.reduceBEq, Nat.reduceGT, hlt, v1, v2, w1, this, vc_set0, u_neVo, r1, r2, r3, Option.getD_some, plenumlaw29_SlotAgree_r4_eq]
      · rw [if_neg (by simp [r3]), Nat.add_zero] at this
        simp (config := {maxSteps := 4000000, implicitDefEqProofs := false}) (disch := omega) only [go_sem, ↓reduceIte, Nat.reduceAdd, Nat.reduceSub, Nat.reduceMul, Nat.reduceLeDiff, Nat.reduceLT, Int.reduceEq, Int.reduceNe, Int.reduceLT, Int.reduceLE, Int.reduceAdd, Int.reduceSub, Int.reduceMul, Int.reduceNeg, Int.reduceToNat, reduceCtorEq, Nat.reduceEqDiff, Nat.reduceBEq, Nat.reduceGT, hlt, v1, v2, w1, this, vc_set0, u_neVo, r1, r2, r3, Option.getD_some, plenumlaw29_SlotAgree_r4_eq]
    · rw [if_neg (by simp [r2]), Nat.add_zero] at this
      simp (config := {maxSteps := 4000000, implicitDefEqProofs := false}) (disch := omega) only [go_sem, ↓reduceIte, Nat.reduceAdd, Nat.reduceSub, Nat.reduceMul, Nat.reduceLeDiff, Nat.reduceLT, Int.reduceEq, Int.reduceNe, Int.reduceLT, Int.reduceLE, Int.reduceAdd, Int.reduceSub, Int.reduceMul, Int.reduceNeg, Int.reduceToNat, reduceCtorEq, Nat.reduceEqDiff, Nat.reduceBEq, Nat.reduceGT, hlt, v1, v2, w1, this, vc_set0, u_neVo, r1, r2, Option.getD_some, plenumlaw29_SlotAgree_r4_eq]
  · have hkn : k = n.toNat := by omega
    have P := fun h1 h2 => agree_prep (a := a) (b := b) (n := n) h1 h2 hv ht
    have C := fun h1 h2 => agree_comm (a := a) (b := b) (n := n) h1 h2 hv ht
    rw [← hkn] at P C
    have a1 := prepared_s m a n ha
    have a2 := prepared_s m b n hb
    have a3 := committed_s m a n ha
    have a4 := committed_s m b n hb
    simp only [SE_it] at a1 a2 a3 a4
    cases c3 : commB a n with
    | false =>
      rw [c3] at a3
      cases c1 : prepB a n with
      | false => rw [c1] at a1; simp (config := {maxSteps := 4000000, implicitDefEqProofs := false}) (disch := omega) only [go_sem, ↓reduceIte, Nat.reduceAdd, Nat.reduceSub, Nat.reduceMul, Nat.reduceLeDiff, Nat.reduceLT, Int.reduceEq, Int.reduceNe, Int.reduceLT, Int.reduceLE, Int.reduceAdd, Int.reduceSub, Int.reduceMul, Int.reduceNeg, Int.reduceToNat, reduceCtorEq, Nat.reduceEqDiff, Nat.reduceBEq, Nat.reduceGT, hlt, hkx, a1, a2, a3, a4, aw, plenumlaw29_SlotAgree_r11_eq, plenumlaw29_SlotAgree_r10_eq, plenumlaw29_SlotAgree_r9_eq, plenumlaw29_SlotAgree_r8_eq, plenumlaw29_SlotAgree_r7_eq, plenumlaw29_SlotAgree_r6_eq, plenumlaw29_SlotAgree_r5_eq, plenumlaw29_SlotAgree_r4_eq, plenumlaw29_SlotAgree_r3_eq, plenumlaw29_SlotAgree_r2_eq, plenumlaw29_SlotAgree_r1_eq]
      | true =>
        rw [c1] at a1
        cases c2 : prepB b n with
        | false => rw [c2] at a2; simp (config := {maxSteps := 4000000, implicitDefEqProofs := false}) (disch := omega) only [go_sem, ↓reduceIte, Nat.reduceAdd, Nat.reduceSub, Nat.reduceMul, Nat.reduceLeDiff, Nat.reduceLT, Int.reduceEq, Int.reduceNe, Int.reduceLT, Int.reduceLE, Int.reduceAdd, Int.reduceSub, Int.reduceMul, Int.reduceNeg, Int.reduceToNat, reduceCtorEq, Nat.reduceEqDiff, Nat.reduceBEq, Nat.reduceGT, hlt, hkx, a1, a2, a3, a4, aw, plenumlaw29_SlotAgree_r11_eq, plenumlaw29_SlotAgree_r10_eq, plenumlaw29_SlotAgree_r9_eq, plenumlaw29_SlotAgree_r8_eq, plenumlaw29_SlotAgree_r7_eq, plenumlaw29_SlotAgree_r6_eq, plenumlaw29_SlotAgree_r5_eq, plenumlaw29_SlotAgree_r4_eq, plenumlaw29_SlotAgree_r3_eq, plenumlaw29_SlotAgree_r2_eq, plenumlaw29_SlotAgree_r1_eq]
        | true =>
          rw [c2] at a2
          have := P c1 c2
          have h8 : ¬ (manyB a.vw a.p b.p k : Int) < (fN n : Int) := by omega
          simp (config := {maxSteps := 4000000, implicitDefEqProofs := false}) (disch := omega) only [go_sem, ↓reduceIte, Nat.reduceAdd, Nat.reduceSub, Nat.reduceMul, Nat.reduceLeDiff, Nat.reduceLT, Int.reduceEq, Int.reduceNe, Int.reduceLT, Int.reduceLE, Int.reduceAdd, Int.reduceSub, Int.reduceMul, Int.reduceNeg, Int.reduceToNat, reduceCtorEq, Nat.reduceEqDiff, Nat.reduceBEq, Nat.reduceGT, hlt, hkx, a1, a2, a3, a4, h8, aw, plenumlaw29_SlotAgree_r11_eq, plenumlaw29_SlotAgree_r10_eq, plenumlaw29_SlotAgree_r9_eq, plenumlaw29_SlotAgree_r8_eq, plenumlaw29_SlotAgree_r7_eq, plenumlaw29_SlotAgree_r6_eq, plenumlaw29_SlotAgree_r5_eq, plenumlaw29_SlotAgree_r4_eq, plenumlaw29_SlotAgree_r3_eq, plenumlaw29_SlotAgree_r2_eq, plenumlaw29_SlotAgree_r1_eq]
    | true =>
      rw [c3] at a3
      have c1 : prepB a n = true := by unfold commB at c3; simp only [Bool.and_eq_true] at c3; exact c3.1
      rw [c1] at a1
      cases c4 : commB b n with
      | false =>
        rw [c4] at a4
        cases c2 : prepB b n with
        | false => rw [c2] at a2; simp (config := {maxSteps := 4000000, implicitDefEqProofs := false}) (disch := omega) only [go_sem, ↓reduceIte, Nat.reduceAdd, Nat.reduceSub, Nat.reduceMul, Nat.reduceLeDiff, Nat.reduceLT, Int.reduceEq, Int.reduceNe, Int.reduceLT, Int.reduceLE, Int.reduceAdd, Int.reduceSub, Int.reduceMul, Int.reduceNeg, Int.reduceToNat, reduceCtorEq, Nat.reduceEqDiff, Nat.reduceBEq, Nat.reduceGT, hlt, hkx, a1, a2, a3, a4, aw, plenumlaw29_SlotAgree_r11_eq, plenumlaw29_SlotAgree_r10_eq, plenumlaw29_SlotAgree_r9_eq, plenumlaw29_SlotAgree_r8_eq, plenumlaw29_SlotAgree_r7_eq, plenumlaw29_SlotAgree_r6_eq, plenumlaw29_SlotAgree_r5_eq, plenumlaw29_SlotAgree_r4_eq, plenumlaw29_SlotAgree_r3_eq, plenumlaw29_SlotAgree_r2_eq, plenumlaw29_SlotAgree_r1_eq]
        | true =>
          rw [c2] at a2
          have := P c1 c2
          have h8 : ¬ (manyB a.vw a.p b.p k : Int) < (fN n : Int) := by omega
          simp (config := {maxSteps := 4000000, implicitDefEqProofs := false}) (disch := omega) only [go_sem, ↓reduceIte, Nat.reduceAdd, Nat.reduceSub, Nat.reduceMul, Nat.reduceLeDiff, Nat.reduceLT, Int.reduceEq, Int.reduceNe, Int.reduceLT, Int.reduceLE, Int.reduceAdd, Int.reduceSub, Int.reduceMul, Int.reduceNeg, Int.reduceToNat, reduceCtorEq, Nat.reduceEqDiff, Nat.reduceBEq, Nat.reduceGT, hlt, hkx, a1, a2, a3, a4, h8, aw, plenumlaw29_SlotAgree_r11_eq, plenumlaw29_SlotAgree_r10_eq, plenumlaw29_SlotAgree_r9_eq, plenumlaw29_SlotAgree_r8_eq, plenumlaw29_SlotAgree_r7_eq, plenumlaw29_SlotAgree_r6_eq, plenumlaw29_SlotAgree_r5_eq, plenumlaw29_SlotAgree_r4_eq, plenumlaw29_SlotAgree_r3_eq, plenumlaw29_SlotAgree_r2_eq, plenumlaw29_SlotAgree_r1_eq]
      | true =>
        rw [c4] at a4
        have c2 : prepB b n = true := by unfold commB at c4; simp only [Bool.and_eq_true] at c4; exact c4.1
        rw [c2] at a2
        have := P c1 c2
        have h8 : ¬ (manyB a.vw a.p b.p k : Int) < (fN n : Int) := by omega
        have := C c3 c4
        have h9 : (fN n : Int) < (manyB a.vw a.c b.c k : Int) := by omega
        simp (config := {maxSteps := 4000000, implicitDefEqProofs := false}) (disch := omega) only [go_sem, ↓reduceIte, Nat.reduceAdd, Nat.reduceSub, Nat.reduceMul, Nat.reduceLeDiff, Nat.reduceLT, Int.reduceEq, Int.reduceNe, Int.reduceLT, Int.reduceLE, Int.reduceAdd, Int.reduceSub, Int.reduceMul, Int.reduceNeg, Int.reduceToNat, reduceCtorEq, Nat.reduceEqDiff, Nat.reduceBEq, Nat.reduceGT, hlt, hkx, a1, a2, a3, a4, h8, h9, aw, plenumlaw29_SlotAgree_r11_eq, plenumlaw29_SlotAgree_r10_eq, plenumlaw29_SlotAgree_r9_eq, plenumlaw29_SlotAgree_r8_eq, plenumlaw29_SlotAgree_r7_eq, plenumlaw29_SlotAgree_r6_eq, plenumlaw29_SlotAgree_r5_eq, plenumlaw29_SlotAgree_r4_eq, plenumlaw29_SlotAgree_r3_eq, plenumlaw29_SlotAgree_r2_eq, plenumlaw29_SlotAgree_r1_eq]
theorem agree_s (m : Nat) (a b : So) (n : Int) (hm : 1000 < m) (ha1 : a.body.length ≤ 9223372036854775807) (ha2 : a.p.length ≤ 9223372036854775807) (ha3 : a.c.length ≤ 9223372036854775807) (hb1 : b.body.length ≤ 9223372036854775807) (hb2 : b.p.length ≤ 9223372036854775807) (hb3 : b.c.length ≤ 9223372036854775807) : plenumlaw29_SlotAgree m (SE a) (SE b) (nA n) = some (bA true, []) := by
  have aw := awake29_s m hm
  have hFa := few_s m a ha1 ha2 ha3
  have hFb := few_s m b hb1 hb2 hb3
  have hoa := few_ok (m := m) a hm
  have hob := few_ok (m := m) b hm
  generalize fewS a = f at *
  generalize fewS b = g at *
  have hR := rfaults_s m n (by omega)
  rw [plenumlaw29_SlotAgree_eq]
  simp only [SE_it] at *
  cases hn : okN n with
  | false =>
    have h0 : (fN n : Int) = 0 := by unfold fN; rw [hn]; simp
    simp (config := {maxSteps := 4000000, implicitDefEqProofs := false}) (disch := omega) only [go_sem, ↓reduceIte, Nat.reduceAdd, Nat.reduceSub, Nat.reduceMul, Nat.reduceLeDiff, Nat.reduceLT, Int.reduceEq, Int.reduceNe, Int.reduceLT, Int.reduceLE, Int.reduceAdd, Int.reduceSub, Int.reduceMul, Int.reduceNeg, Int.reduceToNat, reduceCtorEq, Nat.reduceEqDiff, Nat.reduceBEq, Nat.reduceGT, hFa, hFb, hR, h0, aw, plenumlaw29_SlotAgree_r1_eq]
  | true =>
  have h0 : ¬ (fN n : Int) = 0 := by have := fN_pos.2 hn; omega
  by_cases hv : f.vw = g.vw
  · by_cases ht : f.tm = g.tm
    · simp (config := {maxSteps := 4000000, implicitDefEqProofs := false}) (disch := omega) only [go_sem, ↓reduceIte, Nat.reduceAdd, Nat.reduceSub, Nat.reduceMul, Nat.reduceLeDiff, Nat.reduceLT, Int.reduceEq, Int.reduceNe, Int.reduceLT, Int.reduceLE, Int.reduceAdd, Int.reduceSub, Int.reduceMul, Int.reduceNeg, Int.reduceToNat, reduceCtorEq, Nat.reduceEqDiff, Nat.reduceBEq, Nat.reduceGT, hFa, hFb, hR, h0, hv, ht, aw, plenumlaw29_SlotAgree_r1_eq]
    · have hl := loop_s m f g n hm hoa hob hn hv ht
      simp (config := {maxSteps := 4000000, implicitDefEqProofs := false}) (disch := omega) only [go_sem, ↓reduceIte, Nat.reduceAdd, Nat.reduceSub, Nat.reduceMul, Nat.reduceLeDiff, Nat.reduceLT, Int.reduceEq, Int.reduceNe, Int.reduceLT, Int.reduceLE, Int.reduceAdd, Int.reduceSub, Int.reduceMul, Int.reduceNeg, Int.reduceToNat, reduceCtorEq, Nat.reduceEqDiff, Nat.reduceBEq, Nat.reduceGT, hFa, hFb, hR, h0, hv, ht, hl, plenumlaw29_SlotAgree_r1_eq]
  · simp (config := {maxSteps := 4000000, implicitDefEqProofs := false}) (disch := omega) only [go_sem, ↓reduceIte, Nat.reduceAdd, Nat.reduceSub, Nat.reduceMul, Nat.reduceLeDiff, Nat.reduceLT, Int.reduceEq, Int.reduceNe, Int.reduceLT, Int.reduceLE, Int.reduceAdd, Int.reduceSub, Int.reduceMul, Int.reduceNeg, Int.reduceToNat, reduceCtorEq, Nat.reduceEqDiff, Nat.reduceBEq, Nat.reduceGT, hFa, hFb, hR, h0, hv, aw, plenumlaw29_SlotAgree_r1_eq]
end Go.Proofs.YtaaafkoeddgaaaaDoor

namespace Go.Proofs.YtaaafkoeddgaaaaDoor
open Go.RowKit
set_option linter.unusedVariables false
set_option linter.unusedSimpArgs false
set_option maxRecDepth 100000
theorem ofT_sd {n : Nat} {ds : List AV} (h : ofT Tryd.prog n 42 ds) : ∃ x : Sd, ds = sdC x ∧ x.v.In := by
  obtain ⟨m, a1, b1, rfl, h1, a2, b2, rfl, h2, rfl⟩ := ofT_struct Tryd.underlying42 h
  obtain ⟨f, rfl⟩ := ofT_bool Tryd.underlying4 h1
  obtain ⟨v, rfl, hv⟩ := ofT_vote h2
  exact ⟨⟨f, v⟩, rfl, hv⟩
theorem arg_sds {W : World} {v : Value} (h : Arg Tryd.prog W 40 v) : ∃ l : List Sd, (∀ x ∈ l, x.v.In) ∧ l.length ≤ maxLen ∧ rep (SW W) [] (SL (l.map sdE)) v := by
  obtain ⟨n, ds, h1, h2⟩ := h
  obtain ⟨m, es, rfl, hl, he⟩ := ofT_slice Tryd.underlying40 h1
  obtain ⟨l, rfl, hi⟩ := list_of (f := sdE) (Q := fun x => x.v.In) fun x hx => by
    obtain ⟨q1, q2⟩ := he x hx
    obtain ⟨y, hy, hi⟩ := ofT_sd q1
    exact ⟨y, by rw [cells_agg (q2.trans (by kernel_rfl)), hy]; rfl, hi⟩
  rw [mk_lone (by kernel_rfl)] at h2
  exact ⟨l, hi, by simpa using hl, h2⟩
theorem walk_SlotPlays (W : World) (hS : SigT W) (v0 : Value) (h0 : Arg Tryd.prog W 3 v0) (v1 : Value) (h1 : Arg Tryd.prog W 40 v1) :
    Calls Tryd.prog 4 #[v0, v1] W fun e W' => e = .returned (.bool true) ∧ Below W.heap.size W W' := by
  obtain ⟨n, hn, r0⟩ := arg_int h0
  obtain ⟨l, hl, hlen, r1⟩ := arg_sds h1
  exact run_tells (plenumlaw29_SlotPlays_ok 16000001 [_, _] _ _ (plays_s _ n l (by omega) (fun x hx => (hl x hx).2) hn.2 hlen)) (gok_sigT hS) (vs := [v0, v1]) rfl (reps2 r0 r1)
theorem walk_SlotAgree (W : World) (hS : SigT W) (v0 : Value) (h0 : Arg Tryd.prog W 24 v0) (v1 : Value) (h1 : Arg Tryd.prog W 24 v1) (v2 : Value) (h2 : Arg Tryd.prog W 3 v2) :
    Calls Tryd.prog 5 #[v0, v1, v2] W fun e W' => e = .returned (.bool true) ∧ Below W.heap.size W W' := by
  obtain ⟨a, ⟨a1, a2, a3⟩, r0⟩ := arg_slot h0
  obtain ⟨b, ⟨b1, b2, b3⟩, r1⟩ := arg_slot h1
  obtain ⟨n, _, r2⟩ := arg_int h2
  exact run_tells (plenumlaw29_SlotAgree_ok 16000001 [_, _, _] _ _ (agree_s _ a b n (by omega) a1 a2 a3 b1 b2 b3)) (gok_sigT hS) (vs := [v0, v1, v2]) rfl (reps3 r0 r1 r2)
end Go.Proofs.YtaaafkoeddgaaaaDoor
