/-
  Texts laid together, part 6 of 6: laws of a walk over data, contracts of functions, each whole by itself.
-/
import Derived.Test.YthmnhfabkllgpaaDoorMge
import Derived.Test.YthmnhfabkllgpaaDoorMgb
import Derived.ProofKit
import Derived.OpenShut
import Derived.ShutString
import Derived.ChangeOld
import Derived.Deep.Slices
namespace Go.Proofs.YthmnhfabkllgpaaDoor
open Go.RowKit
set_option linter.unusedVariables false
set_option maxRecDepth 100000
def ty_plenumlaw10_Other : TypeId := 54
noncomputable def TrunkReplacesA_c : Code := farC 2 (endC 0 ((Tryd.f5.body).getD .skip)) .skip
def TrunkReplacesA_h : Hint := (.two .n (.two .n .n))
noncomputable def TrunkReplacesA_env (m : Nat) : Env := [(7, .tell (plenumlaw10_Few_t m)), (19, .tell (plenumlaw10_items_t m))]
noncomputable abbrev TrunkReplacesA_fin (n0 : Nat) : KO (AV × List AObj) := nslFK [1, 3, 4]
noncomputable def TrunkReplacesA (m : Nat) (D : List Deferred) (t0 : AV) (H : List AObj) : RO := exec Tryd.prog GG (TrunkReplacesA_env m) m ⟨104, D⟩ TrunkReplacesA_c TrunkReplacesA_h ⟨H, [(0, t0)]⟩ (TrunkReplacesA_fin H.length)
theorem TrunkReplacesA_eq (m : Nat) (D : List Deferred) (t0 : AV) (H : List AObj) : TrunkReplacesA m D t0 H =
  boxE ty_plenumlaw10_Other H t0 fun t1 H2 =>
  fieldE (some (0, 34)) t1 fun t9 =>
  loadE 34 H2 t9 fun t10 =>
  tellE (plenumlaw10_Few_t m [(ro H2 t10)]) [(ro H2 t10)] fun t11 =>
  fieldE (some (34, 1)) t1 fun t12 =>
  loadE 1 H2 t12 fun t13 =>
  tellE (plenumlaw10_items_t m [(ro H2 t13)]) [(ro H2 t13)] fun t14 =>
  allocE (some zc_api_Trunk) ty_api_Trunk H2 fun t3 H3 =>
  storeE 34 H3 t3 t11 fun H4 =>
  some (TU [t1, t3, t14], H4) := by
  refine (nslX Tryd.prog GG (TrunkReplacesA_env m) m ⟨104, D⟩ TrunkReplacesA_c TrunkReplacesA_h ⟨H, [(0, t0)]⟩ [1, 3, 4]).trans ?_
  kernel_rfl
theorem TrunkReplacesA_hE (m : Nat) : EnvOk Tryd.prog GG (TrunkReplacesA_env m) := (by
    intro f e h
    simp only [TrunkReplacesA_env, Prod.mk.injEq, List.mem_cons, List.not_mem_nil, or_false] at h
    rcases h with ⟨rfl, rfl⟩ | ⟨rfl, rfl⟩
    · exact plenumlaw10_Few_ok m
    · exact plenumlaw10_items_ok m)
end Go.Proofs.YthmnhfabkllgpaaDoor

namespace Go.Proofs.YthmnhfabkllgpaaDoor
open Go.RowKit
set_option linter.unusedVariables false
set_option maxRecDepth 100000
noncomputable def TrunkReplacesB_c : Code := (endC 3 ((Tryd.f5.body).getD .skip))
def TrunkReplacesB_h : Hint := (.two .n (.join [1, 3, 4, 6, 7] (.two .n (.one (.lp [] [1, 3, 4, 5, 6, 7, 8] [1, 3, 4, 6, 7] (.two (.two .n (.two .n .n)) (.two (.one .n) .n))))) (.two (.two .n (.two (.two .n .n) .n)) (.join [1, 3, 4, 6, 7] (.join [1, 3, 4, 6, 7, 57] .n (.two (.two .n .n) .n)) (.two (.two .n (.two (.two .n .n) .n)) (.two .n (.two .n (.two .n .n))))))))
noncomputable def TrunkReplacesB_env (m : Nat) : Env := [(23, .keep (trunk_Replace_t m)), (12, .tell (plenumref10_May_t m)), (13, .tell (plenumlaw10_none_t m)), (14, .tell (plenumlaw10_awake_t m)), (24, .tell (plenumref10_Fits_t m)), (11, .tell (plenumref10_Same_t m))]
noncomputable abbrev TrunkReplacesB_fin (n0 : Nat) : KO (AV × List AObj) := rawFK Tryd.prog n0 [.tmp 2]
noncomputable def TrunkReplacesB_r3 (m : Nat) (D : List Deferred) (n0k : Nat) (s : ASt) : RO := joinW Tryd.prog GG (TrunkReplacesB_env m) m ⟨104, D⟩ (cdR (cdR (cdR (cdR TrunkReplacesB_c)))) TrunkReplacesB_h.r.r.r.r s (TrunkReplacesB_fin n0k)
noncomputable def TrunkReplacesB_r2 (m : Nat) (D : List Deferred) (n0k : Nat) (s : ASt) : RO := joinW Tryd.prog GG (TrunkReplacesB_env m) m ⟨104, D⟩ (cdR (cdL (cdR (cdR (cdR TrunkReplacesB_c))))) TrunkReplacesB_h.r.r.r.l.r s (seqX (fun s => TrunkReplacesB_r3 m D n0k ⟨s.H, [(1, gt s.T 1), (3, gt s.T 3), (4, gt s.T 4), (6, gt s.T 6), (7, gt s.T 7)]⟩) (TrunkReplacesB_fin n0k))
noncomputable def TrunkReplacesB_r1 (m : Nat) (D : List Deferred) (n0k : Nat) (s : ASt) : RO := joinW Tryd.prog GG (TrunkReplacesB_env m) m ⟨104, D⟩ (cdR (cdR TrunkReplacesB_c)) TrunkReplacesB_h.r.r s (TrunkReplacesB_fin n0k)
noncomputable def TrunkReplacesB_b1 (m : Nat) (D : List Deferred) (s : ASt) (kc : ASt → RO) (kx : KO (AV × List AObj)) : RO := bodyW Tryd.prog GG (TrunkReplacesB_env m) m ⟨104, D⟩ (cdL (cdL (cdR (cdL (cdR TrunkReplacesB_c))))) TrunkReplacesB_h.r.l.r.c.c [1, 3, 4, 5, 6, 7, 8] [1, 3, 4, 6, 7] s kc kx
noncomputable def TrunkReplacesB (m : Nat) (D : List Deferred) (t1 t3 t4 t5 : AV) (H : List AObj) : RO := exec Tryd.prog GG (TrunkReplacesB_env m) m ⟨104, D⟩ TrunkReplacesB_c TrunkReplacesB_h ⟨H, [(1, t1), (3, t3), (4, t4), (5, t5)]⟩ (TrunkReplacesB_fin H.length)
theorem TrunkReplacesB_r3_eq (m : Nat) (D : List Deferred) (n0k : Nat) (H : List AObj) (t1 t3 t4 t6 t7 : AV) : TrunkReplacesB_r3 m D n0k ⟨H, [(1, t1), (3, t3), (4, t4), (6, t6), (7, t7)]⟩ =
  fieldE (some (32, 1)) t1 fun t67 =>
  loadE 1 H t67 fun t68 =>
  fieldE (some (33, 1)) t1 fun t70 =>
  loadE 1 H t70 fun t71 =>
  tellE (plenumref10_Fits m (ro H t68) (ro H t4) (ro H t71)) [(ro H t68), (ro H t4), (ro H t71)] fun t72 =>
  unE .not t72 fun t73 =>
  condE t73 (
   loadE 34 H t6 fun t74 =>
   tellE (plenumlaw10_none m (ro H t74)) [(ro H t74)] fun t75 =>
   condE t75 (
    binE none false false .eql t7 (V (.int .i64 1)) fun t78 =>
    condE t78 (
    tellE (plenumlaw10_awake m) [] fun t81 =>
    some (ro H t81, H)) (
    some (ro H (V (.bool false)), H))) (
    some (ro H (V (.bool false)), H))) (
   fieldE (some (32, 1)) t1 fun t83 =>
   loadE 1 H t83 fun t84 =>
   fieldE (some (0, 18)) t3 fun t86 =>
   idxPE 16 1 t86 t84 fun t87 =>
   storeE 1 H t87 t4 fun H2 =>
   fieldE (some (32, 1)) t1 fun t88 =>
   loadE 1 H2 t88 fun t89 =>
   fieldE (some (33, 1)) t1 fun t90 =>
   loadE 1 H2 t90 fun t91 =>
   fieldE (some (16, 18)) t3 fun t92 =>
   idxPE 16 1 t92 t89 fun t93 =>
   storeE 1 H2 t93 t91 fun H3 =>
   loadE 34 H3 t6 fun t94 =>
   loadE 34 H3 t3 fun t95 =>
   tellE (plenumref10_Same m (ro H3 t94) (ro H3 t95)) [(ro H3 t94), (ro H3 t95)] fun t96 =>
   condE t96 (
    binE none false false .eql t7 (V (.int .i64 0)) fun t99 =>
    condE t99 (
    tellE (plenumlaw10_awake m) [] fun t102 =>
    some (ro H3 t102, H3)) (
    some (ro H3 (V (.bool false)), H3))) (
    some (ro H3 (V (.bool false)), H3))) := by
  refine (joinW_eq Tryd.prog GG (TrunkReplacesB_env m) m ⟨104, D⟩ (cdR (cdR (cdR (cdR TrunkReplacesB_c)))) TrunkReplacesB_h.r.r.r.r ⟨H, [(1, t1), (3, t3), (4, t4), (6, t6), (7, t7)]⟩ (TrunkReplacesB_fin n0k)).trans ?_
  kernel_rfl
theorem TrunkReplacesB_r2_eq (m : Nat) (D : List Deferred) (n0k : Nat) (H : List AObj) (t1 t3 t4 t6 t7 t57 : AV) : TrunkReplacesB_r2 m D n0k ⟨H, [(1, t1), (3, t3), (4, t4), (6, t6), (7, t7), (57, t57)]⟩ =
  condE t57 (
   loadE 34 H t6 fun t58 =>
   tellE (plenumlaw10_none m (ro H t58)) [(ro H t58)] fun t59 =>
   condE t59 (
    binE none false false .eql t7 (V (.int .i64 4)) fun t62 =>
    condE t62 (
    tellE (plenumlaw10_awake m) [] fun t65 =>
    some (ro H t65, H)) (
    some (ro H (V (.bool false)), H))) (
    some (ro H (V (.bool false)), H))) (
   TrunkReplacesB_r3 m D n0k ⟨H, [(1, t1), (3, t3), (4, t4), (6, t6), (7, t7)]⟩) := by
  refine (joinW_eq Tryd.prog GG (TrunkReplacesB_env m) m ⟨104, D⟩ (cdR (cdL (cdR (cdR (cdR TrunkReplacesB_c))))) TrunkReplacesB_h.r.r.r.l.r ⟨H, [(1, t1), (3, t3), (4, t4), (6, t6), (7, t7), (57, t57)]⟩ (seqX (fun s => TrunkReplacesB_r3 m D n0k ⟨s.H, [(1, gt s.T 1), (3, gt s.T 3), (4, gt s.T 4), (6, gt s.T 6), (7, gt s.T 7)]⟩) (TrunkReplacesB_fin n0k))).trans ?_
  kernel_rfl
theorem TrunkReplacesB_r1_eq (m : Nat) (D : List Deferred) (n0k : Nat) (H : List AObj) (t1 t3 t4 t6 t7 : AV) : TrunkReplacesB_r1 m D n0k ⟨H, [(1, t1), (3, t3), (4, t4), (6, t6), (7, t7)]⟩ =
  loadE 34 H t3 fun t38 =>
  tellE (plenumref10_May m (ro H t38)) [(ro H t38)] fun t39 =>
  unE .not t39 fun t40 =>
  condE t40 (
   loadE 34 H t6 fun t41 =>
   tellE (plenumlaw10_none m (ro H t41)) [(ro H t41)] fun t42 =>
   condE t42 (
    binE none false false .eql t7 (V (.int .i64 1)) fun t45 =>
    condE t45 (
    tellE (plenumlaw10_awake m) [] fun t48 =>
    some (ro H t48, H)) (
    some (ro H (V (.bool false)), H))) (
    some (ro H (V (.bool false)), H))) (
   fieldE (some (32, 1)) t1 fun t50 =>
   loadE 1 H t50 fun t51 =>
   binE none false false .lss t51 (V (.int .i64 0)) fun t52 =>
   condE t52 (
    TrunkReplacesB_r2 m D n0k ⟨H, [(1, t1), (3, t3), (4, t4), (6, t6), (7, t7), (57, (V (.bool true)))]⟩) (
    fieldE (some (32, 1)) t1 fun t54 =>
    loadE 1 H t54 fun t55 =>
    binE none false false .gtr t55 (V (.int .i64 15)) fun t56 =>
    TrunkReplacesB_r2 m D n0k ⟨H, [(1, t1), (3, t3), (4, t4), (6, t6), (7, t7), (57, t56)]⟩)) := by
  refine (joinW_eq Tryd.prog GG (TrunkReplacesB_env m) m ⟨104, D⟩ (cdR (cdR TrunkReplacesB_c)) TrunkReplacesB_h.r.r ⟨H, [(1, t1), (3, t3), (4, t4), (6, t6), (7, t7)]⟩ (TrunkReplacesB_fin n0k)).trans ?_
  kernel_rfl
theorem TrunkReplacesB_b1_eq (m : Nat) (D : List Deferred) (H : List AObj) (t1 t3 t4 t5 t6 t7 t8 : AV) (kc : ASt → RO) (kx : KO (AV × List AObj)) : TrunkReplacesB_b1 m D ⟨H, [(1, t1), (3, t3), (4, t4), (5, t5), (6, t6), (7, t7), (8, t8)]⟩ kc kx =
  lenE false true H t5 fun t30 =>
  binE none false false .lss t8 t30 fun t31 =>
  condE t31 (
   buildE (some pl_api_Item) (some zc_api_Item) [(2, (V (.int .i64 (-1))))] fun t36 =>
   idxSE 7 H t5 t8 fun t37 =>
   storeE 7 H t37 t36 fun H2 =>
   binE none false false .add t8 (V (.int .i64 1)) fun t33 =>
   backE H.length H2 [(1, t1), (3, t3), (4, t4), (5, t5), (6, t6), (7, t7), (8, t33)] kc) (
   kx (.exit 0) ⟨H, [(1, t1), (3, t3), (4, t4), (6, t6), (7, t7)]⟩) := by
  refine (bodyW_eq Tryd.prog GG (TrunkReplacesB_env m) m ⟨104, D⟩ (cdL (cdL (cdR (cdL (cdR TrunkReplacesB_c))))) TrunkReplacesB_h.r.l.r.c.c [1, 3, 4, 5, 6, 7, 8] [1, 3, 4, 6, 7] ⟨H, [(1, t1), (3, t3), (4, t4), (5, t5), (6, t6), (7, t7), (8, t8)]⟩ kc kx).trans ?_
  kernel_rfl
theorem TrunkReplacesB_eq (m : Nat) (D : List Deferred) (t1 t3 t4 t5 : AV) (H : List AObj) : TrunkReplacesB m D t1 t3 t4 t5 H =
  loadE 34 H t3 fun t19 =>
  fieldE (some (32, 1)) t1 fun t20 =>
  loadE 1 H t20 fun t21 =>
  fieldE (some (33, 1)) t1 fun t23 =>
  loadE 1 H t23 fun t24 =>
  keepE (trunk_Replace m (ro H t19) (ro H t21) (ro H t5) (ro H t24) H) fun t25 H2 =>
  extE t25 0 fun t26 =>
  extE t25 1 fun t27 =>
  allocE (some zc_api_Trunk) ty_api_Trunk H2 fun t6 H3 =>
  storeE 34 H3 t6 t26 fun H4 =>
  iterC m (TrunkReplacesB_b1 m D) ⟨H4, [(1, t1), (3, t3), (4, t4), (5, t5), (6, t6), (7, t27), (8, (V (.int .i64 0)))]⟩ (blockX 0 (seqX (fun s => TrunkReplacesB_r1 m D H.length ⟨s.H, [(1, gt s.T 1), (3, gt s.T 3), (4, gt s.T 4), (6, gt s.T 6), (7, gt s.T 7)]⟩) (TrunkReplacesB_fin H.length))) := by
  refine (rawX Tryd.prog GG (TrunkReplacesB_env m) m ⟨104, D⟩ H.length TrunkReplacesB_c TrunkReplacesB_h ⟨H, [(1, t1), (3, t3), (4, t4), (5, t5)]⟩ [.tmp 2]).trans ?_
  kernel_rfl
theorem TrunkReplacesB_hE (m : Nat) : EnvOk Tryd.prog GG (TrunkReplacesB_env m) := (by
    intro f e h
    simp only [TrunkReplacesB_env, Prod.mk.injEq, List.mem_cons, List.not_mem_nil, or_false] at h
    rcases h with ⟨rfl, rfl⟩ | ⟨rfl, rfl⟩ | ⟨rfl, rfl⟩ | ⟨rfl, rfl⟩ | ⟨rfl, rfl⟩ | ⟨rfl, rfl⟩
    · exact trunk_Replace_ok m
    · exact plenumref10_May_ok m
    · exact plenumlaw10_none_ok m
    · exact plenumlaw10_awake_ok m
    · exact plenumref10_Fits_ok m
    · exact plenumref10_Same_ok m)
end Go.Proofs.YthmnhfabkllgpaaDoor

namespace Go.Proofs.YthmnhfabkllgpaaDoor
open Go.RowKit
set_option linter.unusedVariables false
set_option linter.unusedSimpArgs false
set_option maxRecDepth 20000
def oC (t : Tr) (b v : Int) (l : List Item) : List AV := tC t ++ [nA b, nA v, SL (l.map (flA Item.cells))]
section
variable {R : Type} {K : AV → Option R} {t : Tr} {b v : Int} {l : List Item} {n : Nat} {H : List AObj}
theorem oC_len : (oC t b v l).length = 35 := by simp [oC, tC_len]
theorem oC_take : (oC t b v l).take 32 = tC t := by unfold oC; rw [List.take_append_of_le_length (by rw [tC_len]; omega)]; exact List.take_of_length_le (by rw [tC_len]; omega)
theorem oC_32 : nthE (oC t b v l) 32 K = K (nA b) := by
  show (match (oC t b v l)[32]? with | some d => K d | none => none) = _
  unfold oC
  rw [List.getElem?_append_right (by rw [tC_len]; omega), tC_len]
  rfl
theorem oC_33 : nthE (oC t b v l) 33 K = K (nA v) := by
  show (match (oC t b v l)[33]? with | some d => K d | none => none) = _
  unfold oC
  rw [List.getElem?_append_right (by rw [tC_len]; omega), tC_len]
  rfl
theorem oC_34 : nthE (oC t b v l) 34 K = K (SL (l.map (flA Item.cells))) := by
  show (match (oC t b v l)[34]? with | some d => K d | none => none) = _
  unfold oC
  rw [List.getElem?_append_right (by rw [tC_len]; omega), tC_len]
  rfl
theorem oC_sure : (oC t b v l).all sure = true := by unfold oC; rw [List.all_append, tC_sure]; rfl
theorem oC_ltA : (oC t b v l).all (ltA n) = true := by unfold oC; rw [List.all_append, tC_ltA]; rfl
end
theorem replacesA_s (m : Nat) (D : List Deferred) (t : Tr) (b v : Int) (l : List Item) (ht : ∀ i, (t.leaf i).length ≤ maxLen) (hl : l.length ≤ maxLen) : TrunkReplacesA m D (.agg (oC t b v l)) [] = some (TU [OP 0 0, OP 1 0, lA (fewL l)], [⟨1, ty_plenumlaw10_Other, 0, oC t b v l⟩, ⟨1, ty_api_Trunk, 0, tC (fewT t 16)⟩]) := by
  have h1 := plenumlaw10_Few_e m t ht
  have h2 := plenumlaw10_items_e m l hl
  rw [tA_def, tA_def] at h1
  rw [lA_def, lA_def] at h2
  rw [TrunkReplacesA_eq, lA_def]
  simp (config := {maxSteps := 4000000, implicitDefEqProofs := false}) (disch := omega) only [go_sem, ↓reduceIte, Nat.reduceAdd, Nat.reduceSub, Nat.reduceMul, Nat.reduceLeDiff, Nat.reduceLT, Int.reduceEq, Int.reduceNe, Int.reduceLT, Int.reduceLE, Int.reduceAdd, Int.reduceSub, Int.reduceMul, Int.reduceNeg, Nat.zero_add, Nat.add_zero, Nat.mul_one, Int.toNat_natCast, Int.natCast_zero, Int.cast_ofNat_Int, or_false, false_or, or_true, true_or, Int.reduceToNat, Nat.sub_zero, Int.natCast_nonneg, Int.toNat_zero, Bool.true_and, Bool.and_true, Bool.false_and, Bool.and_false, Bool.true_or, Bool.or_true, Bool.false_or, Bool.or_false, Bool.not_true, Bool.not_false, Bool.not_not, true_and, and_true, false_and, and_false, not_true_eq_false, not_false_eq_true, eq_self, decide_true, decide_false, ne_eq, implies_true, forall_const, true_implies, false_implies, Bool.true_eq_false, Bool.false_eq_true, reduceCtorEq, List.map_cons, List.map_nil, List.all_cons, List.all_nil, List.length_cons, List.length_nil, List.length_map, List.length_append, List.nil_append, List.cons_append, List.set_cons_zero, List.set_cons_succ, List.set_nil, List.drop_zero, List.drop_succ_cons, List.drop_nil, List.take_zero, List.take_succ_cons, List.take_nil, Option.map_some, Option.map_none, Option.isSome_some, Nat.reduceEqDiff, Nat.reduceBEq, Nat.reduceGT, List.all_append, List.all_map, Function.comp_def, decide_eq_true_eq, Bool.and_eq_true, beq_self_eq_true, or_self, and_self, ite_true, ite_false, Nat.le_refl, Bool.not_eq_true, decide_not, Bool.not_eq_true', decide_eq_false_iff_not, Bool.not_eq_false, Bool.or_eq_true, if_true, if_false, ite_self, u_roF, u_cvF, u_cvC, u_ceT, u_ceK, u_appS, tC_len, tC_sure, tC_ltA, tC_lt1, tC_ro, tC_take, tC_all1, zcT_eq, zcI_len, zC_len, zC_ltA, zC_lt1, zC_sure, zC_ro, zC_take, set_tl, set_tv, sc_tt, sc_zt, sc_tz, sc_zz, add16, tA_def, lA_def, natInt, u_tl, u_tv, oC_sure, oC_take, oC_34, oC_len, h1, h2]
theorem fewL_len (l : List Item) : (fewL l).length ≤ 66 := by unfold fewL; rw [List.length_map, List.length_take]; exact Nat.min_le_left ..
theorem fewL_key {l : List Item} : ∀ x ∈ fewL l, x.key.length ≤ maxLen := by
  intro x hx
  unfold fewL at hx
  obtain ⟨y, _, rfl⟩ := List.mem_map.1 hx
  exact keyB_max (by unfold Item.one; simp; omega)
theorem set_len {t : Tr} {n : Nat} {k : List Item} {v : Int} (ht : t.Ok) (hk : k.length ≤ 34359738368) : ∀ i, (((t.setL n k).setV n v).leaf i).length ≤ 34359738368 := by
  intro i
  simp only [Tr.setL, Tr.setV]
  split
  · exact hk
  · exact ht.len2 i
theorem zero_len : ∀ i, (Tr.zero.leaf i).length ≤ 34359738368 := fun i => Nat.zero_le _
abbrev hE (t u y : Tr) (b v : Int) (l r : List Item) : List AObj := [⟨1, ty_plenumlaw10_Other, 0, oC t b v l⟩, ⟨1, ty_api_Trunk, 0, tC u⟩, ⟨4, 30, 5, r.map (flA Item.cells)⟩, ⟨1, ty_api_Trunk, 0, tC y⟩]
theorem replacesB_m (m : Nat) (D : List Deferred) (n0 : Nat) (t u : Tr) (b v : Int) (l k r : List Item) (hm : 1000000 < m) (hu : u.Ok) (hk : k.length ≤ 66) (hq : ∀ x ∈ k, x.key.length ≤ maxLen) :
    (TrunkReplacesB_r1 m D n0 ⟨hE t u (repT u b k v).1 b v l r, [(1, OP 0 0), (3, OP 1 0), (4, lA k), (6, OP 3 0), (7, nA (repT u b k v).2)]⟩).map Prod.fst = some (bA true) := by
  have hA := awake_s m
  have h1 := rmay10_s m u hm hu
  have h2 := rfits_s m b k v (by omega) (by omega) hq
  have h3 := rnone_s m Tr.zero (by omega) zero_len
  rw [sameT_self] at h3
  rw [tA_def] at h1 h3
  rw [lA_def] at h2
  rw [TrunkReplacesB_r1_eq, lA_def]
  unfold hE
  cases hmay : mayT u with
  | false =>
    have e1 : repT u b k v = (Tr.zero, 1) := by unfold repT; rw [if_pos hmay]
    rw [hmay] at h1
    rw [e1]
    simp (config := {maxSteps := 4000000, implicitDefEqProofs := false}) (disch := omega) only [go_sem, ↓reduceIte, Nat.reduceAdd, Nat.reduceSub, Nat.reduceMul, Nat.reduceLeDiff, Nat.reduceLT, Int.reduceEq, Int.reduceNe, Int.reduceLT, Int.reduceLE, Int.reduceAdd, Int.reduceSub, Int.reduceMul, Int.reduceNeg, Nat.zero_add, Nat.add_zero, Nat.mul_one, Int.toNat_natCast, Int.natCast_zero, Int.cast_ofNat_Int, or_false, false_or, or_true, true_or, Int.reduceToNat, Nat.sub_zero, Int.natCast_nonneg, Int.toNat_zero, Bool.true_and, Bool.and_true, Bool.false_and, Bool.and_false, Bool.true_or, Bool.or_true, Bool.false_or, Bool.or_false, Bool.not_true, Bool.not_false, Bool.not_not, true_and, and_true, false_and, and_false, not_true_eq_false, not_false_eq_true, eq_self, decide_true, decide_false, ne_eq, implies_true, forall_const, true_implies, false_implies, Bool.true_eq_false, Bool.false_eq_true, reduceCtorEq, List.map_cons, List.map_nil, List.all_cons, List.all_nil, List.length_cons, List.length_nil, List.length_map, List.length_append, List.nil_append, List.cons_append, List.set_cons_zero, List.set_cons_succ, List.set_nil, List.drop_zero, List.drop_succ_cons, List.drop_nil, List.take_zero, List.take_succ_cons, List.take_nil, Option.map_some, Option.map_none, Option.isSome_some, Nat.reduceEqDiff, Nat.reduceBEq, Nat.reduceGT, List.all_append, List.all_map, Function.comp_def, decide_eq_true_eq, Bool.and_eq_true, beq_self_eq_true, or_self, and_self, ite_true, ite_false, Nat.le_refl, Bool.not_eq_true, decide_not, Bool.not_eq_true', decide_eq_false_iff_not, Bool.not_eq_false, Bool.or_eq_true, if_true, if_false, ite_self, u_roF, u_cvF, u_cvC, u_ceT, u_ceK, u_appS, tC_len, tC_sure, tC_ltA, tC_lt1, tC_ro, tC_take, tC_all1, zcT_eq, zcI_len, zC_len, zC_ltA, zC_lt1, zC_sure, zC_ro, zC_take, set_tl, set_tv, sc_tt, sc_zt, sc_tz, sc_zz, add16, tA_def, lA_def, natInt, u_tl, u_tv, hA, h1, h3]
  | true =>
    rw [hmay] at h1
    by_cases hb : b < 0 ∨ 16 ≤ b
    · have e1 : repT u b k v = (Tr.zero, 4) := by unfold repT; rw [if_neg (by rw [hmay]; decide), if_pos hb]
      rw [e1]
      rcases hb with hb | hb
      · simp (config := {maxSteps := 4000000, implicitDefEqProofs := false}) (disch := omega) only [go_sem, ↓reduceIte, Nat.reduceAdd, Nat.reduceSub, Nat.reduceMul, Nat.reduceLeDiff, Nat.reduceLT, Int.reduceEq, Int.reduceNe, Int.reduceLT, Int.reduceLE, Int.reduceAdd, Int.reduceSub, Int.reduceMul, Int.reduceNeg, Nat.zero_add, Nat.add_zero, Nat.mul_one, Int.toNat_natCast, Int.natCast_zero, Int.cast_ofNat_Int, or_false, false_or, or_true, true_or, Int.reduceToNat, Nat.sub_zero, Int.natCast_nonneg, Int.toNat_zero, Bool.true_and, Bool.and_true, Bool.false_and, Bool.and_false, Bool.true_or, Bool.or_true, Bool.false_or, Bool.or_false, Bool.not_true, Bool.not_false, Bool.not_not, true_and, and_true, false_and, and_false, not_true_eq_false, not_false_eq_true, eq_self, decide_true, decide_false, ne_eq, implies_true, forall_const, true_implies, false_implies, Bool.true_eq_false, Bool.false_eq_true, reduceCtorEq, List.map_cons, List.map_nil, List.all_cons, List.all_nil, List.length_cons, List.length_nil, List.length_map, List.length_append, List.nil_append, List.cons_append, List.set_cons_zero, List.set_cons_succ, List.set_nil, List.drop_zero, List.drop_succ_cons, List.drop_nil, List.take_zero, List.take_succ_cons, List.take_nil, Option.map_some, Option.map_none, Option.isSome_some, Nat.reduceEqDiff, Nat.reduceBEq, Nat.reduceGT, List.all_append, List.all_map, Function.comp_def, decide_eq_true_eq, Bool.and_eq_true, beq_self_eq_true, or_self, and_self, ite_true, ite_false, Nat.le_refl, Bool.not_eq_true, decide_not, Bool.not_eq_true', decide_eq_false_iff_not, Bool.not_eq_false, Bool.or_eq_true, if_true, if_false, ite_self, u_roF, u_cvF, u_cvC, u_ceT, u_ceK, u_appS, tC_len, tC_sure, tC_ltA, tC_lt1, tC_ro, tC_take, tC_all1, zcT_eq, zcI_len, zC_len, zC_ltA, zC_lt1, zC_sure, zC_ro, zC_take, set_tl, set_tv, sc_tt, sc_zt, sc_tz, sc_zz, add16, tA_def, lA_def, natInt, u_tl, u_tv, hA, h1, h3, oC_32, hb, TrunkReplacesB_r3_eq, TrunkReplacesB_r2_eq, TrunkReplacesB_r1_eq]
      · have hb' : ¬ b < 0 := by omega
        have hb2 : b > 15 := by omega
        simp (config := {maxSteps := 4000000, implicitDefEqProofs := false}) (disch := omega) only [go_sem, ↓reduceIte, Nat.reduceAdd, Nat.reduceSub, Nat.reduceMul, Nat.reduceLeDiff, Nat.reduceLT, Int.reduceEq, Int.reduceNe, Int.reduceLT, Int.reduceLE, Int.reduceAdd, Int.reduceSub, Int.reduceMul, Int.reduceNeg, Nat.zero_add, Nat.add_zero, Nat.mul_one, Int.toNat_natCast, Int.natCast_zero, Int.cast_ofNat_Int, or_false, false_or, or_true, true_or, Int.reduceToNat, Nat.sub_zero, Int.natCast_nonneg, Int.toNat_zero, Bool.true_and, Bool.and_true, Bool.false_and, Bool.and_false, Bool.true_or, Bool.or_true, Bool.false_or, Bool.or_false, Bool.not_true, Bool.not_false, Bool.not_not, true_and, and_true, false_and, and_false, not_true_eq_false, not_false_eq_true, eq_self, decide_true, decide_false, ne_eq, implies_true, forall_const, true_implies, false_implies, Bool.true_eq_false, Bool.false_eq_true, reduceCtorEq, List.map_cons, List.map_nil, List.all_cons, List.all_nil, List.length_cons, List.length_nil, List.length_map, List.length_append, List.nil_append, List.cons_append, List.set_cons_zero, List.set_cons_succ, List.set_nil, List.drop_zero, List.drop_succ_cons, List.drop_nil, List.take_zero, List.take_succ_cons, List.take_nil, Option.map_some, Option.map_none, Option.isSome_some, Nat.reduceEqDiff, Nat.reduceBEq, Nat.reduceGT, List.all_append, List.all_map, Function.comp_def, decide_eq_true_eq, Bool.and_eq_true, beq_self_eq_true, or_self, and_self, ite_true, ite_false, Nat.le_refl, Bool.not_eq_true, decide_not, Bool.not_eq_true', decide_eq_false_iff_not, Bool.not_eq_false, Bool.or_eq_true, if_true, if_false, ite_self, u_roF, u_cvF, u_cvC, u_ceT, u_ceK, u_appS, tC_len, tC_sure, tC_ltA, tC_lt1, tC_ro, tC_take, tC_all1, zcT_eq, zcI_len, zC_len, zC_ltA, zC_lt1, zC_sure, zC_ro, zC_take, set_tl, set_tv, sc_tt, sc_zt, sc_tz, sc_zz, add16, tA_def, lA_def, natInt, u_tl, u_tv, hA, h1, h3, oC_32, hb2, hb', TrunkReplacesB_r3_eq, TrunkReplacesB_r2_eq, TrunkReplacesB_r1_eq]
    · have hb0 : ¬ b < 0 := by omega
      have hb1 : ¬ b > 15 := by omega
      cases hf : fitsB b k v with
      | false =>
        rw [hf] at h2
        have e1 : repT u b k v = (Tr.zero, 1) := by unfold repT; rw [if_neg (by rw [hmay]; decide), if_neg hb, if_pos hf]
        rw [e1]
        simp (config := {maxSteps := 4000000, implicitDefEqProofs := false}) (disch := omega) only [go_sem, ↓reduceIte, Nat.reduceAdd, Nat.reduceSub, Nat.reduceMul, Nat.reduceLeDiff, Nat.reduceLT, Int.reduceEq, Int.reduceNe, Int.reduceLT, Int.reduceLE, Int.reduceAdd, Int.reduceSub, Int.reduceMul, Int.reduceNeg, Nat.zero_add, Nat.add_zero, Nat.mul_one, Int.toNat_natCast, Int.natCast_zero, Int.cast_ofNat_Int, or_false, false_or, or_true, true_or, Int.reduceToNat, Nat.sub_zero, Int.natCast_nonneg, Int.toNat_zero, Bool.true_and, Bool.and_true, Bool.false_and, Bool.and_false, Bool.true_or, Bool.or_true, Bool.false_or, Bool.or_false, Bool.not_true, Bool.not_false, Bool.not_not, true_and, and_true, false_and, and_false, not_true_eq_false, not_false_eq_true, eq_self, decide_true, decide_false, ne_eq, implies_true, forall_const, true_implies, false_implies, Bool.true_eq_false, Bool.false_eq_true, reduceCtorEq, List.map_cons, List.map_nil, List.all_cons, List.all_nil, List.length_cons, List.length_nil, List.length_map, List.length_append, List.nil_append, List.cons_append, List.set_cons_zero, List.set_cons_succ, List.set_nil, List.drop_zero, List.drop_succ_cons, List.drop_nil, List.take_zero, List.take_succ_cons, List.take_nil, Option.map_some, Option.map_none, Option.isSome_some, Nat.reduceEqDiff, Nat.reduceBEq, Nat.reduceGT, List.all_append, List.all_map, Function.comp_def, decide_eq_true_eq, Bool.and_eq_true, beq_self_eq_true, or_self, and_self, ite_true, ite_false, Nat.le_refl, Bool.not_eq_true, decide_not, Bool.not_eq_true', decide_eq_false_iff_not, Bool.not_eq_false, Bool.or_eq_true, if_true, if_false, ite_self, u_roF, u_cvF, u_cvC, u_ceT, u_ceK, u_appS, tC_len, tC_sure, tC_ltA, tC_lt1, tC_ro, tC_take, tC_all1, zcT_eq, zcI_len, zC_len, zC_ltA, zC_lt1, zC_sure, zC_ro, zC_take, set_tl, set_tv, sc_tt, sc_zt, sc_tz, sc_zz, add16, tA_def, lA_def, natInt, u_tl, u_tv, hA, h1, h2, h3, oC_32, oC_33, hb0, hb1, TrunkReplacesB_r3_eq, TrunkReplacesB_r2_eq, TrunkReplacesB_r1_eq]
      | true =>
        rw [hf] at h2
        have e1 : repT u b k v = ((u.setL b.toNat k).setV b.toNat v, 0) := by unfold repT; rw [if_neg (by rw [hmay]; decide), if_neg hb, if_neg (by rw [hf]; decide)]
        rw [e1]
        obtain ⟨n, rfl⟩ : ∃ n : Nat, b = n := ⟨b.toNat, by omega⟩
        have hn : n < 16 := by omega
        have hn' : (n : Int) < 16 := by omega
        have h31 : n ≤ 31 := by omega
        have h32 : 16 + n ≤ 31 := by omega
        have h5 := rsame_s m ((u.setL n k).setV n v) ((u.setL n k).setV n v) (by omega) (set_len hu (by omega)) (set_len hu (by omega))
        rw [sameT_self, tA_def] at h5
        simp (config := {maxSteps := 4000000, implicitDefEqProofs := false}) (disch := omega) only [go_sem, ↓reduceIte, Nat.reduceAdd, Nat.reduceSub, Nat.reduceMul, Nat.reduceLeDiff, Nat.reduceLT, Int.reduceEq, Int.reduceNe, Int.reduceLT, Int.reduceLE, Int.reduceAdd, Int.reduceSub, Int.reduceMul, Int.reduceNeg, Nat.zero_add, Nat.add_zero, Nat.mul_one, Int.toNat_natCast, Int.natCast_zero, Int.cast_ofNat_Int, or_false, false_or, or_true, true_or, Int.reduceToNat, Nat.sub_zero, Int.natCast_nonneg, Int.toNat_zero, Bool.true_and, Bool.and_true, Bool.false_and, Bool.and_false, Bool.true_or, Bool.or_true, Bool.false_or, Bool.or_false, Bool.not_true, Bool.not_false, Bool.not_not, true_and, and_true, false_and, and_false, not_true_eq_false, not_false_eq_true, eq_self, decide_true, decide_false, ne_eq, implies_true, forall_const, true_implies, false_implies, Bool.true_eq_false, Bool.false_eq_true, reduceCtorEq, List.map_cons, List.map_nil, List.all_cons, List.all_nil, List.length_cons, List.length_nil, List.length_map, List.length_append, List.nil_append, List.cons_append, List.set_cons_zero, List.set_cons_succ, List.set_nil, List.drop_zero, List.drop_succ_cons, List.drop_nil, List.take_zero, List.take_succ_cons, List.take_nil, Option.map_some, Option.map_none, Option.isSome_some, Nat.reduceEqDiff, Nat.reduceBEq, Nat.reduceGT, List.all_append, List.all_map, Function.comp_def, decide_eq_true_eq, Bool.and_eq_true, beq_self_eq_true, or_self, and_self, ite_true, ite_false, Nat.le_refl, Bool.not_eq_true, decide_not, Bool.not_eq_true', decide_eq_false_iff_not, Bool.not_eq_false, Bool.or_eq_true, if_true, if_false, ite_self, u_roF, u_cvF, u_cvC, u_ceT, u_ceK, u_appS, tC_len, tC_sure, tC_ltA, tC_lt1, tC_ro, tC_take, tC_all1, zcT_eq, zcI_len, zC_len, zC_ltA, zC_lt1, zC_sure, zC_ro, zC_take, set_tl, set_tv, sc_tt, sc_zt, sc_tz, sc_zz, add16, tA_def, lA_def, natInt, u_tl, u_tv, hA, h1, h2, h5, oC_32, oC_33, oC_len, hb0, hb1, hn, hn', h31, h32, TrunkReplacesB_r3_eq, TrunkReplacesB_r2_eq, TrunkReplacesB_r1_eq]
theorem replacesB_r (m : Nat) (D : List Deferred) (n0 : Nat) (t u : Tr) (b v : Int) (l k r : List Item) (hm : 1000000 < m) (hu : u.Ok) (hk : k.length ≤ 66) (hq : ∀ x ∈ k, x.key.length ≤ maxLen) :
    ∃ H', TrunkReplacesB_r1 m D n0 ⟨hE t u (repT u b k v).1 b v l r, [(1, OP 0 0), (3, OP 1 0), (4, lA k), (6, OP 3 0), (7, nA (repT u b k v).2)]⟩ = some (bA true, H') := by
  obtain ⟨⟨x, H'⟩, h1, h2⟩ := Option.map_eq_some_iff.1 (replacesB_m m D n0 t u b v l k r hm hu hk hq)
  exact ⟨H', by rw [h1]; dsimp only at h2; rw [h2]⟩
end Go.Proofs.YthmnhfabkllgpaaDoor

namespace Go.Proofs.YthmnhfabkllgpaaDoor
open Go.RowKit
set_option linter.unusedVariables false
set_option linter.unusedSimpArgs false
set_option maxRecDepth 20000
def x99 : Item := ⟨[], 0, 0, [], -1⟩
def rowK (k : List Item) (j : Nat) : List Item := List.replicate j x99 ++ k.drop j
theorem rowK_len {k : List Item} {j : Nat} (h : j ≤ k.length) : (rowK k j).length = k.length := by simp [rowK]; omega
theorem rowK_set {k : List Item} {j : Nat} (h : j < k.length) : ((rowK k j).map (flA Item.cells)).set j (flA Item.cells x99) = (rowK k (j + 1)).map (flA Item.cells) := by
  rw [← List.map_set]
  congr 1
  unfold rowK
  rw [List.set_append_right _ _ (by simp), List.length_replicate, Nat.sub_self, List.drop_eq_getElem_cons h, List.set_cons_zero, List.replicate_succ']
  simp
theorem u_b99 {R : Type} {K : AV → Option R} : buildE (some pl_api_Item) (some zc_api_Item) [(2, (V (.int .i64 (-1))))] K = K (flA Item.cells x99) := _root_.id rfl
theorem x99_len : (cellsOf (flA Item.cells x99)).length = 5 := _root_.id rfl
theorem x99_sure : (cellsOf (flA Item.cells x99)).all sure = true := _root_.id rfl
theorem replacesB_s (m : Nat) (D : List Deferred) (t u : Tr) (b v : Int) (l k : List Item) (hm : 1000000 < m) (hu : u.Ok) (hk : k.length ≤ 66) (hq : ∀ x ∈ k, x.key.length ≤ maxLen) :
    ∃ H', TrunkReplacesB m D (OP 0 0) (OP 1 0) (lA k) (PR 2 k.length) [⟨1, ty_plenumlaw10_Other, 0, oC t b v l⟩, ⟨1, ty_api_Trunk, 0, tC u⟩, ⟨4, 30, 5, k.map (flA Item.cells)⟩] = some (bA true, H') := by
  have h1 := replace_s m u b v k hm hu (by omega) (A0 := ⟨1, ty_plenumlaw10_Other, 0, oC t b v l⟩) (A1 := ⟨1, ty_api_Trunk, 0, tC u⟩) (e := 30) (z := 5) (fun n => by unfold ltO; rw [Bool.or_eq_true]; exact .inr oC_ltA) (fun n => by unfold ltO; rw [Bool.or_eq_true]; exact .inr tC_ltA)
  obtain ⟨H', hr⟩ := replacesB_r m D 3 t u b v l k (rowK k k.length) hm hu hk hq
  refine ⟨H', ?_⟩
  rw [tA_def, tA_def] at h1
  rw [lA_def] at hr ⊢
  rw [TrunkReplacesB_eq]
  simp (config := {maxSteps := 4000000, implicitDefEqProofs := false}) (disch := omega) only [go_sem, ↓reduceIte, Nat.reduceAdd, Nat.reduceSub, Nat.reduceMul, Nat.reduceLeDiff, Nat.reduceLT, Int.reduceEq, Int.reduceNe, Int.reduceLT, Int.reduceLE, Int.reduceAdd, Int.reduceSub, Int.reduceMul, Int.reduceNeg, Nat.zero_add, Nat.add_zero, Nat.mul_one, Int.toNat_natCast, Int.natCast_zero, Int.cast_ofNat_Int, or_false, false_or, or_true, true_or, Int.reduceToNat, Nat.sub_zero, Int.natCast_nonneg, Int.toNat_zero, Bool.true_and, Bool.and_true, Bool.false_and, Bool.and_false, Bool.true_or, Bool.or_true, Bool.false_or, Bool.or_false, Bool.not_true, Bool.not_false, Bool.not_not, true_and, and_true, false_and, and_false, not_true_eq_false, not_false_eq_true, eq_self, decide_true, decide_false, ne_eq, implies_true, forall_const, true_implies, false_implies, Bool.true_eq_false, Bool.false_eq_true, reduceCtorEq, List.map_cons, List.map_nil, List.all_cons, List.all_nil, List.length_cons, List.length_nil, List.length_map, List.length_append, List.nil_append, List.cons_append, List.set_cons_zero, List.set_cons_succ, List.set_nil, List.drop_zero, List.drop_succ_cons, List.drop_nil, List.take_zero, List.take_succ_cons, List.take_nil, Option.map_some, Option.map_none, Option.isSome_some, Nat.reduceEqDiff, Nat.reduceBEq, Nat.reduceGT, List.all_append, List.all_map, Function.comp_def, decide_eq_true_eq, Bool.and_eq_true, beq_self_eq_true, or_self, and_self, ite_true, ite_false, Nat.le_refl, Bool.not_eq_true, decide_not, Bool.not_eq_true', decide_eq_false_iff_not, Bool.not_eq_false, Bool.or_eq_true, if_true, if_false, ite_self, u_roF, u_cvF, u_cvC, u_ceT, u_ceK, u_appS, tC_len, tC_sure, tC_ltA, tC_lt1, tC_ro, tC_take, tC_all1, zcT_eq, zcI_len, zC_len, zC_ltA, zC_lt1, zC_sure, zC_ro, zC_take, set_tl, set_tv, sc_tt, sc_zt, sc_tz, sc_zz, add16, tA_def, lA_def, natInt, u_tl, u_tv, h1, oC_32, oC_33]
  refine iter_go (m := m) (ι := {j : Nat // j ≤ k.length}) (fun j => ⟨hE t u (repT u b k v).1 b v l (rowK k j.1), [(1, OP 0 0), (3, OP 1 0), (4, SL (k.map (flA Item.cells))), (5, PR 2 k.length), (6, OP 3 0), (7, nA (repT u b k v).2), (8, nA j.1)]⟩) (fun j => k.length - j.1) (fun _ => some (bA true, H')) ?_ ⟨0, Nat.zero_le _⟩ (by dsimp only; omega)
  rintro kx hkx ⟨j, hj⟩ kc hkc
  dsimp only at hkc hj ⊢
  rw [TrunkReplacesB_b1_eq]
  unfold hE at hkc ⊢
  have hlen := rowK_len hj
  by_cases hlt : j < k.length
  · have hlt' : (j : Int) < (k.length : Int) := by omega
    have step := hkc ⟨j + 1, by omega⟩ (by dsimp only; omega)
    dsimp only at step
    rw [← rowK_set hlt] at step
    have hA : (((rowK k j).map (flA Item.cells)).set j (flA Item.cells x99)).all (ltA 4) = true := by rw [rowK_set hlt]; exact its_lt
    have hP : ltT 4 (PR 2 k.length) = true := rfl
    have hM : (j * 5) % 5 = 0 := Nat.mul_mod_left ..
    have hD : (j * 5) / 5 = j := Nat.mul_div_cancel _ (by omega)
    simp (config := {maxSteps := 4000000, implicitDefEqProofs := false}) (disch := omega) only [go_sem, ↓reduceIte, Nat.reduceAdd, Nat.reduceSub, Nat.reduceMul, Nat.reduceLeDiff, Nat.reduceLT, Int.reduceEq, Int.reduceNe, Int.reduceLT, Int.reduceLE, Int.reduceAdd, Int.reduceSub, Int.reduceMul, Int.reduceNeg, Nat.zero_add, Nat.add_zero, Nat.mul_one, Int.toNat_natCast, Int.natCast_zero, Int.cast_ofNat_Int, or_false, false_or, or_true, true_or, Int.reduceToNat, Nat.sub_zero, Int.natCast_nonneg, Int.toNat_zero, Bool.true_and, Bool.and_true, Bool.false_and, Bool.and_false, Bool.true_or, Bool.or_true, Bool.false_or, Bool.or_false, Bool.not_true, Bool.not_false, Bool.not_not, true_and, and_true, false_and, and_false, not_true_eq_false, not_false_eq_true, eq_self, decide_true, decide_false, ne_eq, implies_true, forall_const, true_implies, false_implies, Bool.true_eq_false, Bool.false_eq_true, reduceCtorEq, List.map_cons, List.map_nil, List.all_cons, List.all_nil, List.length_cons, List.length_nil, List.length_map, List.length_append, List.nil_append, List.cons_append, List.set_cons_zero, List.set_cons_succ, List.set_nil, List.drop_zero, List.drop_succ_cons, List.drop_nil, List.take_zero, List.take_succ_cons, List.take_nil, Option.map_some, Option.map_none, Option.isSome_some, Nat.reduceEqDiff, Nat.reduceBEq, Nat.reduceGT, List.all_append, List.all_map, Function.comp_def, decide_eq_true_eq, Bool.and_eq_true, beq_self_eq_true, or_self, and_self, ite_true, ite_false, Nat.le_refl, Bool.not_eq_true, decide_not, Bool.not_eq_true', decide_eq_false_iff_not, Bool.not_eq_false, Bool.or_eq_true, if_true, if_false, ite_self, u_roF, u_cvF, u_cvC, u_ceT, u_ceK, u_appS, tC_len, tC_sure, tC_ltA, tC_lt1, tC_ro, tC_take, tC_all1, zcT_eq, zcI_len, zC_len, zC_ltA, zC_lt1, zC_sure, zC_ro, zC_take, set_tl, set_tv, sc_tt, sc_zt, sc_tz, sc_zz, add16, tA_def, lA_def, natInt, u_tl, u_tv, hlt', hlt, w_i64, u_b99, x99_len, x99_sure, hlen, hA, hP, hM, hD, oC_ltA]
    exact step
  · obtain rfl : j = k.length := by omega
    have hlt' : ¬ (k.length : Int) < (k.length : Int) := Int.lt_irrefl _
    unfold hE at hr
    simp (config := {maxSteps := 4000000, implicitDefEqProofs := false}) (disch := omega) only [go_sem, ↓reduceIte, Nat.reduceAdd, Nat.reduceSub, Nat.reduceMul, Nat.reduceLeDiff, Nat.reduceLT, Int.reduceEq, Int.reduceNe, Int.reduceLT, Int.reduceLE, Int.reduceAdd, Int.reduceSub, Int.reduceMul, Int.reduceNeg, Nat.zero_add, Nat.add_zero, Nat.mul_one, Int.toNat_natCast, Int.natCast_zero, Int.cast_ofNat_Int, or_false, false_or, or_true, true_or, Int.reduceToNat, Nat.sub_zero, Int.natCast_nonneg, Int.toNat_zero, Bool.true_and, Bool.and_true, Bool.false_and, Bool.and_false, Bool.true_or, Bool.or_true, Bool.false_or, Bool.or_false, Bool.not_true, Bool.not_false, Bool.not_not, true_and, and_true, false_and, and_false, not_true_eq_false, not_false_eq_true, eq_self, decide_true, decide_false, ne_eq, implies_true, forall_const, true_implies, false_implies, Bool.true_eq_false, Bool.false_eq_true, reduceCtorEq, List.map_cons, List.map_nil, List.all_cons, List.all_nil, List.length_cons, List.length_nil, List.length_map, List.length_append, List.nil_append, List.cons_append, List.set_cons_zero, List.set_cons_succ, List.set_nil, List.drop_zero, List.drop_succ_cons, List.drop_nil, List.take_zero, List.take_succ_cons, List.take_nil, Option.map_some, Option.map_none, Option.isSome_some, Nat.reduceEqDiff, Nat.reduceBEq, Nat.reduceGT, List.all_append, List.all_map, Function.comp_def, decide_eq_true_eq, Bool.and_eq_true, beq_self_eq_true, or_self, and_self, ite_true, ite_false, Nat.le_refl, Bool.not_eq_true, decide_not, Bool.not_eq_true', decide_eq_false_iff_not, Bool.not_eq_false, Bool.or_eq_true, if_true, if_false, ite_self, u_roF, u_cvF, u_cvC, u_ceT, u_ceK, u_appS, tC_len, tC_sure, tC_ltA, tC_lt1, tC_ro, tC_take, tC_all1, zcT_eq, zcI_len, zC_len, zC_ltA, zC_lt1, zC_sure, zC_ro, zC_take, set_tl, set_tv, sc_tt, sc_zt, sc_tz, sc_zz, add16, tA_def, lA_def, natInt, u_tl, u_tv, hlt', hkx, hr, hlen]
end Go.Proofs.YthmnhfabkllgpaaDoor

namespace Go.Proofs.YthmnhfabkllgpaaDoor
open Go.ChangeShapes Go.WideShapes Go.ChangeAt Go.RowKit
set_option linter.unusedVariables false
set_option linter.unusedSimpArgs false
def SWn (w : World) : Nat → SS
  | 0, _, _, _ => False
  | n + 1, b, j, d => ∃ u, w.cell? ⟨b, j, none⟩ = some u ∧ u.oneCell' = true ∧ rep1 (SWn w n) [] d u
def SW (w : World) : SS := fun b j d => ∃ n, SWn w n b j d
theorem extS {S S' : SS} (h : ∀ b j d, S b j d → S' b j d) : Ext S [] S' [] := ⟨h, fun i x hx => by simp at hx⟩
theorem SWn.succ {w : World} {n : Nat} : ∀ b j d, SWn w n b j d → SWn w (n + 1) b j d := by
  induction n with
  | zero => intro b j d h; exact h.elim
  | succ n ih =>
    rintro b j d ⟨u, h1, h2, h3⟩
    exact ⟨u, h1, h2, h3.ext (extS ih)⟩
theorem rel_SW (w : World) : Rel w (SW w) [] [] := by
  refine ⟨rfl, ?_, fun i x o hx => by simp at hx, fun i x o hx => by simp at hx, fun i i' x x' o o' b hx => by simp at hx, fun i x o b hx => by simp at hx⟩
  rintro b j d ⟨n, hn⟩
  cases n with
  | zero => exact hn.elim
  | succ n =>
    obtain ⟨u, h1, h2, h3⟩ := hn
    exact ⟨u, h1, h2, h3.ext (extS fun _ _ _ q => ⟨n, q⟩)⟩
def isA : AV → Bool | .agg _ => true | _ => false
def aggT (P : Program) (t : TypeId) : Bool := match P.underlying t with | some (.struct _) | some (.array _ _) => true | _ => false
def ofFs (F : TypeId → List AV → Prop) : List Field → List AV → Prop
  | [], ds => ds = []
  | f :: fs, ds => ∃ a b, ds = a ++ b ∧ F f.type a ∧ ofFs F fs b
def ofT (P : Program) : Nat → TypeId → List AV → Prop
  | 0, _, _ => False
  | n + 1, t, ds => match P.underlying t with
    | some .bool => ∃ b, ds = [V (.bool b)]
    | some (.int k) => ∃ i, ds = [V (.int k i)] ∧ k.min ≤ i ∧ i ≤ k.max
    | some .string => ∃ s : List UInt8, ds = [V (.string ⟨s.toArray⟩)] ∧ s.length ≤ maxLen
    | some (.slice e) => ∃ es, ds = [SL es] ∧ es.length ≤ maxLen ∧ ∀ x ∈ es, ofT P n e (cellsOf x) ∧ isA x = aggT P e
    | some (.struct fs) => ofFs (ofT P n) fs.toList ds
    | some (.array k e) => ∃ ps : List (List AV), ps.length = k ∧ ds = ps.flatten ∧ ∀ p ∈ ps, ofT P n e p
    | _ => False
def tiles (P : Program) : Nat → List Field → Nat → Bool
  | o, [], tot => o == tot
  | o, f :: fs, tot => f.offset == o && tiles P (o + P.cellsOf f.type) fs tot
def plainT (P : Program) : Nat → TypeId → Bool
  | 0, _ => false
  | n + 1, t => match P.underlying t with
    | some .bool | some (.int _) | some .string => true
    | some (.slice e) => plainT P n e && decide (0 < P.cellsOf e)
    | some (.struct fs) => tiles P 0 fs.toList (P.cellsOf t) && fs.toList.all fun f => plainT P n f.type
    | some (.array k e) => plainT P n e && k * P.cellsOf e == P.cellsOf t
    | _ => false
theorem reps_app {S : SS} {μ : List Value} {a b : List AV} {u v : List Value} (h : reps S μ a u) (k : reps S μ b v) : reps S μ (a ++ b) (u ++ v) := by
  refine ⟨by rw [List.length_append, List.length_append, h.1, k.1], fun j d x hd hx => ?_⟩
  by_cases hj : j < a.length
  · rw [List.getElem?_append_left hj] at hd
    rw [List.getElem?_append_left (by rw [h.1]; exact hj)] at hx
    exact h.2 j d x hd hx
  · rw [List.getElem?_append_right (by omega)] at hd
    rw [List.getElem?_append_right (by rw [h.1]; omega), h.1] at hx
    exact k.2 _ d x hd hx
theorem reps_one {S : SS} {μ : List Value} {d : AV} {u : Value} (h : u.oneCell' = true) (k : rep1 S μ d u) : reps S μ [d] [u] := by
  refine ⟨rfl, fun j x y hx hy => ?_⟩
  cases j with
  | zero => simp at hx hy; subst hx hy; exact ⟨h, k⟩
  | succ j => simp at hx
theorem reps_nil {S : SS} {μ : List Value} : reps S μ [] [] := ⟨rfl, fun j x y hx => by simp at hx⟩
theorem ofT_one {P : Program} {n : Nat} {t : TypeId} {ds : List AV} (h : ofT P n t ds) (ha : aggT P t = false) : ∃ d, ds = [d] ∧ isA d = false := by
  cases n with
  | zero => exact h.elim
  | succ n =>
    unfold ofT at h
    unfold aggT at ha
    split at h
    · obtain ⟨b, rfl⟩ := h; exact ⟨_, rfl, rfl⟩
    · obtain ⟨b, rfl, _⟩ := h; exact ⟨_, rfl, rfl⟩
    · obtain ⟨b, rfl, _⟩ := h; exact ⟨_, rfl, rfl⟩
    · obtain ⟨b, rfl, _⟩ := h; exact ⟨_, rfl, rfl⟩
    · rename_i h2; rw [h2] at ha; simp at ha
    · rename_i h2; rw [h2] at ha; simp at ha
    · exact h.elim
def mkA (P : Program) (t : TypeId) (ds : List AV) : AV := if aggT P t then .agg ds else ds.headD .nil
theorem mkA_cells {P : Program} {n : Nat} {t : TypeId} {ds : List AV} (h : ofT P n t ds) : cellsOf (mkA P t ds) = ds ∧ isA (mkA P t ds) = aggT P t := by
  unfold mkA
  cases ha : aggT P t with
  | true => exact ⟨rfl, rfl⟩
  | false =>
    obtain ⟨d, rfl, hd⟩ := ofT_one h ha
    refine ⟨?_, by simpa using hd⟩
    simp only [Bool.false_eq_true, if_false, List.headD]
    cases d <;> first | rfl | (simp [isA] at hd)
theorem ofT_str {P : Program} {n : Nat} {t : TypeId} {ds : List AV} (hu : P.underlying t = some .string) (h : ofT P n t ds) : ∃ s : List UInt8, ds = [V (.string ⟨s.toArray⟩)] ∧ s.length ≤ maxLen := by
  cases n with
  | zero => exact h.elim
  | succ n => unfold ofT at h; rw [hu] at h; exact h
theorem ofT_int {P : Program} {n : Nat} {t : TypeId} {ds : List AV} {k : IntKind} (hu : P.underlying t = some (.int k)) (h : ofT P n t ds) : ∃ i, ds = [V (.int k i)] ∧ k.min ≤ i ∧ i ≤ k.max := by
  cases n with
  | zero => exact h.elim
  | succ n => unfold ofT at h; rw [hu] at h; exact h
theorem ofT_i64 {P : Program} {n : Nat} {t : TypeId} {ds : List AV} (hu : P.underlying t = some (.int .i64)) (h : ofT P n t ds) : ∃ i, ds = [V (.int .i64 i)] ∧ -9223372036854775808 ≤ i ∧ i < 9223372036854775808 := by
  obtain ⟨i, rfl, h1, h2⟩ := ofT_int hu h
  simp [IntKind.min, IntKind.max, IntKind.signed, IntKind.bits] at h1 h2
  exact ⟨i, rfl, h1, by omega⟩
theorem ofT_slice {P : Program} {n : Nat} {t e : TypeId} {ds : List AV} (hu : P.underlying t = some (.slice e)) (h : ofT P n t ds) : ∃ (m : Nat) (es : List AV), ds = [SL es] ∧ es.length ≤ maxLen ∧ ∀ x ∈ es, ofT P m e (cellsOf x) ∧ isA x = aggT P e := by
  cases n with
  | zero => exact h.elim
  | succ n => unfold ofT at h; rw [hu] at h; exact ⟨n, h⟩
theorem ofT_struct {P : Program} {n : Nat} {t : TypeId} {fs : Array Field} {ds : List AV} (hu : P.underlying t = some (.struct fs)) (h : ofT P n t ds) : ∃ m, ofFs (ofT P m) fs.toList ds := by
  cases n with
  | zero => exact h.elim
  | succ n => unfold ofT at h; rw [hu] at h; exact ⟨n, h⟩
theorem ofT_array {P : Program} {n k : Nat} {t e : TypeId} {ds : List AV} (hu : P.underlying t = some (.array k e)) (h : ofT P n t ds) : ∃ (m : Nat) (ps : List (List AV)), ps.length = k ∧ ds = ps.flatten ∧ ∀ p ∈ ps, ofT P m e p := by
  cases n with
  | zero => exact h.elim
  | succ n => unfold ofT at h; rw [hu] at h; exact ⟨n, h⟩
theorem list_of {α β : Type} {f : β → α} {Q : β → Prop} : ∀ {l : List α}, (∀ x ∈ l, ∃ y, x = f y ∧ Q y) → ∃ k : List β, l = k.map f ∧ ∀ y ∈ k, Q y
  | [], _ => ⟨[], rfl, fun y hy => by simp at hy⟩
  | x :: r, h => by
    obtain ⟨y, rfl, hy⟩ := h _ (List.mem_cons_self ..)
    obtain ⟨k, rfl, hk⟩ := list_of fun z hz => h z (List.mem_cons_of_mem _ hz)
    exact ⟨y :: k, rfl, fun z hz => by
      rcases List.mem_cons.1 hz with rfl | hz
      · exact hy
      · exact hk z hz⟩
theorem cells_agg {x : AV} (ha : isA x = true) : x = .agg (cellsOf x) := by
  cases x <;> simp_all [cellsOf, isA]
def Arg (P : Program) (w : World) (t : TypeId) (v : Value) : Prop := ∃ n ds, ofT P n t ds ∧ rep (SW w) [] (mkA P t ds) v
section
variable {H : Type} {enc : TypeId × Value → H} {P : Program} {w : World} {sp : Nat → Bool} {held : Bool}
theorem open_fields {m n : Nat} {cs : List Value} (ih : ∀ (t : TypeId) (us : List Value) (x : DataW H × List MemPlace), plainT P n t = true → DataW.trod enc P w 0 sp held m t us = some x → ∃ ds, ofT P n t ds ∧ reps (SWn w m) [] ds us) :
    ∀ (fs : List Field) (o : Nat), tiles P o fs cs.length = true → (∀ f ∈ fs, plainT P n f.type = true ∧ ∃ y, DataW.trod enc P w 0 sp held m f.type ((cs.drop f.offset).take (P.cellsOf f.type)) = some y) →
      ∃ ds, ofFs (ofT P n) fs ds ∧ reps (SWn w m) [] ds (cs.drop o)
  | [], o, ht, _ => by
    simp only [tiles, beq_iff_eq] at ht
    exact ⟨[], rfl, by rw [ht, List.drop_length]; exact reps_nil⟩
  | f :: fs, o, ht, hf => by
    simp only [tiles, Bool.and_eq_true, beq_iff_eq] at ht
    obtain ⟨h1, y, hy⟩ := hf f (List.mem_cons_self ..)
    rw [ht.1] at hy
    obtain ⟨a, ha, hra⟩ := ih _ _ _ h1 hy
    obtain ⟨b, hb, hrb⟩ := open_fields ih fs _ ht.2 fun g hg => hf g (List.mem_cons_of_mem _ hg)
    refine ⟨a ++ b, ⟨a, b, rfl, ha, hb⟩, ?_⟩
    have := reps_app hra hrb
    rwa [← List.drop_drop, List.take_append_drop] at this
theorem open_elems {m n k z : Nat} {e : TypeId} {cs : List Value} (hz : k * z = cs.length) (ih : ∀ (us : List Value) (x : DataW H × List MemPlace), DataW.trod enc P w 0 sp held m e us = some x → ∃ ds, ofT P n e ds ∧ reps (SWn w m) [] ds us)
    (he : ∀ i, i < k → ∃ y, DataW.trod enc P w 0 sp held m e ((cs.drop (i * z)).take z) = some y) :
    ∀ (r i : Nat), i + r = k → ∃ ps : List (List AV), ps.length = r ∧ (∀ p ∈ ps, ofT P n e p) ∧ reps (SWn w m) [] ps.flatten (cs.drop (i * z))
  | 0, i, hi => by
    have : i = k := by omega
    subst this
    exact ⟨[], rfl, fun p hp => by simp at hp, by rw [hz, List.drop_length]; exact reps_nil⟩
  | r + 1, i, hi => by
    obtain ⟨y, hy⟩ := he i (by omega)
    obtain ⟨a, ha, hra⟩ := ih _ _ hy
    obtain ⟨ps, hl, hp, hr⟩ := open_elems hz ih he r (i + 1) (by omega)
    refine ⟨a :: ps, by simp [hl], fun p hq => ?_, ?_⟩
    · rcases List.mem_cons.1 hq with rfl | hq
      · exact ha
      · exact hp p hq
    · have := reps_app hra hr
      rw [show (i + 1) * z = i * z + z by rw [Nat.add_mul, Nat.one_mul], ← List.drop_drop, List.take_append_drop] at this
      exact this
theorem open_cells : ∀ (m n : Nat) (t : TypeId) (cs : List Value) (x : DataW H × List MemPlace), plainT P n t = true → DataW.trod enc P w 0 sp held m t cs = some x → ∃ ds, ofT P n t ds ∧ reps (SWn w m) [] ds cs := by
  intro m
  induction m with
  | zero => intro n t cs x _ h; simp [DataW.trod] at h
  | succ m ih =>
    intro n t cs x hp h
    cases n with
    | zero => simp [plainT] at hp
    | succ n =>
      have lift : ∀ {ds us}, reps (SWn w m) [] ds us → reps (SWn w (m + 1)) [] ds us := fun q => q.ext (extS SWn.succ)
      unfold plainT at hp
      unfold ofT
      split at hp
      · rename_i hu
        obtain ⟨b, rfl, _⟩ := DataW.trod_bool hu h
        exact ⟨_, ⟨b, rfl⟩, reps_one rfl ⟨rfl, rfl⟩⟩
      · rename_i k hu
        obtain ⟨b, rfl, _, hw⟩ := DataW.trod_int hu h
        simp only [Lit.wf, Bool.and_eq_true, decide_eq_true_eq] at hw
        exact ⟨_, ⟨b, rfl, hw.1, hw.2⟩, reps_one rfl ⟨rfl, rfl⟩⟩
      · rename_i hu
        obtain ⟨s, rfl, _, hs⟩ := DataW.trod_string hu h
        refine ⟨_, ⟨s.data.toList, rfl, ?_⟩, reps_one rfl ⟨rfl, rfl⟩⟩
        have e : s.data.toList.length = s.size := by rw [Array.length_toList]; rfl
        rw [e]; exact hs
      · rename_i e hu
        simp only [Bool.and_eq_true, decide_eq_true_eq] at hp
        rcases DataW.trod_slice hu h with ⟨rfl, _⟩ | ⟨a, len, cap, elems, rest, m', hm, rfl, _, hb, hl, hc, hel, hen, _⟩
        · exact ⟨[SL []], ⟨[], rfl, Nat.zero_le _, fun x hx => by simp at hx⟩, reps_one rfl ⟨none, 0, rfl, Nat.le_refl _, Nat.zero_le _, fun q => absurd rfl q⟩⟩
        · obtain rfl : m = m' := by omega
          have hch : ∀ i, i < len → ∃ z : List AV × List Value, ofT P n e z.1 ∧ reps (SWn w m) [] z.1 z.2 ∧ w.cells? 0 (a.add (i * P.cellsOf e)) (P.cellsOf e) = some z.2 := by
            intro i hi
            have h1 := hen i hi
            rw [List.getElem?_eq_getElem (by omega)] at h1
            obtain ⟨us, h2, h3⟩ := Option.bind_eq_some_iff.1 h1
            obtain ⟨ds, h4, h5⟩ := ih n e us _ hp.1 h3
            exact ⟨(ds, us), h4, h5, h2⟩
          obtain ⟨g, hg⟩ := Deep.choose_lt hch
          let es : List AV := (List.range len).map fun i => mkA P e (g i).1
          have hlen : es.length = len := by simp [es]
          have hget : ∀ (i : Nat) (d : AV), es[i]? = some d → i < len ∧ d = mkA P e (g i).1 := by
            intro i d hd
            have hi : i < len := by have := (List.getElem?_eq_some_iff.1 hd).1; omega
            simp only [es, List.getElem?_map, List.getElem?_range hi, Option.map_some, Option.some.injEq] at hd
            exact ⟨hi, hd.symm⟩
          refine ⟨[SL es], ⟨es, rfl, by omega, fun x hx => ?_⟩, reps_one rfl ⟨some a, cap, by rw [hlen], by omega, hc, fun hn => ?_⟩⟩
          · obtain ⟨i, hi⟩ := List.getElem?_of_mem hx
            obtain ⟨hi', rfl⟩ := hget i x hi
            replace hi := hi'
            obtain ⟨q1, q2⟩ := mkA_cells (hg i hi).1
            rw [q1, q2]
            exact ⟨(hg i hi).1, rfl⟩
          · have h0 : 0 < len := by
              rcases Nat.eq_zero_or_pos len with q | q
              · exact absurd (List.eq_nil_of_length_eq_zero (by omega)) hn
              · exact q
            have hcell : ∀ i, i < len → ∀ j, j < P.cellsOf e → w.cell? ((a.add (i * P.cellsOf e)).add j) = (g i).2[j]? := fun i hi => (World.cells?_some (hg i hi).2.2).2.2
            have hlen2 : ∀ i, i < len → (g i).2.length = P.cellsOf e := fun i hi => (World.cells?_some (hg i hi).2.2).2.1
            obtain ⟨b, off, spot⟩ := a
            have hspot : spot = none := by
              have := hcell 0 h0 0 hp.2
              rw [List.getElem?_eq_getElem (by rw [hlen2 0 h0]; exact hp.2)] at this
              simpa [Addr.add] using World.cell?_spot this
            subst hspot
            have hadd : ∀ o j, (⟨b, o, none⟩ : Addr).add j = ⟨b, o + j, none⟩ := fun o j => by unfold Addr.add; split <;> simp_all
            refine ⟨b, off, P.cellsOf e, rfl, fun i d hd => ?_⟩
            obtain ⟨hi, rfl⟩ := hget i d hd
            obtain ⟨h1, h2, h3⟩ := hg i hi
            rw [(mkA_cells h1).1]
            refine ⟨by rw [← h2.1]; exact hlen2 i hi, fun j y hy => ?_⟩
            have hj : j < P.cellsOf e := by
              have := (List.getElem?_eq_some_iff.1 hy).1
              rw [← h2.1, hlen2 i hi] at this
              exact this
            have h4 := hcell i hi j hj
            rw [hadd, hadd, List.getElem?_eq_getElem (by rw [hlen2 i hi]; exact hj)] at h4
            obtain ⟨h5, h6⟩ := h2.2 j y _ hy (List.getElem?_eq_getElem (by rw [hlen2 i hi]; exact hj))
            exact ⟨_, h4, h5, h6⟩
      · rename_i fs hu
        simp only [Bool.and_eq_true, List.all_eq_true] at hp
        obtain ⟨xs, m', hm, _, hcl, hxl, hx⟩ := DataW.trod_struct hu h
        obtain rfl : m = m' := by omega
        obtain ⟨ds, h1, h2⟩ := open_fields (w := w) (sp := sp) (held := held) (enc := enc) (m := m) (n := n) (cs := cs) (fun t us x => ih n t us x) fs.toList 0 (by rw [hcl]; exact hp.1) fun f hf => ⟨hp.2 f hf, by
          obtain ⟨i, hi⟩ := List.getElem?_of_mem hf
          rw [Array.getElem?_toList] at hi
          have := hx i f hi
          have hi' : i < xs.length := by rw [hxl]; exact (Array.getElem?_eq_some_iff.1 hi).1
          rw [List.getElem?_eq_getElem hi'] at this
          exact ⟨_, this⟩⟩
        exact ⟨ds, h1, lift h2⟩
      · rename_i k e hu
        simp only [Bool.and_eq_true, beq_iff_eq] at hp
        obtain ⟨xs, m', hm, _, hcl, hxl, hx⟩ := DataW.trod_array hu h
        obtain rfl : m = m' := by omega
        obtain ⟨ps, h1, h2, h3⟩ := open_elems (w := w) (sp := sp) (held := held) (enc := enc) (m := m) (n := n) (cs := cs) (z := P.cellsOf e) (k := k) (by rw [hcl]; exact hp.2) (fun us x => ih n e us x hp.1) (fun i hi => by
          have := hx i hi
          rw [List.getElem?_eq_getElem (by omega)] at this
          exact ⟨_, this⟩) k 0 (by omega)
        rw [Nat.zero_mul] at h3
        exact ⟨_, ⟨ps, h1, rfl, h2⟩, lift h3⟩
      · cases hp
theorem open_any {r : Reach} {b0 : Nat} {t : TypeId} {v : Value} {d : DataW H} {p : List MemPlace} (n : Nat) (hp : plainT P n t = true)
    (hval : Value.okWide P w r b0 t v) (h : DataW.Trod enc P w 0 sp held t v d p) : Arg P w t v := by
  obtain ⟨m, hm⟩ := h
  obtain ⟨ds, h1, h2⟩ := open_cells m n t _ _ hp hm
  have h2 : reps (SW w) [] ds v.cells.toList := h2.ext (extS fun _ _ _ q => ⟨m, q⟩)
  refine ⟨n, ds, h1, ?_⟩
  unfold mkA
  cases ha : aggT P t with
  | true =>
    have : ∃ cs, v = .agg cs := by
      unfold aggT at ha
      unfold Value.okWide at hval
      split at ha
      · rename_i hu; rw [hu] at hval; obtain ⟨cs, rfl, _⟩ := hval; exact ⟨cs, rfl⟩
      · rename_i hu; rw [hu] at hval; obtain ⟨cs, rfl, _⟩ := hval; exact ⟨cs, rfl⟩
      · cases ha
    obtain ⟨cs, rfl⟩ := this
    exact ⟨cs.toList, rfl, h2⟩
  | false =>
    obtain ⟨d, rfl, hd⟩ := ofT_one h1 ha
    have hv : v.cells = #[v] := by
      cases n with
      | zero => simp [plainT] at hp
      | succ n =>
        unfold plainT at hp
        unfold aggT at ha
        split at hp
        · rename_i hu; obtain ⟨_, rfl⟩ := okWide_bool hu hval; rfl
        · rename_i hu; obtain ⟨_, rfl⟩ := okWide_int hu hval; rfl
        · rename_i hu; obtain ⟨_, rfl⟩ := okWide_string hu hval; rfl
        · rename_i hu; obtain ⟨_, _, _, rfl⟩ := okWide_slice hu hval; rfl
        · rename_i hu; rw [hu] at ha; cases ha
        · rename_i hu; rw [hu] at ha; cases ha
        · cases hp
    rw [hv] at h2
    have h3 := (h2.2 0 d v rfl rfl).2
    simp only [Bool.false_eq_true, if_false, List.headD]
    unfold rep
    split
    · simp [rep1] at h3
    · unfold repA
      split
      · simp [isA] at hd
      · exact h3
end
theorem run_tells {P : Program} {G : Gl} {f : FuncId} {ds : List AV} {b : Bool} (h : ACp P G f ds (V (.bool b))) {w : World} (hG : GOk G (SW w)) {vs : List Value} (hl : vs.length = ds.length)
    (hv : ∀ (j : Nat) (d : AV) (v : Value), ds[j]? = some d → vs[j]? = some v → rep (SW w) [] d v) : Calls P f vs.toArray w fun e w' => e = .returned (.bool b) ∧ Below w.heap.size w w' := by
  refine (h.2 w (SW w) [] vs (rel_SW w) hG hl hv).mono ?_
  rintro e w' ⟨v, r, H', S', μ', rfl, ⟨rfl, rfl⟩, _, hr, hs⟩
  refine ⟨?_, hs.os, hs.tape, hs.output, hs.size, fun k hk => hs.block k hk fun ⟨i, x, o, hx, _⟩ => by simp at hx⟩
  have : v = .bool b := hr.1
  rw [this]
end Go.Proofs.YthmnhfabkllgpaaDoor

namespace Go.Proofs.YthmnhfabkllgpaaDoor
open Go.RowKit
set_option linter.unusedVariables false
set_option linter.unusedSimpArgs false
set_option maxRecDepth 100000
theorem gok_sig {W : World} (h : Sig W) : GOk GG (SW W) := by
  intro g d hg j y hy
  simp only [GG, List.mem_singleton, Prod.mk.injEq] at hg
  obtain ⟨rfl, rfl⟩ := hg
  match j with
  | 0 => simp [cellsOf] at hy; subst hy; exact ⟨1, _, h.2.1, rfl, rfl, rfl⟩
  | 1 => simp [cellsOf] at hy; subst hy; exact ⟨1, _, h.2.2, rfl, rfl, rfl⟩
  | j + 2 => simp [cellsOf] at hy
theorem ofT_val {n : Nat} {ds : List AV} (h : ofT Tryd.prog n 28 ds) : ∃ (k i : Int) (s : Bytes), ds = [nA k, nA i, sA s] ∧ (-9223372036854775808 ≤ i ∧ i < 9223372036854775808) ∧ s.length ≤ maxLen := by
  obtain ⟨m, a1, b1, rfl, h1, a2, b2, rfl, h2, a3, b3, rfl, h3, rfl⟩ := ofT_struct Tryd.underlying28 h
  obtain ⟨k, rfl, _⟩ := ofT_i64 Tryd.underlying3 h1
  obtain ⟨i, rfl, hi⟩ := ofT_i64 Tryd.underlying2 h2
  obtain ⟨s, rfl, hs⟩ := ofT_str Tryd.underlying9 h3
  exact ⟨k, i, s, rfl, hi, hs⟩
theorem ofT_item {n : Nat} {ds : List AV} (h : ofT Tryd.prog n 30 ds) : ∃ x : Item, ds = x.cells.map (fun u => V u) ∧ ItemIn x := by
  obtain ⟨m, a1, b1, rfl, h1, a2, b2, rfl, h2, a3, b3, rfl, h3, rfl⟩ := ofT_struct Tryd.underlying30 h
  obtain ⟨k, rfl, hk⟩ := ofT_str Tryd.underlying9 h1
  obtain ⟨kd, i, s, rfl, hi, hs⟩ := ofT_val h2
  obtain ⟨v, rfl, _⟩ := ofT_i64 Tryd.underlying3 h3
  exact ⟨⟨k, kd, i, s, v⟩, rfl, hk, hs, hi⟩
theorem agg_item : aggT Tryd.prog 30 = true := by kernel_rfl
theorem ofT_items {n : Nat} {ds : List AV} (h : ofT Tryd.prog n 22 ds) : ∃ l : List Item, ds = [lA l] ∧ l.length ≤ maxLen ∧ ∀ x ∈ l, ItemIn x := by
  obtain ⟨m, es, rfl, hl, he⟩ := ofT_slice Tryd.underlying22 h
  obtain ⟨l, rfl, hi⟩ := list_of (f := flA Item.cells) (Q := ItemIn) fun x hx => by
    obtain ⟨q1, q2⟩ := he x hx
    obtain ⟨y, hy, hi⟩ := ofT_item q1
    exact ⟨y, by rw [cells_agg (q2.trans agg_item), hy]; rfl, hi⟩
  exact ⟨l, rfl, by simpa using hl, hi⟩
theorem flat_one {α β : Type} {f : β → α} {k : List β} : (k.map fun y => [f y]).flatten = k.map f := by
  induction k with
  | nil => rfl
  | cons x r ih => simp [ih]
theorem map_get {α β : Type} (f : α → β) (l : List α) (d : α) : l.map f = (List.range l.length).map fun i => f (l.getD i d) := by
  refine List.ext_getElem (by simp) fun i h1 h2 => ?_
  simp only [List.length_map] at h1
  simp [List.getElem_map, h1]
theorem ofT_trunk {n : Nat} {ds : List AV} (h : ofT Tryd.prog n 26 ds) : ∃ t : Tr, ds = tC t ∧ t.In := by
  obtain ⟨m, a1, b1, rfl, h1, a2, b2, rfl, h2, rfl⟩ := ofT_struct Tryd.underlying26 h
  obtain ⟨m1, ps, hp, rfl, hq⟩ := ofT_array Tryd.underlying23 h1
  obtain ⟨m2, qs, hp2, rfl, hq2⟩ := ofT_array Tryd.underlying24 h2
  obtain ⟨L, rfl, hL⟩ := list_of (f := fun l : List Item => [lA l]) (Q := fun l => l.length ≤ maxLen ∧ ∀ x ∈ l, ItemIn x) fun x hx => ofT_items (hq x hx)
  obtain ⟨Z, rfl, hZ⟩ := list_of (f := fun z : Int => [nA z]) (Q := fun _ => True) fun x hx => by
    obtain ⟨i, e, _⟩ := ofT_i64 Tryd.underlying3 (hq2 x hx)
    exact ⟨i, e, trivial⟩
  rw [List.length_map] at hp hp2
  refine ⟨⟨fun i => L.getD i [], fun i => Z.getD i 0⟩, ?_, fun i => ?_⟩
  · rw [List.append_nil, flat_one, flat_one, map_get lA L [], map_get nA Z 0, hp, hp2]
    rfl
  · dsimp only
    by_cases hi : i < L.length
    · have e : L.getD i [] = L[i] := by simp [hi]
      have hm := hL L[i] (List.getElem_mem hi)
      rw [e]
      exact ⟨hm.1, fun x hx => (hm.2 x hx).2.2, fun q => by omega⟩
    · have e : L.getD i [] = [] := by simp [List.getD, List.getElem?_eq_none (Nat.le_of_not_lt hi)]
      rw [e]
      exact ⟨Nat.zero_le _, (by intro x hx; cases hx), fun _ => rfl⟩
end Go.Proofs.YthmnhfabkllgpaaDoor

namespace Go.Proofs.YthmnhfabkllgpaaDoor
open Go.RowKit
set_option linter.unusedVariables false
set_option linter.unusedSimpArgs false
set_option maxRecDepth 100000
theorem noEnv {P : Program} {G : Gl} : EnvOk P G [] := fun f e h => by cases h
theorem step_E {P : Program} {G : Gl} {N : FS} {o : Oper} {s : ASt} {X : AV} {H : List AObj} (h : stepE P G [] o s (fun d H => some (d, H)) = some (X, H)) : StepW P G N o s (fun d H' => d = X ∧ H' = H) := by
  have := stepE_ok (noEnv (P := P) (G := G)) h
  exact stepW_of (stepOp_mono (fun d H' q => by injection q with q; injection q with q1 q2; exact ⟨q1, q2⟩) this)
theorem replaces_acp (m : Nat) (hm : 20000000 < m) (t : Tr) (b v : Int) (l : List Item) (ht : t.In) (hl : l.length ≤ maxLen) : ACp Tryd.prog GG 5 [.agg (oC t b v l)] (bA true) := by
  refine acp_of_wpF (c := (Tryd.f5.body).getD .skip) (rs := [.tmp 2]) Tryd.func5 rfl (by kernel_rfl) rfl Tryd.ntmps5 (Nat.le_of_ble_eq_true rfl) ?_
  have hF := replacesA_s m [] t b v l ht.len hl
  have hok := few_ok ht
  have hk := fewL_len l
  have hq := fewL_key (l := l)
  generalize fewT t 16 = u at *
  generalize fewL l = k at *
  obtain ⟨H', hR⟩ := replacesB_s m [] t u b v l k (by omega) hok hk hq
  refine exec_far (n := 0) MIX (TrunkReplacesA_hE m) 2 _ TrunkReplacesA_h _ (by kernel_rfl) (Nat.zero_le _) hF ?_ (fun e s' hne q => ?_)
  rotate_left
  · cases e with
    | normal => exact (hne rfl).elim
    | _ => cases q
  intro s' _ hk0
  have hk2 : (some (TU [slotK s'.T 1, slotK s'.T 3, slotK s'.T 4], s'.H) : RO) = some (TU [OP 0 0, OP 1 0, lA k], [⟨1, ty_plenumlaw10_Other, 0, oC t b v l⟩, ⟨1, ty_api_Trunk, 0, tC u⟩]) := hk0
  injection hk2 with hk2
  injection hk2 with hk2 hH
  injection hk2 with _ hk2
  injection hk2 with hk2
  injection hk2 with k1 hk2
  injection hk2 with k2 hk2
  injection hk2 with k3 _
  rw [slotK_eq] at k1 k2 k3
  obtain ⟨H1, T1⟩ := s'
  dsimp only at hH k1 k2 k3
  refine keep_slots [(1, OP 0 0), (3, OP 1 0), (4, lA k)] (by
    intro p hp
    simp only [List.mem_cons, List.not_mem_nil, or_false] at hp
    rcases hp with rfl | rfl | rfl
    · exact k1
    · exact k2
    · exact k3) ?_
  have ec : endC 2 ((Tryd.f5.body).getD .skip) = .seq (cdL (endC 2 ((Tryd.f5.body).getD .skip))) (endC 3 ((Tryd.f5.body).getD .skip)) := by kernel_rfl
  rw [ec]
  have hH1 : H1 = [⟨1, ty_plenumlaw10_Other, 0, oC t b v l⟩, ⟨1, ty_api_Trunk, 0, tC u⟩] := hH
  subst hH1
  refine awp_seq (AWp.mono (Q := fun e s => e = .normal ∧ s.H = [⟨1, ty_plenumlaw10_Other, 0, oC t b v l⟩, ⟨1, ty_api_Trunk, 0, tC u⟩, ⟨4, 30, 5, k.map (flA Item.cells)⟩] ∧ get s.T 1 = OP 0 0 ∧ get s.T 3 = OP 1 0 ∧ get s.T 4 = lA k ∧ get s.T 5 = PR 2 k.length) ?_ fun e s hs => ?_)
  · show AWp _ _ _ _ (.region _ (List.toArray [_, _, _, _]) false) _ _
    refine awp_regionW (by kernel_rfl) (Nat.zero_le _) ?_
    refine ⟨rfl, _, step_E (X := ZV) (H := [⟨1, ty_plenumlaw10_Other, 0, oC t b v l⟩, ⟨1, ty_api_Trunk, 0, tC u⟩]) (by kernel_rfl), ?_⟩
    rintro d H ⟨rfl, rfl⟩
    refine ⟨rfl, _, step_E (X := lA k) (H := [⟨1, ty_plenumlaw10_Other, 0, oC t b v l⟩, ⟨1, ty_api_Trunk, 0, tC u⟩]) rfl, ?_⟩
    rintro d H ⟨rfl, rfl⟩
    refine ⟨rfl, _, fun w S μ a hr hf hg Q => op_app4 (t := 22) (e := 30) (z := 5) (es := k.map (flA Item.cells)) hr rfl (hf.slot 15) (hf.slot 16) (by kernel_rfl) (allCE_ok its_CE) (by rw [List.length_map]; omega) its_V, ?_⟩
    rintro d H ⟨rfl, rfl⟩
    refine ⟨rfl, _, step_E (X := PR 2 (k.map (flA Item.cells)).length) (H := [⟨1, ty_plenumlaw10_Other, 0, oC t b v l⟩, ⟨1, ty_api_Trunk, 0, tC u⟩, ⟨4, 30, 5, k.map (flA Item.cells)⟩]) rfl, ?_⟩
    rintro d H ⟨rfl, rfl⟩
    refine ⟨rfl, rfl, rfl, rfl, rfl, ?_⟩
    show PR 2 (k.map (flA Item.cells)).length = PR 2 k.length
    rw [List.length_map]
  · obtain ⟨rfl, h0, h1, h3, h4, h5⟩ := hs
    obtain ⟨H2, T2⟩ := s
    dsimp only at h0 h1 h3 h4 h5
    subst h0
    show AWp _ _ _ _ _ _ _
    refine keep_slots [(1, OP 0 0), (3, OP 1 0), (4, lA k), (5, PR 2 k.length)] (by
      intro p hp
      simp only [List.mem_cons, List.not_mem_nil, or_false] at hp
      rcases hp with rfl | rfl | rfl | rfl
      · exact h1
      · exact h3
      · exact h4
      · exact h5) ?_
    refine AWp.mono (exec_ok (n := 0) MIX (TrunkReplacesB_hE m) _ TrunkReplacesB_h _ _ (Nat.zero_le _) hR) fun e s2 q => ?_
    have fin : (some (ro s2.H (gt s2.T 2), s2.H) : RO) = some (bA true, H') → ltT 0 (bA true) = true ∧ resC Tryd.prog s2.H s2.T [.tmp 2] fun ds => fzV s2.H (ro s2.H (oneOf ds)) = bA true := by
      intro h
      injection h with h
      injection h with h _
      refine ⟨rfl, ?_⟩
      show fzV s2.H (ro s2.H (get s2.T 2)) = _
      rw [gt_eq] at h
      rw [h]; rfl
    cases e with
    | normal => exact fin q
    | ret => exact fin q
    | exit id => cases q
    | goto l => cases q
    | panic ch => obtain ⟨u, e9, k9⟩ := chE_some (K := fun u => some (PN u, s2.H)) q; simp at k9
    | outgrown => cases q
end Go.Proofs.YthmnhfabkllgpaaDoor

namespace Go.Proofs.YthmnhfabkllgpaaDoor
open Go.RowKit
set_option linter.unusedVariables false
set_option linter.unusedSimpArgs false
set_option maxRecDepth 100000
theorem ofT_other {n : Nat} {ds : List AV} (h : ofT Tryd.prog n 54 ds) : ∃ (t : Tr) (b v : Int) (l : List Item), ds = oC t b v l ∧ t.In ∧ l.length ≤ maxLen := by
  obtain ⟨m, a1, b1, rfl, h1, a2, b2, rfl, h2, a3, b3, rfl, h3, a4, b4, rfl, h4, rfl⟩ := ofT_struct Tryd.underlying54 h
  obtain ⟨t, rfl, ht⟩ := ofT_trunk h1
  obtain ⟨b, rfl, _⟩ := ofT_i64 Tryd.underlying3 h2
  obtain ⟨v, rfl, _⟩ := ofT_i64 Tryd.underlying3 h3
  obtain ⟨l, rfl, hl, _⟩ := ofT_items h4
  exact ⟨t, b, v, l, rfl, ht, hl⟩
theorem arg_other {W : World} {v : Value} (h : Arg Tryd.prog W 54 v) : ∃ (t : Tr) (b u : Int) (l : List Item), (t.In ∧ l.length ≤ maxLen) ∧ rep (SW W) [] (.agg (oC t b u l)) v := by
  obtain ⟨n, ds, h1, h2⟩ := h
  obtain ⟨t, b, u, l, rfl, ht⟩ := ofT_other h1
  rw [show mkA Tryd.prog 54 (oC t b u l) = .agg (oC t b u l) by
    unfold mkA
    rw [if_pos (by kernel_rfl)]] at h2
  exact ⟨t, b, u, l, ht, h2⟩
theorem walk_TrunkReplaces (W : World) (hS : Sig W) (v0 : Value) (h0 : Arg Tryd.prog W 54 v0) :
    Calls Tryd.prog 5 #[v0] W fun e W' => e = .returned (.bool true) ∧ Below W.heap.size W W' := by
  obtain ⟨t, b, u, l, ⟨ht, hl⟩, r0⟩ := arg_other h0
  exact run_tells (replaces_acp 20000001 (by omega) t b u l ht hl) (gok_sig hS) (vs := [v0]) rfl (by
    intro j d v hd hv
    match j with
    | 0 => cases hd; cases hv; exact r0
    | j + 1 => cases hd)
end Go.Proofs.YthmnhfabkllgpaaDoor
