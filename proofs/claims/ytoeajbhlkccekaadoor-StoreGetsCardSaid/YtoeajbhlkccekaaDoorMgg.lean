/-
  Texts laid together, part 7 of 7: laws of a walk over data, contracts of functions, each whole by itself.
-/
import Derived.Test.YtoeajbhlkccekaaDoorMgf
import Derived.Test.YtoeajbhlkccekaaDoorMge
import Derived.Test.YtoeajbhlkccekaaDoorMgb
set_option linter.unusedVariables false
set_option linter.unusedSimpArgs false
namespace Go.Proofs.YtoeajbhlkccekaaDoor
open Go.RowKit
set_option maxRecDepth 20000
theorem takeG_inv {v : Int} : ∀ (l : List Edt) (k : Nat) {t : Tr}, TInv t → (∀ x ∈ l, NumOk (x.it 0)) → TInv (takeG v k l t).1
  | [], k, t, h, _ => h
  | x :: r, k, t, h, hx => by
    unfold takeG
    split
    · rename_i he
      exact takeG_inv r (k + 1) (one_inv h (hx x (List.mem_cons_self ..)) he) fun y hy => hx y (List.mem_cons_of_mem _ hy)
    · exact h
theorem may_zero : mayT Tr.zero = true := by decide +kernel
theorem zero_inv : TInv Tr.zero := ⟨may_zero, fun i x hx => (by cases hx), fun i _ => rfl⟩
theorem takeS_inv {s : St} {l : List Edt} (h : mayT s.t = true → TInv s.t) (hx : ∀ x ∈ l, NumOk (x.it 0)) : TInv (takeS s l).1.t := by
  unfold takeS
  split
  · exact zero_inv
  · rename_i hb
    have hm : mayT s.t = true := by
      simp only [Bool.not_eq_false, Bool.and_eq_true] at hb
      exact (mayS_nums hb.1).2.2.2.2.2.2.1
    split
    · exact zero_inv
    · split
      · split
        · exact zero_inv
        · exact takeG_inv l 0 (h hm) hx
      · exact zero_inv
def S0 : St := newS 10 2
def l1 : List Edt := [⟨[97], 2, 1, []⟩, ⟨[98], 2, 2, []⟩]
def l2 : List Edt := [⟨[99], 2, 3, []⟩]
def l3 : List Edt := [⟨[97], 0, 0, []⟩, ⟨[99], 2, 3, []⟩]
def A1 : St := (takeS S0 l1).1
def B1 : St := (takeS A1 l3).1
theorem hx1 : ∀ x ∈ l1, NumOk (x.it 0) := by intro x hx; simp [l1] at hx; rcases hx with rfl | rfl <;> (constructor <;> decide)
theorem hx2 : ∀ x ∈ l2, NumOk (x.it 0) := by intro x hx; simp [l2] at hx; subst hx; (constructor <;> decide)
theorem hx3 : ∀ x ∈ l3, NumOk (x.it 0) := by intro x hx; simp [l3] at hx; rcases hx with rfl | rfl <;> (constructor <;> decide)
theorem invA : TInv A1.t := takeS_inv (fun _ => zero_inv) hx1
theorem invB : TInv B1.t := takeS_inv (fun _ => invA) hx3
theorem t1_e : (takeS S0 l1).2 = (0, 0) := by decide +kernel
theorem t2_e : (takeS A1 l2).2 = (17, 1) := by decide +kernel
theorem t3_e : (takeS A1 l3).2 = (0, 0) := by decide +kernel
theorem b_ver : B1.ver = 2 := by decide +kernel
theorem new_e : (newR 10 2) = (S0, 0) := by
  unfold newR
  rw [if_pos (by decide +kernel)]
  rfl
theorem room_e : roomR A1 = (4, 0) := by decide +kernel
theorem may_A : mayS A1 = true := by decide +kernel
theorem may_B : mayS B1 = true := by decide +kernel
theorem get_e : (getR A1 [97]).2 = 0 ∧ (getR A1 [97]).1.kind = 2 ∧ (getR A1 [97]).1.i = 1 ∧ (getR A1 [97]).1.s = [] ∧ (getR A1 [97]).1.ver = 1 := by decide +kernel
theorem undo_e : undoR A1 B1 = [⟨[97], 2, 1, []⟩, ⟨[99], 0, 0, []⟩] := by kernel_rfl
theorem u_eqE2 {R : Type} {K1 : AV → Option R} {k : ByteArray} {a b : Int} {s : ByteArray} {isB sl : Bool} : binE (some [.s, .i .i64, .i .i64, .s]) isB sl .eql (.agg [V (.string k), V (.int .i64 a), V (.int .i64 b), V (.string s)]) (.agg [V (.string k), V (.int .i64 a), V (.int .i64 b), V (.string s)]) K1 = K1 (bA true) := by
  show K1 (bA (decide (k.data.toList = k.data.toList) && (decide (a = a) && (decide (b = b) && (decide (s.data.toList = s.data.toList) && true))))) = _
  simp
theorem u_bsE2 {R : Type} {K1 : AV → Option R} {a b c d e f g h : Value} : buildSE (some (ty_api_Edit, 4)) 2 [(0, .agg [V a, V b, V c, V d]), (1, .agg [V e, V f, V g, V h])] K1 = K1 (SL [.agg [V a, V b, V c, V d], .agg [V e, V f, V g, V h]]) := _root_.id rfl
theorem u_bsE1 {R : Type} {K1 : AV → Option R} {a b c d : Value} : buildSE (some (ty_api_Edit, 4)) 1 [(0, .agg [V a, V b, V c, V d])] K1 = K1 (SL [.agg [V a, V b, V c, V d]]) := _root_.id rfl
theorem awake13_s (m : Nat) (hm : 40000000 < m) : plenumlaw13_awake m = some (bA true, []) := by
  rw [plenumlaw13_awake_eq]
  have hN : store_New m (nA 10) (nA 2) = some (TU [.agg (stC S0), nA 0], []) := by
    have := new_s m 10 2 (by omega)
    rw [new_e] at this
    exact this
  have hT1 : store_TakeQ_t m [.agg (stC S0), SL [.agg [V (.string ⟨#[97]⟩), V (.int .i64 2), V (.int .i64 1), V (.string ⟨#[]⟩)], .agg [V (.string ⟨#[98]⟩), V (.int .i64 2), V (.int .i64 2), V (.string ⟨#[]⟩)]]] = some (TU [.agg (stC A1), nA 0, nA 0], []) := by
    have := store_TakeQ_e m S0 l1 zero_inv.ok (fun _ => zero_inv) hx1 (by decide)
    rw [show takeS S0 l1 = (A1, 0, 0) from Prod.ext rfl t1_e] at this
    exact this
  obtain ⟨C1, hT2⟩ : ∃ C1 : St, store_TakeQ_t m [.agg (stC A1), SL [.agg [V (.string ⟨#[99]⟩), V (.int .i64 2), V (.int .i64 3), V (.string ⟨#[]⟩)]]] = some (TU [.agg (stC C1), nA 17, nA 1], []) := by
    have := store_TakeQ_e m A1 l2 invA.ok (fun _ => invA) hx2 (by decide)
    rw [show takeS A1 l2 = ((takeS A1 l2).1, 17, 1) from Prod.ext rfl t2_e] at this
    exact ⟨_, this⟩
  have hT3 : store_TakeQ_t m [.agg (stC A1), SL [.agg [V (.string ⟨#[97]⟩), V (.int .i64 0), V (.int .i64 0), V (.string ⟨#[]⟩)], .agg [V (.string ⟨#[99]⟩), V (.int .i64 2), V (.int .i64 3), V (.string ⟨#[]⟩)]]] = some (TU [.agg (stC B1), nA 0, nA 0], []) := by
    have := store_TakeQ_e m A1 l3 invA.ok (fun _ => invA) hx3 (by decide)
    rw [show takeS A1 l3 = (B1, 0, 0) from Prod.ext rfl t3_e] at this
    exact this
  have hR : store_Room m (.agg (stC A1)) = some (TU [nA 4, nA 0], []) := by
    have := room_s m A1 (by omega) invA.ok
    rw [room_e] at this
    exact this
  have hG : store_Get m (.agg (stC A1)) (V (.string ⟨#[97]⟩)) = some (TU [.agg [V (.int .i64 2), V (.int .i64 1), V (.string ⟨#[]⟩)], nA 1, nA 0], []) := by
    have h := get_s m A1 [97] (by omega) invA.ok
    obtain ⟨g1, g2, g3, g4, g5⟩ := get_e
    unfold valV at h
    rw [g1, g2, g3, g4, g5] at h
    exact h
  have hU : store_Undo m (.agg (stC A1)) (.agg (stC B1)) = some (TU [SL [.agg [V (.string ⟨#[97]⟩), V (.int .i64 2), V (.int .i64 1), V (.string ⟨#[]⟩)], .agg [V (.string ⟨#[99]⟩), V (.int .i64 0), V (.int .i64 0), V (.string ⟨#[]⟩)]], nA 0], []) := by
    have := undo_s m A1 B1 hm invA.ok invB.ok
    rw [undo_e, may_A, may_B] at this
    exact this
  have i1 := rint_s m 1
  have i2 := rint_s m 2
  have i3 := rint_s m 3
  have hbv := b_ver
  generalize A1 = A at *
  generalize B1 = B at *
  simp (config := {maxSteps := 4000000, implicitDefEqProofs := false}) (disch := omega) only [go_sem, tC_len, tC_sure, tC_ltA, tC_lt1, tC_ro, tC_take, tC_all1, zcT_eq, zcI_len, zC_len, zC_ltA, zC_lt1, zC_sure, zC_ro, zC_take, set_tl, set_tv, sc_tt, sc_zt, sc_tz, sc_zz, add16, tA_def, lA_def, natInt, u_tl, u_tv, hN, hT1, hT2, hT3, hR, hG, hU, i1, i2, i3, zcS_eq, zS_len, zS_sure, zS_take, zS_ltA, st_take35, stC_len, st_sure, st_ltA, st_ro, st_lt1, ss_zs, u_bE1, u_bE0, u_bsE2, u_bsE1, zcV0, hbv, st_ver, u_eqE2]
  rfl
end Go.Proofs.YtoeajbhlkccekaaDoor

namespace Go.Proofs.YtoeajbhlkccekaaDoor
open Go.RowKit
set_option maxRecDepth 100000
noncomputable def plenumlaw13_StoreGets_c : Code := (Tryd.f5.body).getD .skip
def plenumlaw13_StoreGets_h : Hint := (.two .n (.two .n (.two .n (.two .n (.two (.two .n (.two (.two .n .n) .n)) (.join [1, 3, 7, 8, 9] (.join [1, 2, 3, 7, 8, 9, 10, 11, 67] .n (.two (.join [1, 3, 7, 8, 9, 74] .n (.two (.two .n .n) .n)) (.join [1, 3, 7, 8, 9, 87] .n (.two (.two .n .n) .n)))) (.two (.two .n (.two (.two .n .n) .n)) (.two .n (.two (.two .n (.two (.two .n .n) .n)) (.two .n .n))))))))))
noncomputable def plenumlaw13_StoreGets_env (m : Nat) : Env := [(8, .tell (plenumlaw13_Few_t m)), (14, .tell (plenumlaw13_short_t m)), (16, .tell (store_Get_t m)), (19, .tell (store_Scan_t m)), (20, .tell (plenumref13_May_t m)), (13, .tell (plenumlaw13_awake_t m)), (21, .tell (plenumref08_Pattern_t m)), (24, .tell (plenumref11_Whole_t m)), (23, .tell (plenumref11_Head_t m)), (22, .tell (plenumref09_Same_t m)), (25, .tell (plenumref08_Is_t m)), (26, .tell (plenumref10_Get_t m))]
noncomputable abbrev plenumlaw13_StoreGets_fin : KO (AV × List AObj) := tellFK Tryd.prog [.tmp 6]
noncomputable def plenumlaw13_StoreGets_r4 (m : Nat) (s : ASt) : RO := joinW Tryd.prog GG (plenumlaw13_StoreGets_env m) m ⟨145, []⟩ (cdR (cdR (cdR (cdR (cdR (cdR plenumlaw13_StoreGets_c)))))) plenumlaw13_StoreGets_h.r.r.r.r.r.r s (plenumlaw13_StoreGets_fin)
noncomputable def plenumlaw13_StoreGets_r3 (m : Nat) (s : ASt) : RO := joinW Tryd.prog GG (plenumlaw13_StoreGets_env m) m ⟨145, []⟩ (cdR (cdR (cdR (cdL (cdR (cdR (cdR (cdR (cdR plenumlaw13_StoreGets_c))))))))) plenumlaw13_StoreGets_h.r.r.r.r.r.l.r.r.r s (seqX (fun s => plenumlaw13_StoreGets_r4 m ⟨s.H, [(1, gt s.T 1), (3, gt s.T 3), (7, gt s.T 7), (8, gt s.T 8), (9, gt s.T 9)]⟩) (plenumlaw13_StoreGets_fin))
noncomputable def plenumlaw13_StoreGets_r2 (m : Nat) (s : ASt) : RO := joinW Tryd.prog GG (plenumlaw13_StoreGets_env m) m ⟨145, []⟩ (cdR (cdL (cdR (cdL (cdR (cdR (cdR (cdR (cdR plenumlaw13_StoreGets_c))))))))) plenumlaw13_StoreGets_h.r.r.r.r.r.l.r.l.r s (seqX (fun s => plenumlaw13_StoreGets_r4 m ⟨s.H, [(1, gt s.T 1), (3, gt s.T 3), (7, gt s.T 7), (8, gt s.T 8), (9, gt s.T 9)]⟩) (plenumlaw13_StoreGets_fin))
noncomputable def plenumlaw13_StoreGets_r1 (m : Nat) (s : ASt) : RO := joinW Tryd.prog GG (plenumlaw13_StoreGets_env m) m ⟨145, []⟩ (cdR (cdL (cdR (cdR (cdR (cdR (cdR plenumlaw13_StoreGets_c))))))) plenumlaw13_StoreGets_h.r.r.r.r.r.l.r s (seqX (fun s => plenumlaw13_StoreGets_r4 m ⟨s.H, [(1, gt s.T 1), (3, gt s.T 3), (7, gt s.T 7), (8, gt s.T 8), (9, gt s.T 9)]⟩) (plenumlaw13_StoreGets_fin))
noncomputable def plenumlaw13_StoreGets (m : Nat) (t0 t1 t2 : AV) : RO := exec Tryd.prog GG (plenumlaw13_StoreGets_env m) m ⟨145, []⟩ plenumlaw13_StoreGets_c plenumlaw13_StoreGets_h ⟨[], argsT 0 [t0, t1, t2]⟩ (plenumlaw13_StoreGets_fin)
theorem plenumlaw13_StoreGets_r4_eq (m : Nat) (H : List AObj) (t1 t3 t7 t8 t9 : AV) : plenumlaw13_StoreGets_r4 m ⟨H, [(1, t1), (3, t3), (7, t7), (8, t8), (9, t9)]⟩ =
  tellE (plenumref08_Is_t m [(ro H t1)]) [(ro H t1)] fun t89 =>
  unE .not t89 fun t90 =>
  condE t90 (
   loadE 5 H t7 fun t91 =>
   buildE (some pl_api_Value) (some zc_api_Value) [] fun t92 =>
   binE (some [.i .i64, .i .i64, .s]) false false .eql t91 t92 fun t93 =>
   condE t93 (
    binE none false false .eql t8 (V (.int .i64 0)) fun t96 =>
    condE t96 (
    binE none false false .eql t9 (V (.int .i64 3)) fun t100 =>
    condE t100 (
    tellE (plenumlaw13_awake m) [] fun t103 =>
    tellK H (ro H t103)) (
    tellK H (ro H (V (.bool false))))) (
    tellK H (ro H (V (.bool false))))) (
    tellK H (ro H (V (.bool false))))) (
   fieldE (some (0, 34)) t3 fun t106 =>
   loadE 34 H t106 fun t107 =>
   tellE (plenumref10_Get m (ro H t107) (ro H t1)) [(ro H t107), (ro H t1)] fun t109 =>
   extE t109 0 fun t110 =>
   extE t109 1 fun t111 =>
   allocE (some zc_api_Item) ty_api_Item H fun t12 H2 =>
   storeE 7 H2 t12 t110 fun H3 =>
   unE .not t111 fun t113 =>
   condE t113 (
    loadE 5 H3 t7 fun t114 =>
    buildE (some pl_api_Value) (some zc_api_Value) [] fun t115 =>
    binE (some [.i .i64, .i .i64, .s]) false false .eql t114 t115 fun t116 =>
    condE t116 (
     binE none false false .eql t8 (V (.int .i64 0)) fun t119 =>
     condE t119 (
     binE none false false .eql t9 (V (.int .i64 6)) fun t123 =>
     condE t123 (
     tellE (plenumlaw13_awake m) [] fun t126 =>
     tellK H3 (ro H3 t126)) (
     tellK H3 (ro H3 (V (.bool false))))) (
     tellK H3 (ro H3 (V (.bool false))))) (
     tellK H3 (ro H3 (V (.bool false))))) (
    loadE 5 H3 t7 fun t128 =>
    fieldE (some (1, 5)) t12 fun t129 =>
    loadE 5 H3 t129 fun t130 =>
    binE (some [.i .i64, .i .i64, .s]) false false .eql t128 t130 fun t131 =>
    condE t131 (
     fieldE (some (4, 1)) t12 fun t134 =>
     loadE 1 H3 t134 fun t135 =>
     binE none false false .eql t8 t135 fun t136 =>
     condE t136 (
     binE none false false .eql t9 (V (.int .i64 0)) fun t140 =>
     condE t140 (
     tellE (plenumlaw13_awake m) [] fun t143 =>
     tellK H3 (ro H3 t143)) (
     tellK H3 (ro H3 (V (.bool false))))) (
     tellK H3 (ro H3 (V (.bool false))))) (
     tellK H3 (ro H3 (V (.bool false)))))) := by
  refine (joinW_eq Tryd.prog GG (plenumlaw13_StoreGets_env m) m ⟨145, []⟩ (cdR (cdR (cdR (cdR (cdR (cdR plenumlaw13_StoreGets_c)))))) plenumlaw13_StoreGets_h.r.r.r.r.r.r ⟨H, [(1, t1), (3, t3), (7, t7), (8, t8), (9, t9)]⟩ (plenumlaw13_StoreGets_fin)).trans ?_
  kernel_rfl
theorem plenumlaw13_StoreGets_r3_eq (m : Nat) (H : List AObj) (t1 t3 t7 t8 t9 t87 : AV) : plenumlaw13_StoreGets_r3 m ⟨H, [(1, t1), (3, t3), (7, t7), (8, t8), (9, t9), (87, t87)]⟩ =
  condE t87 (
   tellK H (ro H (V (.bool false)))) (
   plenumlaw13_StoreGets_r4 m ⟨H, [(1, t1), (3, t3), (7, t7), (8, t8), (9, t9)]⟩) := by
  refine (joinW_eq Tryd.prog GG (plenumlaw13_StoreGets_env m) m ⟨145, []⟩ (cdR (cdR (cdR (cdL (cdR (cdR (cdR (cdR (cdR plenumlaw13_StoreGets_c))))))))) plenumlaw13_StoreGets_h.r.r.r.r.r.l.r.r.r ⟨H, [(1, t1), (3, t3), (7, t7), (8, t8), (9, t9), (87, t87)]⟩ (seqX (fun s => plenumlaw13_StoreGets_r4 m ⟨s.H, [(1, gt s.T 1), (3, gt s.T 3), (7, gt s.T 7), (8, gt s.T 8), (9, gt s.T 9)]⟩) (plenumlaw13_StoreGets_fin))).trans ?_
  kernel_rfl
theorem plenumlaw13_StoreGets_r2_eq (m : Nat) (H : List AObj) (t1 t3 t7 t8 t9 t74 : AV) : plenumlaw13_StoreGets_r2 m ⟨H, [(1, t1), (3, t3), (7, t7), (8, t8), (9, t9), (74, t74)]⟩ =
  condE t74 (
   tellK H (ro H (V (.bool false)))) (
   plenumlaw13_StoreGets_r4 m ⟨H, [(1, t1), (3, t3), (7, t7), (8, t8), (9, t9)]⟩) := by
  refine (joinW_eq Tryd.prog GG (plenumlaw13_StoreGets_env m) m ⟨145, []⟩ (cdR (cdL (cdR (cdL (cdR (cdR (cdR (cdR (cdR plenumlaw13_StoreGets_c))))))))) plenumlaw13_StoreGets_h.r.r.r.r.r.l.r.l.r ⟨H, [(1, t1), (3, t3), (7, t7), (8, t8), (9, t9), (74, t74)]⟩ (seqX (fun s => plenumlaw13_StoreGets_r4 m ⟨s.H, [(1, gt s.T 1), (3, gt s.T 3), (7, gt s.T 7), (8, gt s.T 8), (9, gt s.T 9)]⟩) (plenumlaw13_StoreGets_fin))).trans ?_
  kernel_rfl
theorem plenumlaw13_StoreGets_r1_eq (m : Nat) (H : List AObj) (t1 t2 t3 t7 t8 t9 t10 t11 t67 : AV) : plenumlaw13_StoreGets_r1 m ⟨H, [(1, t1), (2, t2), (3, t3), (7, t7), (8, t8), (9, t9), (10, t10), (11, t11), (67, t67)]⟩ =
  condE t67 (
   lenE false true H t10 fun t69 =>
   binE none false false .neq t69 (V (.int .i64 0)) fun t70 =>
   condE t70 (
    plenumlaw13_StoreGets_r2 m ⟨H, [(1, t1), (3, t3), (7, t7), (8, t8), (9, t9), (74, (V (.bool true)))]⟩) (
    binE none false false .neq t11 (V (.int .i64 3)) fun t73 =>
    plenumlaw13_StoreGets_r2 m ⟨H, [(1, t1), (3, t3), (7, t7), (8, t8), (9, t9), (74, t73)]⟩)) (
   fieldE (some (0, 34)) t3 fun t76 =>
   loadE 34 H t76 fun t77 =>
   tellE (plenumref11_Whole m (ro H t77) (ro H t1) (ro H t2)) [(ro H t77), (ro H t1), (ro H t2)] fun t80 =>
   tellE (plenumref11_Head m (ro H t80) (V (.int .i64 5))) [(ro H t80), (V (.int .i64 5))] fun t81 =>
   tellE (plenumref09_Same_t m [(ro H t10), (ro H t81)]) [(ro H t10), (ro H t81)] fun t82 =>
   unE .not t82 fun t83 =>
   condE t83 (
    plenumlaw13_StoreGets_r3 m ⟨H, [(1, t1), (3, t3), (7, t7), (8, t8), (9, t9), (87, (V (.bool true)))]⟩) (
    binE none false false .neq t11 (V (.int .i64 0)) fun t86 =>
    plenumlaw13_StoreGets_r3 m ⟨H, [(1, t1), (3, t3), (7, t7), (8, t8), (9, t9), (87, t86)]⟩)) := by
  refine (joinW_eq Tryd.prog GG (plenumlaw13_StoreGets_env m) m ⟨145, []⟩ (cdR (cdL (cdR (cdR (cdR (cdR (cdR plenumlaw13_StoreGets_c))))))) plenumlaw13_StoreGets_h.r.r.r.r.r.l.r ⟨H, [(1, t1), (2, t2), (3, t3), (7, t7), (8, t8), (9, t9), (10, t10), (11, t11), (67, t67)]⟩ (seqX (fun s => plenumlaw13_StoreGets_r4 m ⟨s.H, [(1, gt s.T 1), (3, gt s.T 3), (7, gt s.T 7), (8, gt s.T 8), (9, gt s.T 9)]⟩) (plenumlaw13_StoreGets_fin))).trans ?_
  kernel_rfl
theorem plenumlaw13_StoreGets_eq (m : Nat) (t0 t1 t2 : AV) : plenumlaw13_StoreGets m t0 t1 t2 =
  boxE ty_api_Store [] t0 fun t3 H1 =>
  loadE 37 H1 t3 fun t14 =>
  tellE (plenumlaw13_Few m (ro H1 t14)) [(ro H1 t14)] fun t15 =>
  tellE (plenumlaw13_short m (ro H1 t1)) [(ro H1 t1)] fun t17 =>
  tellE (plenumlaw13_short m (ro H1 t2)) [(ro H1 t2)] fun t19 =>
  storeE 37 H1 t3 t15 fun H2 =>
  loadE 37 H2 t3 fun t21 =>
  tellE (store_Get m (ro H2 t21) (ro H2 t17)) [(ro H2 t21), (ro H2 t17)] fun t23 =>
  extE t23 0 fun t24 =>
  extE t23 1 fun t25 =>
  extE t23 2 fun t26 =>
  allocE (some zc_api_Value) ty_api_Value H2 fun t7 H3 =>
  storeE 5 H3 t7 t24 fun H4 =>
  loadE 37 H4 t3 fun t28 =>
  tellE (store_Scan m (ro H4 t28) (ro H4 t17) (ro H4 t19) (V (.int .i64 5))) [(ro H4 t28), (ro H4 t17), (ro H4 t19), (V (.int .i64 5))] fun t31 =>
  extE t31 0 fun t32 =>
  extE t31 1 fun t33 =>
  loadE 37 H4 t3 fun t34 =>
  tellE (plenumref13_May m (ro H4 t34)) [(ro H4 t34)] fun t35 =>
  unE .not t35 fun t36 =>
  condE t36 (
   loadE 5 H4 t7 fun t37 =>
   buildE (some pl_api_Value) (some zc_api_Value) [] fun t38 =>
   binE (some [.i .i64, .i .i64, .s]) false false .eql t37 t38 fun t39 =>
   condE t39 (
    binE none false false .eql t25 (V (.int .i64 0)) fun t42 =>
    condE t42 (
    binE none false false .eql t26 (V (.int .i64 1)) fun t46 =>
    condE t46 (
    lenE false true H4 t32 fun t50 =>
    binE none false false .eql t50 (V (.int .i64 0)) fun t51 =>
    condE t51 (
    binE none false false .eql t33 (V (.int .i64 1)) fun t55 =>
    condE t55 (
    tellE (plenumlaw13_awake m) [] fun t58 =>
    tellK H4 (ro H4 t58)) (
    tellK H4 (ro H4 (V (.bool false))))) (
    tellK H4 (ro H4 (V (.bool false))))) (
    tellK H4 (ro H4 (V (.bool false))))) (
    tellK H4 (ro H4 (V (.bool false))))) (
    tellK H4 (ro H4 (V (.bool false))))) (
   tellE (plenumref08_Pattern_t m [(ro H4 t17)]) [(ro H4 t17)] fun t61 =>
   unE .not t61 fun t62 =>
   condE t62 (
    plenumlaw13_StoreGets_r1 m ⟨H4, [(1, t17), (2, t19), (3, t3), (7, t7), (8, t25), (9, t26), (10, t32), (11, t33), (67, (V (.bool true)))]⟩) (
    tellE (plenumref08_Pattern_t m [(ro H4 t19)]) [(ro H4 t19)] fun t65 =>
    unE .not t65 fun t66 =>
    plenumlaw13_StoreGets_r1 m ⟨H4, [(1, t17), (2, t19), (3, t3), (7, t7), (8, t25), (9, t26), (10, t32), (11, t33), (67, t66)]⟩)) := by
  refine (tellX Tryd.prog GG (plenumlaw13_StoreGets_env m) m ⟨145, []⟩ plenumlaw13_StoreGets_c plenumlaw13_StoreGets_h ⟨[], argsT 0 [t0, t1, t2]⟩ [.tmp 6]).trans ?_
  kernel_rfl
noncomputable def plenumlaw13_StoreGets_t (m : Nat) : List AV → RO | [t0, t1, t2] => plenumlaw13_StoreGets m t0 t1 t2 | _ => none
theorem plenumlaw13_StoreGets_ok (m : Nat) : ∀ args X H', plenumlaw13_StoreGets_t m args = some (X, H') → ACp Tryd.prog GG 5 args X := by
  intro args X H' h
  unfold plenumlaw13_StoreGets_t at h
  split at h
  · exact tell_okK MIX (by
    intro f e h
    simp only [plenumlaw13_StoreGets_env, Prod.mk.injEq, List.mem_cons, List.not_mem_nil, or_false] at h
    rcases h with ⟨rfl, rfl⟩ | ⟨rfl, rfl⟩ | ⟨rfl, rfl⟩ | ⟨rfl, rfl⟩ | ⟨rfl, rfl⟩ | ⟨rfl, rfl⟩ | ⟨rfl, rfl⟩ | ⟨rfl, rfl⟩ | ⟨rfl, rfl⟩ | ⟨rfl, rfl⟩ | ⟨rfl, rfl⟩ | ⟨rfl, rfl⟩
    · exact plenumlaw13_Few_ok m
    · exact plenumlaw13_short_ok m
    · exact store_Get_ok m
    · exact store_Scan_ok m
    · exact plenumref13_May_ok m
    · exact plenumlaw13_awake_ok m
    · exact plenumref08_Pattern_ok m
    · exact plenumref11_Whole_ok m
    · exact plenumref11_Head_ok m
    · exact plenumref09_Same_ok m
    · exact plenumref08_Is_ok m
    · exact plenumref10_Get_ok m) (f := 5) (c := plenumlaw13_StoreGets_c) Tryd.func5 rfl (by kernel_rfl) _ rfl Tryd.ntmps5 (Nat.le_of_ble_eq_true rfl) plenumlaw13_StoreGets_h h
  · cases h
end Go.Proofs.YtoeajbhlkccekaaDoor

namespace Go.Proofs.YtoeajbhlkccekaaDoor
open Go.RowKit
set_option maxRecDepth 20000
attribute [local go_sem] tC_len tC_sure tC_ltA tC_lt1 tC_ro tC_take tC_all1 zcT_eq zcI_len zC_len zC_ltA zC_lt1 zC_sure zC_ro zC_take set_tl set_tv sc_tt sc_zt sc_tz sc_zz add16 tA_def lA_def natInt u_tl u_tv st_take35 st_take stC_len st_sure st_ltA st_lt1 st_ro zcS_eq zS_len zS_sure zS_take zS_ltA zS_ro zS_all1 ss_zs ss_zz u_bS0
def fewSt (s : St) : St := { s with t := fewT s.t 16 }
theorem few13b_s (m : Nat) (s : St) (h : s.t.In) : plenumlaw13_Few m (stA s) = some (stA (fewSt s), []) := few13_s m s h.len
end Go.Proofs.YtoeajbhlkccekaaDoor

namespace Go.Proofs.YtoeajbhlkccekaaDoor
open Go.RowKit
set_option maxRecDepth 20000
attribute [local go_sem] tC_len tC_sure tC_ltA tC_lt1 tC_ro tC_take tC_all1 zcT_eq zcI_len zC_len zC_ltA zC_lt1 zC_sure zC_ro zC_take set_tl set_tv sc_tt sc_zt sc_tz sc_zz add16 tA_def lA_def natInt u_tl u_tv st_take35 st_take stC_len st_sure st_ltA st_lt1 st_ro zcS_eq zS_len zS_sure zS_take zS_ltA zS_ro zS_all1 ss_zs ss_zz u_bS0 u_nthM ed_it ed_lenE zcE0 st_ver st_set zS_lt1 st_bytes st_keys
end Go.Proofs.YtoeajbhlkccekaaDoor

namespace Go.Proofs.YtoeajbhlkccekaaDoor
open Go.RowKit
set_option maxRecDepth 20000
attribute [local go_sem] tC_len tC_sure tC_ltA tC_lt1 tC_ro tC_take tC_all1 zcT_eq zcI_len zC_len zC_ltA zC_lt1 zC_sure zC_ro zC_take set_tl set_tv sc_tt sc_zt sc_tz sc_zz add16 tA_def lA_def natInt u_tl u_tv st_take35 st_take stC_len st_sure st_ltA st_lt1 st_ro zcS_eq zS_len zS_sure zS_take zS_ltA zS_ro zS_all1 ss_zs ss_zz u_bS0
def Edt.one (x : Edt) : Edt := ⟨(x.it 0).one.key, x.kind, x.i, (x.it 0).one.s⟩
end Go.Proofs.YtoeajbhlkccekaaDoor

namespace Go.Proofs.YtoeajbhlkccekaaDoor
open Go.RowKit
set_option maxRecDepth 20000
def mergeM : Nat → Tr → List Item
  | 0, _ => []
  | n + 1, u => if leastT u < 0 then [] else hdK u (leastT u).toNat :: mergeM n (pop u (leastT u).toNat)
def scanL (lo hi : Bytes) (most : Int) : List Item → List Item → List Item
  | [], acc => acc
  | x :: r, acc => if stopB hi most x acc then acc else scanL lo hi most r (takeX lo x acc)
theorem runM_scan {lo hi : Bytes} {most : Int} : ∀ (n : Nat) (u : Tr) (acc : List Item), runM lo hi most n u acc = scanL lo hi most (mergeM n u) acc
  | 0, u, acc => rfl
  | n + 1, u, acc => by
    unfold runM mergeM
    split
    · rfl
    · unfold scanL
      split
      · rfl
      · exact runM_scan n _ _
abbrev Srt (l : List Item) : Prop := l.Pairwise fun a b => less a.key b.key = true
structure Front (u : Tr) : Prop where
  srt : ∀ i, i < 16 → Srt (u.leaf i)
  dis : ∀ i j, i < 16 → j < 16 → i ≠ j → ∀ x ∈ u.leaf i, ∀ y ∈ u.leaf j, x.key ≠ y.key
theorem hd_mem {u : Tr} {i : Nat} (h : 0 < (u.leaf i).length) : hdK u i ∈ u.leaf i := by
  unfold hdK
  cases hl : u.leaf i with
  | nil => rw [hl] at h; simp at h
  | cons x r => simp
theorem best_min {u : Tr} (hf : Front u) : ∀ k, k ≤ 16 → ∀ j, j < k → 0 < (u.leaf j).length → ∃ b : Nat, b < k ∧ bestN u k = b ∧ 0 < (u.leaf b).length ∧ (j = b ∨ less (hdK u b).key (hdK u j).key = true)
  | 0, _, j, hj, _ => by omega
  | k + 1, hk, j, hj, hl => by
    have neq : ∀ i j, i < 16 → j < 16 → i ≠ j → 0 < (u.leaf i).length → 0 < (u.leaf j).length → less (hdK u i).key (hdK u j).key = false → less (hdK u j).key (hdK u i).key = true := by
      intro i j hi hj hne h1 h2 h3
      cases h4 : less (hdK u j).key (hdK u i).key with
      | true => rfl
      | false => exact absurd (less_tri _ _ h3 h4) (hf.dis i j hi hj hne _ (hd_mem h1) _ (hd_mem h2))
    unfold bestN stepB
    by_cases hk0 : (u.leaf k).length = 0
    · rw [if_pos hk0]
      have hjk : j < k := by
        rcases Nat.lt_or_ge j k with q | q
        · exact q
        · have : j = k := by omega
          subst this; omega
      obtain ⟨b, h1, h2, h3, h4⟩ := best_min hf k (by omega) j hjk hl
      exact ⟨b, by omega, h2, h3, h4⟩
    · rw [if_neg hk0]
      rcases bestN_at u k with hb | ⟨b, hb1, hb2, hb3⟩
      · rw [hb, if_pos (by omega)]
        refine ⟨k, by omega, rfl, by omega, ?_⟩
        rcases Nat.lt_or_ge j k with q | q
        · obtain ⟨b, h1, h2, h3, h4⟩ := best_min hf k (by omega) j q hl
          rw [hb] at h2; omega
        · exact .inl (by omega)
      · rw [hb2, if_neg (by omega), Int.toNat_natCast]
        have key : ∀ j, j < k → 0 < (u.leaf j).length → j = b ∨ less (hdK u b).key (hdK u j).key = true := by
          intro j hj hl
          obtain ⟨b', h1, h2, h3, h4⟩ := best_min hf k (by omega) j hj hl
          rw [hb2] at h2
          have : b' = b := by omega
          subst this; exact h4
        cases hlt : less (hdK u k).key (hdK u b).key with
        | true =>
          rw [if_pos rfl]
          refine ⟨k, by omega, rfl, by omega, ?_⟩
          rcases Nat.lt_or_ge j k with q | q
          · right
            rcases key j q hl with rfl | h
            · exact hlt
            · exact less_trans _ _ _ hlt h
          · exact .inl (by omega)
        | false =>
          rw [if_neg (by decide)]
          refine ⟨b, by omega, rfl, hb3, ?_⟩
          rcases Nat.lt_or_ge j k with q | q
          · exact key j q hl
          · have : j = k := by omega
            subst this
            exact .inr (neq j b (by omega) (by omega) (by omega) (by omega) hb3 hlt)
theorem least_min {u : Tr} (hf : Front u) {j : Nat} (hj : j < 16) (hl : 0 < (u.leaf j).length) : ∃ b : Nat, b < 16 ∧ leastT u = b ∧ 0 < (u.leaf b).length ∧ (j = b ∨ less (hdK u b).key (hdK u j).key = true) := best_min hf 16 (Nat.le_refl _) j hj hl
theorem pop_leaf {u : Tr} {b i : Nat} : (pop u b).leaf i = if i = b then (u.leaf b).tail else u.leaf i := rfl
theorem pop_front {u : Tr} (hf : Front u) (b : Nat) : Front (pop u b) := by
  have sub : ∀ i, ∀ x ∈ (pop u b).leaf i, x ∈ u.leaf i := by
    intro i x hx
    rw [pop_leaf] at hx
    split at hx
    · rename_i e; subst e; exact List.mem_of_mem_tail hx
    · exact hx
  refine ⟨fun i hi => ?_, fun i j hi hj hne x hx y hy => hf.dis i j hi hj hne x (sub i x hx) y (sub j y hy)⟩
  rw [pop_leaf]
  split
  · rename_i e; subst e
    exact (hf.srt i hi).sublist (List.tail_sublist _)
  · exact hf.srt i hi
theorem merge_mem : ∀ (n : Nat) (u : Tr) (x : Item), x ∈ mergeM n u → ∃ i, i < 16 ∧ x ∈ u.leaf i
  | 0, u, x, h => by cases h
  | n + 1, u, x, h => by
    unfold mergeM at h
    split at h
    · cases h
    · rename_i hneg
      rcases bestN_at u 16 with q | ⟨b, q1, q2, q3⟩
      · unfold leastT at hneg; omega
      · have hb : (leastT u).toNat = b := by unfold leastT; rw [q2]; exact Int.toNat_natCast b
        rw [hb] at h
        rcases List.mem_cons.1 h with rfl | h
        · exact ⟨b, q1, hd_mem q3⟩
        · obtain ⟨i, hi, hx⟩ := merge_mem n (pop u b) x h
          refine ⟨i, hi, ?_⟩
          rw [pop_leaf] at hx
          split at hx
          · rename_i e; subst e; exact List.mem_of_mem_tail hx
          · exact hx
theorem merge_all : ∀ (n : Nat) {u : Tr} (hf : Front u) (hn : cntT u ≤ n) (x : Item) (i : Nat), i < 16 → x ∈ u.leaf i → x ∈ mergeM n u
  | n, u, hf, hn, x, i, hi, hx => by
    have hl : 0 < (u.leaf i).length := List.length_pos_of_mem hx
    obtain ⟨b, h1, h2, h3, h4⟩ := least_min hf hi hl
    have hc := cnt_pop h1 h3
    cases n with
    | zero => omega
    | succ n =>
      unfold mergeM
      rw [h2, if_neg (by omega), Int.toNat_natCast]
      by_cases e : x = hdK u b
      · rw [e]; exact List.mem_cons_self ..
      · refine List.mem_cons_of_mem _ (merge_all n (pop_front hf b) (by omega) x i hi ?_)
        rw [pop_leaf]
        split
        · rename_i e2; subst e2
          unfold hdK at e
          cases hq : u.leaf i with
          | nil => rw [hq] at hx; cases hx
          | cons y r =>
            rw [hq] at hx e
            rcases List.mem_cons.1 hx with rfl | hx
            · exact absurd rfl e
            · exact hx
        · exact hx
theorem merge_srt : ∀ (n : Nat) {u : Tr} (hf : Front u), Srt (mergeM n u)
  | 0, u, hf => List.Pairwise.nil
  | n + 1, u, hf => by
    unfold mergeM
    split
    · exact List.Pairwise.nil
    · rename_i hneg
      refine List.Pairwise.cons ?_ (merge_srt n (pop_front hf _))
      intro y hy
      obtain ⟨i, hi, hyi⟩ := merge_mem n _ y hy
      rcases bestN_at u 16 with q | ⟨b0, q1, q2, q3⟩
      · unfold leastT at hneg; omega
      · have hb : (leastT u).toNat = b0 := by unfold leastT; rw [q2]; exact Int.toNat_natCast b0
        rw [hb] at hyi ⊢
        rw [pop_leaf] at hyi
        split at hyi
        · rename_i e; subst e
          unfold hdK
          cases hq : u.leaf i with
          | nil => rw [hq] at q3; simp at q3
          | cons z r =>
            rw [hq] at hyi
            have := hf.srt i hi
            rw [hq] at this
            exact (List.pairwise_cons.1 this).1 y hyi
        · rename_i hne
          have hl : 0 < (u.leaf i).length := List.length_pos_of_mem hyi
          obtain ⟨b, h1, h2, h3, h4⟩ := least_min hf hi hl
          have hbb : b = b0 := by
            have : leastT u = (b0 : Nat) := q2
            omega
          subst hbb
          rcases h4 with rfl | h4
          · exact absurd rfl hne
          · unfold hdK at h4 ⊢
            cases hq : u.leaf i with
            | nil => rw [hq] at hyi; cases hyi
            | cons z r =>
              rw [hq] at hyi h4
              have := hf.srt i hi
              rw [hq] at this
              rcases List.mem_cons.1 hyi with rfl | hyr
              · exact h4
              · exact less_trans _ _ _ h4 ((List.pairwise_cons.1 this).1 y hyr)
theorem srt_ext : ∀ {l k : List Item}, Srt l → Srt k → (∀ x, x ∈ l ↔ x ∈ k) → l = k
  | [], [], _, _, _ => rfl
  | [], y :: k, _, _, h => by have := (h y).2 (List.mem_cons_self ..); cases this
  | x :: l, [], _, _, h => by have := (h x).1 (List.mem_cons_self ..); cases this
  | x :: l, y :: k, hl, hk, h => by
    obtain ⟨l1, l2⟩ := List.pairwise_cons.1 hl
    obtain ⟨k1, k2⟩ := List.pairwise_cons.1 hk
    have e : x = y := by
      rcases List.mem_cons.1 ((h x).1 (List.mem_cons_self ..)) with e | hx
      · exact e
      · rcases List.mem_cons.1 ((h y).2 (List.mem_cons_self ..)) with e | hy
        · exact e.symm
        · have a := k1 x hx
          have b := l1 y hy
          rw [less_asymm _ _ a] at b
          cases b
    subst e
    have : l = k := srt_ext l2 k2 fun z => by
      constructor
      · intro hz
        rcases List.mem_cons.1 ((h z).1 (List.mem_cons_of_mem _ hz)) with e | hz'
        · subst e; have := l1 z hz; rw [less_irrefl] at this; cases this
        · exact hz'
      · intro hz
        rcases List.mem_cons.1 ((h z).2 (List.mem_cons_of_mem _ hz)) with e | hz'
        · subst e; have := k1 z hz; rw [less_irrefl] at this; cases this
        · exact hz'
    rw [this]
end Go.Proofs.YtoeajbhlkccekaaDoor

namespace Go.Proofs.YtoeajbhlkccekaaDoor
open Go.RowKit
set_option maxRecDepth 20000
def foldW (l : List Item) : List Item := l.foldl withK []
theorem withK_srt {l : List Item} (h : Srt l) (x : Item) : Srt (withK l x) := by
  unfold withK
  rw [List.append_assoc]
  refine List.pairwise_append.2 ⟨h.sublist List.filter_sublist, ?_, ?_⟩
  · refine List.pairwise_append.2 ⟨List.pairwise_singleton _ _, h.sublist List.filter_sublist, ?_⟩
    intro a ha b hb
    simp at ha; subst ha
    exact (List.mem_filter.1 hb).2
  · intro a ha b hb
    have h1 := (List.mem_filter.1 ha).2
    rcases List.mem_append.1 hb with hb | hb
    · simp at hb; subst hb; exact h1
    · exact less_trans _ _ _ h1 (List.mem_filter.1 hb).2
theorem withK_mem {l : List Item} {x y : Item} (hne : ∀ z ∈ l, z.key ≠ x.key) : y ∈ withK l x ↔ y ∈ l ∨ y = x := by
  unfold withK
  simp only [List.mem_append, List.mem_filter, List.mem_singleton]
  constructor
  · rintro ((⟨h, _⟩ | h) | ⟨h, _⟩)
    · exact .inl h
    · exact .inr h
    · exact .inl h
  · rintro (h | h)
    · cases h1 : less y.key x.key with
      | true => exact .inl (.inl ⟨h, rfl⟩)
      | false =>
        cases h2 : less x.key y.key with
        | true => exact .inr ⟨h, rfl⟩
        | false => exact absurd (less_tri _ _ h1 h2) (hne y h)
    · exact .inl (.inr h)
theorem fold_law : ∀ (l acc : List Item), Srt acc → (l.Pairwise fun a b => a.key ≠ b.key) → (∀ x ∈ l, ∀ z ∈ acc, z.key ≠ x.key) → Srt (l.foldl withK acc) ∧ ∀ y, y ∈ l.foldl withK acc ↔ y ∈ acc ∨ y ∈ l
  | [], acc, h, _, _ => ⟨h, fun y => by simp⟩
  | x :: r, acc, h, hp, hd => by
    obtain ⟨p1, p2⟩ := List.pairwise_cons.1 hp
    have hm := fun y => withK_mem (l := acc) (x := x) (y := y) (hd x (List.mem_cons_self ..))
    obtain ⟨f1, f2⟩ := fold_law r (withK acc x) (withK_srt h x) p2 (by
      intro a ha z hz
      rcases (hm z).1 hz with q | q
      · exact hd a (List.mem_cons_of_mem _ ha) z q
      · subst q; exact p1 a ha)
    refine ⟨f1, fun y => ?_⟩
    show y ∈ r.foldl withK (withK acc x) ↔ _
    rw [f2 y, hm y, List.mem_cons]
    constructor
    · rintro ((q | q) | q)
      · exact .inl q
      · exact .inr (.inl q)
      · exact .inr (.inr q)
    · rintro (q | q | q)
      · exact .inl (.inl q)
      · exact .inl (.inr q)
      · exact .inr q
theorem front_of {t : Tr} (h : mayT t = true) : Front t := by
  refine ⟨fun i hi => ((leafB_iff _).1 (fits_leaf h hi)).2.2, fun i j hi hj hne x hx y hy e => ?_⟩
  have h1 := (fits_key h hi hx).2.1
  have h2 := (fits_key h hj hy).2.1
  rw [e, h2] at h1
  omega
theorem all_pair {t : Tr} (h : Front t) : ∀ k, k ≤ 16 → (allTo t k).Pairwise fun a b => a.key ≠ b.key
  | 0, _ => by simp [allTo]
  | k + 1, hk => by
    rw [allTo_succ]
    refine List.pairwise_append.2 ⟨all_pair h k (by omega), ?_, ?_⟩
    · refine (h.srt k (by omega)).imp ?_
      intro a b hab e
      rw [e, less_irrefl] at hab
      cases hab
    · intro a ha b hb
      obtain ⟨i, hi, hai⟩ := allTo_mem ha
      exact h.dis i k (by omega) (by omega) (by omega) a hai b hb
theorem allTo_of {t : Tr} : ∀ k {i : Nat}, i < k → ∀ x ∈ t.leaf i, x ∈ allTo t k
  | 0, i, hi, x, hx => by omega
  | k + 1, i, hi, x, hx => by
    rw [allTo_succ]
    rcases Nat.lt_or_ge i k with q | q
    · exact List.mem_append_left _ (allTo_of k q x hx)
    · have : i = k := by omega
      subst this
      exact List.mem_append_right _ hx
theorem merge_fold {t : Tr} (h : mayT t = true) : mergeM (cntT t) t = foldW (allTo t 16) := by
  have hf := front_of h
  obtain ⟨f1, f2⟩ := fold_law (allTo t 16) [] List.Pairwise.nil (all_pair hf 16 (Nat.le_refl _)) (fun x _ z hz => by cases hz)
  refine srt_ext (merge_srt _ hf) f1 fun x => ?_
  show _ ↔ x ∈ (allTo t 16).foldl withK []
  rw [f2 x]
  constructor
  · intro hx
    obtain ⟨i, hi, hx⟩ := merge_mem _ _ x hx
    exact .inr (allTo_of 16 hi x hx)
  · rintro (hx | hx)
    · cases hx
    · obtain ⟨i, hi, hx⟩ := allTo_mem hx
      exact merge_all _ hf (Nat.le_refl _) x i hi hx
def inR (lo hi : Bytes) (x : Item) : Bool := !less x.key lo && (hi.isEmpty || less x.key hi)
theorem scan_law {lo hi : Bytes} {most : Nat} : ∀ (l acc : List Item), Srt l → acc.length ≤ most → scanL lo hi most l acc = (acc ++ l.filter (inR lo hi)).take most
  | [], acc, _, h => by
    show acc = _
    rw [List.filter_nil, List.append_nil, List.take_of_length_le h]
  | x :: r, acc, hs, h => by
    obtain ⟨s1, s2⟩ := List.pairwise_cons.1 hs
    unfold scanL stopB
    by_cases h1 : (most : Int) ≤ (acc.length : Int)
    · rw [if_pos (by simp [h1])]
      have : acc.length = most := by omega
      rw [List.take_append_of_le_length (by omega), List.take_of_length_le h]
    · by_cases h2 : (!hi.isEmpty && !less x.key hi) = true
      · rw [if_pos (by simp [h2])]
        have hno : ∀ y ∈ x :: r, inR lo hi y = false := by
          simp only [Bool.and_eq_true, Bool.not_eq_true'] at h2
          intro y hy
          unfold inR
          rw [h2.1]
          have : less y.key hi = false := by
            rcases List.mem_cons.1 hy with rfl | hy
            · exact h2.2
            · cases hq : less y.key hi with
              | false => rfl
              | true =>
                have := less_trans _ _ _ (s1 y hy) hq
                rw [h2.2] at this; cases this
          rw [this]; simp
        rw [List.filter_eq_nil_iff.2 (fun y hy => by rw [hno y hy]; decide), List.append_nil, List.take_of_length_le h]
      · rw [if_neg (by simp only [Bool.or_eq_true, decide_eq_true_eq, not_or]; exact ⟨h1, h2⟩)]
        have hin : inR lo hi x = !less x.key lo := by
          unfold inR
          have : (hi.isEmpty || less x.key hi) = true := by
            cases hq : hi.isEmpty <;> cases hq2 : less x.key hi <;> simp_all
          rw [this, Bool.and_true]
        unfold takeX
        cases hl : less x.key lo with
        | true =>
          rw [if_pos rfl, scan_law r acc s2 h, List.filter_cons, hin, hl]
          rfl
        | false =>
          rw [if_neg (by decide), scan_law r (acc ++ [x]) s2 (by simp; omega), List.filter_cons, hin, hl]
          simp
def sortA (t : Tr) : List Item := foldW (allTo t 16)
theorem scanR_law {t : Tr} {lo hi : Bytes} {most : Nat} (h : mayT t = true) (h1 : patB lo = true) (h2 : patB hi = true) : scanR lo hi most t = ((sortA t).filter (inR lo hi)).take most := by
  unfold scanR okS scanT
  rw [h, h1, h2, if_pos (by decide), runM_scan, merge_fold h, scan_law _ _ ?_ (Nat.zero_le _), List.nil_append]
  · rfl
  · rw [← merge_fold h]; exact merge_srt _ (front_of h)
end Go.Proofs.YtoeajbhlkccekaaDoor

namespace Go.Proofs.YtoeajbhlkccekaaDoor
open Go.RowKit
set_option maxRecDepth 20000
attribute [local go_sem] tC_len tC_sure tC_ltA tC_lt1 tC_ro tC_take tC_all1 zcT_eq zcI_len zC_len zC_ltA zC_lt1 zC_sure zC_ro zC_take set_tl set_tv sc_tt sc_zt sc_tz sc_zz add16 tA_def lA_def natInt u_tl u_tv st_take35 st_take stC_len st_sure st_ltA st_lt1 st_ro zcS_eq zS_len zS_sure zS_take zS_ltA zS_ro zS_all1 ss_zs ss_zz u_bS0
def foldK (l : List Item) (k : Nat) : List Item := (l.take k).foldl withK []
theorem foldK_succ {l : List Item} {k : Nat} (h : k < l.length) : foldK l (k + 1) = withK (foldK l k) l[k] := by
  unfold foldK
  rw [List.take_succ_eq_append_getElem h, List.foldl_append]
  rfl
def slot3 (l : List Item) : Nat → AV
  | 0 => V (.slice none 0 0)
  | k + 1 => lA (foldK l (k + 1))
theorem slot3_ro {l : List Item} {H : List AObj} : ∀ k, ro H (slot3 l k) = lA (foldK l k)
  | 0 => rfl
  | k + 1 => rfl
theorem r11all_s (m : Nat) (t : Tr) (hm : 20000000 < m) (h : TInv t) : plenumref11_All m (tA t) = some (lA (sortA t), []) := by
  rw [plenumref11_All_eq]
  have hA := rall_s m t (by omega) h.ok
  have hle := allTo_le t h.ok 16
  have hf := front_of h.may
  have hp := all_pair hf 16 (Nat.le_refl _)
  have hmem : ∀ x ∈ allTo t 16, x.key.length ≤ maxLen := by
    intro x hx
    obtain ⟨i, hi, hx⟩ := allTo_mem hx
    exact ((h.ok i).2.1 x hx).1
  have hsort : sortA t = foldK (allTo t 16) (allTo t 16).length := by unfold sortA foldW foldK; rw [List.take_length]
  have h64 : (allTo t 16).length ≤ 1024 := by
    have key : ∀ k, k ≤ 16 → (allTo t k).length ≤ k * 64 := by
      intro k
      induction k with
      | zero => intro _; simp [allTo]
      | succ k ih =>
        intro hk
        rw [allTo_succ, List.length_append]
        have := ih (by omega)
        have := ((leafB_iff _).1 (fits_leaf h.may (show k < 16 by omega))).1
        omega
    exact key 16 (Nat.le_refl _)
  have hfl : ∀ k, k ≤ (allTo t 16).length → (∀ y ∈ foldK (allTo t 16) k, y ∈ allTo t 16) ∧ (foldK (allTo t 16) k).length ≤ k := by
    intro k hk
    induction k with
    | zero => exact ⟨fun y hy => (by cases hy), Nat.le_refl _⟩
    | succ k ih =>
      obtain ⟨i1, i2⟩ := ih (by omega)
      rw [foldK_succ (by omega)]
      refine ⟨fun y hy => ?_, ?_⟩
      · unfold withK at hy
        simp only [List.mem_append, List.mem_filter, List.mem_singleton] at hy
        rcases hy with (⟨hy, _⟩ | hy) | ⟨hy, _⟩
        · exact i1 y hy
        · rw [hy]; exact List.getElem_mem _
        · exact i1 y hy
      · have hs : Srt (foldK (allTo t 16) k) := (fold_law ((allTo t 16).take k) [] List.Pairwise.nil (hp.sublist (List.take_sublist _ _)) (fun x _ z hz => by cases hz)).1
        have := withK_len hs (allTo t 16)[k]
        split at this <;> omega
  rw [hsort]
  generalize allTo t 16 = l at *
  rw [tA_def, lA_def] at hA
  simp (config := {maxSteps := 4000000, implicitDefEqProofs := false}) (disch := omega) only [go_sem, hA]
  refine iter_go (ι := {k : Nat // k ≤ l.length}) (fun k => ⟨[⟨1, ty_api_Trunk, 0, tC t⟩], [(3, slot3 l k.1), (4, SL (l.map (flA Item.cells))), (5, nA k.1)]⟩) (fun k => l.length - k.1) (fun _ => some (lA (foldK l l.length), [])) ?_ (⟨0, Nat.zero_le _⟩ : {k : Nat // k ≤ l.length}) (by show l.length - 0 < m; omega)
  rintro kx hkx ⟨k, hk⟩ kc hkc
  dsimp only at hk hkc ⊢
  rw [plenumref11_All_b1_eq]
  by_cases hlt : k < l.length
  · have hlt' : (k : Int) < (l.length : Int) := by omega
    have step := hkc ⟨k + 1, by omega⟩ (by dsimp only; omega)
    dsimp only [slot3] at step
    rw [foldK_succ hlt] at step
    obtain ⟨j1, j2⟩ := hfl k (by omega)
    have hW := plenumref09_With_e m (foldK l k) l[k] ⟨by omega, hmem _ (List.getElem_mem _), fun x hx => hmem x (j1 x hx)⟩
    rw [iA_def, lA_def, lA_def] at hW
    rw [lA_def] at step
    simp (config := {maxSteps := 4000000, implicitDefEqProofs := false}) (disch := omega) only [go_sem, hlt', u_nthM, fl_it, slot3_ro, hW, w_i64]
    exact step
  · have hlt' : ¬ (k : Int) < (l.length : Int) := by omega
    have : k = l.length := by omega
    subst this
    simp (config := {maxSteps := 4000000, implicitDefEqProofs := false}) (disch := omega) only [go_sem, hlt', hkx, plenumref11_All_r1_eq, slot3_ro]
    try rfl
theorem it_allA {l : List Item} {n : Nat} : (l.all fun x => ltA n (flA Item.cells x)) = true := List.all_eq_true.2 fun _ _ => rfl
theorem whole_s (m : Nat) (t : Tr) (lo hi : Bytes) (hm : 20000000 < m) (h : TInv t) (hs : (sortA t).length ≤ 1024) (hkl : ∀ x ∈ sortA t, x.key.length ≤ maxLen) (h1 : lo.length ≤ maxLen) (h2 : hi.length ≤ maxLen) :
    plenumref11_Whole m (tA t) (sA lo) (sA hi) = some (lA ((sortA t).filter fun x => inK x.key lo hi), []) := by
  rw [plenumref11_Whole_eq]
  have hA := r11all_s m t hm h
  generalize sortA t = l at *
  rw [tA_def, lA_def] at hA
  simp (config := {maxSteps := 4000000, implicitDefEqProofs := false}) (disch := omega) only [go_sem, hA]
  refine iter_go (ι := {k : Nat // k ≤ l.length}) (fun k => ⟨[⟨1, ty_api_Trunk, 0, tC t⟩, ⟨2, ty_api_Item, 5, ((l.take k.1).filter fun x => inK x.key lo hi).map (flA Item.cells)⟩], [(1, sA lo), (2, sA hi), (7, OW 1 ((l.take k.1).filter fun x => inK x.key lo hi).length), (8, SL (l.map (flA Item.cells))), (9, nA k.1)]⟩) (fun k => l.length - k.1) (fun _ => some (lA (l.filter fun x => inK x.key lo hi), [])) ?_ (⟨0, Nat.zero_le _⟩ : {k : Nat // k ≤ l.length}) (by show l.length - 0 < m; omega)
  rintro kx hkx ⟨k, hk⟩ kc hkc
  dsimp only at hk hkc ⊢
  rw [plenumref11_Whole_b1_eq]
  by_cases hlt : k < l.length
  · have hlt' : (k : Int) < (l.length : Int) := by omega
    have step := hkc ⟨k + 1, by omega⟩ (by dsimp only; omega)
    dsimp only at step
    rw [List.take_succ_eq_append_getElem hlt, List.filter_append] at step
    have hI := plenumref08_In_e m l[k].key lo hi (hkl _ (List.getElem_mem _)) h1 h2
    have hle : ((l.take k).filter fun x => inK x.key lo hi).length ≤ k := Nat.le_trans (List.length_filter_le _ _) (by rw [List.length_take]; omega)
    generalize hacc : (l.take k).filter (fun x => inK x.key lo hi) = acc at *
    cases hq : inK l[k].key lo hi with
    | true =>
      rw [hq] at hI
      have e1 : [l[k]].filter (fun x => inK x.key lo hi) = [l[k]] := by simp [hq]
      rw [e1, List.map_append, List.length_append] at step
      have hkm : acc.length ≤ 34359738367 := by omega
      simp (config := {maxSteps := 4000000, implicitDefEqProofs := false}) (disch := omega) only [go_sem, hlt', u_nthM, fl_it, hI, w_i64, hkm, fl_all5, it_allA, plenumref11_Whole_r2_eq]
      exact step
    | false =>
      rw [hq] at hI
      have e1 : [l[k]].filter (fun x => inK x.key lo hi) = [] := by simp [hq]
      rw [e1, List.append_nil] at step
      simp (config := {maxSteps := 4000000, implicitDefEqProofs := false}) (disch := omega) only [go_sem, hlt', u_nthM, fl_it, hI, w_i64, fl_all5, it_allA, plenumref11_Whole_r2_eq]
      exact step
  · have hlt' : ¬ (k : Int) < (l.length : Int) := by omega
    have : k = l.length := by omega
    subst this
    rw [List.take_length]
    simp (config := {maxSteps := 4000000, implicitDefEqProofs := false}) (disch := omega) only [go_sem, hlt', hkx, plenumref11_Whole_r1_eq]
    try rfl
theorem head_s (m : Nat) (l : List Item) (hl : l.length ≤ 34359738368) : plenumref11_Head m (lA l) (nA 5) = some (lA (l.take 5), []) := by
  rw [plenumref11_Head_eq]
  by_cases h : 5 < l.length
  · have h' : (5 : Int) < (l.length : Int) := by omega
    have hc : cutE (l.map (flA Item.cells)) 0 5 = (l.take 5).map (flA Item.cells) := by
      unfold cutE
      show ((l.map (flA Item.cells)).take 5).drop 0 = _
      rw [List.drop_zero, List.map_take]
    simp (config := {maxSteps := 4000000, implicitDefEqProofs := false}) (disch := omega) only [go_sem, plenumref11_Head_r1_eq, h', hc, fl_all5]
    try (rw [decide_eq_true (by omega), whenE_t])
  · have h' : ¬ (5 : Int) < (l.length : Int) := by omega
    rw [List.take_of_length_le (by omega)]
    simp (config := {maxSteps := 4000000, implicitDefEqProofs := false}) (disch := omega) only [go_sem, plenumref11_Head_r1_eq, h']
end Go.Proofs.YtoeajbhlkccekaaDoor

namespace Go.Proofs.YtoeajbhlkccekaaDoor
open Go.RowKit
set_option maxRecDepth 20000
attribute [local go_sem] tC_len tC_sure tC_ltA tC_lt1 tC_ro tC_take tC_all1 zcT_eq zcI_len zC_len zC_ltA zC_lt1 zC_sure zC_ro zC_take set_tl set_tv sc_tt sc_zt sc_tz sc_zz add16 tA_def lA_def natInt u_tl u_tv st_take35 st_take stC_len st_sure st_ltA st_lt1 st_ro zcS_eq zS_len zS_sure zS_take zS_ltA zS_ro zS_all1 ss_zs ss_zz u_bS0
theorem u_eqVs {R : Type} {K1 : AV → Option R} {a b : Int} {s : List UInt8} {isB sl : Bool} : binE (some [.i .i64, .i .i64, .s]) isB sl .eql (.agg [V (.int .i64 a), V (.int .i64 b), V (.string ⟨s.toArray⟩)]) (.agg [V (.int .i64 a), V (.int .i64 b), V (.string ⟨s.toArray⟩)]) K1 = K1 (bA true) := by
  have := u_eqV (K1 := K1) (x := ⟨[], a, b, s, 0⟩) (y := ⟨[], a, b, s, 0⟩) (isB := isB) (sl := sl)
  refine this.trans ?_
  have e : sameV ⟨[], a, b, s, 0⟩ ⟨[], a, b, s, 0⟩ = true := by simp [sameV]
  rw [e]
theorem u_eqV0 {R : Type} {K1 : AV → Option R} {isB sl : Bool} : binE (some [.i .i64, .i .i64, .s]) isB sl .eql (.agg [V (.int .i64 0), V (.int .i64 0), V (.string ⟨#[]⟩)]) (.agg [V (.int .i64 0), V (.int .i64 0), V (.string ⟨#[]⟩)]) K1 = K1 (bA true) := u_eqVs (s := [])
def valO (x : Item) : AObj := ⟨1, ty_api_Value, 0, [V (.int .i64 x.kind), V (.int .i64 x.i), V (.string ⟨x.s.toArray⟩)]⟩
theorem gets_r4 (m : Nat) (u : St) (k : Bytes) (hm : 40000000 < m) (hu : u.t.Ok) (h1 : mayS u = true) (hk : k.length ≤ maxLen) : plenumlaw13_StoreGets_r4 m ⟨[⟨1, ty_api_Store, 0, stC u⟩, valO (getR u k).1], [(1, sA k), (3, OP 0 0), (7, OP 1 0), (8, nA (getR u k).1.ver), (9, nA (getR u k).2)]⟩ = some (bA true, []) := by
  rw [plenumlaw13_StoreGets_r4_eq]
  have hI := plenumref08_Is_e m k hk
  have hA := awake13_s m hm
  have hG := rget_s m u.t k (by omega) hu (mayS_nums h1).2.2.2.2.2.2.1
  rw [tA_def] at hG
  unfold getR valO
  rw [h1]
  cases h2 : keyB k with
  | false =>
    rw [h2] at hI
    simp (config := {maxSteps := 4000000, implicitDefEqProofs := false}) (disch := omega) only [go_sem, hI, hA, zcV0, u_bV0, u_eqV0]
    try rfl
  | true =>
    rw [h2] at hI
    cases h3 : (getT u.t k).isSome with
    | false =>
      rw [h3] at hG
      simp (config := {maxSteps := 4000000, implicitDefEqProofs := false}) (disch := omega) only [go_sem, hI, hA, zcV0, u_bV0, u_eqV0, hG, iA_def, zcI0]
      try rfl
    | true =>
      rw [h3] at hG
      simp (config := {maxSteps := 4000000, implicitDefEqProofs := false}) (disch := omega) only [go_sem, hI, hA, zcV0, u_bV0, u_eqVs, hG, iA_def, zcI0]
      try rfl
theorem short_s (m : Nat) (k : Bytes) : plenumlaw13_short m (sA k) = some (sA (k.take 60), []) := by
  rw [plenumlaw13_short_eq]
  by_cases h : 60 < k.length
  · have h' : (60 : Int) < (k.length : Int) := by omega
    simp (config := {maxSteps := 4000000, implicitDefEqProofs := false}) (disch := omega) only [go_sem, h']
    rw [decide_eq_true (by omega), whenE_t]
  · have h' : ¬ (60 : Int) < (k.length : Int) := by omega
    rw [List.take_of_length_le (by omega)]
    simp (config := {maxSteps := 4000000, implicitDefEqProofs := false}) (disch := omega) only [go_sem, h']
theorem sortA_facts {t : Tr} (h : TInv t) : (sortA t).length ≤ 1024 ∧ ∀ x ∈ sortA t, keyB x.key = true := by
  have hf := front_of h.may
  have hmem : ∀ x ∈ sortA t, ∃ i, i < 16 ∧ x ∈ t.leaf i := by
    intro x hx
    rw [show sortA t = mergeM (cntT t) t from (merge_fold h.may).symm] at hx
    exact merge_mem _ _ x hx
  constructor
  · rw [show sortA t = mergeM (cntT t) t from (merge_fold h.may).symm]
    have l1 : ∀ (n : Nat) (u : Tr), (mergeM n u).length ≤ n := by
      intro n
      induction n with
      | zero => intro u; exact Nat.le_refl _
      | succ n ih =>
        intro u
        unfold mergeM
        split
        · exact Nat.zero_le _
        · simp only [List.length_cons]
          have := ih (pop u (leastT u).toNat)
          omega
    have l2 : ∀ k, k ≤ 16 → cntN t k ≤ k * 64 := by
      intro k
      induction k with
      | zero => intro _; exact Nat.le_refl _
      | succ k ih =>
        intro hk
        have := ih (by omega)
        have := ((leafB_iff _).1 (fits_leaf h.may (show k < 16 by omega))).1
        unfold cntN
        omega
    have := l1 (cntT t) t
    have := l2 16 (Nat.le_refl _)
    unfold cntT at *
    omega
  · intro x hx
    obtain ⟨i, hi, hx⟩ := hmem x hx
    exact itemB_key (fits_key h.may hi hx).1
theorem gets_s (m : Nat) (s : St) (k0 h0 : Bytes) (hm : 40000000 < m) (h : s.t.In) : plenumlaw13_StoreGets m (stA s) (sA k0) (sA h0) = some (bA true, []) := by
  rw [plenumlaw13_StoreGets_eq]
  have hF := few13b_s m s h
  have hs1 := short_s m k0
  have hs2 := short_s m h0
  have hkl : (k0.take 60).length ≤ maxLen := Nat.le_trans (by rw [List.length_take]; omega) (show 60 ≤ maxLen by decide)
  have hhl : (h0.take 60).length ≤ maxLen := Nat.le_trans (by rw [List.length_take]; omega) (show 60 ≤ maxLen by decide)
  have hu : (fewSt s).t.Ok := few_ok h
  have hinv : mayT (fewSt s).t = true → TInv (fewSt s).t := fun q => few_inv h q
  generalize k0.take 60 = k at *
  generalize h0.take 60 = hi at *
  generalize fewSt s = u at *
  have hG := get_s m u k (by omega) hu
  have hC := scan_s m u k hi 5 (by omega) hu
  have hM := rmayS_s m u (by omega) hu
  have hA := awake13_s m hm
  have hP1 := plenumref08_Pattern_e m k hkl
  have hP2 := plenumref08_Pattern_e m hi hhl
  unfold valV at hG
  rw [stA_def] at hF hG hC hM ⊢
  rw [stA_def] at hF
  cases h1 : mayS u with
  | false =>
    have hg : getR u k = (Item.zero, 1) := by unfold getR; rw [h1]; rfl
    rw [hg] at hG
    rw [h1] at hC hM
    rw [if_neg (by decide), if_neg (by decide), lA_def] at hC
    simp (config := {maxSteps := 4000000, implicitDefEqProofs := false}) (disch := omega) only [go_sem, hF, hs1, hs2, ss_set, hG, hC, hM, hA, zcV0, u_bV0, u_eqV0]
    try rfl
  | true =>
    have hr4 := gets_r4 m u k hm hu h1 hkl
    have hmt := (mayS_nums h1).2.2.2.2.2.2.1
    have hiv := hinv hmt
    unfold valO at hr4
    rw [h1] at hC hM
    rw [if_pos rfl, if_pos rfl] at hC
    generalize getR u k = g at hG hr4
    obtain ⟨x, e⟩ := g
    dsimp only at hG hr4
    cases p1 : patB k with
    | false =>
      have hc1 : scanR k hi 5 u.t = [] ∧ scanE k hi u.t = 3 := by unfold scanR scanE okS; rw [hmt, p1]; exact ⟨rfl, rfl⟩
      rw [p1] at hP1
      rw [hc1.1, hc1.2, lA_def] at hC
      simp (config := {maxSteps := 4000000, implicitDefEqProofs := false}) (disch := omega) only [go_sem, hF, hs1, hs2, ss_set, hG, hC, hM, hP1, zcV0, plenumlaw13_StoreGets_r1_eq, plenumlaw13_StoreGets_r2_eq, hr4]
      try rfl
    | true =>
      rw [p1] at hP1
      cases p2 : patB hi with
      | false =>
        have hc1 : scanR k hi 5 u.t = [] ∧ scanE k hi u.t = 3 := by unfold scanR scanE okS; rw [hmt, p1, p2]; exact ⟨rfl, rfl⟩
        rw [p2] at hP2
        rw [hc1.1, hc1.2, lA_def] at hC
        simp (config := {maxSteps := 4000000, implicitDefEqProofs := false}) (disch := omega) only [go_sem, hF, hs1, hs2, ss_set, hG, hC, hM, hP1, hP2, zcV0, plenumlaw13_StoreGets_r1_eq, plenumlaw13_StoreGets_r2_eq, hr4]
        try rfl
      | true =>
        rw [p2] at hP2
        obtain ⟨f1, f2⟩ := sortA_facts hiv
        have hW := whole_s m u.t k hi (by omega) hiv f1 (fun x hx => Nat.le_trans (key24 (f2 x hx)) (by decide)) hkl hhl
        have hfe : ((sortA u.t).filter fun x => inK x.key k hi) = (sortA u.t).filter (inR k hi) := by
          refine List.filter_congr fun x hx => ?_
          unfold inK inR
          rw [f2 x hx, p1, p2]
          rfl
        have hSc : scanR k hi 5 u.t = ((sortA u.t).filter (inR k hi)).take 5 := scanR_law (most := 5) hmt p1 p2
        have hSe : scanE k hi u.t = 0 := by unfold scanE okS; rw [hmt, p1, p2]; rfl
        rw [hSc, hSe] at hC
        rw [hfe] at hW
        have hlf : ((sortA u.t).filter (inR k hi)).length ≤ 1024 := Nat.le_trans (List.length_filter_le _ _) f1
        have hkx : ∀ x ∈ (sortA u.t).filter (inR k hi), x.key.length ≤ maxLen := fun x hx => Nat.le_trans (key24 (f2 x (List.mem_filter.1 hx).1)) (by decide)
        generalize (sortA u.t).filter (inR k hi) = w at *
        have hH := head_s m w (by omega)
        have hS := plenumref09_Same_e m (w.take 5) (w.take 5) (by simp; omega)
        rw [tA_def, lA_def] at hW
        rw [lA_def, lA_def] at hH
        rw [lA_def] at hC hS
        simp (config := {maxSteps := 4000000, implicitDefEqProofs := false}) (disch := omega) only [go_sem, hF, hs1, hs2, ss_set, hG, hC, hM, hP1, hP2, zcV0, plenumlaw13_StoreGets_r1_eq, plenumlaw13_StoreGets_r3_eq, hr4, hW, hH, hS]
        try rfl
end Go.Proofs.YtoeajbhlkccekaaDoor

namespace Go.Proofs.YtoeajbhlkccekaaDoor
open Go.RowKit
set_option maxRecDepth 100000
theorem gok_sig {W : World} (h : Sig W) : GOk GG (SW W) := by
  intro g d hg j y hy
  simp only [GG, List.mem_singleton, Prod.mk.injEq] at hg
  obtain ⟨rfl, rfl⟩ := hg
  match j with
  | 0 => simp [cellsOf] at hy; subst hy; exact ⟨1, _, h.2.1, rfl, rfl, rfl⟩
  | 1 => simp [cellsOf] at hy; subst hy; exact ⟨1, _, h.2.2, rfl, rfl, rfl⟩
  | j + 2 => simp [cellsOf] at hy
theorem ofT_val {n : Nat} {ds : List AV} (h : ofT Tryd.prog n 43 ds) : ∃ (k i : Int) (s : Bytes), ds = [nA k, nA i, sA s] ∧ (-9223372036854775808 ≤ i ∧ i < 9223372036854775808) ∧ s.length ≤ maxLen := by
  obtain ⟨m, a1, b1, rfl, h1, a2, b2, rfl, h2, a3, b3, rfl, h3, rfl⟩ := ofT_struct Tryd.underlying43 h
  obtain ⟨k, rfl, _⟩ := ofT_i64 Tryd.underlying3 h1
  obtain ⟨i, rfl, hi⟩ := ofT_i64 Tryd.underlying2 h2
  obtain ⟨s, rfl, hs⟩ := ofT_str Tryd.underlying9 h3
  exact ⟨k, i, s, rfl, hi, hs⟩
theorem ofT_item {n : Nat} {ds : List AV} (h : ofT Tryd.prog n 58 ds) : ∃ x : Item, ds = x.cells.map (fun u => V u) ∧ ItemIn x := by
  obtain ⟨m, a1, b1, rfl, h1, a2, b2, rfl, h2, a3, b3, rfl, h3, rfl⟩ := ofT_struct Tryd.underlying58 h
  obtain ⟨k, rfl, hk⟩ := ofT_str Tryd.underlying9 h1
  obtain ⟨kd, i, s, rfl, hi, hs⟩ := ofT_val h2
  obtain ⟨v, rfl, _⟩ := ofT_i64 Tryd.underlying3 h3
  exact ⟨⟨k, kd, i, s, v⟩, rfl, hk, hs, hi⟩
theorem agg_item : aggT Tryd.prog 58 = true := by kernel_rfl
theorem ofT_items {n : Nat} {ds : List AV} (h : ofT Tryd.prog n 22 ds) : ∃ l : List Item, ds = [lA l] ∧ l.length ≤ maxLen ∧ ∀ x ∈ l, ItemIn x := by
  obtain ⟨m, es, rfl, hl, he⟩ := ofT_slice Tryd.underlying22 h
  obtain ⟨l, rfl, hi⟩ := list_of (f := flA Item.cells) (Q := ItemIn) fun x hx => by
    obtain ⟨q1, q2⟩ := he x hx
    obtain ⟨y, hy, hi⟩ := ofT_item q1
    exact ⟨y, by rw [cells_agg (q2.trans agg_item), hy]; rfl, hi⟩
  exact ⟨l, rfl, by simpa using hl, hi⟩
theorem flat_one {α β : Type} {f : β → α} {k : List β} : (k.map fun y => [f y]).flatten = k.map f := by
  induction k with
  | nil => rfl
  | cons x r ih => simp [ih]
theorem map_get {α β : Type} (f : α → β) (l : List α) (d : α) : l.map f = (List.range l.length).map fun i => f (l.getD i d) := by
  refine List.ext_getElem (by simp) fun i h1 h2 => ?_
  simp only [List.length_map] at h1
  simp [List.getElem_map, h1]
theorem ofT_trunk {n : Nat} {ds : List AV} (h : ofT Tryd.prog n 26 ds) : ∃ t : Tr, ds = tC t ∧ t.In := by
  obtain ⟨m, a1, b1, rfl, h1, a2, b2, rfl, h2, rfl⟩ := ofT_struct Tryd.underlying26 h
  obtain ⟨m1, ps, hp, rfl, hq⟩ := ofT_array Tryd.underlying23 h1
  obtain ⟨m2, qs, hp2, rfl, hq2⟩ := ofT_array Tryd.underlying24 h2
  obtain ⟨L, rfl, hL⟩ := list_of (f := fun l : List Item => [lA l]) (Q := fun l => l.length ≤ maxLen ∧ ∀ x ∈ l, ItemIn x) fun x hx => ofT_items (hq x hx)
  obtain ⟨Z, rfl, hZ⟩ := list_of (f := fun z : Int => [nA z]) (Q := fun _ => True) fun x hx => by
    obtain ⟨i, e, _⟩ := ofT_i64 Tryd.underlying3 (hq2 x hx)
    exact ⟨i, e, trivial⟩
  rw [List.length_map] at hp hp2
  refine ⟨⟨fun i => L.getD i [], fun i => Z.getD i 0⟩, ?_, fun i => ?_⟩
  · rw [List.append_nil, flat_one, flat_one, map_get lA L [], map_get nA Z 0, hp, hp2]
    rfl
  · dsimp only
    by_cases hi : i < L.length
    · have e : L.getD i [] = L[i] := by simp [hi]
      have hm := hL L[i] (List.getElem_mem hi)
      rw [e]
      exact ⟨hm.1, fun x hx => (hm.2 x hx).2.2, fun q => by omega⟩
    · have e : L.getD i [] = [] := by simp [List.getD, List.getElem?_eq_none (Nat.le_of_not_lt hi)]
      rw [e]
      exact ⟨Nat.zero_le _, (by intro x hx; cases hx), fun _ => rfl⟩
theorem ofT_store {n : Nat} {ds : List AV} (h : ofT Tryd.prog n 28 ds) : ∃ s : St, ds = stC s ∧ s.t.In := by
  obtain ⟨m, a1, b1, rfl, h1, a2, b2, rfl, h2, a3, b3, rfl, h3, a4, b4, rfl, h4, rfl⟩ := ofT_struct Tryd.underlying28 h
  obtain ⟨t, rfl, ht⟩ := ofT_trunk h1
  obtain ⟨v, rfl, _⟩ := ofT_i64 Tryd.underlying3 h2
  obtain ⟨b, rfl, _⟩ := ofT_i64 Tryd.underlying3 h3
  obtain ⟨k, rfl, _⟩ := ofT_i64 Tryd.underlying3 h4
  exact ⟨⟨t, v, b, k⟩, rfl, ht⟩
theorem mk_store {ds : List AV} : mkA Tryd.prog 28 ds = .agg ds := by
  unfold mkA
  rw [if_pos (show aggT Tryd.prog 28 = true by kernel_rfl)]
theorem mk_str {d : AV} : mkA Tryd.prog 9 [d] = d := by
  unfold mkA
  rw [if_neg (by rw [show aggT Tryd.prog 9 = false by kernel_rfl]; decide)]
  rfl
theorem arg_store {W : World} {v : Value} (h : Arg Tryd.prog W 28 v) : ∃ s : St, s.t.In ∧ rep (SW W) [] (stA s) v := by
  obtain ⟨n, ds, h1, h2⟩ := h
  obtain ⟨t, rfl, ht⟩ := ofT_store h1
  rw [mk_store] at h2
  exact ⟨t, ht, h2⟩
theorem arg_str {W : World} {v : Value} (h : Arg Tryd.prog W 9 v) : ∃ s : Bytes, s.length ≤ maxLen ∧ rep (SW W) [] (sA s) v := by
  obtain ⟨n, ds, h1, h2⟩ := h
  obtain ⟨t, rfl, ht⟩ := ofT_str Tryd.underlying9 h1
  rw [mk_str] at h2
  exact ⟨t, ht, h2⟩
theorem reps3 {S : SS} {d0 d1 d2 : AV} {v0 v1 v2 : Value} (h0 : rep S [] d0 v0) (h1 : rep S [] d1 v1) (h2 : rep S [] d2 v2) : ∀ (j : Nat) (d : AV) (v : Value), [d0, d1, d2][j]? = some d → [v0, v1, v2][j]? = some v → rep S [] d v := by
  intro j d v hd hv
  match j with
  | 0 => simp at hd hv; subst hd hv; exact h0
  | 1 => simp at hd hv; subst hd hv; exact h1
  | 2 => simp at hd hv; subst hd hv; exact h2
  | j + 3 => simp at hd
theorem walk_StoreGets (W : World) (hS : Sig W) (v0 : Value) (h0 : Arg Tryd.prog W 28 v0) (v1 : Value) (h1 : Arg Tryd.prog W 9 v1) (v2 : Value) (h2 : Arg Tryd.prog W 9 v2) :
    Calls Tryd.prog 5 #[v0, v1, v2] W fun e W' => e = .returned (.bool true) ∧ Below W.heap.size W W' := by
  obtain ⟨s, hs, r0⟩ := arg_store h0
  obtain ⟨k, _, r1⟩ := arg_str h1
  obtain ⟨t, _, r2⟩ := arg_str h2
  exact run_tells (plenumlaw13_StoreGets_ok 40000001 [_, _, _] _ _ (gets_s _ s k t (by omega) hs)) (gok_sig hS) (vs := [v0, v1, v2]) rfl (reps3 r0 r1 r2)
end Go.Proofs.YtoeajbhlkccekaaDoor
