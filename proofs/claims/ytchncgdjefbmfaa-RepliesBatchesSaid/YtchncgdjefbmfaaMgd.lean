/-
  Texts laid together, part 4 of 6: laws of a walk over data, contracts of functions, each whole by itself.
-/
import Derived.Test.YtchncgdjefbmfaaMgc
namespace Go.Proofs.Ytchncgdjefbmfaa
open Go.RowKit
set_option linter.unusedVariables false
set_option maxRecDepth 100000
def ty_api_Last : TypeId := 40
def ty_api_Result : TypeId := 32
def ty_api_Txn : TypeId := 57
def ty_int : TypeId := 3
def ty_sl_api_Last : TypeId := 22
def ty_uint8 : TypeId := 5
def zc_api_Last : List AV := [(V (.int .i64 0)), (V (.int .i64 0)), (V (.int .i64 0)), (V (.int .i64 0)), (V (.int .i64 0)), (V (.string ⟨#[]⟩)), (V (.int .i64 0))]
def zc_api_Result : List AV := [(V (.int .i64 0)), (V (.int .i64 0)), (V (.int .i64 0)), (V (.string ⟨#[]⟩)), (V (.int .i64 0))]
def zc_api_Txn : List AV := [(V (.int .i64 0)), (V (.int .i64 0)), (V (.slice none 0 0)), (V (.slice none 0 0)), (V (.string ⟨#[]⟩)), (V (.int .i64 0))]
def pl_api_Last : List (Nat × Nat) := [(0, 1), (1, 1), (2, 5)]
def pl_api_Result : List (Nat × Nat) := [(0, 1), (1, 3), (4, 1)]
def pl_api_Txn : List (Nat × Nat) := [(0, 1), (1, 1), (2, 2), (4, 1), (5, 1)]
noncomputable def replies_find_1_c : Code := (Try.f55.body).getD .skip
def replies_find_1_h : Hint := (.two .n (.two .n .n))
noncomputable def replies_find_1_env (m : Nat) : Env := []
noncomputable abbrev replies_find_1_fin (n0 : Nat) : KO (AV × List AObj) := keepFK Try.prog n0 [.tmp 4]
noncomputable def replies_find_1 (m : Nat) (t0 t1 t2 : AV) (H : List AObj) : RO := exec Try.prog GG (replies_find_1_env m) m 12 replies_find_1_c replies_find_1_h ⟨H, argsT 0 [t0, t1, t2]⟩ (replies_find_1_fin H.length)
theorem replies_find_1_eq (m : Nat) (t0 t1 t2 : AV) (H : List AObj) : replies_find_1 m t0 t1 t2 H =
  loadE 1 H t1 fun t5 =>
  idxSE 9 H t5 t0 fun t7 =>
  fieldE (some (0, 1)) t7 fun t8 =>
  loadE 1 H t8 fun t9 =>
  loadE 1 H t2 fun t10 =>
  binE none false false .geq t9 t10 fun t11 =>
  keepK H.length H (ro H t11) := by
  refine (keepX Try.prog GG (replies_find_1_env m) m 12 H.length replies_find_1_c replies_find_1_h ⟨H, argsT 0 [t0, t1, t2]⟩ [.tmp 4]).trans ?_
  kernel_rfl
noncomputable def replies_find_1_t (m : Nat) : List AV → List AObj → RO | [t0, t1, t2], H => replies_find_1 m t0 t1 t2 H | _, _ => none
theorem replies_find_1_ok (m : Nat) : ∀ args H X H', replies_find_1_t m args H = some (X, H') → AC Try.prog GG 55 args H (Is X H') := by
  intro args H X H' h
  unfold replies_find_1_t at h
  split at h
  · exact keep_okK MIX (by intro f e h; cases h) (f := 55) (c := replies_find_1_c) Try.func55 rfl (by kernel_rfl) _ rfl Try.ntmps55 (Nat.le_of_ble_eq_true rfl) replies_find_1_h h
  · cases h
noncomputable def sort_Search_c : Code := (Try.f54.body).getD .skip
def sort_Search_h : Hint := (.two .n (.two .n (.join [5] (.one (.lp [] [1, 5, 6] [5] (.two (.two .n (.two .n .n)) (.one (.two .n (.two .n (.two .n .n))))))) (.two .n .n))))
noncomputable def sort_Search_env (m : Nat) : Env := [(55, .keep (replies_find_1_t m))]
noncomputable abbrev sort_Search_fin (n0 : Nat) : KO (AV × List AObj) := keepFK Try.prog n0 [.tmp 4]
noncomputable def sort_Search_r1 (m : Nat) (n0k : Nat) (s : ASt) : RO := joinW Try.prog GG (sort_Search_env m) m 26 (cdR (cdR (cdR sort_Search_c))) sort_Search_h.r.r.r s (sort_Search_fin n0k)
noncomputable def sort_Search_b1 (m : Nat) (s : ASt) (kc : ASt → RO) (kx : KO (AV × List AObj)) : RO := bodyW Try.prog GG (sort_Search_env m) m 26 (cdL (cdL (cdL (cdR (cdR sort_Search_c))))) sort_Search_h.r.r.l.c.c [1, 5, 6] [5] s kc kx
noncomputable def sort_Search (m : Nat) (t0 t1 : AV) (H : List AObj) : RO := exec Try.prog GG (sort_Search_env m) m 26 sort_Search_c sort_Search_h ⟨H, argsT 0 [t0, t1]⟩ (sort_Search_fin H.length)
theorem sort_Search_r1_eq (m : Nat) (n0k : Nat) (H : List AObj) (t5 : AV) : sort_Search_r1 m n0k ⟨H, [(5, t5)]⟩ =
  keepK n0k H (ro H t5) := by
  refine (joinW_eq Try.prog GG (sort_Search_env m) m 26 (cdR (cdR (cdR sort_Search_c))) sort_Search_h.r.r.r ⟨H, [(5, t5)]⟩ (sort_Search_fin n0k)).trans ?_
  kernel_rfl
theorem sort_Search_b1_eq (m : Nat) (H : List AObj) (t1 t5 t6 : AV) (kc : ASt → RO) (kx : KO (AV × List AObj)) : sort_Search_b1 m ⟨H, [(1, t1), (5, t5), (6, t6)]⟩ kc kx =
  binE none false false .lss t5 t6 fun t11 =>
  condE t11 (
   binE none false false .add t5 t6 fun t14 =>
   convE false (some .u64) true false t14 fun t15 =>
   binE none false false .shr t15 (V (.int .u64 1)) fun t16 =>
   convE false (some .i64) true false t16 fun t17 =>
   callVE (sort_Search_env m) t1 [t17] H fun t20 H2 =>
   unE .not t20 fun t21 =>
   condE t21 (
    binE none false false .add t17 (V (.int .i64 1)) fun t23 =>
    backE H.length H2 [(1, t1), (5, t23), (6, t6)] kc) (
    backE H.length H2 [(1, t1), (5, t5), (6, t17)] kc)) (
   kx (.exit 0) ⟨H, [(5, t5)]⟩) := by
  refine (bodyW_eq Try.prog GG (sort_Search_env m) m 26 (cdL (cdL (cdL (cdR (cdR sort_Search_c))))) sort_Search_h.r.r.l.c.c [1, 5, 6] [5] ⟨H, [(1, t1), (5, t5), (6, t6)]⟩ kc kx).trans ?_
  kernel_rfl
theorem sort_Search_eq (m : Nat) (t0 t1 : AV) (H : List AObj) : sort_Search m t0 t1 H =
  iterC m (sort_Search_b1 m) ⟨H, [(1, t1), (5, (V (.int .i64 0))), (6, t0)]⟩ (blockX 0 (seqX (fun s => sort_Search_r1 m H.length ⟨s.H, [(5, gt s.T 5)]⟩) (sort_Search_fin H.length))) := by
  refine (keepX Try.prog GG (sort_Search_env m) m 26 H.length sort_Search_c sort_Search_h ⟨H, argsT 0 [t0, t1]⟩ [.tmp 4]).trans ?_
  kernel_rfl
noncomputable def sort_Search_t (m : Nat) : List AV → List AObj → RO | [t0, t1], H => sort_Search m t0 t1 H | _, _ => none
theorem sort_Search_ok (m : Nat) : ∀ args H X H', sort_Search_t m args H = some (X, H') → AC Try.prog GG 54 args H (Is X H') := by
  intro args H X H' h
  unfold sort_Search_t at h
  split at h
  · exact keep_okK MIX (by
    intro f e h
    simp only [sort_Search_env, Prod.mk.injEq, List.mem_cons, List.not_mem_nil, or_false] at h
    obtain ⟨rfl, rfl⟩ := h
    · exact replies_find_1_ok m) (f := 54) (c := sort_Search_c) Try.func54 rfl (by kernel_rfl) _ rfl Try.ntmps54 (Nat.le_of_ble_eq_true rfl) sort_Search_h h
  · cases h
noncomputable def replies_could_c : Code := (Try.f26.body).getD .skip
def replies_could_h : Hint := (.two .n (.two .n .n))
noncomputable def replies_could_env (m : Nat) : Env := []
noncomputable abbrev replies_could_fin : KO (AV × List AObj) := tellFK Try.prog [.tmp 4]
noncomputable def replies_could (m : Nat) (t0 t1 : AV) : RO := exec Try.prog GG (replies_could_env m) m 19 replies_could_c replies_could_h ⟨[], argsT 0 [t0, t1]⟩ (replies_could_fin)
theorem replies_could_eq (m : Nat) (t0 t1 : AV) : replies_could m t0 t1 =
  binE none false false .geq t0 (V (.int .i64 0)) fun t6 =>
  condE t6 (
   binE none false false .lss t0 (V (.int .i64 256)) fun t9 =>
   condE t9 (
   binE none false false .geq t1 (V (.int .i64 1)) fun t13 =>
   condE t13 (
   binE none false false .leq t1 (V (.int .i64 2147483647)) fun t17 =>
   tellK [] (ro [] t17)) (
   tellK [] (ro [] (V (.bool false))))) (
   tellK [] (ro [] (V (.bool false))))) (
   tellK [] (ro [] (V (.bool false)))) := by
  refine (tellX Try.prog GG (replies_could_env m) m 19 replies_could_c replies_could_h ⟨[], argsT 0 [t0, t1]⟩ [.tmp 4]).trans ?_
  kernel_rfl
noncomputable def replies_could_t (m : Nat) : List AV → RO | [t0, t1] => replies_could m t0 t1 | _ => none
theorem replies_could_ok (m : Nat) : ∀ args X H', replies_could_t m args = some (X, H') → ACp Try.prog GG 26 args X := by
  intro args X H' h
  unfold replies_could_t at h
  split at h
  · exact tell_okK MIX (by intro f e h; cases h) (f := 26) (c := replies_could_c) Try.func26 rfl (by kernel_rfl) _ rfl Try.ntmps26 (Nat.le_of_ble_eq_true rfl) replies_could_h h
  · cases h
noncomputable def replies_Check_c : Code := (Try.f9.body).getD .skip
def replies_Check_h : Hint := (.two .n (.join [] (.two .n (.one (.lp [] [0, 6, 7, 8] [2, 3] (.two .n (.two (.two .n .n) (.join [0, 6, 7, 8] (.one (.two .n (.one (.join [0, 4, 5, 6, 7, 8, 13] .n (.two (.two .n .n) (.join [0, 4, 6, 7, 8, 28] .n (.two (.two .n .n) .n))))))) .n)))))) (.two .n .n)))
noncomputable def replies_Check_env (m : Nat) : Env := [(26, .tell (replies_could_t m)), (27, .tell (txn_EncodeResult_t m))]
noncomputable abbrev replies_Check_fin : KO (AV × List AObj) := tellFK Try.prog [.tmp 2, .tmp 3]
noncomputable def replies_Check_r5 (m : Nat) (n0 : Nat) (kc : ASt → RO) (kx : KO (AV × List AObj)) (s : ASt) : RO := joinW Try.prog GG (replies_Check_env m) m 44 (cdR (cdR (cdR (cdL (cdL (cdR (cdL (cdR replies_Check_c)))))))) replies_Check_h.r.l.r.c.c.r.r.r s (backW n0 [0, 6, 7, 8] [2, 3] kc kx)
noncomputable def replies_Check_r4 (m : Nat) (n0 : Nat) (kc : ASt → RO) (kx : KO (AV × List AObj)) (s : ASt) : RO := joinW Try.prog GG (replies_Check_env m) m 44 (cdR (cdR (cdR (cdL (cdL (cdR (cdL (cdR replies_Check_c)))))))) replies_Check_h.r.l.r.c.c.r.r.r s (backW n0 [0, 6, 7, 8] [2, 3] kc kx)
noncomputable def replies_Check_r3 (m : Nat) (n0 : Nat) (kc : ASt → RO) (kx : KO (AV × List AObj)) (s : ASt) : RO := joinW Try.prog GG (replies_Check_env m) m 44 (cdR (cdR (cdR (cdL (cdR (cdL (cdL (cdR (cdR (cdL (cdL (cdR (cdL (cdR replies_Check_c)))))))))))))) replies_Check_h.r.l.r.c.c.r.r.l.c.r.c.r.r.r s (blockX 2 (blockX 1 (seqX (fun s => replies_Check_r5 m n0 kc kx ⟨s.H, [(0, gt s.T 0), (6, gt s.T 6), (7, gt s.T 7), (8, gt s.T 8)]⟩) (backW n0 [0, 6, 7, 8] [2, 3] kc kx))))
noncomputable def replies_Check_r2 (m : Nat) (n0 : Nat) (kc : ASt → RO) (kx : KO (AV × List AObj)) (s : ASt) : RO := joinW Try.prog GG (replies_Check_env m) m 44 (cdR (cdL (cdR (cdL (cdL (cdR (cdR (cdL (cdL (cdR (cdL (cdR replies_Check_c)))))))))))) replies_Check_h.r.l.r.c.c.r.r.l.c.r.c.r s (blockX 2 (blockX 1 (seqX (fun s => replies_Check_r4 m n0 kc kx ⟨s.H, [(0, gt s.T 0), (6, gt s.T 6), (7, gt s.T 7), (8, gt s.T 8)]⟩) (backW n0 [0, 6, 7, 8] [2, 3] kc kx))))
noncomputable def replies_Check_r1 (m : Nat) (s : ASt) : RO := joinW Try.prog GG (replies_Check_env m) m 44 (cdR (cdR replies_Check_c)) replies_Check_h.r.r s (replies_Check_fin)
noncomputable def replies_Check_b1 (m : Nat) (s : ASt) (kc : ASt → RO) (kx : KO (AV × List AObj)) : RO := bodyW Try.prog GG (replies_Check_env m) m 44 (cdL (cdL (cdR (cdL (cdR replies_Check_c))))) replies_Check_h.r.l.r.c.c [0, 6, 7, 8] [2, 3] s kc kx
noncomputable def replies_Check (m : Nat) (t0 : AV) : RO := exec Try.prog GG (replies_Check_env m) m 44 replies_Check_c replies_Check_h ⟨[], argsT 0 [t0]⟩ (replies_Check_fin)
theorem replies_Check_r5_eq (m : Nat) (n0 : Nat) (kc : ASt → RO) (kx : KO (AV × List AObj)) (H : List AObj) (t0 t6 t7 t8 : AV) : replies_Check_r5 m n0 kc kx ⟨H, [(0, t0), (6, t6), (7, t7), (8, t8)]⟩ =
  binE none false false .add t8 (V (.int .i64 1)) fun t43 =>
  backE n0 H [(0, t0), (6, t6), (7, t7), (8, t43)] kc := by
  refine (joinW_eq Try.prog GG (replies_Check_env m) m 44 (cdR (cdR (cdR (cdL (cdL (cdR (cdL (cdR replies_Check_c)))))))) replies_Check_h.r.l.r.c.c.r.r.r ⟨H, [(0, t0), (6, t6), (7, t7), (8, t8)]⟩ (backW n0 [0, 6, 7, 8] [2, 3] kc kx)).trans ?_
  kernel_rfl
theorem replies_Check_r4_eq (m : Nat) (n0 : Nat) (kc : ASt → RO) (kx : KO (AV × List AObj)) (H : List AObj) (t0 t6 t7 t8 : AV) : replies_Check_r4 m n0 kc kx ⟨H, [(0, t0), (6, t6), (7, t7), (8, t8)]⟩ =
  binE none false false .add t8 (V (.int .i64 1)) fun t43 =>
  backE n0 H [(0, t0), (6, t6), (7, t7), (8, t43)] kc := by
  refine (joinW_eq Try.prog GG (replies_Check_env m) m 44 (cdR (cdR (cdR (cdL (cdL (cdR (cdL (cdR replies_Check_c)))))))) replies_Check_h.r.l.r.c.c.r.r.r ⟨H, [(0, t0), (6, t6), (7, t7), (8, t8)]⟩ (backW n0 [0, 6, 7, 8] [2, 3] kc kx)).trans ?_
  kernel_rfl
theorem replies_Check_r3_eq (m : Nat) (n0 : Nat) (kc : ASt → RO) (kx : KO (AV × List AObj)) (H : List AObj) (t0 t4 t6 t7 t8 t28 : AV) : replies_Check_r3 m n0 kc kx ⟨H, [(0, t0), (4, t4), (6, t6), (7, t7), (8, t8), (28, t28)]⟩ =
  condE t28 (
   kx .ret ⟨H, [(2, (V (.int .i64 3))), (3, t4)]⟩) (
   replies_Check_r5 m n0 kc kx ⟨H, [(0, t0), (6, t6), (7, t7), (8, t8)]⟩) := by
  refine (joinW_eq Try.prog GG (replies_Check_env m) m 44 (cdR (cdR (cdR (cdL (cdR (cdL (cdL (cdR (cdR (cdL (cdL (cdR (cdL (cdR replies_Check_c)))))))))))))) replies_Check_h.r.l.r.c.c.r.r.l.c.r.c.r.r.r ⟨H, [(0, t0), (4, t4), (6, t6), (7, t7), (8, t8), (28, t28)]⟩ (blockX 2 (blockX 1 (seqX (fun s => replies_Check_r5 m n0 kc kx ⟨s.H, [(0, gt s.T 0), (6, gt s.T 6), (7, gt s.T 7), (8, gt s.T 8)]⟩) (backW n0 [0, 6, 7, 8] [2, 3] kc kx))))).trans ?_
  kernel_rfl
theorem replies_Check_r2_eq (m : Nat) (n0 : Nat) (kc : ASt → RO) (kx : KO (AV × List AObj)) (H : List AObj) (t0 t4 t5 t6 t7 t8 t13 : AV) : replies_Check_r2 m n0 kc kx ⟨H, [(0, t0), (4, t4), (5, t5), (6, t6), (7, t7), (8, t8), (13, t13)]⟩ =
  condE t13 (
   kx .ret ⟨H, [(2, (V (.int .i64 1))), (3, t4)]⟩) (
   binE none false false .gtr t4 (V (.int .i64 0)) fun t30 =>
   condE t30 (
    fieldE (some (0, 1)) t5 fun t32 =>
    loadE 1 H t32 fun t33 =>
    binE none false false .sub t4 (V (.int .i64 1)) fun t36 =>
    idxSE 9 H t0 t36 fun t37 =>
    fieldE (some (0, 1)) t37 fun t38 =>
    loadE 1 H t38 fun t39 =>
    binE none false false .leq t33 t39 fun t40 =>
    replies_Check_r3 m n0 kc kx ⟨H, [(0, t0), (4, t4), (6, t6), (7, t7), (8, t8), (28, t40)]⟩) (
    replies_Check_r3 m n0 kc kx ⟨H, [(0, t0), (4, t4), (6, t6), (7, t7), (8, t8), (28, (V (.bool false)))]⟩)) := by
  refine (joinW_eq Try.prog GG (replies_Check_env m) m 44 (cdR (cdL (cdR (cdL (cdL (cdR (cdR (cdL (cdL (cdR (cdL (cdR replies_Check_c)))))))))))) replies_Check_h.r.l.r.c.c.r.r.l.c.r.c.r ⟨H, [(0, t0), (4, t4), (5, t5), (6, t6), (7, t7), (8, t8), (13, t13)]⟩ (blockX 2 (blockX 1 (seqX (fun s => replies_Check_r4 m n0 kc kx ⟨s.H, [(0, gt s.T 0), (6, gt s.T 6), (7, gt s.T 7), (8, gt s.T 8)]⟩) (backW n0 [0, 6, 7, 8] [2, 3] kc kx))))).trans ?_
  kernel_rfl
theorem replies_Check_r1_eq (m : Nat) (H : List AObj) : replies_Check_r1 m ⟨H, []⟩ =
  tellK H (ro H (TU [noT (V (.int .i64 0)), noT (V (.int .i64 0))])) := by
  refine (joinW_eq Try.prog GG (replies_Check_env m) m 44 (cdR (cdR replies_Check_c)) replies_Check_h.r.r ⟨H, []⟩ (replies_Check_fin)).trans ?_
  kernel_rfl
theorem replies_Check_b1_eq (m : Nat) (H : List AObj) (t0 t6 t7 t8 : AV) (kc : ASt → RO) (kx : KO (AV × List AObj)) : replies_Check_b1 m ⟨H, [(0, t0), (6, t6), (7, t7), (8, t8)]⟩ kc kx =
  binE none false false .lss t8 t7 fun t9 =>
  condE t9 (
   idxSE 9 H t6 t8 fun t11 =>
   loadE 9 H t11 fun t12 =>
   allocE (some zc_api_Last) ty_api_Last H fun t5 H2 =>
   storeE 9 H2 t5 t12 fun H3 =>
   fieldE (some (0, 1)) t5 fun t14 =>
   loadE 1 H3 t14 fun t15 =>
   fieldE (some (1, 1)) t5 fun t16 =>
   loadE 1 H3 t16 fun t17 =>
   tellE (replies_could m (ro H3 t15) (ro H3 t17)) [(ro H3 t15), (ro H3 t17)] fun t18 =>
   unE .not t18 fun t19 =>
   condE t19 (
    replies_Check_r2 m H.length kc kx ⟨H3, [(0, t0), (4, t8), (5, t5), (6, t6), (7, t7), (8, t8), (13, (V (.bool true)))]⟩) (
    fieldE (some (2, 7)) t5 fun t21 =>
    loadE 7 H3 t21 fun t22 =>
    tellE (txn_EncodeResult_t m [(ro H3 t22)]) [(ro H3 t22)] fun t23 =>
    lenE false true H3 t23 fun t24 =>
    binE none false false .eql t24 (V (.int .i64 0)) fun t25 =>
    replies_Check_r2 m H.length kc kx ⟨H3, [(0, t0), (4, t8), (5, t5), (6, t6), (7, t7), (8, t8), (13, t25)]⟩)) (
   kx (.exit 0) ⟨H, [(2, .nil), (3, .nil)]⟩) := by
  refine (bodyW_eq Try.prog GG (replies_Check_env m) m 44 (cdL (cdL (cdR (cdL (cdR replies_Check_c))))) replies_Check_h.r.l.r.c.c [0, 6, 7, 8] [2, 3] ⟨H, [(0, t0), (6, t6), (7, t7), (8, t8)]⟩ kc kx).trans ?_
  kernel_rfl
theorem replies_Check_eq (m : Nat) (t0 : AV) : replies_Check m t0 =
  lenE false true [] t0 fun t7 =>
  iterC m (replies_Check_b1 m) ⟨[], [(0, t0), (6, t0), (7, t7), (8, (V (.int .i64 0)))]⟩ (blockX 0 (seqX (fun s => replies_Check_r1 m ⟨s.H, []⟩) (replies_Check_fin))) := by
  refine (tellX Try.prog GG (replies_Check_env m) m 44 replies_Check_c replies_Check_h ⟨[], argsT 0 [t0]⟩ [.tmp 2, .tmp 3]).trans ?_
  kernel_rfl
noncomputable def replies_Check_t (m : Nat) : List AV → RO | [t0] => replies_Check m t0 | _ => none
theorem replies_Check_ok (m : Nat) : ∀ args X H', replies_Check_t m args = some (X, H') → ACp Try.prog GG 9 args X := by
  intro args X H' h
  unfold replies_Check_t at h
  split at h
  · exact tell_okK MIX (by
    intro f e h
    simp only [replies_Check_env, Prod.mk.injEq, List.mem_cons, List.not_mem_nil, or_false] at h
    rcases h with ⟨rfl, rfl⟩ | ⟨rfl, rfl⟩
    · exact replies_could_ok m
    · exact txn_EncodeResult_ok m) (f := 9) (c := replies_Check_c) Try.func9 rfl (by kernel_rfl) _ rfl Try.ntmps9 (Nat.le_of_ble_eq_true rfl) replies_Check_h h
  · cases h
noncomputable def replies_find_c : Code := (Try.f31.body).getD .skip
def replies_find_h : Hint := (.two .n (.two .n (.two .n .n)))
noncomputable def replies_find_env (m : Nat) : Env := [(54, .keep (sort_Search_t m))]
noncomputable abbrev replies_find_fin : KO (AV × List AObj) := tellFK Try.prog [.tmp 4, .tmp 5]
noncomputable def replies_find (m : Nat) (t0 t1 : AV) : RO := exec Try.prog GG (replies_find_env m) m 25 replies_find_c replies_find_h ⟨[], argsT 0 [t0, t1]⟩ (replies_find_fin)
theorem replies_find_eq (m : Nat) (t0 t1 : AV) : replies_find m t0 t1 =
  boxE ty_sl_api_Last [] t0 fun t2 H1 =>
  boxE ty_int H1 t1 fun t3 H2 =>
  loadE 1 H2 t2 fun t7 =>
  lenE false true H2 t7 fun t8 =>
  whenE (([t2, t3] : List AV).all cap0) (
  keepE (sort_Search m (ro H2 t8) (ro H2 (CL (.func 55) 0 [t2, t3])) H2) fun t10 H3 =>
  loadE 1 H3 t2 fun t13 =>
  lenE false true H3 t13 fun t14 =>
  binE none false false .lss t10 t14 fun t15 =>
  condE t15 (
   loadE 1 H3 t2 fun t17 =>
   idxSE 9 H3 t17 t10 fun t19 =>
   fieldE (some (0, 1)) t19 fun t20 =>
   loadE 1 H3 t20 fun t21 =>
   loadE 1 H3 t3 fun t22 =>
   binE none false false .eql t21 t22 fun t23 =>
   tellK H3 (ro H3 (TU [noT t10, noT t23]))) (
   tellK H3 (ro H3 (TU [noT t10, noT (V (.bool false))])))) := by
  refine (tellX Try.prog GG (replies_find_env m) m 25 replies_find_c replies_find_h ⟨[], argsT 0 [t0, t1]⟩ [.tmp 4, .tmp 5]).trans ?_
  kernel_rfl
noncomputable def replies_find_t (m : Nat) : List AV → RO | [t0, t1] => replies_find m t0 t1 | _ => none
theorem replies_find_ok (m : Nat) : ∀ args X H', replies_find_t m args = some (X, H') → ACp Try.prog GG 31 args X := by
  intro args X H' h
  unfold replies_find_t at h
  split at h
  · exact tell_okK MIX (by
    intro f e h
    simp only [replies_find_env, Prod.mk.injEq, List.mem_cons, List.not_mem_nil, or_false] at h
    obtain ⟨rfl, rfl⟩ := h
    · exact sort_Search_ok m) (f := 31) (c := replies_find_c) Try.func31 rfl (by kernel_rfl) _ rfl Try.ntmps31 (Nat.le_of_ble_eq_true rfl) replies_find_h h
  · cases h
noncomputable def replies_is_c : Code := (Try.f30.body).getD .skip
def replies_is_h : Hint := (.two .n (.two .n (.two .n .n)))
noncomputable def replies_is_env (m : Nat) : Env := [(9, .tell (replies_Check_t m))]
noncomputable abbrev replies_is_fin : KO (AV × List AObj) := tellFK Try.prog [.tmp 2]
noncomputable def replies_is (m : Nat) (t0 : AV) : RO := exec Try.prog GG (replies_is_env m) m 12 replies_is_c replies_is_h ⟨[], argsT 0 [t0]⟩ (replies_is_fin)
theorem replies_is_eq (m : Nat) (t0 : AV) : replies_is m t0 =
  tellE (replies_Check m (ro [] t0)) [(ro [] t0)] fun t7 =>
  extE t7 0 fun t8 =>
  extE t7 1 fun t9 =>
  binE none false false .eql t8 (V (.int .i64 0)) fun t11 =>
  tellK [] (ro [] t11) := by
  refine (tellX Try.prog GG (replies_is_env m) m 12 replies_is_c replies_is_h ⟨[], argsT 0 [t0]⟩ [.tmp 2]).trans ?_
  kernel_rfl
noncomputable def replies_is_t (m : Nat) : List AV → RO | [t0] => replies_is m t0 | _ => none
theorem replies_is_ok (m : Nat) : ∀ args X H', replies_is_t m args = some (X, H') → ACp Try.prog GG 30 args X := by
  intro args X H' h
  unfold replies_is_t at h
  split at h
  · exact tell_okK MIX (by
    intro f e h
    simp only [replies_is_env, Prod.mk.injEq, List.mem_cons, List.not_mem_nil, or_false] at h
    obtain ⟨rfl, rfl⟩ := h
    · exact replies_Check_ok m) (f := 30) (c := replies_is_c) Try.func30 rfl (by kernel_rfl) _ rfl Try.ntmps30 (Nat.le_of_ble_eq_true rfl) replies_is_h h
  · cases h
noncomputable def replies_Ask_c : Code := (Try.f11.body).getD .skip
def replies_Ask_h : Hint := (.two .n (.join [0, 1, 2, 6] (.join [0, 1, 2, 6, 18] .n (.two (.two .n .n) .n)) (.two .n (.join [0, 6, 8] (.one (.join [0, 2, 6, 8, 26] .n (.two (.two .n .n) (.two .n (.two (.two .n .n) .n))))) (.two .n .n)))))
noncomputable def replies_Ask_env (m : Nat) : Env := [(30, .tell (replies_is_t m)), (26, .tell (replies_could_t m)), (31, .tell (replies_find_t m))]
noncomputable abbrev replies_Ask_fin : KO (AV × List AObj) := tellFK Try.prog [.cell 6 32, .tmp 7]
noncomputable def replies_Ask_r4 (m : Nat) (s : ASt) : RO := joinW Try.prog GG (replies_Ask_env m) m 53 (cdR (cdR (cdR (cdR replies_Ask_c)))) replies_Ask_h.r.r.r.r s (replies_Ask_fin)
noncomputable def replies_Ask_r3 (m : Nat) (s : ASt) : RO := joinW Try.prog GG (replies_Ask_env m) m 53 (cdR (cdL (cdL (cdR (cdR (cdR replies_Ask_c)))))) replies_Ask_h.r.r.r.l.c.r s (blockX 0 (seqX (fun s => replies_Ask_r4 m ⟨s.H, [(0, gt s.T 0), (6, gt s.T 6), (8, gt s.T 8)]⟩) (replies_Ask_fin)))
noncomputable def replies_Ask_r2 (m : Nat) (s : ASt) : RO := joinW Try.prog GG (replies_Ask_env m) m 53 (cdR (cdR replies_Ask_c)) replies_Ask_h.r.r s (replies_Ask_fin)
noncomputable def replies_Ask_r1 (m : Nat) (s : ASt) : RO := joinW Try.prog GG (replies_Ask_env m) m 53 (cdR (cdL (cdR replies_Ask_c))) replies_Ask_h.r.l.r s (seqX (fun s => replies_Ask_r2 m ⟨s.H, [(0, gt s.T 0), (1, gt s.T 1), (2, gt s.T 2), (6, gt s.T 6)]⟩) (replies_Ask_fin))
noncomputable def replies_Ask (m : Nat) (t0 t1 t2 : AV) : RO := exec Try.prog GG (replies_Ask_env m) m 53 replies_Ask_c replies_Ask_h ⟨[], argsT 0 [t0, t1, t2]⟩ (replies_Ask_fin)
theorem replies_Ask_r4_eq (m : Nat) (H : List AObj) (t0 t6 t8 : AV) : replies_Ask_r4 m ⟨H, [(0, t0), (6, t6), (8, t8)]⟩ =
  idxSE 9 H t0 t8 fun t50 =>
  fieldE (some (2, 7)) t50 fun t51 =>
  loadE 7 H t51 fun t52 =>
  storeE 7 H t6 t52 fun H2 =>
  loadE 7 H2 t6 fun t9000 =>
  tellK H2 (ro H2 (TU [noT t9000, noT (V (.int .i64 0))])) := by
  refine (joinW_eq Try.prog GG (replies_Ask_env m) m 53 (cdR (cdR (cdR (cdR replies_Ask_c)))) replies_Ask_h.r.r.r.r ⟨H, [(0, t0), (6, t6), (8, t8)]⟩ (replies_Ask_fin)).trans ?_
  kernel_rfl
theorem replies_Ask_r3_eq (m : Nat) (H : List AObj) (t0 t2 t6 t8 t26 : AV) : replies_Ask_r3 m ⟨H, [(0, t0), (2, t2), (6, t6), (8, t8), (26, t26)]⟩ =
  condE t26 (
   buildE (some pl_api_Result) (some zc_api_Result) [] fun t38 =>
   storeE 7 H t6 t38 fun H2 =>
   loadE 7 H2 t6 fun t9000 =>
   tellK H2 (ro H2 (TU [noT t9000, noT (V (.int .i64 6))]))) (
   idxSE 9 H t0 t8 fun t43 =>
   fieldE (some (1, 1)) t43 fun t44 =>
   loadE 1 H t44 fun t45 =>
   binE none false false .lss t2 t45 fun t46 =>
   condE t46 (
    buildE (some pl_api_Result) (some zc_api_Result) [] fun t47 =>
    storeE 7 H t6 t47 fun H2 =>
    loadE 7 H2 t6 fun t9000 =>
    tellK H2 (ro H2 (TU [noT t9000, noT (V (.int .i64 18))]))) (
    replies_Ask_r4 m ⟨H, [(0, t0), (6, t6), (8, t8)]⟩)) := by
  refine (joinW_eq Try.prog GG (replies_Ask_env m) m 53 (cdR (cdL (cdL (cdR (cdR (cdR replies_Ask_c)))))) replies_Ask_h.r.r.r.l.c.r ⟨H, [(0, t0), (2, t2), (6, t6), (8, t8), (26, t26)]⟩ (blockX 0 (seqX (fun s => replies_Ask_r4 m ⟨s.H, [(0, gt s.T 0), (6, gt s.T 6), (8, gt s.T 8)]⟩) (replies_Ask_fin)))).trans ?_
  kernel_rfl
theorem replies_Ask_r2_eq (m : Nat) (H : List AObj) (t0 t1 t2 t6 : AV) : replies_Ask_r2 m ⟨H, [(0, t0), (1, t1), (2, t2), (6, t6)]⟩ =
  tellE (replies_find m (ro H t0) (ro H t1)) [(ro H t0), (ro H t1)] fun t23 =>
  extE t23 0 fun t24 =>
  extE t23 1 fun t25 =>
  unE .not t25 fun t28 =>
  condE t28 (
   replies_Ask_r3 m ⟨H, [(0, t0), (2, t2), (6, t6), (8, t24), (26, (V (.bool true)))]⟩) (
   idxSE 9 H t0 t24 fun t33 =>
   fieldE (some (1, 1)) t33 fun t34 =>
   loadE 1 H t34 fun t35 =>
   binE none false false .gtr t2 t35 fun t36 =>
   replies_Ask_r3 m ⟨H, [(0, t0), (2, t2), (6, t6), (8, t24), (26, t36)]⟩) := by
  refine (joinW_eq Try.prog GG (replies_Ask_env m) m 53 (cdR (cdR replies_Ask_c)) replies_Ask_h.r.r ⟨H, [(0, t0), (1, t1), (2, t2), (6, t6)]⟩ (replies_Ask_fin)).trans ?_
  kernel_rfl
theorem replies_Ask_r1_eq (m : Nat) (H : List AObj) (t0 t1 t2 t6 t18 : AV) : replies_Ask_r1 m ⟨H, [(0, t0), (1, t1), (2, t2), (6, t6), (18, t18)]⟩ =
  condE t18 (
   buildE (some pl_api_Result) (some zc_api_Result) [] fun t19 =>
   storeE 7 H t6 t19 fun H2 =>
   loadE 7 H2 t6 fun t9000 =>
   tellK H2 (ro H2 (TU [noT t9000, noT (V (.int .i64 1))]))) (
   replies_Ask_r2 m ⟨H, [(0, t0), (1, t1), (2, t2), (6, t6)]⟩) := by
  refine (joinW_eq Try.prog GG (replies_Ask_env m) m 53 (cdR (cdL (cdR replies_Ask_c))) replies_Ask_h.r.l.r ⟨H, [(0, t0), (1, t1), (2, t2), (6, t6), (18, t18)]⟩ (seqX (fun s => replies_Ask_r2 m ⟨s.H, [(0, gt s.T 0), (1, gt s.T 1), (2, gt s.T 2), (6, gt s.T 6)]⟩) (replies_Ask_fin))).trans ?_
  kernel_rfl
theorem replies_Ask_eq (m : Nat) (t0 t1 t2 : AV) : replies_Ask m t0 t1 t2 =
  allocE (some zc_api_Result) ty_api_Result [] fun t6 H1 =>
  tellE (replies_is m (ro H1 t0)) [(ro H1 t0)] fun t11 =>
  unE .not t11 fun t12 =>
  condE t12 (
   replies_Ask_r1 m ⟨H1, [(0, t0), (1, t1), (2, t2), (6, t6), (18, (V (.bool true)))]⟩) (
   tellE (replies_could m (ro H1 t1) (ro H1 t2)) [(ro H1 t1), (ro H1 t2)] fun t16 =>
   unE .not t16 fun t17 =>
   replies_Ask_r1 m ⟨H1, [(0, t0), (1, t1), (2, t2), (6, t6), (18, t17)]⟩) := by
  refine (tellX Try.prog GG (replies_Ask_env m) m 53 replies_Ask_c replies_Ask_h ⟨[], argsT 0 [t0, t1, t2]⟩ [.cell 6 32, .tmp 7]).trans ?_
  kernel_rfl
noncomputable def replies_Ask_t (m : Nat) : List AV → RO | [t0, t1, t2] => replies_Ask m t0 t1 t2 | _ => none
theorem replies_Ask_ok (m : Nat) : ∀ args X H', replies_Ask_t m args = some (X, H') → ACp Try.prog GG 11 args X := by
  intro args X H' h
  unfold replies_Ask_t at h
  split at h
  · exact tell_okK MIX (by
    intro f e h
    simp only [replies_Ask_env, Prod.mk.injEq, List.mem_cons, List.not_mem_nil, or_false] at h
    rcases h with ⟨rfl, rfl⟩ | ⟨rfl, rfl⟩ | ⟨rfl, rfl⟩
    · exact replies_is_ok m
    · exact replies_could_ok m
    · exact replies_find_ok m) (f := 11) (c := replies_Ask_c) Try.func11 rfl (by kernel_rfl) _ rfl Try.ntmps11 (Nat.le_of_ble_eq_true rfl) replies_Ask_h h
  · cases h
noncomputable def replies_old_c : Code := (Try.f33.body).getD .skip
def replies_old_h : Hint := (.two .n (.two (.two .n (.two (.two .n .n) .n)) (.two .n .n)))
noncomputable def replies_old_env (m : Nat) : Env := [(27, .tell (txn_EncodeResult_t m))]
noncomputable abbrev replies_old_fin : KO (AV × List AObj) := tellFK Try.prog [.tmp 2]
noncomputable def replies_old (m : Nat) (t0 : AV) : RO := exec Try.prog GG (replies_old_env m) m 7 replies_old_c replies_old_h ⟨[], argsT 0 [t0]⟩ (replies_old_fin)
theorem replies_old_eq (m : Nat) (t0 : AV) : replies_old m t0 =
  boxE ty_api_Result [] t0 fun t1 H1 =>
  loadE 7 H1 t1 fun t3 =>
  tellE (txn_EncodeResult_t m [(ro H1 t3)]) [(ro H1 t3)] fun t4 =>
  lenE false true H1 t4 fun t5 =>
  binE none false false .eql t5 (V (.int .i64 0)) fun t6 =>
  condE t6 (
   tellK H1 (ro H1 (V (.int .i64 1)))) (
   tellK H1 (ro H1 (V (.int .i64 18)))) := by
  refine (tellX Try.prog GG (replies_old_env m) m 7 replies_old_c replies_old_h ⟨[], argsT 0 [t0]⟩ [.tmp 2]).trans ?_
  kernel_rfl
noncomputable def replies_old_t (m : Nat) : List AV → RO | [t0] => replies_old m t0 | _ => none
theorem replies_old_ok (m : Nat) : ∀ args X H', replies_old_t m args = some (X, H') → ACp Try.prog GG 33 args X := by
  intro args X H' h
  unfold replies_old_t at h
  split at h
  · exact tell_okK MIX (by
    intro f e h
    simp only [replies_old_env, Prod.mk.injEq, List.mem_cons, List.not_mem_nil, or_false] at h
    obtain ⟨rfl, rfl⟩ := h
    · exact txn_EncodeResult_ok m) (f := 33) (c := replies_old_c) Try.func33 rfl (by kernel_rfl) _ rfl Try.ntmps33 (Nat.le_of_ble_eq_true rfl) replies_old_h h
  · cases h
noncomputable def replies_Note_c : Code := (Try.f14.body).getD .skip
def replies_Note_h : Hint := (.two .n (.two (.two .n (.two .n (.two (.two (.two .n (.two (.two .n .n) .n)) (.two .n .n)) .n))) (.two (.two .n (.two (.two .n .n) .n)) (.two .n (.two .n (.two .n (.two (.two .n (.two (.two .n (.two .n .n)) .n)) (.two .n .n))))))))
noncomputable def replies_Note_env (m : Nat) : Env := [(11, .tell (replies_Ask_t m)), (33, .tell (replies_old_t m)), (27, .tell (txn_EncodeResult_t m)), (31, .tell (replies_find_t m)), (34, .add (slices_Clone_Last_t m)), (35, .keep (slices_Insert_Last_t m))]
noncomputable abbrev replies_Note_fin : KO (AV × List AObj) := tellFK Try.prog [.tmp 8, .tmp 9]
noncomputable def replies_Note (m : Nat) (t0 t1 t2 t3 : AV) : RO := exec Try.prog GG (replies_Note_env m) m 57 replies_Note_c replies_Note_h ⟨[], argsT 0 [t0, t1, t2, t3]⟩ (replies_Note_fin)
theorem replies_Note_eq (m : Nat) (t0 t1 t2 t3 : AV) : replies_Note m t0 t1 t2 t3 =
  boxE ty_api_Result [] t3 fun t7 H1 =>
  tellE (replies_Ask m (ro H1 t0) (ro H1 t1) (ro H1 t2)) [(ro H1 t0), (ro H1 t1), (ro H1 t2)] fun t20 =>
  extE t20 0 fun t21 =>
  extE t20 1 fun t22 =>
  allocE (some zc_api_Result) ty_api_Result H1 fun t10 H2 =>
  storeE 7 H2 t10 t21 fun H3 =>
  binE none false false .neq t22 (V (.int .i64 6)) fun t24 =>
  condE t24 (
   binE none false false .eql t22 (V (.int .i64 1)) fun t26 =>
   condE t26 (
    tellK H3 (ro H3 (TU [noT (V (.slice none 0 0)), noT t22]))) (
    loadE 7 H3 t7 fun t28 =>
    tellE (replies_old m (ro H3 t28)) [(ro H3 t28)] fun t29 =>
    tellK H3 (ro H3 (TU [noT (V (.slice none 0 0)), noT t29])))) (
   loadE 7 H3 t7 fun t30 =>
   tellE (txn_EncodeResult_t m [(ro H3 t30)]) [(ro H3 t30)] fun t31 =>
   lenE false true H3 t31 fun t32 =>
   binE none false false .eql t32 (V (.int .i64 0)) fun t33 =>
   condE t33 (
    tellK H3 (ro H3 (TU [noT (V (.slice none 0 0)), noT (V (.int .i64 1))]))) (
    tellE (replies_find m (ro H3 t0) (ro H3 t1)) [(ro H3 t0), (ro H3 t1)] fun t37 =>
    extE t37 0 fun t38 =>
    extE t37 1 fun t39 =>
    addE (slices_Clone_Last_t m [(ro H3 t0)] H3.length) H3 fun t41 H4 =>
    loadE 7 H4 t7 fun t44 =>
    buildE (some pl_api_Last) (some zc_api_Last) [(0, t1), (1, t2), (2, t44)] fun t45 =>
    allocE (some zc_api_Last) ty_api_Last H4 fun t15 H5 =>
    storeE 9 H5 t15 t45 fun H6 =>
    condE t39 (
     loadE 9 H6 t15 fun t49 =>
     idxSE 9 H6 t41 t38 fun t50 =>
     storeE 9 H6 t50 t49 fun H7 =>
     tellK H7 (ro H7 (TU [noT t41, noT (V (.int .i64 0))]))) (
     loadE 9 H6 t15 fun t54 =>
     buildSE (some (ty_api_Last, 7)) 1 [(0, t54)] fun t55 =>
     keepE (slices_Insert_Last_t m [(ro H6 t41), (ro H6 t38), (ro H6 t55)] H6) fun t56 H7 =>
     tellK H7 (ro H7 (TU [noT t56, noT (V (.int .i64 0))]))))) := by
  refine (tellX Try.prog GG (replies_Note_env m) m 57 replies_Note_c replies_Note_h ⟨[], argsT 0 [t0, t1, t2, t3]⟩ [.tmp 8, .tmp 9]).trans ?_
  kernel_rfl
noncomputable def replies_Note_t (m : Nat) : List AV → RO | [t0, t1, t2, t3] => replies_Note m t0 t1 t2 t3 | _ => none
theorem replies_Note_ok (m : Nat) : ∀ args X H', replies_Note_t m args = some (X, H') → ACp Try.prog GG 14 args X := by
  intro args X H' h
  unfold replies_Note_t at h
  split at h
  · exact tell_okK MIX (by
    intro f e h
    simp only [replies_Note_env, Prod.mk.injEq, List.mem_cons, List.not_mem_nil, or_false] at h
    rcases h with ⟨rfl, rfl⟩ | ⟨rfl, rfl⟩ | ⟨rfl, rfl⟩ | ⟨rfl, rfl⟩ | ⟨rfl, rfl⟩ | ⟨rfl, rfl⟩
    · exact replies_Ask_ok m
    · exact replies_old_ok m
    · exact txn_EncodeResult_ok m
    · exact replies_find_ok m
    · exact slices_Clone_Last_ok m
    · exact slices_Insert_Last_ok m) (f := 14) (c := replies_Note_c) Try.func14 rfl (by kernel_rfl) _ rfl Try.ntmps14 (Nat.le_of_ble_eq_true rfl) replies_Note_h h
  · cases h
noncomputable def replies_Fresh_c : Code := (Try.f17.body).getD .skip
def replies_Fresh_h : Hint := (.two .n (.two (.two .n (.two (.two .n .n) .n)) (.two .n (.two .n (.join [6, 7] (.two .n (.one (.lp [(6, ty_api_Txn, 6), (7, ty_int, 1)] [0, 6, 7, 15, 16, 17] [6, 7] (.two .n (.two (.two .n .n) (.join [0, 6, 7, 15, 16, 17] (.one (.two .n (.two .n (.two (.two .n (.two .n .n)) (.two .n .n))))) .n)))))) (.two .n .n))))))
noncomputable def replies_Fresh_env (m : Nat) : Env := [(30, .tell (replies_is_t m)), (14, .tell (replies_Note_t m))]
noncomputable abbrev replies_Fresh_fin : KO (AV × List AObj) := tellFK Try.prog [.tmp 4, .tmp 5]
noncomputable def replies_Fresh_r2 (m : Nat) (n0 : Nat) (kc : ASt → RO) (kx : KO (AV × List AObj)) (s : ASt) : RO := joinW Try.prog GG (replies_Fresh_env m) m 46 (cdR (cdR (cdR (cdL (cdL (cdR (cdL (cdR (cdR (cdR (cdR replies_Fresh_c))))))))))) replies_Fresh_h.r.r.r.r.l.r.c.c.r.r.r s (backW n0 [0, 6, 7, 15, 16, 17] [6, 7] kc kx)
noncomputable def replies_Fresh_r1 (m : Nat) (s : ASt) : RO := joinW Try.prog GG (replies_Fresh_env m) m 46 (cdR (cdR (cdR (cdR (cdR replies_Fresh_c))))) replies_Fresh_h.r.r.r.r.r s (replies_Fresh_fin)
noncomputable def replies_Fresh_b1 (m : Nat) (s : ASt) (kc : ASt → RO) (kx : KO (AV × List AObj)) : RO := bodyW Try.prog GG (replies_Fresh_env m) m 46 (cdL (cdL (cdR (cdL (cdR (cdR (cdR (cdR replies_Fresh_c)))))))) replies_Fresh_h.r.r.r.r.l.r.c.c [0, 6, 7, 15, 16, 17] [6, 7] s kc kx
noncomputable def replies_Fresh (m : Nat) (t0 t1 : AV) : RO := exec Try.prog GG (replies_Fresh_env m) m 46 replies_Fresh_c replies_Fresh_h ⟨[], argsT 0 [t0, t1]⟩ (replies_Fresh_fin)
theorem replies_Fresh_r2_eq (m : Nat) (n0 : Nat) (kc : ASt → RO) (kx : KO (AV × List AObj)) (H : List AObj) (t0 t6 t7 t15 t16 t17 : AV) : replies_Fresh_r2 m n0 kc kx ⟨H, [(0, t0), (6, t6), (7, t7), (15, t15), (16, t16), (17, t17)]⟩ =
  binE none false false .add t17 (V (.int .i64 1)) fun t43 =>
  backE n0 H [(0, t0), (6, t6), (7, t7), (15, t15), (16, t16), (17, t43)] kc := by
  refine (joinW_eq Try.prog GG (replies_Fresh_env m) m 46 (cdR (cdR (cdR (cdL (cdL (cdR (cdL (cdR (cdR (cdR (cdR replies_Fresh_c))))))))))) replies_Fresh_h.r.r.r.r.l.r.c.c.r.r.r ⟨H, [(0, t0), (6, t6), (7, t7), (15, t15), (16, t16), (17, t17)]⟩ (backW n0 [0, 6, 7, 15, 16, 17] [6, 7] kc kx)).trans ?_
  kernel_rfl
theorem replies_Fresh_r1_eq (m : Nat) (H : List AObj) (t6 t7 : AV) : replies_Fresh_r1 m ⟨H, [(6, t6), (7, t7)]⟩ =
  tellK H (ro H (TU [noT t6, noT t7])) := by
  refine (joinW_eq Try.prog GG (replies_Fresh_env m) m 46 (cdR (cdR (cdR (cdR (cdR replies_Fresh_c))))) replies_Fresh_h.r.r.r.r.r ⟨H, [(6, t6), (7, t7)]⟩ (replies_Fresh_fin)).trans ?_
  kernel_rfl
theorem replies_Fresh_b1_eq (m : Nat) (H : List AObj) (t0 t6 t7 t15 t16 t17 : AV) (kc : ASt → RO) (kx : KO (AV × List AObj)) : replies_Fresh_b1 m ⟨H, [(0, t0), (6, t6), (7, t7), (15, t15), (16, t16), (17, t17)]⟩ kc kx =
  binE none false false .lss t17 t16 fun t18 =>
  condE t18 (
   idxSE 8 H t15 t17 fun t20 =>
   loadE 8 H t20 fun t21 =>
   allocE (some zc_api_Txn) ty_api_Txn H fun t9 H2 =>
   storeE 8 H2 t9 t21 fun H3 =>
   fieldE (some (0, 1)) t9 fun t24 =>
   loadE 1 H3 t24 fun t25 =>
   fieldE (some (1, 1)) t9 fun t26 =>
   loadE 1 H3 t26 fun t27 =>
   buildE (some pl_api_Result) (some zc_api_Result) [] fun t28 =>
   tellE (replies_Note m (ro H3 t0) (ro H3 t25) (ro H3 t27) (ro H3 t28)) [(ro H3 t0), (ro H3 t25), (ro H3 t27), (ro H3 t28)] fun t29 =>
   extE t29 0 fun t30 =>
   extE t29 1 fun t31 =>
   binE none false false .neq t31 (V (.int .i64 0)) fun t33 =>
   condE t33 (
    replies_Fresh_r2 m H.length kc kx ⟨H3, [(0, t0), (6, t6), (7, t7), (15, t15), (16, t16), (17, t17)]⟩) (
    loadE 8 H3 t9 fun t36 =>
    buildSE (some (ty_api_Txn, 6)) 1 [(0, t36)] fun t37 =>
    appE (some (ty_api_Txn, 6)) H3 t6 t37 fun t38 H4 =>
    buildSE (some (ty_int, 1)) 1 [(0, t17)] fun t41 =>
    appE (some (ty_int, 1)) H4 t7 t41 fun t42 H5 =>
    replies_Fresh_r2 m H.length kc kx ⟨H5, [(0, t30), (6, t38), (7, t42), (15, t15), (16, t16), (17, t17)]⟩)) (
   kx (.exit 0) ⟨H, [(6, t6), (7, t7)]⟩) := by
  refine (bodyW_eq Try.prog GG (replies_Fresh_env m) m 46 (cdL (cdL (cdR (cdL (cdR (cdR (cdR (cdR replies_Fresh_c)))))))) replies_Fresh_h.r.r.r.r.l.r.c.c [0, 6, 7, 15, 16, 17] [6, 7] ⟨H, [(0, t0), (6, t6), (7, t7), (15, t15), (16, t16), (17, t17)]⟩ kc kx).trans ?_
  kernel_rfl
theorem replies_Fresh_eq (m : Nat) (t0 t1 : AV) : replies_Fresh m t0 t1 =
  tellE (replies_is m (ro [] t0)) [(ro [] t0)] fun t13 =>
  unE .not t13 fun t14 =>
  condE t14 (
   tellK [] (ro [] (TU [noT (V (.slice none 0 0)), noT (V (.slice none 0 0))]))) (
   lenE false true [] t1 fun t16 =>
   rowE (V (.slice none 0 0)) ty_api_Txn 6 [] fun t6 H1 =>
   rowE (V (.slice none 0 0)) ty_int 1 H1 fun t7 H2 =>
   iterC m (replies_Fresh_b1 m) ⟨H2, [(0, t0), (6, t6), (7, t7), (15, t1), (16, t16), (17, (V (.int .i64 0)))]⟩ (blockX 0 (seqX (fun s => replies_Fresh_r1 m ⟨s.H, [(6, gt s.T 6), (7, gt s.T 7)]⟩) (replies_Fresh_fin)))) := by
  refine (tellX Try.prog GG (replies_Fresh_env m) m 46 replies_Fresh_c replies_Fresh_h ⟨[], argsT 0 [t0, t1]⟩ [.tmp 4, .tmp 5]).trans ?_
  kernel_rfl
noncomputable def replies_Fresh_t (m : Nat) : List AV → RO | [t0, t1] => replies_Fresh m t0 t1 | _ => none
theorem replies_Fresh_ok (m : Nat) : ∀ args X H', replies_Fresh_t m args = some (X, H') → ACp Try.prog GG 17 args X := by
  intro args X H' h
  unfold replies_Fresh_t at h
  split at h
  · exact tell_okK MIX (by
    intro f e h
    simp only [replies_Fresh_env, Prod.mk.injEq, List.mem_cons, List.not_mem_nil, or_false] at h
    rcases h with ⟨rfl, rfl⟩ | ⟨rfl, rfl⟩
    · exact replies_is_ok m
    · exact replies_Note_ok m) (f := 17) (c := replies_Fresh_c) Try.func17 rfl (by kernel_rfl) _ rfl Try.ntmps17 (Nat.le_of_ble_eq_true rfl) replies_Fresh_h h
  · cases h
noncomputable def replies_Encode_c : Code := (Try.f24.body).getD .skip
def replies_Encode_h : Hint := (.two .n (.two (.two .n (.two (.two .n .n) .n)) (.two .n (.join [3] (.two .n (.one (.lp [(3, ty_uint8, 1)] [3, 14, 15, 16] [3] (.two .n (.two (.two .n .n) (.two (.one (.two .n (.two .n (.two .n (.two .n (.two .n .n)))))) .n)))))) (.two .n .n)))))
noncomputable def replies_Encode_env (m : Nat) : Env := [(30, .tell (replies_is_t m)), (46, .add (varint_Put_t m)), (27, .tell (txn_EncodeResult_t m))]
noncomputable abbrev replies_Encode_fin : KO (AV × List AObj) := tellFK Try.prog [.tmp 2]
noncomputable def replies_Encode_r1 (m : Nat) (s : ASt) : RO := joinW Try.prog GG (replies_Encode_env m) m 46 (cdR (cdR (cdR (cdR replies_Encode_c)))) replies_Encode_h.r.r.r.r s (replies_Encode_fin)
noncomputable def replies_Encode_b1 (m : Nat) (s : ASt) (kc : ASt → RO) (kx : KO (AV × List AObj)) : RO := bodyW Try.prog GG (replies_Encode_env m) m 46 (cdL (cdL (cdR (cdL (cdR (cdR (cdR replies_Encode_c))))))) replies_Encode_h.r.r.r.l.r.c.c [3, 14, 15, 16] [3] s kc kx
noncomputable def replies_Encode (m : Nat) (t0 : AV) : RO := exec Try.prog GG (replies_Encode_env m) m 46 replies_Encode_c replies_Encode_h ⟨[], argsT 0 [t0]⟩ (replies_Encode_fin)
theorem replies_Encode_r1_eq (m : Nat) (H : List AObj) (t3 : AV) : replies_Encode_r1 m ⟨H, [(3, t3)]⟩ =
  tellK H (ro H t3) := by
  refine (joinW_eq Try.prog GG (replies_Encode_env m) m 46 (cdR (cdR (cdR (cdR replies_Encode_c)))) replies_Encode_h.r.r.r.r ⟨H, [(3, t3)]⟩ (replies_Encode_fin)).trans ?_
  kernel_rfl
theorem replies_Encode_b1_eq (m : Nat) (H : List AObj) (t3 t14 t15 t16 : AV) (kc : ASt → RO) (kx : KO (AV × List AObj)) : replies_Encode_b1 m ⟨H, [(3, t3), (14, t14), (15, t15), (16, t16)]⟩ kc kx =
  binE none false false .lss t16 t15 fun t17 =>
  condE t17 (
   idxSE 9 H t14 t16 fun t18 =>
   loadE 9 H t18 fun t19 =>
   allocE (some zc_api_Last) ty_api_Last H fun t5 H2 =>
   storeE 9 H2 t5 t19 fun H3 =>
   fieldE (some (2, 7)) t5 fun t20 =>
   loadE 7 H3 t20 fun t21 =>
   tellE (txn_EncodeResult_t m [(ro H3 t21)]) [(ro H3 t21)] fun t22 =>
   fieldE (some (0, 1)) t5 fun t24 =>
   loadE 1 H3 t24 fun t25 =>
   convE false (some .u64) true false t25 fun t26 =>
   addE (varint_Put_t m [(ro H3 t26)] H3.length) H3 fun t27 H4 =>
   appE (some (ty_uint8, 1)) H4 t3 t27 fun t28 H5 =>
   fieldE (some (1, 1)) t5 fun t30 =>
   loadE 1 H5 t30 fun t31 =>
   convE false (some .u64) true false t31 fun t32 =>
   addE (varint_Put_t m [(ro H5 t32)] H5.length) H5 fun t33 H6 =>
   appE (some (ty_uint8, 1)) H6 t28 t33 fun t34 H7 =>
   lenE false true H7 t22 fun t37 =>
   convE false (some .u64) true false t37 fun t38 =>
   addE (varint_Put_t m [(ro H7 t38)] H7.length) H7 fun t39 H8 =>
   appE (some (ty_uint8, 1)) H8 t34 t39 fun t40 H9 =>
   appE (some (ty_uint8, 1)) H9 t40 t22 fun t43 H10 =>
   binE none false false .add t16 (V (.int .i64 1)) fun t44 =>
   backE H.length H10 [(3, t43), (14, t14), (15, t15), (16, t44)] kc) (
   kx (.exit 0) ⟨H, [(3, t3)]⟩) := by
  refine (bodyW_eq Try.prog GG (replies_Encode_env m) m 46 (cdL (cdL (cdR (cdL (cdR (cdR (cdR replies_Encode_c))))))) replies_Encode_h.r.r.r.l.r.c.c [3, 14, 15, 16] [3] ⟨H, [(3, t3), (14, t14), (15, t15), (16, t16)]⟩ kc kx).trans ?_
  kernel_rfl
theorem replies_Encode_eq (m : Nat) (t0 : AV) : replies_Encode m t0 =
  tellE (replies_is m (ro [] t0)) [(ro [] t0)] fun t8 =>
  unE .not t8 fun t9 =>
  condE t9 (
   tellK [] (ro [] (V (.slice none 0 0)))) (
   lenE false true [] t0 fun t11 =>
   convE false (some .u64) true false t11 fun t12 =>
   addE (varint_Put_t m [(ro [] t12)] ([] : List AObj).length) [] fun t13 H1 =>
   lenE false true H1 t0 fun t15 =>
   rowE t13 ty_uint8 1 H1 fun t3 H2 =>
   iterC m (replies_Encode_b1 m) ⟨H2, [(3, t3), (14, t0), (15, t15), (16, (V (.int .i64 0)))]⟩ (blockX 0 (seqX (fun s => replies_Encode_r1 m ⟨s.H, [(3, gt s.T 3)]⟩) (replies_Encode_fin)))) := by
  refine (tellX Try.prog GG (replies_Encode_env m) m 46 replies_Encode_c replies_Encode_h ⟨[], argsT 0 [t0]⟩ [.tmp 2]).trans ?_
  kernel_rfl
noncomputable def replies_Encode_t (m : Nat) : List AV → RO | [t0] => replies_Encode m t0 | _ => none
theorem replies_Encode_ok (m : Nat) : ∀ args X H', replies_Encode_t m args = some (X, H') → ACp Try.prog GG 24 args X := by
  intro args X H' h
  unfold replies_Encode_t at h
  split at h
  · exact tell_okK MIX (by
    intro f e h
    simp only [replies_Encode_env, Prod.mk.injEq, List.mem_cons, List.not_mem_nil, or_false] at h
    rcases h with ⟨rfl, rfl⟩ | ⟨rfl, rfl⟩ | ⟨rfl, rfl⟩
    · exact replies_is_ok m
    · exact varint_Put_ok m
    · exact txn_EncodeResult_ok m) (f := 24) (c := replies_Encode_c) Try.func24 rfl (by kernel_rfl) _ rfl Try.ntmps24 (Nat.le_of_ble_eq_true rfl) replies_Encode_h h
  · cases h
noncomputable def plenumref26_Could_c : Code := (Try.f28.body).getD .skip
def plenumref26_Could_h : Hint := (.two .n (.two .n .n))
noncomputable def plenumref26_Could_env (m : Nat) : Env := []
noncomputable abbrev plenumref26_Could_fin : KO (AV × List AObj) := tellFK Try.prog [.tmp 4]
noncomputable def plenumref26_Could (m : Nat) (t0 t1 : AV) : RO := exec Try.prog GG (plenumref26_Could_env m) m 19 plenumref26_Could_c plenumref26_Could_h ⟨[], argsT 0 [t0, t1]⟩ (plenumref26_Could_fin)
theorem plenumref26_Could_eq (m : Nat) (t0 t1 : AV) : plenumref26_Could m t0 t1 =
  binE none false false .leq (V (.int .i64 0)) t0 fun t6 =>
  condE t6 (
   binE none false false .leq t0 (V (.int .i64 255)) fun t9 =>
   condE t9 (
   binE none false false .leq (V (.int .i64 1)) t1 fun t13 =>
   condE t13 (
   binE none false false .leq t1 (V (.int .i64 2147483647)) fun t17 =>
   tellK [] (ro [] t17)) (
   tellK [] (ro [] (V (.bool false))))) (
   tellK [] (ro [] (V (.bool false))))) (
   tellK [] (ro [] (V (.bool false)))) := by
  refine (tellX Try.prog GG (plenumref26_Could_env m) m 19 plenumref26_Could_c plenumref26_Could_h ⟨[], argsT 0 [t0, t1]⟩ [.tmp 4]).trans ?_
  kernel_rfl
noncomputable def plenumref26_Could_t (m : Nat) : List AV → RO | [t0, t1] => plenumref26_Could m t0 t1 | _ => none
theorem plenumref26_Could_ok (m : Nat) : ∀ args X H', plenumref26_Could_t m args = some (X, H') → ACp Try.prog GG 28 args X := by
  intro args X H' h
  unfold plenumref26_Could_t at h
  split at h
  · exact tell_okK MIX (by intro f e h; cases h) (f := 28) (c := plenumref26_Could_c) Try.func28 rfl (by kernel_rfl) _ rfl Try.ntmps28 (Nat.le_of_ble_eq_true rfl) plenumref26_Could_h h
  · cases h
noncomputable def plenumref22_MayResult_c : Code := (Try.f29.body).getD .skip
def plenumref22_MayResult_h : Hint := (.two .n (.two .n .n))
noncomputable def plenumref22_MayResult_env (m : Nat) : Env := [(53, .tell (plenumref07_May_t m))]
noncomputable abbrev plenumref22_MayResult_fin : KO (AV × List AObj) := tellFK Try.prog [.tmp 2]
noncomputable def plenumref22_MayResult (m : Nat) (t0 : AV) : RO := exec Try.prog GG (plenumref22_MayResult_env m) m 26 plenumref22_MayResult_c plenumref22_MayResult_h ⟨[], argsT 0 [t0]⟩ (plenumref22_MayResult_fin)
theorem plenumref22_MayResult_eq (m : Nat) (t0 : AV) : plenumref22_MayResult m t0 =
  boxE ty_api_Result [] t0 fun t1 H1 =>
  fieldE (some (0, 1)) t1 fun t3 =>
  loadE 1 H1 t3 fun t4 =>
  binE none false false .geq t4 (V (.int .i64 0)) fun t5 =>
  condE t5 (
   fieldE (some (0, 1)) t1 fun t7 =>
   loadE 1 H1 t7 fun t8 =>
   binE none false false .leq t8 (V (.int .i64 23)) fun t9 =>
   condE t9 (
   fieldE (some (1, 5)) t1 fun t12 =>
   loadE 5 H1 t12 fun t13 =>
   tellE (plenumref07_May_t m [(ro H1 t13)]) [(ro H1 t13)] fun t14 =>
   condE t14 (
   fieldE (some (4, 1)) t1 fun t17 =>
   loadE 1 H1 t17 fun t18 =>
   binE none false false .geq t18 (V (.int .i64 0)) fun t19 =>
   condE t19 (
   fieldE (some (4, 1)) t1 fun t22 =>
   loadE 1 H1 t22 fun t23 =>
   binE none false false .leq t23 (V (.int .i64 2147483647)) fun t24 =>
   tellK H1 (ro H1 t24)) (
   tellK H1 (ro H1 (V (.bool false))))) (
   tellK H1 (ro H1 (V (.bool false))))) (
   tellK H1 (ro H1 (V (.bool false))))) (
   tellK H1 (ro H1 (V (.bool false)))) := by
  refine (tellX Try.prog GG (plenumref22_MayResult_env m) m 26 plenumref22_MayResult_c plenumref22_MayResult_h ⟨[], argsT 0 [t0]⟩ [.tmp 2]).trans ?_
  kernel_rfl
noncomputable def plenumref22_MayResult_t (m : Nat) : List AV → RO | [t0] => plenumref22_MayResult m t0 | _ => none
theorem plenumref22_MayResult_ok (m : Nat) : ∀ args X H', plenumref22_MayResult_t m args = some (X, H') → ACp Try.prog GG 29 args X := by
  intro args X H' h
  unfold plenumref22_MayResult_t at h
  split at h
  · exact tell_okK MIX (by
    intro f e h
    simp only [plenumref22_MayResult_env, Prod.mk.injEq, List.mem_cons, List.not_mem_nil, or_false] at h
    obtain ⟨rfl, rfl⟩ := h
    · exact plenumref07_May_ok m) (f := 29) (c := plenumref22_MayResult_c) Try.func29 rfl (by kernel_rfl) _ rfl Try.ntmps29 (Nat.le_of_ble_eq_true rfl) plenumref22_MayResult_h h
  · cases h
noncomputable def plenumref26_Check_c : Code := (Try.f10.body).getD .skip
def plenumref26_Check_h : Hint := (.two .n (.join [] (.two .n (.one (.lp [] [0, 4] [2, 3] (.two (.two .n (.two .n .n)) (.join [0, 4] (.one (.join [0, 4] (.join [0, 4, 31] .n (.two (.two .n .n) .n)) (.join [0, 4, 48] .n (.two (.two .n .n) .n)))) .n))))) (.two .n .n)))
noncomputable def plenumref26_Check_env (m : Nat) : Env := [(28, .tell (plenumref26_Could_t m)), (29, .tell (plenumref22_MayResult_t m))]
noncomputable abbrev plenumref26_Check_fin : KO (AV × List AObj) := tellFK Try.prog [.tmp 2, .tmp 3]
noncomputable def plenumref26_Check_r7 (m : Nat) (n0 : Nat) (kc : ASt → RO) (kx : KO (AV × List AObj)) (s : ASt) : RO := joinW Try.prog GG (plenumref26_Check_env m) m 50 (cdR (cdR (cdL (cdL (cdR (cdL (cdR plenumref26_Check_c))))))) plenumref26_Check_h.r.l.r.c.c.r.r s (backW n0 [0, 4] [2, 3] kc kx)
noncomputable def plenumref26_Check_r6 (m : Nat) (n0 : Nat) (kc : ASt → RO) (kx : KO (AV × List AObj)) (s : ASt) : RO := joinW Try.prog GG (plenumref26_Check_env m) m 50 (cdR (cdR (cdL (cdL (cdR (cdL (cdR plenumref26_Check_c))))))) plenumref26_Check_h.r.l.r.c.c.r.r s (backW n0 [0, 4] [2, 3] kc kx)
noncomputable def plenumref26_Check_r5 (m : Nat) (n0 : Nat) (kc : ASt → RO) (kx : KO (AV × List AObj)) (s : ASt) : RO := joinW Try.prog GG (plenumref26_Check_env m) m 50 (cdR (cdR (cdL (cdL (cdR (cdL (cdL (cdR (cdL (cdR plenumref26_Check_c)))))))))) plenumref26_Check_h.r.l.r.c.c.r.l.c.r.r s (blockX 1 (seqX (fun s => plenumref26_Check_r7 m n0 kc kx ⟨s.H, [(0, gt s.T 0), (4, gt s.T 4)]⟩) (backW n0 [0, 4] [2, 3] kc kx)))
noncomputable def plenumref26_Check_r4 (m : Nat) (n0 : Nat) (kc : ASt → RO) (kx : KO (AV × List AObj)) (s : ASt) : RO := joinW Try.prog GG (plenumref26_Check_env m) m 50 (cdR (cdR (cdL (cdL (cdR (cdL (cdR plenumref26_Check_c))))))) plenumref26_Check_h.r.l.r.c.c.r.r s (backW n0 [0, 4] [2, 3] kc kx)
noncomputable def plenumref26_Check_r3 (m : Nat) (n0 : Nat) (kc : ASt → RO) (kx : KO (AV × List AObj)) (s : ASt) : RO := joinW Try.prog GG (plenumref26_Check_env m) m 50 (cdR (cdL (cdL (cdR (cdL (cdL (cdR (cdL (cdR plenumref26_Check_c))))))))) plenumref26_Check_h.r.l.r.c.c.r.l.c.r s (blockX 1 (seqX (fun s => plenumref26_Check_r6 m n0 kc kx ⟨s.H, [(0, gt s.T 0), (4, gt s.T 4)]⟩) (backW n0 [0, 4] [2, 3] kc kx)))
noncomputable def plenumref26_Check_r2 (m : Nat) (n0 : Nat) (kc : ASt → RO) (kx : KO (AV × List AObj)) (s : ASt) : RO := joinW Try.prog GG (plenumref26_Check_env m) m 50 (cdR (cdL (cdL (cdL (cdR (cdL (cdL (cdR (cdL (cdR plenumref26_Check_c)))))))))) plenumref26_Check_h.r.l.r.c.c.r.l.c.l.r s (seqX (fun s => plenumref26_Check_r3 m n0 kc kx ⟨s.H, [(0, gt s.T 0), (4, gt s.T 4)]⟩) (blockX 1 (seqX (fun s => plenumref26_Check_r4 m n0 kc kx ⟨s.H, [(0, gt s.T 0), (4, gt s.T 4)]⟩) (backW n0 [0, 4] [2, 3] kc kx))))
noncomputable def plenumref26_Check_r1 (m : Nat) (s : ASt) : RO := joinW Try.prog GG (plenumref26_Check_env m) m 50 (cdR (cdR plenumref26_Check_c)) plenumref26_Check_h.r.r s (plenumref26_Check_fin)
noncomputable def plenumref26_Check_b1 (m : Nat) (s : ASt) (kc : ASt → RO) (kx : KO (AV × List AObj)) : RO := bodyW Try.prog GG (plenumref26_Check_env m) m 50 (cdL (cdL (cdR (cdL (cdR plenumref26_Check_c))))) plenumref26_Check_h.r.l.r.c.c [0, 4] [2, 3] s kc kx
noncomputable def plenumref26_Check (m : Nat) (t0 : AV) : RO := exec Try.prog GG (plenumref26_Check_env m) m 50 plenumref26_Check_c plenumref26_Check_h ⟨[], argsT 0 [t0]⟩ (plenumref26_Check_fin)
theorem plenumref26_Check_r7_eq (m : Nat) (n0 : Nat) (kc : ASt → RO) (kx : KO (AV × List AObj)) (H : List AObj) (t0 t4 : AV) : plenumref26_Check_r7 m n0 kc kx ⟨H, [(0, t0), (4, t4)]⟩ =
  binE none false false .add t4 (V (.int .i64 1)) fun t10 =>
  backE n0 H [(0, t0), (4, t10)] kc := by
  refine (joinW_eq Try.prog GG (plenumref26_Check_env m) m 50 (cdR (cdR (cdL (cdL (cdR (cdL (cdR plenumref26_Check_c))))))) plenumref26_Check_h.r.l.r.c.c.r.r ⟨H, [(0, t0), (4, t4)]⟩ (backW n0 [0, 4] [2, 3] kc kx)).trans ?_
  kernel_rfl
theorem plenumref26_Check_r6_eq (m : Nat) (n0 : Nat) (kc : ASt → RO) (kx : KO (AV × List AObj)) (H : List AObj) (t0 t4 : AV) : plenumref26_Check_r6 m n0 kc kx ⟨H, [(0, t0), (4, t4)]⟩ =
  binE none false false .add t4 (V (.int .i64 1)) fun t10 =>
  backE n0 H [(0, t0), (4, t10)] kc := by
  refine (joinW_eq Try.prog GG (plenumref26_Check_env m) m 50 (cdR (cdR (cdL (cdL (cdR (cdL (cdR plenumref26_Check_c))))))) plenumref26_Check_h.r.l.r.c.c.r.r ⟨H, [(0, t0), (4, t4)]⟩ (backW n0 [0, 4] [2, 3] kc kx)).trans ?_
  kernel_rfl
theorem plenumref26_Check_r5_eq (m : Nat) (n0 : Nat) (kc : ASt → RO) (kx : KO (AV × List AObj)) (H : List AObj) (t0 t4 t48 : AV) : plenumref26_Check_r5 m n0 kc kx ⟨H, [(0, t0), (4, t4), (48, t48)]⟩ =
  condE t48 (
   kx .ret ⟨H, [(2, (V (.int .i64 3))), (3, t4)]⟩) (
   plenumref26_Check_r7 m n0 kc kx ⟨H, [(0, t0), (4, t4)]⟩) := by
  refine (joinW_eq Try.prog GG (plenumref26_Check_env m) m 50 (cdR (cdR (cdL (cdL (cdR (cdL (cdL (cdR (cdL (cdR plenumref26_Check_c)))))))))) plenumref26_Check_h.r.l.r.c.c.r.l.c.r.r ⟨H, [(0, t0), (4, t4), (48, t48)]⟩ (blockX 1 (seqX (fun s => plenumref26_Check_r7 m n0 kc kx ⟨s.H, [(0, gt s.T 0), (4, gt s.T 4)]⟩) (backW n0 [0, 4] [2, 3] kc kx)))).trans ?_
  kernel_rfl
theorem plenumref26_Check_r4_eq (m : Nat) (n0 : Nat) (kc : ASt → RO) (kx : KO (AV × List AObj)) (H : List AObj) (t0 t4 : AV) : plenumref26_Check_r4 m n0 kc kx ⟨H, [(0, t0), (4, t4)]⟩ =
  binE none false false .add t4 (V (.int .i64 1)) fun t10 =>
  backE n0 H [(0, t0), (4, t10)] kc := by
  refine (joinW_eq Try.prog GG (plenumref26_Check_env m) m 50 (cdR (cdR (cdL (cdL (cdR (cdL (cdR plenumref26_Check_c))))))) plenumref26_Check_h.r.l.r.c.c.r.r ⟨H, [(0, t0), (4, t4)]⟩ (backW n0 [0, 4] [2, 3] kc kx)).trans ?_
  kernel_rfl
theorem plenumref26_Check_r3_eq (m : Nat) (n0 : Nat) (kc : ASt → RO) (kx : KO (AV × List AObj)) (H : List AObj) (t0 t4 : AV) : plenumref26_Check_r3 m n0 kc kx ⟨H, [(0, t0), (4, t4)]⟩ =
  binE none false false .gtr t4 (V (.int .i64 0)) fun t34 =>
  condE t34 (
   binE none false false .sub t4 (V (.int .i64 1)) fun t38 =>
   idxSE 9 H t0 t38 fun t39 =>
   fieldE (some (0, 1)) t39 fun t40 =>
   loadE 1 H t40 fun t41 =>
   idxSE 9 H t0 t4 fun t44 =>
   fieldE (some (0, 1)) t44 fun t45 =>
   loadE 1 H t45 fun t46 =>
   binE none false false .geq t41 t46 fun t47 =>
   plenumref26_Check_r5 m n0 kc kx ⟨H, [(0, t0), (4, t4), (48, t47)]⟩) (
   plenumref26_Check_r5 m n0 kc kx ⟨H, [(0, t0), (4, t4), (48, (V (.bool false)))]⟩) := by
  refine (joinW_eq Try.prog GG (plenumref26_Check_env m) m 50 (cdR (cdL (cdL (cdR (cdL (cdL (cdR (cdL (cdR plenumref26_Check_c))))))))) plenumref26_Check_h.r.l.r.c.c.r.l.c.r ⟨H, [(0, t0), (4, t4)]⟩ (blockX 1 (seqX (fun s => plenumref26_Check_r6 m n0 kc kx ⟨s.H, [(0, gt s.T 0), (4, gt s.T 4)]⟩) (backW n0 [0, 4] [2, 3] kc kx)))).trans ?_
  kernel_rfl
theorem plenumref26_Check_r2_eq (m : Nat) (n0 : Nat) (kc : ASt → RO) (kx : KO (AV × List AObj)) (H : List AObj) (t0 t4 t31 : AV) : plenumref26_Check_r2 m n0 kc kx ⟨H, [(0, t0), (4, t4), (31, t31)]⟩ =
  condE t31 (
   kx .ret ⟨H, [(2, (V (.int .i64 1))), (3, t4)]⟩) (
   plenumref26_Check_r3 m n0 kc kx ⟨H, [(0, t0), (4, t4)]⟩) := by
  refine (joinW_eq Try.prog GG (plenumref26_Check_env m) m 50 (cdR (cdL (cdL (cdL (cdR (cdL (cdL (cdR (cdL (cdR plenumref26_Check_c)))))))))) plenumref26_Check_h.r.l.r.c.c.r.l.c.l.r ⟨H, [(0, t0), (4, t4), (31, t31)]⟩ (seqX (fun s => plenumref26_Check_r3 m n0 kc kx ⟨s.H, [(0, gt s.T 0), (4, gt s.T 4)]⟩) (blockX 1 (seqX (fun s => plenumref26_Check_r4 m n0 kc kx ⟨s.H, [(0, gt s.T 0), (4, gt s.T 4)]⟩) (backW n0 [0, 4] [2, 3] kc kx))))).trans ?_
  kernel_rfl
theorem plenumref26_Check_r1_eq (m : Nat) (H : List AObj) : plenumref26_Check_r1 m ⟨H, []⟩ =
  tellK H (ro H (TU [noT (V (.int .i64 0)), noT (V (.int .i64 0))])) := by
  refine (joinW_eq Try.prog GG (plenumref26_Check_env m) m 50 (cdR (cdR plenumref26_Check_c)) plenumref26_Check_h.r.r ⟨H, []⟩ (plenumref26_Check_fin)).trans ?_
  kernel_rfl
theorem plenumref26_Check_b1_eq (m : Nat) (H : List AObj) (t0 t4 : AV) (kc : ASt → RO) (kx : KO (AV × List AObj)) : plenumref26_Check_b1 m ⟨H, [(0, t0), (4, t4)]⟩ kc kx =
  lenE false true H t0 fun t7 =>
  binE none false false .lss t4 t7 fun t8 =>
  condE t8 (
   idxSE 9 H t0 t4 fun t13 =>
   fieldE (some (0, 1)) t13 fun t14 =>
   loadE 1 H t14 fun t15 =>
   idxSE 9 H t0 t4 fun t18 =>
   fieldE (some (1, 1)) t18 fun t19 =>
   loadE 1 H t19 fun t20 =>
   tellE (plenumref26_Could m (ro H t15) (ro H t20)) [(ro H t15), (ro H t20)] fun t21 =>
   unE .not t21 fun t22 =>
   condE t22 (
    plenumref26_Check_r2 m H.length kc kx ⟨H, [(0, t0), (4, t4), (31, (V (.bool true)))]⟩) (
    idxSE 9 H t0 t4 fun t26 =>
    fieldE (some (2, 7)) t26 fun t27 =>
    loadE 7 H t27 fun t28 =>
    tellE (plenumref22_MayResult m (ro H t28)) [(ro H t28)] fun t29 =>
    unE .not t29 fun t30 =>
    plenumref26_Check_r2 m H.length kc kx ⟨H, [(0, t0), (4, t4), (31, t30)]⟩)) (
   kx (.exit 0) ⟨H, [(2, .nil), (3, .nil)]⟩) := by
  refine (bodyW_eq Try.prog GG (plenumref26_Check_env m) m 50 (cdL (cdL (cdR (cdL (cdR plenumref26_Check_c))))) plenumref26_Check_h.r.l.r.c.c [0, 4] [2, 3] ⟨H, [(0, t0), (4, t4)]⟩ kc kx).trans ?_
  kernel_rfl
theorem plenumref26_Check_eq (m : Nat) (t0 : AV) : plenumref26_Check m t0 =
  iterC m (plenumref26_Check_b1 m) ⟨[], [(0, t0), (4, (V (.int .i64 0)))]⟩ (blockX 0 (seqX (fun s => plenumref26_Check_r1 m ⟨s.H, []⟩) (plenumref26_Check_fin))) := by
  refine (tellX Try.prog GG (plenumref26_Check_env m) m 50 plenumref26_Check_c plenumref26_Check_h ⟨[], argsT 0 [t0]⟩ [.tmp 2, .tmp 3]).trans ?_
  kernel_rfl
noncomputable def plenumref26_Check_t (m : Nat) : List AV → RO | [t0] => plenumref26_Check m t0 | _ => none
theorem plenumref26_Check_ok (m : Nat) : ∀ args X H', plenumref26_Check_t m args = some (X, H') → ACp Try.prog GG 10 args X := by
  intro args X H' h
  unfold plenumref26_Check_t at h
  split at h
  · exact tell_okK MIX (by
    intro f e h
    simp only [plenumref26_Check_env, Prod.mk.injEq, List.mem_cons, List.not_mem_nil, or_false] at h
    rcases h with ⟨rfl, rfl⟩ | ⟨rfl, rfl⟩
    · exact plenumref26_Could_ok m
    · exact plenumref22_MayResult_ok m) (f := 10) (c := plenumref26_Check_c) Try.func10 rfl (by kernel_rfl) _ rfl Try.ntmps10 (Nat.le_of_ble_eq_true rfl) plenumref26_Check_h h
  · cases h
noncomputable def plenumref26_Is_c : Code := (Try.f21.body).getD .skip
def plenumref26_Is_h : Hint := (.two .n (.two .n (.two .n .n)))
noncomputable def plenumref26_Is_env (m : Nat) : Env := [(10, .tell (plenumref26_Check_t m))]
noncomputable abbrev plenumref26_Is_fin : KO (AV × List AObj) := tellFK Try.prog [.tmp 2]
noncomputable def plenumref26_Is (m : Nat) (t0 : AV) : RO := exec Try.prog GG (plenumref26_Is_env m) m 12 plenumref26_Is_c plenumref26_Is_h ⟨[], argsT 0 [t0]⟩ (plenumref26_Is_fin)
theorem plenumref26_Is_eq (m : Nat) (t0 : AV) : plenumref26_Is m t0 =
  tellE (plenumref26_Check m (ro [] t0)) [(ro [] t0)] fun t7 =>
  extE t7 0 fun t8 =>
  extE t7 1 fun t9 =>
  binE none false false .eql t8 (V (.int .i64 0)) fun t11 =>
  tellK [] (ro [] t11) := by
  refine (tellX Try.prog GG (plenumref26_Is_env m) m 12 plenumref26_Is_c plenumref26_Is_h ⟨[], argsT 0 [t0]⟩ [.tmp 2]).trans ?_
  kernel_rfl
noncomputable def plenumref26_Is_t (m : Nat) : List AV → RO | [t0] => plenumref26_Is m t0 | _ => none
theorem plenumref26_Is_ok (m : Nat) : ∀ args X H', plenumref26_Is_t m args = some (X, H') → ACp Try.prog GG 21 args X := by
  intro args X H' h
  unfold plenumref26_Is_t at h
  split at h
  · exact tell_okK MIX (by
    intro f e h
    simp only [plenumref26_Is_env, Prod.mk.injEq, List.mem_cons, List.not_mem_nil, or_false] at h
    obtain ⟨rfl, rfl⟩ := h
    · exact plenumref26_Check_ok m) (f := 21) (c := plenumref26_Is_c) Try.func21 rfl (by kernel_rfl) _ rfl Try.ntmps21 (Nat.le_of_ble_eq_true rfl) plenumref26_Is_h h
  · cases h
noncomputable def plenumref26_Ask_c : Code := (Try.f12.body).getD .skip
def plenumref26_Ask_h : Hint := (.two .n (.join [0, 1, 2, 6] (.join [0, 1, 2, 6, 17] .n (.two (.two .n .n) .n)) (.join [6] (.two .n (.one (.lp [] [0, 1, 2, 6, 8] [6, 7] (.two (.two .n (.two .n .n)) (.join [0, 1, 2, 6, 8] (.one (.join [0, 1, 2, 6, 8] (.join [0, 1, 2, 6, 8, 40] .n (.two (.two .n .n) .n)) (.join [0, 1, 2, 6, 8, 61] .n (.two (.two .n .n) .n)))) .n))))) (.two .n .n))))
noncomputable def plenumref26_Ask_env (m : Nat) : Env := [(21, .tell (plenumref26_Is_t m)), (28, .tell (plenumref26_Could_t m))]
noncomputable abbrev plenumref26_Ask_fin : KO (AV × List AObj) := tellFK Try.prog [.cell 6 32, .tmp 7]
noncomputable def plenumref26_Ask_r9 (m : Nat) (n0 : Nat) (kc : ASt → RO) (kx : KO (AV × List AObj)) (s : ASt) : RO := joinW Try.prog GG (plenumref26_Ask_env m) m 64 (cdR (cdR (cdL (cdL (cdR (cdL (cdR (cdR plenumref26_Ask_c)))))))) plenumref26_Ask_h.r.r.l.r.c.c.r.r s (backW n0 [0, 1, 2, 6, 8] [6, 7] kc kx)
noncomputable def plenumref26_Ask_r8 (m : Nat) (n0 : Nat) (kc : ASt → RO) (kx : KO (AV × List AObj)) (s : ASt) : RO := joinW Try.prog GG (plenumref26_Ask_env m) m 64 (cdR (cdR (cdL (cdL (cdR (cdL (cdR (cdR plenumref26_Ask_c)))))))) plenumref26_Ask_h.r.r.l.r.c.c.r.r s (backW n0 [0, 1, 2, 6, 8] [6, 7] kc kx)
noncomputable def plenumref26_Ask_r7 (m : Nat) (n0 : Nat) (kc : ASt → RO) (kx : KO (AV × List AObj)) (s : ASt) : RO := joinW Try.prog GG (plenumref26_Ask_env m) m 64 (cdR (cdR (cdL (cdL (cdR (cdL (cdL (cdR (cdL (cdR (cdR plenumref26_Ask_c))))))))))) plenumref26_Ask_h.r.r.l.r.c.c.r.l.c.r.r s (blockX 1 (seqX (fun s => plenumref26_Ask_r9 m n0 kc kx ⟨s.H, [(0, gt s.T 0), (1, gt s.T 1), (2, gt s.T 2), (6, gt s.T 6), (8, gt s.T 8)]⟩) (backW n0 [0, 1, 2, 6, 8] [6, 7] kc kx)))
noncomputable def plenumref26_Ask_r6 (m : Nat) (n0 : Nat) (kc : ASt → RO) (kx : KO (AV × List AObj)) (s : ASt) : RO := joinW Try.prog GG (plenumref26_Ask_env m) m 64 (cdR (cdR (cdL (cdL (cdR (cdL (cdR (cdR plenumref26_Ask_c)))))))) plenumref26_Ask_h.r.r.l.r.c.c.r.r s (backW n0 [0, 1, 2, 6, 8] [6, 7] kc kx)
noncomputable def plenumref26_Ask_r5 (m : Nat) (n0 : Nat) (kc : ASt → RO) (kx : KO (AV × List AObj)) (s : ASt) : RO := joinW Try.prog GG (plenumref26_Ask_env m) m 64 (cdR (cdL (cdL (cdR (cdL (cdL (cdR (cdL (cdR (cdR plenumref26_Ask_c)))))))))) plenumref26_Ask_h.r.r.l.r.c.c.r.l.c.r s (blockX 1 (seqX (fun s => plenumref26_Ask_r8 m n0 kc kx ⟨s.H, [(0, gt s.T 0), (1, gt s.T 1), (2, gt s.T 2), (6, gt s.T 6), (8, gt s.T 8)]⟩) (backW n0 [0, 1, 2, 6, 8] [6, 7] kc kx)))
noncomputable def plenumref26_Ask_r4 (m : Nat) (n0 : Nat) (kc : ASt → RO) (kx : KO (AV × List AObj)) (s : ASt) : RO := joinW Try.prog GG (plenumref26_Ask_env m) m 64 (cdR (cdL (cdL (cdL (cdR (cdL (cdL (cdR (cdL (cdR (cdR plenumref26_Ask_c))))))))))) plenumref26_Ask_h.r.r.l.r.c.c.r.l.c.l.r s (seqX (fun s => plenumref26_Ask_r5 m n0 kc kx ⟨s.H, [(0, gt s.T 0), (1, gt s.T 1), (2, gt s.T 2), (6, gt s.T 6), (8, gt s.T 8)]⟩) (blockX 1 (seqX (fun s => plenumref26_Ask_r6 m n0 kc kx ⟨s.H, [(0, gt s.T 0), (1, gt s.T 1), (2, gt s.T 2), (6, gt s.T 6), (8, gt s.T 8)]⟩) (backW n0 [0, 1, 2, 6, 8] [6, 7] kc kx))))
noncomputable def plenumref26_Ask_r3 (m : Nat) (s : ASt) : RO := joinW Try.prog GG (plenumref26_Ask_env m) m 64 (cdR (cdR (cdR plenumref26_Ask_c))) plenumref26_Ask_h.r.r.r s (plenumref26_Ask_fin)
noncomputable def plenumref26_Ask_b1 (m : Nat) (s : ASt) (kc : ASt → RO) (kx : KO (AV × List AObj)) : RO := bodyW Try.prog GG (plenumref26_Ask_env m) m 64 (cdL (cdL (cdR (cdL (cdR (cdR plenumref26_Ask_c)))))) plenumref26_Ask_h.r.r.l.r.c.c [0, 1, 2, 6, 8] [6, 7] s kc kx
noncomputable def plenumref26_Ask_r2 (m : Nat) (s : ASt) : RO := joinW Try.prog GG (plenumref26_Ask_env m) m 64 (cdR (cdR plenumref26_Ask_c)) plenumref26_Ask_h.r.r s (plenumref26_Ask_fin)
noncomputable def plenumref26_Ask_r1 (m : Nat) (s : ASt) : RO := joinW Try.prog GG (plenumref26_Ask_env m) m 64 (cdR (cdL (cdR plenumref26_Ask_c))) plenumref26_Ask_h.r.l.r s (seqX (fun s => plenumref26_Ask_r2 m ⟨s.H, [(0, gt s.T 0), (1, gt s.T 1), (2, gt s.T 2), (6, gt s.T 6)]⟩) (plenumref26_Ask_fin))
noncomputable def plenumref26_Ask (m : Nat) (t0 t1 t2 : AV) : RO := exec Try.prog GG (plenumref26_Ask_env m) m 64 plenumref26_Ask_c plenumref26_Ask_h ⟨[], argsT 0 [t0, t1, t2]⟩ (plenumref26_Ask_fin)
theorem plenumref26_Ask_r9_eq (m : Nat) (n0 : Nat) (kc : ASt → RO) (kx : KO (AV × List AObj)) (H : List AObj) (t0 t1 t2 t6 t8 : AV) : plenumref26_Ask_r9 m n0 kc kx ⟨H, [(0, t0), (1, t1), (2, t2), (6, t6), (8, t8)]⟩ =
  binE none false false .add t8 (V (.int .i64 1)) fun t24 =>
  backE n0 H [(0, t0), (1, t1), (2, t2), (6, t6), (8, t24)] kc := by
  refine (joinW_eq Try.prog GG (plenumref26_Ask_env m) m 64 (cdR (cdR (cdL (cdL (cdR (cdL (cdR (cdR plenumref26_Ask_c)))))))) plenumref26_Ask_h.r.r.l.r.c.c.r.r ⟨H, [(0, t0), (1, t1), (2, t2), (6, t6), (8, t8)]⟩ (backW n0 [0, 1, 2, 6, 8] [6, 7] kc kx)).trans ?_
  kernel_rfl
theorem plenumref26_Ask_r7_eq (m : Nat) (n0 : Nat) (kc : ASt → RO) (kx : KO (AV × List AObj)) (H : List AObj) (t0 t1 t2 t6 t8 t61 : AV) : plenumref26_Ask_r7 m n0 kc kx ⟨H, [(0, t0), (1, t1), (2, t2), (6, t6), (8, t8), (61, t61)]⟩ =
  condE t61 (
   buildE (some pl_api_Result) (some zc_api_Result) [] fun t62 =>
   storeE 7 H t6 t62 fun H2 =>
   kx .ret ⟨H2, [(6, t6), (7, (V (.int .i64 18)))]⟩) (
   plenumref26_Ask_r9 m n0 kc kx ⟨H, [(0, t0), (1, t1), (2, t2), (6, t6), (8, t8)]⟩) := by
  refine (joinW_eq Try.prog GG (plenumref26_Ask_env m) m 64 (cdR (cdR (cdL (cdL (cdR (cdL (cdL (cdR (cdL (cdR (cdR plenumref26_Ask_c))))))))))) plenumref26_Ask_h.r.r.l.r.c.c.r.l.c.r.r ⟨H, [(0, t0), (1, t1), (2, t2), (6, t6), (8, t8), (61, t61)]⟩ (blockX 1 (seqX (fun s => plenumref26_Ask_r9 m n0 kc kx ⟨s.H, [(0, gt s.T 0), (1, gt s.T 1), (2, gt s.T 2), (6, gt s.T 6), (8, gt s.T 8)]⟩) (backW n0 [0, 1, 2, 6, 8] [6, 7] kc kx)))).trans ?_
  kernel_rfl
theorem plenumref26_Ask_r5_eq (m : Nat) (n0 : Nat) (kc : ASt → RO) (kx : KO (AV × List AObj)) (H : List AObj) (t0 t1 t2 t6 t8 : AV) : plenumref26_Ask_r5 m n0 kc kx ⟨H, [(0, t0), (1, t1), (2, t2), (6, t6), (8, t8)]⟩ =
  idxSE 9 H t0 t8 fun t48 =>
  fieldE (some (0, 1)) t48 fun t49 =>
  loadE 1 H t49 fun t50 =>
  binE none false false .eql t50 t1 fun t52 =>
  condE t52 (
   idxSE 9 H t0 t8 fun t56 =>
   fieldE (some (1, 1)) t56 fun t57 =>
   loadE 1 H t57 fun t58 =>
   binE none false false .gtr t58 t2 fun t60 =>
   plenumref26_Ask_r7 m n0 kc kx ⟨H, [(0, t0), (1, t1), (2, t2), (6, t6), (8, t8), (61, t60)]⟩) (
   plenumref26_Ask_r7 m n0 kc kx ⟨H, [(0, t0), (1, t1), (2, t2), (6, t6), (8, t8), (61, (V (.bool false)))]⟩) := by
  refine (joinW_eq Try.prog GG (plenumref26_Ask_env m) m 64 (cdR (cdL (cdL (cdR (cdL (cdL (cdR (cdL (cdR (cdR plenumref26_Ask_c)))))))))) plenumref26_Ask_h.r.r.l.r.c.c.r.l.c.r ⟨H, [(0, t0), (1, t1), (2, t2), (6, t6), (8, t8)]⟩ (blockX 1 (seqX (fun s => plenumref26_Ask_r8 m n0 kc kx ⟨s.H, [(0, gt s.T 0), (1, gt s.T 1), (2, gt s.T 2), (6, gt s.T 6), (8, gt s.T 8)]⟩) (backW n0 [0, 1, 2, 6, 8] [6, 7] kc kx)))).trans ?_
  kernel_rfl
theorem plenumref26_Ask_r4_eq (m : Nat) (n0 : Nat) (kc : ASt → RO) (kx : KO (AV × List AObj)) (H : List AObj) (t0 t1 t2 t6 t8 t40 : AV) : plenumref26_Ask_r4 m n0 kc kx ⟨H, [(0, t0), (1, t1), (2, t2), (6, t6), (8, t8), (40, t40)]⟩ =
  condE t40 (
   idxSE 9 H t0 t8 fun t43 =>
   fieldE (some (2, 7)) t43 fun t44 =>
   loadE 7 H t44 fun t45 =>
   storeE 7 H t6 t45 fun H2 =>
   kx .ret ⟨H2, [(6, t6), (7, (V (.int .i64 0)))]⟩) (
   plenumref26_Ask_r5 m n0 kc kx ⟨H, [(0, t0), (1, t1), (2, t2), (6, t6), (8, t8)]⟩) := by
  refine (joinW_eq Try.prog GG (plenumref26_Ask_env m) m 64 (cdR (cdL (cdL (cdL (cdR (cdL (cdL (cdR (cdL (cdR (cdR plenumref26_Ask_c))))))))))) plenumref26_Ask_h.r.r.l.r.c.c.r.l.c.l.r ⟨H, [(0, t0), (1, t1), (2, t2), (6, t6), (8, t8), (40, t40)]⟩ (seqX (fun s => plenumref26_Ask_r5 m n0 kc kx ⟨s.H, [(0, gt s.T 0), (1, gt s.T 1), (2, gt s.T 2), (6, gt s.T 6), (8, gt s.T 8)]⟩) (blockX 1 (seqX (fun s => plenumref26_Ask_r6 m n0 kc kx ⟨s.H, [(0, gt s.T 0), (1, gt s.T 1), (2, gt s.T 2), (6, gt s.T 6), (8, gt s.T 8)]⟩) (backW n0 [0, 1, 2, 6, 8] [6, 7] kc kx))))).trans ?_
  kernel_rfl
theorem plenumref26_Ask_r3_eq (m : Nat) (H : List AObj) (t6 : AV) : plenumref26_Ask_r3 m ⟨H, [(6, t6)]⟩ =
  buildE (some pl_api_Result) (some zc_api_Result) [] fun t63 =>
  storeE 7 H t6 t63 fun H2 =>
  loadE 7 H2 t6 fun t9000 =>
  tellK H2 (ro H2 (TU [noT t9000, noT (V (.int .i64 6))])) := by
  refine (joinW_eq Try.prog GG (plenumref26_Ask_env m) m 64 (cdR (cdR (cdR plenumref26_Ask_c))) plenumref26_Ask_h.r.r.r ⟨H, [(6, t6)]⟩ (plenumref26_Ask_fin)).trans ?_
  kernel_rfl
theorem plenumref26_Ask_b1_eq (m : Nat) (H : List AObj) (t0 t1 t2 t6 t8 : AV) (kc : ASt → RO) (kx : KO (AV × List AObj)) : plenumref26_Ask_b1 m ⟨H, [(0, t0), (1, t1), (2, t2), (6, t6), (8, t8)]⟩ kc kx =
  lenE false true H t0 fun t21 =>
  binE none false false .lss t8 t21 fun t22 =>
  condE t22 (
   idxSE 9 H t0 t8 fun t27 =>
   fieldE (some (0, 1)) t27 fun t28 =>
   loadE 1 H t28 fun t29 =>
   binE none false false .eql t29 t1 fun t31 =>
   condE t31 (
    idxSE 9 H t0 t8 fun t35 =>
    fieldE (some (1, 1)) t35 fun t36 =>
    loadE 1 H t36 fun t37 =>
    binE none false false .eql t37 t2 fun t39 =>
    plenumref26_Ask_r4 m H.length kc kx ⟨H, [(0, t0), (1, t1), (2, t2), (6, t6), (8, t8), (40, t39)]⟩) (
    plenumref26_Ask_r4 m H.length kc kx ⟨H, [(0, t0), (1, t1), (2, t2), (6, t6), (8, t8), (40, (V (.bool false)))]⟩)) (
   kx (.exit 0) ⟨H, [(6, t6), (7, .nil)]⟩) := by
  refine (bodyW_eq Try.prog GG (plenumref26_Ask_env m) m 64 (cdL (cdL (cdR (cdL (cdR (cdR plenumref26_Ask_c)))))) plenumref26_Ask_h.r.r.l.r.c.c [0, 1, 2, 6, 8] [6, 7] ⟨H, [(0, t0), (1, t1), (2, t2), (6, t6), (8, t8)]⟩ kc kx).trans ?_
  kernel_rfl
theorem plenumref26_Ask_r2_eq (m : Nat) (H : List AObj) (t0 t1 t2 t6 : AV) : plenumref26_Ask_r2 m ⟨H, [(0, t0), (1, t1), (2, t2), (6, t6)]⟩ =
  iterC m (plenumref26_Ask_b1 m) ⟨H, [(0, t0), (1, t1), (2, t2), (6, t6), (8, (V (.int .i64 0)))]⟩ (blockX 0 (seqX (fun s => plenumref26_Ask_r3 m ⟨s.H, [(6, gt s.T 6)]⟩) (plenumref26_Ask_fin))) := by
  refine (joinW_eq Try.prog GG (plenumref26_Ask_env m) m 64 (cdR (cdR plenumref26_Ask_c)) plenumref26_Ask_h.r.r ⟨H, [(0, t0), (1, t1), (2, t2), (6, t6)]⟩ (plenumref26_Ask_fin)).trans ?_
  kernel_rfl
theorem plenumref26_Ask_r1_eq (m : Nat) (H : List AObj) (t0 t1 t2 t6 t17 : AV) : plenumref26_Ask_r1 m ⟨H, [(0, t0), (1, t1), (2, t2), (6, t6), (17, t17)]⟩ =
  condE t17 (
   buildE (some pl_api_Result) (some zc_api_Result) [] fun t18 =>
   storeE 7 H t6 t18 fun H2 =>
   loadE 7 H2 t6 fun t9000 =>
   tellK H2 (ro H2 (TU [noT t9000, noT (V (.int .i64 1))]))) (
   plenumref26_Ask_r2 m ⟨H, [(0, t0), (1, t1), (2, t2), (6, t6)]⟩) := by
  refine (joinW_eq Try.prog GG (plenumref26_Ask_env m) m 64 (cdR (cdL (cdR plenumref26_Ask_c))) plenumref26_Ask_h.r.l.r ⟨H, [(0, t0), (1, t1), (2, t2), (6, t6), (17, t17)]⟩ (seqX (fun s => plenumref26_Ask_r2 m ⟨s.H, [(0, gt s.T 0), (1, gt s.T 1), (2, gt s.T 2), (6, gt s.T 6)]⟩) (plenumref26_Ask_fin))).trans ?_
  kernel_rfl
theorem plenumref26_Ask_eq (m : Nat) (t0 t1 t2 : AV) : plenumref26_Ask m t0 t1 t2 =
  allocE (some zc_api_Result) ty_api_Result [] fun t6 H1 =>
  tellE (plenumref26_Is m (ro H1 t0)) [(ro H1 t0)] fun t10 =>
  unE .not t10 fun t11 =>
  condE t11 (
   plenumref26_Ask_r1 m ⟨H1, [(0, t0), (1, t1), (2, t2), (6, t6), (17, (V (.bool true)))]⟩) (
   tellE (plenumref26_Could m (ro H1 t1) (ro H1 t2)) [(ro H1 t1), (ro H1 t2)] fun t15 =>
   unE .not t15 fun t16 =>
   plenumref26_Ask_r1 m ⟨H1, [(0, t0), (1, t1), (2, t2), (6, t6), (17, t16)]⟩) := by
  refine (tellX Try.prog GG (plenumref26_Ask_env m) m 64 plenumref26_Ask_c plenumref26_Ask_h ⟨[], argsT 0 [t0, t1, t2]⟩ [.cell 6 32, .tmp 7]).trans ?_
  kernel_rfl
noncomputable def plenumref26_Ask_t (m : Nat) : List AV → RO | [t0, t1, t2] => plenumref26_Ask m t0 t1 t2 | _ => none
theorem plenumref26_Ask_ok (m : Nat) : ∀ args X H', plenumref26_Ask_t m args = some (X, H') → ACp Try.prog GG 12 args X := by
  intro args X H' h
  unfold plenumref26_Ask_t at h
  split at h
  · exact tell_okK MIX (by
    intro f e h
    simp only [plenumref26_Ask_env, Prod.mk.injEq, List.mem_cons, List.not_mem_nil, or_false] at h
    rcases h with ⟨rfl, rfl⟩ | ⟨rfl, rfl⟩
    · exact plenumref26_Is_ok m
    · exact plenumref26_Could_ok m) (f := 12) (c := plenumref26_Ask_c) Try.func12 rfl (by kernel_rfl) _ rfl Try.ntmps12 (Nat.le_of_ble_eq_true rfl) plenumref26_Ask_h h
  · cases h
noncomputable def plenumref26_Note_c : Code := (Try.f15.body).getD .skip
def plenumref26_Note_h : Hint := (.two .n (.two .n (.join [0, 1, 2, 7, 11] (.join [0, 1, 2, 7, 11, 28] .n (.two (.two .n .n) .n)) (.two (.two .n (.two (.two .n .n) .n)) (.two .n (.join [0, 1, 2, 7, 12] (.two .n (.one (.lp [(12, ty_api_Last, 7)] [0, 1, 2, 7, 12, 13] [0, 1, 2, 7, 12] (.two (.two .n (.two .n .n)) (.join [0, 1, 2, 7, 12, 13] (.one (.two .n (.two .n .n))) .n))))) (.two .n (.join [12] (.two .n (.one (.lp [(12, ty_api_Last, 7)] [0, 1, 12, 14] [12] (.two (.two .n (.two .n .n)) (.join [0, 1, 12, 14] (.one (.two .n (.two .n .n))) .n))))) (.two .n .n)))))))))
noncomputable def plenumref26_Note_env (m : Nat) : Env := [(12, .tell (plenumref26_Ask_t m)), (29, .tell (plenumref22_MayResult_t m))]
noncomputable abbrev plenumref26_Note_fin : KO (AV × List AObj) := tellFK Try.prog [.tmp 8, .tmp 9]
noncomputable def plenumref26_Note_r6 (m : Nat) (n0 : Nat) (kc : ASt → RO) (kx : KO (AV × List AObj)) (s : ASt) : RO := joinW Try.prog GG (plenumref26_Note_env m) m 79 (cdR (cdR (cdL (cdL (cdR (cdL (cdR (cdR (cdR (cdR (cdR (cdR (cdR plenumref26_Note_c))))))))))))) plenumref26_Note_h.r.r.r.r.r.r.r.l.r.c.c.r.r s (backW n0 [0, 1, 12, 14] [12] kc kx)
noncomputable def plenumref26_Note_r5 (m : Nat) (s : ASt) : RO := joinW Try.prog GG (plenumref26_Note_env m) m 79 (cdR (cdR (cdR (cdR (cdR (cdR (cdR (cdR plenumref26_Note_c)))))))) plenumref26_Note_h.r.r.r.r.r.r.r.r s (plenumref26_Note_fin)
noncomputable def plenumref26_Note_r4 (m : Nat) (n0 : Nat) (kc : ASt → RO) (kx : KO (AV × List AObj)) (s : ASt) : RO := joinW Try.prog GG (plenumref26_Note_env m) m 79 (cdR (cdR (cdL (cdL (cdR (cdL (cdR (cdR (cdR (cdR (cdR plenumref26_Note_c))))))))))) plenumref26_Note_h.r.r.r.r.r.l.r.c.c.r.r s (backW n0 [0, 1, 2, 7, 12, 13] [0, 1, 2, 7, 12] kc kx)
noncomputable def plenumref26_Note_b2 (m : Nat) (s : ASt) (kc : ASt → RO) (kx : KO (AV × List AObj)) : RO := bodyW Try.prog GG (plenumref26_Note_env m) m 79 (cdL (cdL (cdR (cdL (cdR (cdR (cdR (cdR (cdR (cdR (cdR plenumref26_Note_c))))))))))) plenumref26_Note_h.r.r.r.r.r.r.r.l.r.c.c [0, 1, 12, 14] [12] s kc kx
noncomputable def plenumref26_Note_r3 (m : Nat) (s : ASt) : RO := joinW Try.prog GG (plenumref26_Note_env m) m 79 (cdR (cdR (cdR (cdR (cdR (cdR plenumref26_Note_c)))))) plenumref26_Note_h.r.r.r.r.r.r s (plenumref26_Note_fin)
noncomputable def plenumref26_Note_b1 (m : Nat) (s : ASt) (kc : ASt → RO) (kx : KO (AV × List AObj)) : RO := bodyW Try.prog GG (plenumref26_Note_env m) m 79 (cdL (cdL (cdR (cdL (cdR (cdR (cdR (cdR (cdR plenumref26_Note_c))))))))) plenumref26_Note_h.r.r.r.r.r.l.r.c.c [0, 1, 2, 7, 12, 13] [0, 1, 2, 7, 12] s kc kx
noncomputable def plenumref26_Note_r2 (m : Nat) (s : ASt) : RO := joinW Try.prog GG (plenumref26_Note_env m) m 79 (cdR (cdR (cdR plenumref26_Note_c))) plenumref26_Note_h.r.r.r s (plenumref26_Note_fin)
noncomputable def plenumref26_Note_r1 (m : Nat) (s : ASt) : RO := joinW Try.prog GG (plenumref26_Note_env m) m 79 (cdR (cdL (cdR (cdR plenumref26_Note_c)))) plenumref26_Note_h.r.r.l.r s (seqX (fun s => plenumref26_Note_r2 m ⟨s.H, [(0, gt s.T 0), (1, gt s.T 1), (2, gt s.T 2), (7, gt s.T 7), (11, gt s.T 11)]⟩) (plenumref26_Note_fin))
noncomputable def plenumref26_Note (m : Nat) (t0 t1 t2 t3 : AV) : RO := exec Try.prog GG (plenumref26_Note_env m) m 79 plenumref26_Note_c plenumref26_Note_h ⟨[], argsT 0 [t0, t1, t2, t3]⟩ (plenumref26_Note_fin)
theorem plenumref26_Note_r6_eq (m : Nat) (n0 : Nat) (kc : ASt → RO) (kx : KO (AV × List AObj)) (H : List AObj) (t0 t1 t12 t14 : AV) : plenumref26_Note_r6 m n0 kc kx ⟨H, [(0, t0), (1, t1), (12, t12), (14, t14)]⟩ =
  binE none false false .add t14 (V (.int .i64 1)) fun t63 =>
  backE n0 H [(0, t0), (1, t1), (12, t12), (14, t63)] kc := by
  refine (joinW_eq Try.prog GG (plenumref26_Note_env m) m 79 (cdR (cdR (cdL (cdL (cdR (cdL (cdR (cdR (cdR (cdR (cdR (cdR (cdR plenumref26_Note_c))))))))))))) plenumref26_Note_h.r.r.r.r.r.r.r.l.r.c.c.r.r ⟨H, [(0, t0), (1, t1), (12, t12), (14, t14)]⟩ (backW n0 [0, 1, 12, 14] [12] kc kx)).trans ?_
  kernel_rfl
theorem plenumref26_Note_r5_eq (m : Nat) (H : List AObj) (t12 : AV) : plenumref26_Note_r5 m ⟨H, [(12, t12)]⟩ =
  tellK H (ro H (TU [noT t12, noT (V (.int .i64 0))])) := by
  refine (joinW_eq Try.prog GG (plenumref26_Note_env m) m 79 (cdR (cdR (cdR (cdR (cdR (cdR (cdR (cdR plenumref26_Note_c)))))))) plenumref26_Note_h.r.r.r.r.r.r.r.r ⟨H, [(12, t12)]⟩ (plenumref26_Note_fin)).trans ?_
  kernel_rfl
theorem plenumref26_Note_r4_eq (m : Nat) (n0 : Nat) (kc : ASt → RO) (kx : KO (AV × List AObj)) (H : List AObj) (t0 t1 t2 t7 t12 t13 : AV) : plenumref26_Note_r4 m n0 kc kx ⟨H, [(0, t0), (1, t1), (2, t2), (7, t7), (12, t12), (13, t13)]⟩ =
  binE none false false .add t13 (V (.int .i64 1)) fun t36 =>
  backE n0 H [(0, t0), (1, t1), (2, t2), (7, t7), (12, t12), (13, t36)] kc := by
  refine (joinW_eq Try.prog GG (plenumref26_Note_env m) m 79 (cdR (cdR (cdL (cdL (cdR (cdL (cdR (cdR (cdR (cdR (cdR plenumref26_Note_c))))))))))) plenumref26_Note_h.r.r.r.r.r.l.r.c.c.r.r ⟨H, [(0, t0), (1, t1), (2, t2), (7, t7), (12, t12), (13, t13)]⟩ (backW n0 [0, 1, 2, 7, 12, 13] [0, 1, 2, 7, 12] kc kx)).trans ?_
  kernel_rfl
theorem plenumref26_Note_b2_eq (m : Nat) (H : List AObj) (t0 t1 t12 t14 : AV) (kc : ASt → RO) (kx : KO (AV × List AObj)) : plenumref26_Note_b2 m ⟨H, [(0, t0), (1, t1), (12, t12), (14, t14)]⟩ kc kx =
  lenE false true H t0 fun t60 =>
  binE none false false .lss t14 t60 fun t61 =>
  condE t61 (
   idxSE 9 H t0 t14 fun t66 =>
   fieldE (some (0, 1)) t66 fun t67 =>
   loadE 1 H t67 fun t68 =>
   binE none false false .gtr t68 t1 fun t70 =>
   condE t70 (
    idxSE 9 H t0 t14 fun t74 =>
    loadE 9 H t74 fun t75 =>
    buildSE (some (ty_api_Last, 7)) 1 [(0, t75)] fun t76 =>
    appE (some (ty_api_Last, 7)) H t12 t76 fun t77 H2 =>
    plenumref26_Note_r6 m H.length kc kx ⟨H2, [(0, t0), (1, t1), (12, t77), (14, t14)]⟩) (
    plenumref26_Note_r6 m H.length kc kx ⟨H, [(0, t0), (1, t1), (12, t12), (14, t14)]⟩)) (
   kx (.exit 2) ⟨H, [(12, t12)]⟩) := by
  refine (bodyW_eq Try.prog GG (plenumref26_Note_env m) m 79 (cdL (cdL (cdR (cdL (cdR (cdR (cdR (cdR (cdR (cdR (cdR plenumref26_Note_c))))))))))) plenumref26_Note_h.r.r.r.r.r.r.r.l.r.c.c [0, 1, 12, 14] [12] ⟨H, [(0, t0), (1, t1), (12, t12), (14, t14)]⟩ kc kx).trans ?_
  kernel_rfl
theorem plenumref26_Note_r3_eq (m : Nat) (H : List AObj) (t0 t1 t2 t7 t12 : AV) : plenumref26_Note_r3 m ⟨H, [(0, t0), (1, t1), (2, t2), (7, t7), (12, t12)]⟩ =
  loadE 7 H t7 fun t54 =>
  buildE (some pl_api_Last) (some zc_api_Last) [(0, t1), (1, t2), (2, t54)] fun t55 =>
  buildSE (some (ty_api_Last, 7)) 1 [(0, t55)] fun t56 =>
  appE (some (ty_api_Last, 7)) H t12 t56 fun t57 H2 =>
  rowE t57 ty_api_Last 7 H2 fun t12_1 H3 =>
  iterC m (plenumref26_Note_b2 m) ⟨H3, [(0, t0), (1, t1), (12, t12_1), (14, (V (.int .i64 0)))]⟩ (blockX 2 (seqX (fun s => plenumref26_Note_r5 m ⟨s.H, [(12, gt s.T 12)]⟩) (plenumref26_Note_fin))) := by
  refine (joinW_eq Try.prog GG (plenumref26_Note_env m) m 79 (cdR (cdR (cdR (cdR (cdR (cdR plenumref26_Note_c)))))) plenumref26_Note_h.r.r.r.r.r.r ⟨H, [(0, t0), (1, t1), (2, t2), (7, t7), (12, t12)]⟩ (plenumref26_Note_fin)).trans ?_
  kernel_rfl
theorem plenumref26_Note_b1_eq (m : Nat) (H : List AObj) (t0 t1 t2 t7 t12 t13 : AV) (kc : ASt → RO) (kx : KO (AV × List AObj)) : plenumref26_Note_b1 m ⟨H, [(0, t0), (1, t1), (2, t2), (7, t7), (12, t12), (13, t13)]⟩ kc kx =
  lenE false true H t0 fun t33 =>
  binE none false false .lss t13 t33 fun t34 =>
  condE t34 (
   idxSE 9 H t0 t13 fun t39 =>
   fieldE (some (0, 1)) t39 fun t40 =>
   loadE 1 H t40 fun t41 =>
   binE none false false .lss t41 t1 fun t43 =>
   condE t43 (
    idxSE 9 H t0 t13 fun t47 =>
    loadE 9 H t47 fun t48 =>
    buildSE (some (ty_api_Last, 7)) 1 [(0, t48)] fun t49 =>
    appE (some (ty_api_Last, 7)) H t12 t49 fun t50 H2 =>
    plenumref26_Note_r4 m H.length kc kx ⟨H2, [(0, t0), (1, t1), (2, t2), (7, t7), (12, t50), (13, t13)]⟩) (
    plenumref26_Note_r4 m H.length kc kx ⟨H, [(0, t0), (1, t1), (2, t2), (7, t7), (12, t12), (13, t13)]⟩)) (
   kx (.exit 0) ⟨H, [(0, t0), (1, t1), (2, t2), (7, t7), (12, t12)]⟩) := by
  refine (bodyW_eq Try.prog GG (plenumref26_Note_env m) m 79 (cdL (cdL (cdR (cdL (cdR (cdR (cdR (cdR (cdR plenumref26_Note_c))))))))) plenumref26_Note_h.r.r.r.r.r.l.r.c.c [0, 1, 2, 7, 12, 13] [0, 1, 2, 7, 12] ⟨H, [(0, t0), (1, t1), (2, t2), (7, t7), (12, t12), (13, t13)]⟩ kc kx).trans ?_
  kernel_rfl
theorem plenumref26_Note_r2_eq (m : Nat) (H : List AObj) (t0 t1 t2 t7 t11 : AV) : plenumref26_Note_r2 m ⟨H, [(0, t0), (1, t1), (2, t2), (7, t7), (11, t11)]⟩ =
  binE none false false .neq t11 (V (.int .i64 6)) fun t30 =>
  condE t30 (
   tellK H (ro H (TU [noT (V (.slice none 0 0)), noT (V (.int .i64 18))]))) (
   rowE (V (.slice none 0 0)) ty_api_Last 7 H fun t12 H2 =>
   iterC m (plenumref26_Note_b1 m) ⟨H2, [(0, t0), (1, t1), (2, t2), (7, t7), (12, t12), (13, (V (.int .i64 0)))]⟩ (blockX 0 (seqX (fun s => plenumref26_Note_r3 m ⟨s.H, [(0, gt s.T 0), (1, gt s.T 1), (2, gt s.T 2), (7, gt s.T 7), (12, gt s.T 12)]⟩) (plenumref26_Note_fin)))) := by
  refine (joinW_eq Try.prog GG (plenumref26_Note_env m) m 79 (cdR (cdR (cdR plenumref26_Note_c))) plenumref26_Note_h.r.r.r ⟨H, [(0, t0), (1, t1), (2, t2), (7, t7), (11, t11)]⟩ (plenumref26_Note_fin)).trans ?_
  kernel_rfl
theorem plenumref26_Note_r1_eq (m : Nat) (H : List AObj) (t0 t1 t2 t7 t11 t28 : AV) : plenumref26_Note_r1 m ⟨H, [(0, t0), (1, t1), (2, t2), (7, t7), (11, t11), (28, t28)]⟩ =
  condE t28 (
   tellK H (ro H (TU [noT (V (.slice none 0 0)), noT (V (.int .i64 1))]))) (
   plenumref26_Note_r2 m ⟨H, [(0, t0), (1, t1), (2, t2), (7, t7), (11, t11)]⟩) := by
  refine (joinW_eq Try.prog GG (plenumref26_Note_env m) m 79 (cdR (cdL (cdR (cdR plenumref26_Note_c)))) plenumref26_Note_h.r.r.l.r ⟨H, [(0, t0), (1, t1), (2, t2), (7, t7), (11, t11), (28, t28)]⟩ (seqX (fun s => plenumref26_Note_r2 m ⟨s.H, [(0, gt s.T 0), (1, gt s.T 1), (2, gt s.T 2), (7, gt s.T 7), (11, gt s.T 11)]⟩) (plenumref26_Note_fin))).trans ?_
  kernel_rfl
theorem plenumref26_Note_eq (m : Nat) (t0 t1 t2 t3 : AV) : plenumref26_Note m t0 t1 t2 t3 =
  boxE ty_api_Result [] t3 fun t7 H1 =>
  tellE (plenumref26_Ask m (ro H1 t0) (ro H1 t1) (ro H1 t2)) [(ro H1 t0), (ro H1 t1), (ro H1 t2)] fun t19 =>
  extE t19 0 fun t20 =>
  extE t19 1 fun t21 =>
  allocE (some zc_api_Result) ty_api_Result H1 fun t10 H2 =>
  storeE 7 H2 t10 t20 fun H3 =>
  binE none false false .eql t21 (V (.int .i64 1)) fun t23 =>
  condE t23 (
   plenumref26_Note_r1 m ⟨H3, [(0, t0), (1, t1), (2, t2), (7, t7), (11, t21), (28, (V (.bool true)))]⟩) (
   loadE 7 H3 t7 fun t25 =>
   tellE (plenumref22_MayResult m (ro H3 t25)) [(ro H3 t25)] fun t26 =>
   unE .not t26 fun t27 =>
   plenumref26_Note_r1 m ⟨H3, [(0, t0), (1, t1), (2, t2), (7, t7), (11, t21), (28, t27)]⟩) := by
  refine (tellX Try.prog GG (plenumref26_Note_env m) m 79 plenumref26_Note_c plenumref26_Note_h ⟨[], argsT 0 [t0, t1, t2, t3]⟩ [.tmp 8, .tmp 9]).trans ?_
  kernel_rfl
noncomputable def plenumref26_Note_t (m : Nat) : List AV → RO | [t0, t1, t2, t3] => plenumref26_Note m t0 t1 t2 t3 | _ => none
theorem plenumref26_Note_ok (m : Nat) : ∀ args X H', plenumref26_Note_t m args = some (X, H') → ACp Try.prog GG 15 args X := by
  intro args X H' h
  unfold plenumref26_Note_t at h
  split at h
  · exact tell_okK MIX (by
    intro f e h
    simp only [plenumref26_Note_env, Prod.mk.injEq, List.mem_cons, List.not_mem_nil, or_false] at h
    rcases h with ⟨rfl, rfl⟩ | ⟨rfl, rfl⟩
    · exact plenumref26_Ask_ok m
    · exact plenumref22_MayResult_ok m) (f := 15) (c := plenumref26_Note_c) Try.func15 rfl (by kernel_rfl) _ rfl Try.ntmps15 (Nat.le_of_ble_eq_true rfl) plenumref26_Note_h h
  · cases h
noncomputable def plenumref26_has_c : Code := (Try.f36.body).getD .skip
def plenumref26_has_h : Hint := (.two .n (.join [] (.two .n (.one (.lp [] [0, 1, 5] [4] (.two (.two .n (.two .n .n)) (.two (.one (.two .n (.two (.two .n .n) .n))) .n))))) (.two .n .n)))
noncomputable def plenumref26_has_env (m : Nat) : Env := []
noncomputable abbrev plenumref26_has_fin : KO (AV × List AObj) := tellFK Try.prog [.tmp 4]
noncomputable def plenumref26_has_r1 (m : Nat) (s : ASt) : RO := joinW Try.prog GG (plenumref26_has_env m) m 18 (cdR (cdR plenumref26_has_c)) plenumref26_has_h.r.r s (plenumref26_has_fin)
noncomputable def plenumref26_has_b1 (m : Nat) (s : ASt) (kc : ASt → RO) (kx : KO (AV × List AObj)) : RO := bodyW Try.prog GG (plenumref26_has_env m) m 18 (cdL (cdL (cdR (cdL (cdR plenumref26_has_c))))) plenumref26_has_h.r.l.r.c.c [0, 1, 5] [4] s kc kx
noncomputable def plenumref26_has (m : Nat) (t0 t1 : AV) : RO := exec Try.prog GG (plenumref26_has_env m) m 18 plenumref26_has_c plenumref26_has_h ⟨[], argsT 0 [t0, t1]⟩ (plenumref26_has_fin)
theorem plenumref26_has_r1_eq (m : Nat) (H : List AObj) : plenumref26_has_r1 m ⟨H, []⟩ =
  tellK H (ro H (V (.bool false))) := by
  refine (joinW_eq Try.prog GG (plenumref26_has_env m) m 18 (cdR (cdR plenumref26_has_c)) plenumref26_has_h.r.r ⟨H, []⟩ (plenumref26_has_fin)).trans ?_
  kernel_rfl
theorem plenumref26_has_b1_eq (m : Nat) (H : List AObj) (t0 t1 t5 : AV) (kc : ASt → RO) (kx : KO (AV × List AObj)) : plenumref26_has_b1 m ⟨H, [(0, t0), (1, t1), (5, t5)]⟩ kc kx =
  lenE false true H t0 fun t8 =>
  binE none false false .lss t5 t8 fun t9 =>
  condE t9 (
   idxSE 1 H t0 t5 fun t14 =>
   loadE 1 H t14 fun t15 =>
   binE none false false .eql t15 t1 fun t17 =>
   condE t17 (
    kx .ret ⟨H, [(4, (V (.bool true)))]⟩) (
    binE none false false .add t5 (V (.int .i64 1)) fun t11 =>
    backE H.length H [(0, t0), (1, t1), (5, t11)] kc)) (
   kx (.exit 0) ⟨H, [(4, .nil)]⟩) := by
  refine (bodyW_eq Try.prog GG (plenumref26_has_env m) m 18 (cdL (cdL (cdR (cdL (cdR plenumref26_has_c))))) plenumref26_has_h.r.l.r.c.c [0, 1, 5] [4] ⟨H, [(0, t0), (1, t1), (5, t5)]⟩ kc kx).trans ?_
  kernel_rfl
theorem plenumref26_has_eq (m : Nat) (t0 t1 : AV) : plenumref26_has m t0 t1 =
  iterC m (plenumref26_has_b1 m) ⟨[], [(0, t0), (1, t1), (5, (V (.int .i64 0)))]⟩ (blockX 0 (seqX (fun s => plenumref26_has_r1 m ⟨s.H, []⟩) (plenumref26_has_fin))) := by
  refine (tellX Try.prog GG (plenumref26_has_env m) m 18 plenumref26_has_c plenumref26_has_h ⟨[], argsT 0 [t0, t1]⟩ [.tmp 4]).trans ?_
  kernel_rfl
noncomputable def plenumref26_has_t (m : Nat) : List AV → RO | [t0, t1] => plenumref26_has m t0 t1 | _ => none
theorem plenumref26_has_ok (m : Nat) : ∀ args X H', plenumref26_has_t m args = some (X, H') → ACp Try.prog GG 36 args X := by
  intro args X H' h
  unfold plenumref26_has_t at h
  split at h
  · exact tell_okK MIX (by intro f e h; cases h) (f := 36) (c := plenumref26_has_c) Try.func36 rfl (by kernel_rfl) _ rfl Try.ntmps36 (Nat.le_of_ble_eq_true rfl) plenumref26_has_h h
  · cases h
noncomputable def plenumref26_Fresh_c : Code := (Try.f18.body).getD .skip
def plenumref26_Fresh_h : Hint := (.two .n (.two .n (.join [5] (.two .n (.one (.lp [(5, ty_int, 1)] [0, 1, 5, 6] [5] (.join [0, 1, 5, 6] (.join [0, 1, 5, 6, 18] .n (.two .n .n)) (.join [0, 1, 5, 6] (.one (.two .n (.two .n (.join [0, 1, 5, 6, 9] (.two .n (.one (.lp [] [0, 1, 5, 6, 9, 10] [0, 1, 5, 6, 9] (.two (.two .n (.two .n .n)) (.join [0, 1, 5, 6, 9, 10] (.one (.join [0, 1, 5, 6, 9, 10, 71] .n (.two .n .n))) .n))))) (.two .n (.two .n .n)))))) .n))))) (.two .n .n))))
noncomputable def plenumref26_Fresh_env (m : Nat) : Env := [(21, .tell (plenumref26_Is_t m)), (12, .tell (plenumref26_Ask_t m)), (36, .tell (plenumref26_has_t m))]
noncomputable abbrev plenumref26_Fresh_fin : KO (AV × List AObj) := tellFK Try.prog [.tmp 4]
noncomputable def plenumref26_Fresh_r8 (m : Nat) (n0 : Nat) (kc : ASt → RO) (kx : KO (AV × List AObj)) (s : ASt) : RO := joinW Try.prog GG (plenumref26_Fresh_env m) m 78 (cdR (cdR (cdL (cdL (cdR (cdL (cdR (cdR (cdL (cdL (cdR (cdL (cdL (cdR (cdL (cdR (cdR plenumref26_Fresh_c))))))))))))))))) plenumref26_Fresh_h.r.r.l.r.c.c.r.l.c.r.r.l.r.c.c.r.r s (backW n0 [0, 1, 5, 6, 9, 10] [0, 1, 5, 6, 9] kc kx)
noncomputable def plenumref26_Fresh_r7 (m : Nat) (n0 : Nat) (kc : ASt → RO) (kx : KO (AV × List AObj)) (s : ASt) : RO := joinW Try.prog GG (plenumref26_Fresh_env m) m 78 (cdR (cdR (cdL (cdL (cdR (cdL (cdR (cdR plenumref26_Fresh_c)))))))) plenumref26_Fresh_h.r.r.l.r.c.c.r.r s (backW n0 [0, 1, 5, 6] [5] kc kx)
noncomputable def plenumref26_Fresh_r6 (m : Nat) (n0 : Nat) (kc : ASt → RO) (kx : KO (AV × List AObj)) (s : ASt) : RO := joinW Try.prog GG (plenumref26_Fresh_env m) m 78 (cdR (cdL (cdL (cdR (cdL (cdL (cdR (cdL (cdR (cdR (cdL (cdL (cdR (cdL (cdL (cdR (cdL (cdR (cdR plenumref26_Fresh_c))))))))))))))))))) plenumref26_Fresh_h.r.r.l.r.c.c.r.l.c.r.r.l.r.c.c.r.l.c.r s (blockX 3 (seqX (fun s => plenumref26_Fresh_r8 m n0 kc kx ⟨s.H, [(0, gt s.T 0), (1, gt s.T 1), (5, gt s.T 5), (6, gt s.T 6), (9, gt s.T 9), (10, gt s.T 10)]⟩) (backW n0 [0, 1, 5, 6, 9, 10] [0, 1, 5, 6, 9] kc kx)))
noncomputable def plenumref26_Fresh_r5 (m : Nat) (n0 : Nat) (kc : ASt → RO) (kx : KO (AV × List AObj)) (s : ASt) : RO := joinW Try.prog GG (plenumref26_Fresh_env m) m 78 (cdR (cdR (cdL (cdL (cdR (cdL (cdR (cdR plenumref26_Fresh_c)))))))) plenumref26_Fresh_h.r.r.l.r.c.c.r.r s (backW n0 [0, 1, 5, 6] [5] kc kx)
noncomputable def plenumref26_Fresh_r4 (m : Nat) (n0 : Nat) (kc : ASt → RO) (kx : KO (AV × List AObj)) (s : ASt) : RO := joinW Try.prog GG (plenumref26_Fresh_env m) m 78 (cdR (cdR (cdR (cdL (cdL (cdR (cdL (cdL (cdR (cdL (cdR (cdR plenumref26_Fresh_c)))))))))))) plenumref26_Fresh_h.r.r.l.r.c.c.r.l.c.r.r.r s (blockX 1 (seqX (fun s => plenumref26_Fresh_r7 m n0 kc kx ⟨s.H, [(0, gt s.T 0), (1, gt s.T 1), (5, gt s.T 5), (6, gt s.T 6)]⟩) (backW n0 [0, 1, 5, 6] [5] kc kx)))
noncomputable def plenumref26_Fresh_b2 (m : Nat) (s : ASt) (kc : ASt → RO) (kx : KO (AV × List AObj)) : RO := bodyW Try.prog GG (plenumref26_Fresh_env m) m 78 (cdL (cdL (cdR (cdL (cdR (cdR (cdL (cdL (cdR (cdL (cdL (cdR (cdL (cdR (cdR plenumref26_Fresh_c))))))))))))))) plenumref26_Fresh_h.r.r.l.r.c.c.r.l.c.r.r.l.r.c.c [0, 1, 5, 6, 9, 10] [0, 1, 5, 6, 9] s kc kx
noncomputable def plenumref26_Fresh_r3 (m : Nat) (n0 : Nat) (kc : ASt → RO) (kx : KO (AV × List AObj)) (s : ASt) : RO := joinW Try.prog GG (plenumref26_Fresh_env m) m 78 (cdR (cdL (cdL (cdR (cdL (cdR (cdR plenumref26_Fresh_c))))))) plenumref26_Fresh_h.r.r.l.r.c.c.r s (backW n0 [0, 1, 5, 6] [5] kc kx)
noncomputable def plenumref26_Fresh_r2 (m : Nat) (n0 : Nat) (kc : ASt → RO) (kx : KO (AV × List AObj)) (s : ASt) : RO := joinW Try.prog GG (plenumref26_Fresh_env m) m 78 (cdR (cdL (cdL (cdL (cdR (cdL (cdR (cdR plenumref26_Fresh_c)))))))) plenumref26_Fresh_h.r.r.l.r.c.c.l.r s (seqX (fun s => plenumref26_Fresh_r3 m n0 kc kx ⟨s.H, [(0, gt s.T 0), (1, gt s.T 1), (5, gt s.T 5), (6, gt s.T 6)]⟩) (backW n0 [0, 1, 5, 6] [5] kc kx))
noncomputable def plenumref26_Fresh_r1 (m : Nat) (s : ASt) : RO := joinW Try.prog GG (plenumref26_Fresh_env m) m 78 (cdR (cdR (cdR plenumref26_Fresh_c))) plenumref26_Fresh_h.r.r.r s (plenumref26_Fresh_fin)
noncomputable def plenumref26_Fresh_b1 (m : Nat) (s : ASt) (kc : ASt → RO) (kx : KO (AV × List AObj)) : RO := bodyW Try.prog GG (plenumref26_Fresh_env m) m 78 (cdL (cdL (cdR (cdL (cdR (cdR plenumref26_Fresh_c)))))) plenumref26_Fresh_h.r.r.l.r.c.c [0, 1, 5, 6] [5] s kc kx
noncomputable def plenumref26_Fresh (m : Nat) (t0 t1 : AV) : RO := exec Try.prog GG (plenumref26_Fresh_env m) m 78 plenumref26_Fresh_c plenumref26_Fresh_h ⟨[], argsT 0 [t0, t1]⟩ (plenumref26_Fresh_fin)
theorem plenumref26_Fresh_r8_eq (m : Nat) (n0 : Nat) (kc : ASt → RO) (kx : KO (AV × List AObj)) (H : List AObj) (t0 t1 t5 t6 t9 t10 : AV) : plenumref26_Fresh_r8 m n0 kc kx ⟨H, [(0, t0), (1, t1), (5, t5), (6, t6), (9, t9), (10, t10)]⟩ =
  binE none false false .add t10 (V (.int .i64 1)) fun t42 =>
  backE n0 H [(0, t0), (1, t1), (5, t5), (6, t6), (9, t9), (10, t42)] kc := by
  refine (joinW_eq Try.prog GG (plenumref26_Fresh_env m) m 78 (cdR (cdR (cdL (cdL (cdR (cdL (cdR (cdR (cdL (cdL (cdR (cdL (cdL (cdR (cdL (cdR (cdR plenumref26_Fresh_c))))))))))))))))) plenumref26_Fresh_h.r.r.l.r.c.c.r.l.c.r.r.l.r.c.c.r.r ⟨H, [(0, t0), (1, t1), (5, t5), (6, t6), (9, t9), (10, t10)]⟩ (backW n0 [0, 1, 5, 6, 9, 10] [0, 1, 5, 6, 9] kc kx)).trans ?_
  kernel_rfl
theorem plenumref26_Fresh_r7_eq (m : Nat) (n0 : Nat) (kc : ASt → RO) (kx : KO (AV × List AObj)) (H : List AObj) (t0 t1 t5 t6 : AV) : plenumref26_Fresh_r7 m n0 kc kx ⟨H, [(0, t0), (1, t1), (5, t5), (6, t6)]⟩ =
  binE none false false .add t6 (V (.int .i64 1)) fun t20 =>
  backE n0 H [(0, t0), (1, t1), (5, t5), (6, t20)] kc := by
  refine (joinW_eq Try.prog GG (plenumref26_Fresh_env m) m 78 (cdR (cdR (cdL (cdL (cdR (cdL (cdR (cdR plenumref26_Fresh_c)))))))) plenumref26_Fresh_h.r.r.l.r.c.c.r.r ⟨H, [(0, t0), (1, t1), (5, t5), (6, t6)]⟩ (backW n0 [0, 1, 5, 6] [5] kc kx)).trans ?_
  kernel_rfl
theorem plenumref26_Fresh_r6_eq (m : Nat) (n0 : Nat) (kc : ASt → RO) (kx : KO (AV × List AObj)) (H : List AObj) (t0 t1 t5 t6 t9 t10 t71 : AV) : plenumref26_Fresh_r6 m n0 kc kx ⟨H, [(0, t0), (1, t1), (5, t5), (6, t6), (9, t9), (10, t10), (71, t71)]⟩ =
  condE t71 (
   plenumref26_Fresh_r8 m n0 kc kx ⟨H, [(0, t0), (1, t1), (5, t5), (6, t6), (9, (V (.bool false))), (10, t10)]⟩) (
   plenumref26_Fresh_r8 m n0 kc kx ⟨H, [(0, t0), (1, t1), (5, t5), (6, t6), (9, t9), (10, t10)]⟩) := by
  refine (joinW_eq Try.prog GG (plenumref26_Fresh_env m) m 78 (cdR (cdL (cdL (cdR (cdL (cdL (cdR (cdL (cdR (cdR (cdL (cdL (cdR (cdL (cdL (cdR (cdL (cdR (cdR plenumref26_Fresh_c))))))))))))))))))) plenumref26_Fresh_h.r.r.l.r.c.c.r.l.c.r.r.l.r.c.c.r.l.c.r ⟨H, [(0, t0), (1, t1), (5, t5), (6, t6), (9, t9), (10, t10), (71, t71)]⟩ (blockX 3 (seqX (fun s => plenumref26_Fresh_r8 m n0 kc kx ⟨s.H, [(0, gt s.T 0), (1, gt s.T 1), (5, gt s.T 5), (6, gt s.T 6), (9, gt s.T 9), (10, gt s.T 10)]⟩) (backW n0 [0, 1, 5, 6, 9, 10] [0, 1, 5, 6, 9] kc kx)))).trans ?_
  kernel_rfl
theorem plenumref26_Fresh_r5_eq (m : Nat) (n0 : Nat) (kc : ASt → RO) (kx : KO (AV × List AObj)) (H : List AObj) (t0 t1 t5 t6 : AV) : plenumref26_Fresh_r5 m n0 kc kx ⟨H, [(0, t0), (1, t1), (5, t5), (6, t6)]⟩ =
  binE none false false .add t6 (V (.int .i64 1)) fun t20 =>
  backE n0 H [(0, t0), (1, t1), (5, t5), (6, t20)] kc := by
  refine (joinW_eq Try.prog GG (plenumref26_Fresh_env m) m 78 (cdR (cdR (cdL (cdL (cdR (cdL (cdR (cdR plenumref26_Fresh_c)))))))) plenumref26_Fresh_h.r.r.l.r.c.c.r.r ⟨H, [(0, t0), (1, t1), (5, t5), (6, t6)]⟩ (backW n0 [0, 1, 5, 6] [5] kc kx)).trans ?_
  kernel_rfl
theorem plenumref26_Fresh_r4_eq (m : Nat) (n0 : Nat) (kc : ASt → RO) (kx : KO (AV × List AObj)) (H : List AObj) (t0 t1 t5 t6 t9 : AV) : plenumref26_Fresh_r4 m n0 kc kx ⟨H, [(0, t0), (1, t1), (5, t5), (6, t6), (9, t9)]⟩ =
  condE t9 (
   buildSE (some (ty_int, 1)) 1 [(0, t6)] fun t75 =>
   appE (some (ty_int, 1)) H t5 t75 fun t76 H2 =>
   plenumref26_Fresh_r7 m n0 kc kx ⟨H2, [(0, t0), (1, t1), (5, t76), (6, t6)]⟩) (
   plenumref26_Fresh_r7 m n0 kc kx ⟨H, [(0, t0), (1, t1), (5, t5), (6, t6)]⟩) := by
  refine (joinW_eq Try.prog GG (plenumref26_Fresh_env m) m 78 (cdR (cdR (cdR (cdL (cdL (cdR (cdL (cdL (cdR (cdL (cdR (cdR plenumref26_Fresh_c)))))))))))) plenumref26_Fresh_h.r.r.l.r.c.c.r.l.c.r.r.r ⟨H, [(0, t0), (1, t1), (5, t5), (6, t6), (9, t9)]⟩ (blockX 1 (seqX (fun s => plenumref26_Fresh_r7 m n0 kc kx ⟨s.H, [(0, gt s.T 0), (1, gt s.T 1), (5, gt s.T 5), (6, gt s.T 6)]⟩) (backW n0 [0, 1, 5, 6] [5] kc kx)))).trans ?_
  kernel_rfl
theorem plenumref26_Fresh_b2_eq (m : Nat) (H : List AObj) (t0 t1 t5 t6 t9 t10 : AV) (kc : ASt → RO) (kx : KO (AV × List AObj)) : plenumref26_Fresh_b2 m ⟨H, [(0, t0), (1, t1), (5, t5), (6, t6), (9, t9), (10, t10)]⟩ kc kx =
  binE none false false .lss t10 t6 fun t40 =>
  condE t40 (
   idxSE 8 H t1 t10 fun t45 =>
   fieldE (some (0, 1)) t45 fun t46 =>
   loadE 1 H t46 fun t47 =>
   idxSE 8 H t1 t6 fun t50 =>
   fieldE (some (0, 1)) t50 fun t51 =>
   loadE 1 H t51 fun t52 =>
   binE none false false .eql t47 t52 fun t53 =>
   condE t53 (
    idxSE 8 H t1 t10 fun t57 =>
    fieldE (some (1, 1)) t57 fun t58 =>
    loadE 1 H t58 fun t59 =>
    idxSE 8 H t1 t6 fun t62 =>
    fieldE (some (1, 1)) t62 fun t63 =>
    loadE 1 H t63 fun t64 =>
    binE none false false .geq t59 t64 fun t65 =>
    condE t65 (
    tellE (plenumref26_has m (ro H t5) (ro H t10)) [(ro H t5), (ro H t10)] fun t70 =>
    plenumref26_Fresh_r6 m H.length kc kx ⟨H, [(0, t0), (1, t1), (5, t5), (6, t6), (9, t9), (10, t10), (71, t70)]⟩) (
    plenumref26_Fresh_r6 m H.length kc kx ⟨H, [(0, t0), (1, t1), (5, t5), (6, t6), (9, t9), (10, t10), (71, (V (.bool false)))]⟩)) (
    plenumref26_Fresh_r6 m H.length kc kx ⟨H, [(0, t0), (1, t1), (5, t5), (6, t6), (9, t9), (10, t10), (71, (V (.bool false)))]⟩)) (
   kx (.exit 2) ⟨H, [(0, t0), (1, t1), (5, t5), (6, t6), (9, t9)]⟩) := by
  refine (bodyW_eq Try.prog GG (plenumref26_Fresh_env m) m 78 (cdL (cdL (cdR (cdL (cdR (cdR (cdL (cdL (cdR (cdL (cdL (cdR (cdL (cdR (cdR plenumref26_Fresh_c))))))))))))))) plenumref26_Fresh_h.r.r.l.r.c.c.r.l.c.r.r.l.r.c.c [0, 1, 5, 6, 9, 10] [0, 1, 5, 6, 9] ⟨H, [(0, t0), (1, t1), (5, t5), (6, t6), (9, t9), (10, t10)]⟩ kc kx).trans ?_
  kernel_rfl
theorem plenumref26_Fresh_r3_eq (m : Nat) (n0 : Nat) (kc : ASt → RO) (kx : KO (AV × List AObj)) (H : List AObj) (t0 t1 t5 t6 : AV) : plenumref26_Fresh_r3 m n0 kc kx ⟨H, [(0, t0), (1, t1), (5, t5), (6, t6)]⟩ =
  idxSE 8 H t1 t6 fun t25 =>
  fieldE (some (0, 1)) t25 fun t26 =>
  loadE 1 H t26 fun t27 =>
  idxSE 8 H t1 t6 fun t30 =>
  fieldE (some (1, 1)) t30 fun t31 =>
  loadE 1 H t31 fun t32 =>
  tellE (plenumref26_Ask m (ro H t0) (ro H t27) (ro H t32)) [(ro H t0), (ro H t27), (ro H t32)] fun t33 =>
  extE t33 0 fun t34 =>
  extE t33 1 fun t35 =>
  allocE (some zc_api_Result) ty_api_Result H fun t7 H2 =>
  storeE 7 H2 t7 t34 fun H3 =>
  binE none false false .eql t35 (V (.int .i64 6)) fun t37 =>
  iterC m (plenumref26_Fresh_b2 m) ⟨H3, [(0, t0), (1, t1), (5, t5), (6, t6), (9, t37), (10, (V (.int .i64 0)))]⟩ (blockX 2 (seqX (fun s => plenumref26_Fresh_r4 m n0 kc kx ⟨s.H, [(0, gt s.T 0), (1, gt s.T 1), (5, gt s.T 5), (6, gt s.T 6), (9, gt s.T 9)]⟩) (blockX 1 (seqX (fun s => plenumref26_Fresh_r5 m n0 kc kx ⟨s.H, [(0, gt s.T 0), (1, gt s.T 1), (5, gt s.T 5), (6, gt s.T 6)]⟩) (backW n0 [0, 1, 5, 6] [5] kc kx))))) := by
  refine (joinW_eq Try.prog GG (plenumref26_Fresh_env m) m 78 (cdR (cdL (cdL (cdR (cdL (cdR (cdR plenumref26_Fresh_c))))))) plenumref26_Fresh_h.r.r.l.r.c.c.r ⟨H, [(0, t0), (1, t1), (5, t5), (6, t6)]⟩ (backW n0 [0, 1, 5, 6] [5] kc kx)).trans ?_
  kernel_rfl
theorem plenumref26_Fresh_r2_eq (m : Nat) (n0 : Nat) (kc : ASt → RO) (kx : KO (AV × List AObj)) (H : List AObj) (t0 t1 t5 t6 t18 : AV) : plenumref26_Fresh_r2 m n0 kc kx ⟨H, [(0, t0), (1, t1), (5, t5), (6, t6), (18, t18)]⟩ =
  condE t18 (
   plenumref26_Fresh_r3 m n0 kc kx ⟨H, [(0, t0), (1, t1), (5, t5), (6, t6)]⟩) (
   kx (.exit 0) ⟨H, [(5, t5)]⟩) := by
  refine (joinW_eq Try.prog GG (plenumref26_Fresh_env m) m 78 (cdR (cdL (cdL (cdL (cdR (cdL (cdR (cdR plenumref26_Fresh_c)))))))) plenumref26_Fresh_h.r.r.l.r.c.c.l.r ⟨H, [(0, t0), (1, t1), (5, t5), (6, t6), (18, t18)]⟩ (seqX (fun s => plenumref26_Fresh_r3 m n0 kc kx ⟨s.H, [(0, gt s.T 0), (1, gt s.T 1), (5, gt s.T 5), (6, gt s.T 6)]⟩) (backW n0 [0, 1, 5, 6] [5] kc kx))).trans ?_
  kernel_rfl
theorem plenumref26_Fresh_r1_eq (m : Nat) (H : List AObj) (t5 : AV) : plenumref26_Fresh_r1 m ⟨H, [(5, t5)]⟩ =
  tellK H (ro H t5) := by
  refine (joinW_eq Try.prog GG (plenumref26_Fresh_env m) m 78 (cdR (cdR (cdR plenumref26_Fresh_c))) plenumref26_Fresh_h.r.r.r ⟨H, [(5, t5)]⟩ (plenumref26_Fresh_fin)).trans ?_
  kernel_rfl
theorem plenumref26_Fresh_b1_eq (m : Nat) (H : List AObj) (t0 t1 t5 t6 : AV) (kc : ASt → RO) (kx : KO (AV × List AObj)) : plenumref26_Fresh_b1 m ⟨H, [(0, t0), (1, t1), (5, t5), (6, t6)]⟩ kc kx =
  lenE false true H t1 fun t13 =>
  binE none false false .lss t6 t13 fun t14 =>
  condE t14 (
   tellE (plenumref26_Is m (ro H t0)) [(ro H t0)] fun t17 =>
   plenumref26_Fresh_r2 m H.length kc kx ⟨H, [(0, t0), (1, t1), (5, t5), (6, t6), (18, t17)]⟩) (
   plenumref26_Fresh_r2 m H.length kc kx ⟨H, [(0, t0), (1, t1), (5, t5), (6, t6), (18, (V (.bool false)))]⟩) := by
  refine (bodyW_eq Try.prog GG (plenumref26_Fresh_env m) m 78 (cdL (cdL (cdR (cdL (cdR (cdR plenumref26_Fresh_c)))))) plenumref26_Fresh_h.r.r.l.r.c.c [0, 1, 5, 6] [5] ⟨H, [(0, t0), (1, t1), (5, t5), (6, t6)]⟩ kc kx).trans ?_
  kernel_rfl
theorem plenumref26_Fresh_eq (m : Nat) (t0 t1 : AV) : plenumref26_Fresh m t0 t1 =
  rowE (V (.slice none 0 0)) ty_int 1 [] fun t5 H1 =>
  iterC m (plenumref26_Fresh_b1 m) ⟨H1, [(0, t0), (1, t1), (5, t5), (6, (V (.int .i64 0)))]⟩ (blockX 0 (seqX (fun s => plenumref26_Fresh_r1 m ⟨s.H, [(5, gt s.T 5)]⟩) (plenumref26_Fresh_fin))) := by
  refine (tellX Try.prog GG (plenumref26_Fresh_env m) m 78 plenumref26_Fresh_c plenumref26_Fresh_h ⟨[], argsT 0 [t0, t1]⟩ [.tmp 4]).trans ?_
  kernel_rfl
noncomputable def plenumref26_Fresh_t (m : Nat) : List AV → RO | [t0, t1] => plenumref26_Fresh m t0 t1 | _ => none
theorem plenumref26_Fresh_ok (m : Nat) : ∀ args X H', plenumref26_Fresh_t m args = some (X, H') → ACp Try.prog GG 18 args X := by
  intro args X H' h
  unfold plenumref26_Fresh_t at h
  split at h
  · exact tell_okK MIX (by
    intro f e h
    simp only [plenumref26_Fresh_env, Prod.mk.injEq, List.mem_cons, List.not_mem_nil, or_false] at h
    rcases h with ⟨rfl, rfl⟩ | ⟨rfl, rfl⟩ | ⟨rfl, rfl⟩
    · exact plenumref26_Is_ok m
    · exact plenumref26_Ask_ok m
    · exact plenumref26_has_ok m) (f := 18) (c := plenumref26_Fresh_c) Try.func18 rfl (by kernel_rfl) _ rfl Try.ntmps18 (Nat.le_of_ble_eq_true rfl) plenumref26_Fresh_h h
  · cases h
noncomputable def plenumref26_All_c : Code := (Try.f20.body).getD .skip
def plenumref26_All_h : Hint := (.two .n (.join [0, 1, 2] (.join [0, 1, 2, 20] .n (.two (.two .n .n) .n)) (.join [0] (.two .n (.one (.lp [] [0, 1, 2, 8] [0, 6, 7] (.two (.two .n (.two .n .n)) (.two (.one (.two .n (.two (.two .n (.two (.two .n .n) .n)) .n))) .n))))) (.two .n .n))))
noncomputable def plenumref26_All_env (m : Nat) : Env := [(21, .tell (plenumref26_Is_t m)), (15, .tell (plenumref26_Note_t m))]
noncomputable abbrev plenumref26_All_fin : KO (AV × List AObj) := tellFK Try.prog [.tmp 6, .tmp 7]
noncomputable def plenumref26_All_r3 (m : Nat) (s : ASt) : RO := joinW Try.prog GG (plenumref26_All_env m) m 51 (cdR (cdR (cdR plenumref26_All_c))) plenumref26_All_h.r.r.r s (plenumref26_All_fin)
noncomputable def plenumref26_All_b1 (m : Nat) (s : ASt) (kc : ASt → RO) (kx : KO (AV × List AObj)) : RO := bodyW Try.prog GG (plenumref26_All_env m) m 51 (cdL (cdL (cdR (cdL (cdR (cdR plenumref26_All_c)))))) plenumref26_All_h.r.r.l.r.c.c [0, 1, 2, 8] [0, 6, 7] s kc kx
noncomputable def plenumref26_All_r2 (m : Nat) (s : ASt) : RO := joinW Try.prog GG (plenumref26_All_env m) m 51 (cdR (cdR plenumref26_All_c)) plenumref26_All_h.r.r s (plenumref26_All_fin)
noncomputable def plenumref26_All_r1 (m : Nat) (s : ASt) : RO := joinW Try.prog GG (plenumref26_All_env m) m 51 (cdR (cdL (cdR plenumref26_All_c))) plenumref26_All_h.r.l.r s (seqX (fun s => plenumref26_All_r2 m ⟨s.H, [(0, gt s.T 0), (1, gt s.T 1), (2, gt s.T 2)]⟩) (plenumref26_All_fin))
noncomputable def plenumref26_All (m : Nat) (t0 t1 t2 : AV) : RO := exec Try.prog GG (plenumref26_All_env m) m 51 plenumref26_All_c plenumref26_All_h ⟨[], argsT 0 [t0, t1, t2]⟩ (plenumref26_All_fin)
theorem plenumref26_All_r3_eq (m : Nat) (H : List AObj) (t0 : AV) : plenumref26_All_r3 m ⟨H, [(0, t0)]⟩ =
  tellK H (ro H (TU [noT t0, noT (V (.int .i64 0))])) := by
  refine (joinW_eq Try.prog GG (plenumref26_All_env m) m 51 (cdR (cdR (cdR plenumref26_All_c))) plenumref26_All_h.r.r.r ⟨H, [(0, t0)]⟩ (plenumref26_All_fin)).trans ?_
  kernel_rfl
theorem plenumref26_All_b1_eq (m : Nat) (H : List AObj) (t0 t1 t2 t8 : AV) (kc : ASt → RO) (kx : KO (AV × List AObj)) : plenumref26_All_b1 m ⟨H, [(0, t0), (1, t1), (2, t2), (8, t8)]⟩ kc kx =
  lenE false true H t1 fun t23 =>
  binE none false false .lss t8 t23 fun t24 =>
  condE t24 (
   idxSE 8 H t1 t8 fun t31 =>
   fieldE (some (0, 1)) t31 fun t32 =>
   loadE 1 H t32 fun t33 =>
   idxSE 8 H t1 t8 fun t36 =>
   fieldE (some (1, 1)) t36 fun t37 =>
   loadE 1 H t37 fun t38 =>
   idxSE 7 H t2 t8 fun t41 =>
   loadE 7 H t41 fun t42 =>
   tellE (plenumref26_Note m (ro H t0) (ro H t33) (ro H t38) (ro H t42)) [(ro H t0), (ro H t33), (ro H t38), (ro H t42)] fun t43 =>
   extE t43 0 fun t44 =>
   extE t43 1 fun t45 =>
   binE none false false .neq t45 (V (.int .i64 0)) fun t47 =>
   condE t47 (
    kx .ret ⟨H, [(0, t0), (6, (V (.slice none 0 0))), (7, t45)]⟩) (
    binE none false false .add t8 (V (.int .i64 1)) fun t26 =>
    backE H.length H [(0, t44), (1, t1), (2, t2), (8, t26)] kc)) (
   kx (.exit 0) ⟨H, [(0, t0), (6, .nil), (7, .nil)]⟩) := by
  refine (bodyW_eq Try.prog GG (plenumref26_All_env m) m 51 (cdL (cdL (cdR (cdL (cdR (cdR plenumref26_All_c)))))) plenumref26_All_h.r.r.l.r.c.c [0, 1, 2, 8] [0, 6, 7] ⟨H, [(0, t0), (1, t1), (2, t2), (8, t8)]⟩ kc kx).trans ?_
  kernel_rfl
theorem plenumref26_All_r2_eq (m : Nat) (H : List AObj) (t0 t1 t2 : AV) : plenumref26_All_r2 m ⟨H, [(0, t0), (1, t1), (2, t2)]⟩ =
  iterC m (plenumref26_All_b1 m) ⟨H, [(0, t0), (1, t1), (2, t2), (8, (V (.int .i64 0)))]⟩ (blockX 0 (seqX (fun s => plenumref26_All_r3 m ⟨s.H, [(0, gt s.T 0)]⟩) (plenumref26_All_fin))) := by
  refine (joinW_eq Try.prog GG (plenumref26_All_env m) m 51 (cdR (cdR plenumref26_All_c)) plenumref26_All_h.r.r ⟨H, [(0, t0), (1, t1), (2, t2)]⟩ (plenumref26_All_fin)).trans ?_
  kernel_rfl
theorem plenumref26_All_r1_eq (m : Nat) (H : List AObj) (t0 t1 t2 t20 : AV) : plenumref26_All_r1 m ⟨H, [(0, t0), (1, t1), (2, t2), (20, t20)]⟩ =
  condE t20 (
   tellK H (ro H (TU [noT (V (.slice none 0 0)), noT (V (.int .i64 1))]))) (
   plenumref26_All_r2 m ⟨H, [(0, t0), (1, t1), (2, t2)]⟩) := by
  refine (joinW_eq Try.prog GG (plenumref26_All_env m) m 51 (cdR (cdL (cdR plenumref26_All_c))) plenumref26_All_h.r.l.r ⟨H, [(0, t0), (1, t1), (2, t2), (20, t20)]⟩ (seqX (fun s => plenumref26_All_r2 m ⟨s.H, [(0, gt s.T 0), (1, gt s.T 1), (2, gt s.T 2)]⟩) (plenumref26_All_fin))).trans ?_
  kernel_rfl
theorem plenumref26_All_eq (m : Nat) (t0 t1 t2 : AV) : plenumref26_All m t0 t1 t2 =
  tellE (plenumref26_Is m (ro [] t0)) [(ro [] t0)] fun t12 =>
  unE .not t12 fun t13 =>
  condE t13 (
   plenumref26_All_r1 m ⟨[], [(0, t0), (1, t1), (2, t2), (20, (V (.bool true)))]⟩) (
   lenE false true [] t1 fun t16 =>
   lenE false true [] t2 fun t18 =>
   binE none false false .neq t16 t18 fun t19 =>
   plenumref26_All_r1 m ⟨[], [(0, t0), (1, t1), (2, t2), (20, t19)]⟩) := by
  refine (tellX Try.prog GG (plenumref26_All_env m) m 51 plenumref26_All_c plenumref26_All_h ⟨[], argsT 0 [t0, t1, t2]⟩ [.tmp 6, .tmp 7]).trans ?_
  kernel_rfl
noncomputable def plenumref26_All_t (m : Nat) : List AV → RO | [t0, t1, t2] => plenumref26_All m t0 t1 t2 | _ => none
theorem plenumref26_All_ok (m : Nat) : ∀ args X H', plenumref26_All_t m args = some (X, H') → ACp Try.prog GG 20 args X := by
  intro args X H' h
  unfold plenumref26_All_t at h
  split at h
  · exact tell_okK MIX (by
    intro f e h
    simp only [plenumref26_All_env, Prod.mk.injEq, List.mem_cons, List.not_mem_nil, or_false] at h
    rcases h with ⟨rfl, rfl⟩ | ⟨rfl, rfl⟩
    · exact plenumref26_Is_ok m
    · exact plenumref26_Note_ok m) (f := 20) (c := plenumref26_All_c) Try.func20 rfl (by kernel_rfl) _ rfl Try.ntmps20 (Nat.le_of_ble_eq_true rfl) plenumref26_All_h h
  · cases h
noncomputable def plenumref26_Same_c : Code := (Try.f16.body).getD .skip
def plenumref26_Same_h : Hint := (.two .n (.two (.two .n (.two (.two .n .n) .n)) (.join [] (.two .n (.one (.lp [] [0, 1, 5] [4] (.two (.two .n (.two .n .n)) (.two (.one (.two .n (.two (.two .n .n) .n))) .n))))) (.two .n .n))))
noncomputable def plenumref26_Same_env (m : Nat) : Env := []
noncomputable abbrev plenumref26_Same_fin : KO (AV × List AObj) := tellFK Try.prog [.tmp 4]
noncomputable def plenumref26_Same_r1 (m : Nat) (s : ASt) : RO := joinW Try.prog GG (plenumref26_Same_env m) m 26 (cdR (cdR (cdR plenumref26_Same_c))) plenumref26_Same_h.r.r.r s (plenumref26_Same_fin)
noncomputable def plenumref26_Same_b1 (m : Nat) (s : ASt) (kc : ASt → RO) (kx : KO (AV × List AObj)) : RO := bodyW Try.prog GG (plenumref26_Same_env m) m 26 (cdL (cdL (cdR (cdL (cdR (cdR plenumref26_Same_c)))))) plenumref26_Same_h.r.r.l.r.c.c [0, 1, 5] [4] s kc kx
noncomputable def plenumref26_Same (m : Nat) (t0 t1 : AV) : RO := exec Try.prog GG (plenumref26_Same_env m) m 26 plenumref26_Same_c plenumref26_Same_h ⟨[], argsT 0 [t0, t1]⟩ (plenumref26_Same_fin)
theorem plenumref26_Same_r1_eq (m : Nat) (H : List AObj) : plenumref26_Same_r1 m ⟨H, []⟩ =
  tellK H (ro H (V (.bool true))) := by
  refine (joinW_eq Try.prog GG (plenumref26_Same_env m) m 26 (cdR (cdR (cdR plenumref26_Same_c))) plenumref26_Same_h.r.r.r ⟨H, []⟩ (plenumref26_Same_fin)).trans ?_
  kernel_rfl
theorem plenumref26_Same_b1_eq (m : Nat) (H : List AObj) (t0 t1 t5 : AV) (kc : ASt → RO) (kx : KO (AV × List AObj)) : plenumref26_Same_b1 m ⟨H, [(0, t0), (1, t1), (5, t5)]⟩ kc kx =
  lenE false true H t0 fun t13 =>
  binE none false false .lss t5 t13 fun t14 =>
  condE t14 (
   idxSE 9 H t0 t5 fun t19 =>
   loadE 9 H t19 fun t20 =>
   idxSE 9 H t1 t5 fun t23 =>
   loadE 9 H t23 fun t24 =>
   binE (some [.i .i64, .i .i64, .i .i64, .i .i64, .i .i64, .s, .i .i64]) false false .neq t20 t24 fun t25 =>
   condE t25 (
    kx .ret ⟨H, [(4, (V (.bool false)))]⟩) (
    binE none false false .add t5 (V (.int .i64 1)) fun t16 =>
    backE H.length H [(0, t0), (1, t1), (5, t16)] kc)) (
   kx (.exit 0) ⟨H, [(4, .nil)]⟩) := by
  refine (bodyW_eq Try.prog GG (plenumref26_Same_env m) m 26 (cdL (cdL (cdR (cdL (cdR (cdR plenumref26_Same_c)))))) plenumref26_Same_h.r.r.l.r.c.c [0, 1, 5] [4] ⟨H, [(0, t0), (1, t1), (5, t5)]⟩ kc kx).trans ?_
  kernel_rfl
theorem plenumref26_Same_eq (m : Nat) (t0 t1 : AV) : plenumref26_Same m t0 t1 =
  lenE false true [] t0 fun t7 =>
  lenE false true [] t1 fun t9 =>
  binE none false false .neq t7 t9 fun t10 =>
  condE t10 (
   tellK [] (ro [] (V (.bool false)))) (
   iterC m (plenumref26_Same_b1 m) ⟨[], [(0, t0), (1, t1), (5, (V (.int .i64 0)))]⟩ (blockX 0 (seqX (fun s => plenumref26_Same_r1 m ⟨s.H, []⟩) (plenumref26_Same_fin)))) := by
  refine (tellX Try.prog GG (plenumref26_Same_env m) m 26 plenumref26_Same_c plenumref26_Same_h ⟨[], argsT 0 [t0, t1]⟩ [.tmp 4]).trans ?_
  kernel_rfl
noncomputable def plenumref26_Same_t (m : Nat) : List AV → RO | [t0, t1] => plenumref26_Same m t0 t1 | _ => none
theorem plenumref26_Same_ok (m : Nat) : ∀ args X H', plenumref26_Same_t m args = some (X, H') → ACp Try.prog GG 16 args X := by
  intro args X H' h
  unfold plenumref26_Same_t at h
  split at h
  · exact tell_okK MIX (by intro f e h; cases h) (f := 16) (c := plenumref26_Same_c) Try.func16 rfl (by kernel_rfl) _ rfl Try.ntmps16 (Nat.le_of_ble_eq_true rfl) plenumref26_Same_h h
  · cases h
noncomputable def plenumlaw26_times_c : Code := (Try.f32.body).getD .skip
def plenumlaw26_times_h : Hint := (.two .n (.two .n (.join [3] (.two .n (.one (.lp [(3, ty_api_Txn, 6)] [0, 3, 4] [3] (.two (.two .n (.two .n .n)) (.two (.one .n) .n))))) (.two .n .n))))
noncomputable def plenumlaw26_times_env (m : Nat) : Env := []
noncomputable abbrev plenumlaw26_times_fin : KO (AV × List AObj) := tellFK Try.prog [.tmp 2]
noncomputable def plenumlaw26_times_r1 (m : Nat) (s : ASt) : RO := joinW Try.prog GG (plenumlaw26_times_env m) m 20 (cdR (cdR (cdR plenumlaw26_times_c))) plenumlaw26_times_h.r.r.r s (plenumlaw26_times_fin)
noncomputable def plenumlaw26_times_b1 (m : Nat) (s : ASt) (kc : ASt → RO) (kx : KO (AV × List AObj)) : RO := bodyW Try.prog GG (plenumlaw26_times_env m) m 20 (cdL (cdL (cdR (cdL (cdR (cdR plenumlaw26_times_c)))))) plenumlaw26_times_h.r.r.l.r.c.c [0, 3, 4] [3] s kc kx
noncomputable def plenumlaw26_times (m : Nat) (t0 : AV) : RO := exec Try.prog GG (plenumlaw26_times_env m) m 20 plenumlaw26_times_c plenumlaw26_times_h ⟨[], argsT 0 [t0]⟩ (plenumlaw26_times_fin)
theorem plenumlaw26_times_r1_eq (m : Nat) (H : List AObj) (t3 : AV) : plenumlaw26_times_r1 m ⟨H, [(3, t3)]⟩ =
  tellK H (ro H t3) := by
  refine (joinW_eq Try.prog GG (plenumlaw26_times_env m) m 20 (cdR (cdR (cdR plenumlaw26_times_c))) plenumlaw26_times_h.r.r.r ⟨H, [(3, t3)]⟩ (plenumlaw26_times_fin)).trans ?_
  kernel_rfl
theorem plenumlaw26_times_b1_eq (m : Nat) (H : List AObj) (t0 t3 t4 : AV) (kc : ASt → RO) (kx : KO (AV × List AObj)) : plenumlaw26_times_b1 m ⟨H, [(0, t0), (3, t3), (4, t4)]⟩ kc kx =
  lenE false true H t0 fun t7 =>
  binE none false false .lss t4 t7 fun t8 =>
  condE t8 (
   idxSE 1 H t0 t4 fun t14 =>
   loadE 1 H t14 fun t15 =>
   buildE (some pl_api_Txn) (some zc_api_Txn) [(0, (V (.int .i64 3))), (1, t15)] fun t16 =>
   buildSE (some (ty_api_Txn, 6)) 1 [(0, t16)] fun t17 =>
   appE (some (ty_api_Txn, 6)) H t3 t17 fun t18 H2 =>
   binE none false false .add t4 (V (.int .i64 1)) fun t10 =>
   backE H.length H2 [(0, t0), (3, t18), (4, t10)] kc) (
   kx (.exit 0) ⟨H, [(3, t3)]⟩) := by
  refine (bodyW_eq Try.prog GG (plenumlaw26_times_env m) m 20 (cdL (cdL (cdR (cdL (cdR (cdR plenumlaw26_times_c)))))) plenumlaw26_times_h.r.r.l.r.c.c [0, 3, 4] [3] ⟨H, [(0, t0), (3, t3), (4, t4)]⟩ kc kx).trans ?_
  kernel_rfl
theorem plenumlaw26_times_eq (m : Nat) (t0 : AV) : plenumlaw26_times m t0 =
  rowE (V (.slice none 0 0)) ty_api_Txn 6 [] fun t3 H1 =>
  iterC m (plenumlaw26_times_b1 m) ⟨H1, [(0, t0), (3, t3), (4, (V (.int .i64 0)))]⟩ (blockX 0 (seqX (fun s => plenumlaw26_times_r1 m ⟨s.H, [(3, gt s.T 3)]⟩) (plenumlaw26_times_fin))) := by
  refine (tellX Try.prog GG (plenumlaw26_times_env m) m 20 plenumlaw26_times_c plenumlaw26_times_h ⟨[], argsT 0 [t0]⟩ [.tmp 2]).trans ?_
  kernel_rfl
noncomputable def plenumlaw26_times_t (m : Nat) : List AV → RO | [t0] => plenumlaw26_times m t0 | _ => none
theorem plenumlaw26_times_ok (m : Nat) : ∀ args X H', plenumlaw26_times_t m args = some (X, H') → ACp Try.prog GG 32 args X := by
  intro args X H' h
  unfold plenumlaw26_times_t at h
  split at h
  · exact tell_okK MIX (by intro f e h; cases h) (f := 32) (c := plenumlaw26_times_c) Try.func32 rfl (by kernel_rfl) _ rfl Try.ntmps32 (Nat.le_of_ble_eq_true rfl) plenumlaw26_times_h h
  · cases h
noncomputable def plenumlaw26_Few_c : Code := (Try.f8.body).getD .skip
def plenumlaw26_Few_h : Hint := (.two .n (.join [0] (.two .n (.two .n .n)) (.two .n (.join [3] (.two .n (.one (.lp [(3, ty_api_Last, 7)] [0, 3, 4] [3] (.two (.two .n (.two .n .n)) (.join [0, 3, 4] (.one (.two .n (.join [0, 3, 4, 5] (.two .n (.two .n .n)) .n))) .n))))) (.two .n .n)))))
noncomputable def plenumlaw26_Few_env (m : Nat) : Env := []
noncomputable abbrev plenumlaw26_Few_fin : KO (AV × List AObj) := tellFK Try.prog [.tmp 2]
noncomputable def plenumlaw26_Few_r4 (m : Nat) (n0 : Nat) (kc : ASt → RO) (kx : KO (AV × List AObj)) (s : ASt) : RO := joinW Try.prog GG (plenumlaw26_Few_env m) m 40 (cdR (cdR (cdL (cdL (cdR (cdL (cdR (cdR (cdR plenumlaw26_Few_c))))))))) plenumlaw26_Few_h.r.r.r.l.r.c.c.r.r s (backW n0 [0, 3, 4] [3] kc kx)
noncomputable def plenumlaw26_Few_r3 (m : Nat) (n0 : Nat) (kc : ASt → RO) (kx : KO (AV × List AObj)) (s : ASt) : RO := joinW Try.prog GG (plenumlaw26_Few_env m) m 40 (cdR (cdR (cdL (cdL (cdR (cdL (cdL (cdR (cdL (cdR (cdR (cdR plenumlaw26_Few_c)))))))))))) plenumlaw26_Few_h.r.r.r.l.r.c.c.r.l.c.r.r s (blockX 1 (seqX (fun s => plenumlaw26_Few_r4 m n0 kc kx ⟨s.H, [(0, gt s.T 0), (3, gt s.T 3), (4, gt s.T 4)]⟩) (backW n0 [0, 3, 4] [3] kc kx)))
noncomputable def plenumlaw26_Few_r2 (m : Nat) (s : ASt) : RO := joinW Try.prog GG (plenumlaw26_Few_env m) m 40 (cdR (cdR (cdR (cdR plenumlaw26_Few_c)))) plenumlaw26_Few_h.r.r.r.r s (plenumlaw26_Few_fin)
noncomputable def plenumlaw26_Few_b1 (m : Nat) (s : ASt) (kc : ASt → RO) (kx : KO (AV × List AObj)) : RO := bodyW Try.prog GG (plenumlaw26_Few_env m) m 40 (cdL (cdL (cdR (cdL (cdR (cdR (cdR plenumlaw26_Few_c))))))) plenumlaw26_Few_h.r.r.r.l.r.c.c [0, 3, 4] [3] s kc kx
noncomputable def plenumlaw26_Few_r1 (m : Nat) (s : ASt) : RO := joinW Try.prog GG (plenumlaw26_Few_env m) m 40 (cdR (cdR plenumlaw26_Few_c)) plenumlaw26_Few_h.r.r s (plenumlaw26_Few_fin)
noncomputable def plenumlaw26_Few (m : Nat) (t0 : AV) : RO := exec Try.prog GG (plenumlaw26_Few_env m) m 40 plenumlaw26_Few_c plenumlaw26_Few_h ⟨[], argsT 0 [t0]⟩ (plenumlaw26_Few_fin)
theorem plenumlaw26_Few_r4_eq (m : Nat) (n0 : Nat) (kc : ASt → RO) (kx : KO (AV × List AObj)) (H : List AObj) (t0 t3 t4 : AV) : plenumlaw26_Few_r4 m n0 kc kx ⟨H, [(0, t0), (3, t3), (4, t4)]⟩ =
  binE none false false .add t4 (V (.int .i64 1)) fun t16 =>
  backE n0 H [(0, t0), (3, t3), (4, t16)] kc := by
  refine (joinW_eq Try.prog GG (plenumlaw26_Few_env m) m 40 (cdR (cdR (cdL (cdL (cdR (cdL (cdR (cdR (cdR plenumlaw26_Few_c))))))))) plenumlaw26_Few_h.r.r.r.l.r.c.c.r.r ⟨H, [(0, t0), (3, t3), (4, t4)]⟩ (backW n0 [0, 3, 4] [3] kc kx)).trans ?_
  kernel_rfl
theorem plenumlaw26_Few_r3_eq (m : Nat) (n0 : Nat) (kc : ASt → RO) (kx : KO (AV × List AObj)) (H : List AObj) (t0 t3 t4 t5 : AV) : plenumlaw26_Few_r3 m n0 kc kx ⟨H, [(0, t0), (3, t3), (4, t4), (5, t5)]⟩ =
  loadE 9 H t5 fun t36 =>
  buildSE (some (ty_api_Last, 7)) 1 [(0, t36)] fun t37 =>
  appE (some (ty_api_Last, 7)) H t3 t37 fun t38 H2 =>
  plenumlaw26_Few_r4 m n0 kc kx ⟨H2, [(0, t0), (3, t38), (4, t4)]⟩ := by
  refine (joinW_eq Try.prog GG (plenumlaw26_Few_env m) m 40 (cdR (cdR (cdL (cdL (cdR (cdL (cdL (cdR (cdL (cdR (cdR (cdR plenumlaw26_Few_c)))))))))))) plenumlaw26_Few_h.r.r.r.l.r.c.c.r.l.c.r.r ⟨H, [(0, t0), (3, t3), (4, t4), (5, t5)]⟩ (blockX 1 (seqX (fun s => plenumlaw26_Few_r4 m n0 kc kx ⟨s.H, [(0, gt s.T 0), (3, gt s.T 3), (4, gt s.T 4)]⟩) (backW n0 [0, 3, 4] [3] kc kx)))).trans ?_
  kernel_rfl
theorem plenumlaw26_Few_r2_eq (m : Nat) (H : List AObj) (t3 : AV) : plenumlaw26_Few_r2 m ⟨H, [(3, t3)]⟩ =
  tellK H (ro H t3) := by
  refine (joinW_eq Try.prog GG (plenumlaw26_Few_env m) m 40 (cdR (cdR (cdR (cdR plenumlaw26_Few_c)))) plenumlaw26_Few_h.r.r.r.r ⟨H, [(3, t3)]⟩ (plenumlaw26_Few_fin)).trans ?_
  kernel_rfl
theorem plenumlaw26_Few_b1_eq (m : Nat) (H : List AObj) (t0 t3 t4 : AV) (kc : ASt → RO) (kx : KO (AV × List AObj)) : plenumlaw26_Few_b1 m ⟨H, [(0, t0), (3, t3), (4, t4)]⟩ kc kx =
  lenE false true H t0 fun t13 =>
  binE none false false .lss t4 t13 fun t14 =>
  condE t14 (
   idxSE 9 H t0 t4 fun t19 =>
   loadE 9 H t19 fun t20 =>
   allocE (some zc_api_Last) ty_api_Last H fun t5 H2 =>
   storeE 9 H2 t5 t20 fun H3 =>
   fieldE (some (2, 7)) t5 fun t21 =>
   fieldE (some (1, 5)) t21 fun t22 =>
   fieldE (some (2, 1)) t22 fun t23 =>
   loadE 1 H3 t23 fun t24 =>
   lenE true false H3 t24 fun t25 =>
   binE none false false .gtr t25 (V (.int .i64 200)) fun t26 =>
   condE t26 (
    fieldE (some (2, 7)) t5 fun t27 =>
    fieldE (some (1, 5)) t27 fun t28 =>
    fieldE (some (2, 1)) t28 fun t29 =>
    loadE 1 H3 t29 fun t30 =>
    sliceE true none H3 t30 none (some (V (.int .i64 200))) fun t31 =>
    fieldE (some (2, 7)) t5 fun t32 =>
    fieldE (some (1, 5)) t32 fun t33 =>
    fieldE (some (2, 1)) t33 fun t34 =>
    storeE 1 H3 t34 t31 fun H4 =>
    plenumlaw26_Few_r3 m H.length kc kx ⟨H4, [(0, t0), (3, t3), (4, t4), (5, t5)]⟩) (
    plenumlaw26_Few_r3 m H.length kc kx ⟨H3, [(0, t0), (3, t3), (4, t4), (5, t5)]⟩)) (
   kx (.exit 0) ⟨H, [(3, t3)]⟩) := by
  refine (bodyW_eq Try.prog GG (plenumlaw26_Few_env m) m 40 (cdL (cdL (cdR (cdL (cdR (cdR (cdR plenumlaw26_Few_c))))))) plenumlaw26_Few_h.r.r.r.l.r.c.c [0, 3, 4] [3] ⟨H, [(0, t0), (3, t3), (4, t4)]⟩ kc kx).trans ?_
  kernel_rfl
theorem plenumlaw26_Few_r1_eq (m : Nat) (H : List AObj) (t0 : AV) : plenumlaw26_Few_r1 m ⟨H, [(0, t0)]⟩ =
  rowE (V (.slice none 0 0)) ty_api_Last 7 H fun t3 H2 =>
  iterC m (plenumlaw26_Few_b1 m) ⟨H2, [(0, t0), (3, t3), (4, (V (.int .i64 0)))]⟩ (blockX 0 (seqX (fun s => plenumlaw26_Few_r2 m ⟨s.H, [(3, gt s.T 3)]⟩) (plenumlaw26_Few_fin))) := by
  refine (joinW_eq Try.prog GG (plenumlaw26_Few_env m) m 40 (cdR (cdR plenumlaw26_Few_c)) plenumlaw26_Few_h.r.r ⟨H, [(0, t0)]⟩ (plenumlaw26_Few_fin)).trans ?_
  kernel_rfl
theorem plenumlaw26_Few_eq (m : Nat) (t0 : AV) : plenumlaw26_Few m t0 =
  lenE false true [] t0 fun t7 =>
  binE none false false .gtr t7 (V (.int .i64 260)) fun t8 =>
  condE t8 (
   sliceE false (some (ty_api_Last, 9)) [] t0 none (some (V (.int .i64 260))) fun t10 =>
   plenumlaw26_Few_r1 m ⟨[], [(0, t10)]⟩) (
   plenumlaw26_Few_r1 m ⟨[], [(0, t0)]⟩) := by
  refine (tellX Try.prog GG (plenumlaw26_Few_env m) m 40 plenumlaw26_Few_c plenumlaw26_Few_h ⟨[], argsT 0 [t0]⟩ [.tmp 2]).trans ?_
  kernel_rfl
noncomputable def plenumlaw26_Few_t (m : Nat) : List AV → RO | [t0] => plenumlaw26_Few m t0 | _ => none
theorem plenumlaw26_Few_ok (m : Nat) : ∀ args X H', plenumlaw26_Few_t m args = some (X, H') → ACp Try.prog GG 8 args X := by
  intro args X H' h
  unfold plenumlaw26_Few_t at h
  split at h
  · exact tell_okK MIX (by intro f e h; cases h) (f := 8) (c := plenumlaw26_Few_c) Try.func8 rfl (by kernel_rfl) _ rfl Try.ntmps8 (Nat.le_of_ble_eq_true rfl) plenumlaw26_Few_h h
  · cases h
end Go.Proofs.Ytchncgdjefbmfaa

namespace Go.Proofs.Ytchncgdjefbmfaa
open Go.RowKit
set_option linter.unusedVariables false
set_option maxRecDepth 100000
noncomputable def plenumlaw26_awake_c : Code := (Try.f13.body).getD .skip
def plenumlaw26_awake_h : Hint := (.two .n (.two .n (.two .n (.two .n (.two .n (.two .n (.two .n .n)))))))
noncomputable def plenumlaw26_awake_env (m : Nat) : Env := [(14, .tell (replies_Note_t m)), (11, .tell (replies_Ask_t m)), (32, .tell (plenumlaw26_times_t m)), (17, .tell (replies_Fresh_t m)), (24, .tell (replies_Encode_t m))]
noncomputable abbrev plenumlaw26_awake_fin : KO (AV × List AObj) := tellFK Try.prog [.tmp 0]
noncomputable def plenumlaw26_awake (m : Nat) : RO := exec Try.prog GG (plenumlaw26_awake_env m) m 92 plenumlaw26_awake_c plenumlaw26_awake_h ⟨[], argsT 0 []⟩ (plenumlaw26_awake_fin)
theorem plenumlaw26_awake_eq (m : Nat) : plenumlaw26_awake m =
  buildE (some pl_api_Result) (some zc_api_Result) [] fun t12 =>
  tellE (replies_Note m (ro [] (V (.slice none 0 0))) (V (.int .i64 3)) (V (.int .i64 5)) (ro [] t12)) [(ro [] (V (.slice none 0 0))), (V (.int .i64 3)), (V (.int .i64 5)), (ro [] t12)] fun t13 =>
  extE t13 0 fun t14 =>
  extE t13 1 fun t15 =>
  tellE (replies_Ask m (ro [] t14) (V (.int .i64 3)) (V (.int .i64 5))) [(ro [] t14), (V (.int .i64 3)), (V (.int .i64 5))] fun t18 =>
  extE t18 0 fun t19 =>
  extE t18 1 fun t20 =>
  allocE (some zc_api_Result) ty_api_Result [] fun t3 H1 =>
  storeE 7 H1 t3 t19 fun H2 =>
  tellE (replies_Ask m (ro H2 t14) (V (.int .i64 3)) (V (.int .i64 6))) [(ro H2 t14), (V (.int .i64 3)), (V (.int .i64 6))] fun t23 =>
  extE t23 0 fun t24 =>
  extE t23 1 fun t25 =>
  allocE (some zc_api_Result) ty_api_Result H2 fun t5 H3 =>
  storeE 7 H3 t5 t24 fun H4 =>
  tellE (replies_Ask m (ro H4 t14) (V (.int .i64 3)) (V (.int .i64 4))) [(ro H4 t14), (V (.int .i64 3)), (V (.int .i64 4))] fun t28 =>
  extE t28 0 fun t29 =>
  extE t28 1 fun t30 =>
  allocE (some zc_api_Result) ty_api_Result H4 fun t7 H5 =>
  storeE 7 H5 t7 t29 fun H6 =>
  buildSE (some (ty_int, 1)) 4 [(0, (V (.int .i64 5))), (1, (V (.int .i64 6))), (2, (V (.int .i64 6))), (3, (V (.int .i64 7)))] fun t33 =>
  tellE (plenumlaw26_times m (ro H6 t33)) [(ro H6 t33)] fun t34 =>
  tellE (replies_Fresh m (ro H6 t14) (ro H6 t34)) [(ro H6 t14), (ro H6 t34)] fun t35 =>
  extE t35 0 fun t36 =>
  extE t35 1 fun t37 =>
  lenE false true H6 t14 fun t39 =>
  binE none false false .eql t39 (V (.int .i64 1)) fun t40 =>
  condE t40 (
   binE none false false .eql t15 (V (.int .i64 0)) fun t43 =>
   condE t43 (
   loadE 7 H6 t3 fun t46 =>
   buildE (some pl_api_Result) (some zc_api_Result) [] fun t47 =>
   binE (some [.i .i64, .i .i64, .i .i64, .s, .i .i64]) false false .eql t46 t47 fun t48 =>
   condE t48 (
   binE none false false .eql t20 (V (.int .i64 0)) fun t52 =>
   condE t52 (
   binE none false false .eql t25 (V (.int .i64 6)) fun t56 =>
   condE t56 (
   binE none false false .eql t30 (V (.int .i64 18)) fun t60 =>
   condE t60 (
   tellE (replies_Encode m (ro H6 t14)) [(ro H6 t14)] fun t64 =>
   convE false none true true t64 fun t65 =>
   binE none false false .eql t65 (V (.string ⟨#[1, 3, 5, 3, 0, 0, 0]⟩)) fun t66 =>
   condE t66 (
   lenE false true H6 t36 fun t70 =>
   binE none false false .eql t70 (V (.int .i64 2)) fun t71 =>
   condE t71 (
   lenE false true H6 t37 fun t75 =>
   binE none false false .eql t75 (V (.int .i64 2)) fun t76 =>
   condE t76 (
   idxSE 1 H6 t37 (V (.int .i64 0)) fun t80 =>
   loadE 1 H6 t80 fun t81 =>
   binE none false false .eql t81 (V (.int .i64 1)) fun t82 =>
   condE t82 (
   idxSE 1 H6 t37 (V (.int .i64 1)) fun t86 =>
   loadE 1 H6 t86 fun t87 =>
   binE none false false .eql t87 (V (.int .i64 3)) fun t88 =>
   pickE t88 (V (.bool true)) (V (.bool false)) fun t91 =>
  tellK H6 (ro H6 t91)) (
   tellK H6 (ro H6 (V (.bool false))))) (
   tellK H6 (ro H6 (V (.bool false))))) (
   tellK H6 (ro H6 (V (.bool false))))) (
   tellK H6 (ro H6 (V (.bool false))))) (
   tellK H6 (ro H6 (V (.bool false))))) (
   tellK H6 (ro H6 (V (.bool false))))) (
   tellK H6 (ro H6 (V (.bool false))))) (
   tellK H6 (ro H6 (V (.bool false))))) (
   tellK H6 (ro H6 (V (.bool false))))) (
   tellK H6 (ro H6 (V (.bool false)))) := by
  refine (tellX Try.prog GG (plenumlaw26_awake_env m) m 92 plenumlaw26_awake_c plenumlaw26_awake_h ⟨[], argsT 0 []⟩ [.tmp 0]).trans ?_
  kernel_rfl
noncomputable def plenumlaw26_awake_t (m : Nat) : List AV → RO | [] => plenumlaw26_awake m | _ => none
theorem plenumlaw26_awake_ok (m : Nat) : ∀ args X H', plenumlaw26_awake_t m args = some (X, H') → ACp Try.prog GG 13 args X := by
  intro args X H' h
  unfold plenumlaw26_awake_t at h
  split at h
  · exact tell_okK MIX (by
    intro f e h
    simp only [plenumlaw26_awake_env, Prod.mk.injEq, List.mem_cons, List.not_mem_nil, or_false] at h
    rcases h with ⟨rfl, rfl⟩ | ⟨rfl, rfl⟩ | ⟨rfl, rfl⟩ | ⟨rfl, rfl⟩ | ⟨rfl, rfl⟩
    · exact replies_Note_ok m
    · exact replies_Ask_ok m
    · exact plenumlaw26_times_ok m
    · exact replies_Fresh_ok m
    · exact replies_Encode_ok m) (f := 13) (c := plenumlaw26_awake_c) Try.func13 rfl (by kernel_rfl) _ rfl Try.ntmps13 (Nat.le_of_ble_eq_true rfl) plenumlaw26_awake_h h
  · cases h
end Go.Proofs.Ytchncgdjefbmfaa

namespace Go.Proofs.Ytchncgdjefbmfaa
open Go.RowKit
set_option linter.unusedVariables false
set_option linter.unusedSimpArgs false
set_option maxRecDepth 20000
theorem natInt (k : Nat) : ((k : Int)).toNat = k := Int.toNat_natCast k
theorem u_addS {R : Type} {X : AV} {Y H : List AObj} {K : AV → List AObj → Option R} : addE (some (X, Y)) H K = K X (H ++ Y) := _root_.id rfl
structure Rs where
  code : Int
  kind : Int
  i : Int
  s : Bytes
  ver : Int
deriving DecidableEq
structure La where
  cl : Int
  tm : Int
  r : Rs
deriving DecidableEq
def Rs.zero : Rs := ⟨0, 0, 0, [], 0⟩
def La.zero : La := ⟨0, 0, Rs.zero⟩
def rC (r : Rs) : List AV := [nA r.code, nA r.kind, nA r.i, sA r.s, nA r.ver]
def laC (x : La) : List AV := nA x.cl :: nA x.tm :: rC x.r
def rA (r : Rs) : AV := .agg (rC r)
def laE (x : La) : AV := .agg (laC x)
def lL (l : List La) : AV := SL (l.map laE)
theorem lL_def (l : List La) : lL l = SL (l.map laE) := _root_.id rfl
theorem rA_def (r : Rs) : rA r = .agg (rC r) := _root_.id rfl
theorem la_it (x : La) : laE x = .agg (laC x) := _root_.id rfl
section
variable {R : Type} {x y : La} {r q : Rs} {n : Nat} {H : List AObj} {K1 : AV → Option R}
theorem rc_len : (rC r).length = 5 := _root_.id rfl
theorem rc_sure : (rC r).all sure = true := _root_.id rfl
theorem rc_ltA : (rC r).all (ltA n) = true := _root_.id rfl
theorem rc_lt1 : (rC r).all (lt1 n) = true := _root_.id rfl
theorem rc_all1 : ((rC r).all fun y => lt1 n (ro1 H y)) = true := _root_.id rfl
theorem rc_ro : (rC r).map (ro1 H) = rC r := _root_.id rfl
theorem rc_take : (rC r).take 5 = rC r := _root_.id rfl
theorem rc_code : nthE (rC r) 0 K1 = K1 (nA r.code) := _root_.id rfl
theorem rc_ver : nthE (rC r) 4 K1 = K1 (nA r.ver) := _root_.id rfl
theorem rc_val : (List.drop 1 (rC r)).take 3 = [nA r.kind, nA r.i, sA r.s] := _root_.id rfl
theorem rc_set : setCells (rC q) 0 (rC r) = rC r := _root_.id rfl
theorem zcR_eq : zc_api_Result = rC Rs.zero := _root_.id rfl
theorem zcL_eq : zc_api_Last = laC La.zero := _root_.id rfl
theorem la_len : (laC x).length = 7 := _root_.id rfl
theorem la_sure : (laC x).all sure = true := _root_.id rfl
theorem la_ltA : (laC x).all (ltA n) = true := _root_.id rfl
theorem la_lt1 : (laC x).all (lt1 n) = true := _root_.id rfl
theorem la_all1 : ((laC x).all fun y => lt1 n (ro1 H y)) = true := _root_.id rfl
theorem la_ro : (laC x).map (ro1 H) = laC x := _root_.id rfl
theorem la_take : (laC x).take 7 = laC x := _root_.id rfl
theorem la_cl : nthE (laC x) 0 K1 = K1 (nA x.cl) := _root_.id rfl
theorem la_tm : nthE (laC x) 1 K1 = K1 (nA x.tm) := _root_.id rfl
theorem la_s : nthE (laC x) 5 K1 = K1 (sA x.r.s) := _root_.id rfl
theorem la_r : (List.drop 2 (laC x)).take 5 = rC x.r := _root_.id rfl
theorem la_sl : ((laC x).all fun y => sure y && lt1 n y) = true := _root_.id rfl
theorem rc_sl : ((rC r).all fun y => sure y && lt1 n y) = true := _root_.id rfl
theorem la_set : setCells (laC x) 0 (laC y) = laC y := _root_.id rfl
theorem la_bL {c t : Int} : buildE (some pl_api_Last) (some (laC La.zero)) [(0, nA c), (1, nA t), (2, .agg (rC r))] K1 = K1 (.agg (laC ⟨c, t, r⟩)) := _root_.id rfl
theorem rc_b0 : buildE (some pl_api_Result) (some (rC Rs.zero)) [] K1 = K1 (.agg (rC Rs.zero)) := _root_.id rfl
end
theorem la_allA {l : List La} {n : Nat} : (l.all fun x => ltA n (laE x)) = true := List.all_eq_true.2 fun _ _ => rfl
theorem la_len7 {l : List La} : (l.all fun x => decide ((cellsOf (laE x)).length = 7)) = true := List.all_eq_true.2 fun _ _ => rfl
def could (c t : Int) : Bool := decide (0 ≤ c) && (decide (c < 256) && (decide (1 ≤ t) && decide (t ≤ 2147483647)))
def rB (r : Rs) : Bool := resB r.code r.kind r.i r.s r.ver
def Rs.In (r : Rs) : Prop := -9223372036854775808 ≤ r.i ∧ r.i < 9223372036854775808
def bad26 (w : Option La) (x : La) : Int := if could x.cl x.tm = true ∧ rB x.r = true then (match w with
  | none => 0
  | some w => if x.cl ≤ w.cl then 3 else 0) else 1
def chkG : Option La → Nat → List La → Int × Int
  | _, _, [] => (0, 0)
  | w, k, x :: r => if bad26 w x = 0 then chkG (some x) (k + 1) r else (bad26 w x, k)
def chkL (l : List La) : Int × Int := chkG none 0 l
def isL (l : List La) : Bool := decide ((chkL l).1 = 0)
def prevL (l : List La) (k : Nat) : Option La := if k = 0 then none else l[k - 1]?
theorem prevL_succ {l : List La} {k : Nat} (h : k < l.length) : prevL l (k + 1) = some l[k] := by
  unfold prevL
  rw [if_neg (by omega)]
  simp [h]
theorem chkG_at {l : List La} {k : Nat} {e a : Int} (hlt : k < l.length) (h : chkG (prevL l k) k (l.drop k) = (e, a)) : (bad26 (prevL l k) l[k] = 0 ∧ chkG (prevL l (k + 1)) (k + 1) (l.drop (k + 1)) = (e, a)) ∨ (bad26 (prevL l k) l[k] ≠ 0 ∧ e = bad26 (prevL l k) l[k] ∧ a = k) := by
  rw [List.drop_eq_getElem_cons hlt] at h
  unfold chkG at h
  split at h
  · rename_i h0
    exact .inl ⟨h0, by rw [prevL_succ hlt]; exact h⟩
  · rename_i h0
    injection h with h1 h2
    exact .inr ⟨h0, h1.symm, h2.symm⟩
theorem chkG_end {l : List La} {w : Option La} {k : Nat} {e a : Int} (h : chkG w k (l.drop l.length) = (e, a)) : e = 0 ∧ a = 0 := by
  rw [List.drop_length] at h
  unfold chkG at h
  injection h with h1 h2
  exact ⟨h1.symm, h2.symm⟩
theorem could_s (m : Nat) (c t : Int) : replies_could m (nA c) (nA t) = some (bA (could c t), []) := by
  rw [replies_could_eq]
  unfold could
  by_cases h1 : 0 ≤ c
  · by_cases h2 : c < 256
    · by_cases h3 : 1 ≤ t
      · simp (config := {maxSteps := 4000000, implicitDefEqProofs := false}) (disch := omega) only [go_sem, ↓reduceIte, Nat.reduceAdd, Nat.reduceSub, Nat.reduceMul, Nat.reduceLeDiff, Nat.reduceLT, Int.reduceEq, Int.reduceNe, Int.reduceLT, Int.reduceLE, Int.reduceAdd, Int.reduceSub, Int.reduceMul, Int.reduceNeg, Nat.zero_add, Nat.add_zero, Nat.mul_one, Int.toNat_natCast, Int.natCast_zero, Int.cast_ofNat_Int, or_false, false_or, or_true, true_or, Int.reduceToNat, Nat.sub_zero, Int.natCast_nonneg, Int.toNat_zero, Bool.true_and, Bool.and_true, Bool.false_and, Bool.and_false, Bool.true_or, Bool.or_true, Bool.false_or, Bool.or_false, Bool.not_true, Bool.not_false, Bool.not_not, true_and, and_true, false_and, and_false, not_true_eq_false, not_false_eq_true, eq_self, decide_true, decide_false, ne_eq, implies_true, forall_const, true_implies, false_implies, Bool.true_eq_false, Bool.false_eq_true, reduceCtorEq, List.map_cons, List.map_nil, List.all_cons, List.all_nil, List.length_cons, List.length_nil, List.length_map, List.length_append, List.nil_append, List.cons_append, List.set_cons_zero, List.set_cons_succ, List.set_nil, List.drop_zero, List.drop_succ_cons, List.drop_nil, List.take_zero, List.take_succ_cons, List.take_nil, Option.map_some, Option.map_none, Option.isSome_some, Nat.reduceEqDiff, Nat.reduceBEq, Nat.reduceGT, List.all_append, List.all_map, Function.comp_def, decide_eq_true_eq, Bool.and_eq_true, beq_self_eq_true, or_self, and_self, ite_true, ite_false, Nat.le_refl, Bool.not_eq_true, decide_not, Bool.not_eq_true', decide_eq_false_iff_not, Bool.not_eq_false, Bool.or_eq_true, if_true, if_false, ite_self, h1, h2, h3]
      · simp (config := {maxSteps := 4000000, implicitDefEqProofs := false}) (disch := omega) only [go_sem, ↓reduceIte, Nat.reduceAdd, Nat.reduceSub, Nat.reduceMul, Nat.reduceLeDiff, Nat.reduceLT, Int.reduceEq, Int.reduceNe, Int.reduceLT, Int.reduceLE, Int.reduceAdd, Int.reduceSub, Int.reduceMul, Int.reduceNeg, Nat.zero_add, Nat.add_zero, Nat.mul_one, Int.toNat_natCast, Int.natCast_zero, Int.cast_ofNat_Int, or_false, false_or, or_true, true_or, Int.reduceToNat, Nat.sub_zero, Int.natCast_nonneg, Int.toNat_zero, Bool.true_and, Bool.and_true, Bool.false_and, Bool.and_false, Bool.true_or, Bool.or_true, Bool.false_or, Bool.or_false, Bool.not_true, Bool.not_false, Bool.not_not, true_and, and_true, false_and, and_false, not_true_eq_false, not_false_eq_true, eq_self, decide_true, decide_false, ne_eq, implies_true, forall_const, true_implies, false_implies, Bool.true_eq_false, Bool.false_eq_true, reduceCtorEq, List.map_cons, List.map_nil, List.all_cons, List.all_nil, List.length_cons, List.length_nil, List.length_map, List.length_append, List.nil_append, List.cons_append, List.set_cons_zero, List.set_cons_succ, List.set_nil, List.drop_zero, List.drop_succ_cons, List.drop_nil, List.take_zero, List.take_succ_cons, List.take_nil, Option.map_some, Option.map_none, Option.isSome_some, Nat.reduceEqDiff, Nat.reduceBEq, Nat.reduceGT, List.all_append, List.all_map, Function.comp_def, decide_eq_true_eq, Bool.and_eq_true, beq_self_eq_true, or_self, and_self, ite_true, ite_false, Nat.le_refl, Bool.not_eq_true, decide_not, Bool.not_eq_true', decide_eq_false_iff_not, Bool.not_eq_false, Bool.or_eq_true, if_true, if_false, ite_self, h1, h2, h3]
    · simp (config := {maxSteps := 4000000, implicitDefEqProofs := false}) (disch := omega) only [go_sem, ↓reduceIte, Nat.reduceAdd, Nat.reduceSub, Nat.reduceMul, Nat.reduceLeDiff, Nat.reduceLT, Int.reduceEq, Int.reduceNe, Int.reduceLT, Int.reduceLE, Int.reduceAdd, Int.reduceSub, Int.reduceMul, Int.reduceNeg, Nat.zero_add, Nat.add_zero, Nat.mul_one, Int.toNat_natCast, Int.natCast_zero, Int.cast_ofNat_Int, or_false, false_or, or_true, true_or, Int.reduceToNat, Nat.sub_zero, Int.natCast_nonneg, Int.toNat_zero, Bool.true_and, Bool.and_true, Bool.false_and, Bool.and_false, Bool.true_or, Bool.or_true, Bool.false_or, Bool.or_false, Bool.not_true, Bool.not_false, Bool.not_not, true_and, and_true, false_and, and_false, not_true_eq_false, not_false_eq_true, eq_self, decide_true, decide_false, ne_eq, implies_true, forall_const, true_implies, false_implies, Bool.true_eq_false, Bool.false_eq_true, reduceCtorEq, List.map_cons, List.map_nil, List.all_cons, List.all_nil, List.length_cons, List.length_nil, List.length_map, List.length_append, List.nil_append, List.cons_append, List.set_cons_zero, List.set_cons_succ, List.set_nil, List.drop_zero, List.drop_succ_cons, List.drop_nil, List.take_zero, List.take_succ_cons, List.take_nil, Option.map_some, Option.map_none, Option.isSome_some, Nat.reduceEqDiff, Nat.reduceBEq, Nat.reduceGT, List.all_append, List.all_map, Function.comp_def, decide_eq_true_eq, Bool.and_eq_true, beq_self_eq_true, or_self, and_self, ite_true, ite_false, Nat.le_refl, Bool.not_eq_true, decide_not, Bool.not_eq_true', decide_eq_false_iff_not, Bool.not_eq_false, Bool.or_eq_true, if_true, if_false, ite_self, h1, h2]
  · simp (config := {maxSteps := 4000000, implicitDefEqProofs := false}) (disch := omega) only [go_sem, ↓reduceIte, Nat.reduceAdd, Nat.reduceSub, Nat.reduceMul, Nat.reduceLeDiff, Nat.reduceLT, Int.reduceEq, Int.reduceNe, Int.reduceLT, Int.reduceLE, Int.reduceAdd, Int.reduceSub, Int.reduceMul, Int.reduceNeg, Nat.zero_add, Nat.add_zero, Nat.mul_one, Int.toNat_natCast, Int.natCast_zero, Int.cast_ofNat_Int, or_false, false_or, or_true, true_or, Int.reduceToNat, Nat.sub_zero, Int.natCast_nonneg, Int.toNat_zero, Bool.true_and, Bool.and_true, Bool.false_and, Bool.and_false, Bool.true_or, Bool.or_true, Bool.false_or, Bool.or_false, Bool.not_true, Bool.not_false, Bool.not_not, true_and, and_true, false_and, and_false, not_true_eq_false, not_false_eq_true, eq_self, decide_true, decide_false, ne_eq, implies_true, forall_const, true_implies, false_implies, Bool.true_eq_false, Bool.false_eq_true, reduceCtorEq, List.map_cons, List.map_nil, List.all_cons, List.all_nil, List.length_cons, List.length_nil, List.length_map, List.length_append, List.nil_append, List.cons_append, List.set_cons_zero, List.set_cons_succ, List.set_nil, List.drop_zero, List.drop_succ_cons, List.drop_nil, List.take_zero, List.take_succ_cons, List.take_nil, Option.map_some, Option.map_none, Option.isSome_some, Nat.reduceEqDiff, Nat.reduceBEq, Nat.reduceGT, List.all_append, List.all_map, Function.comp_def, decide_eq_true_eq, Bool.and_eq_true, beq_self_eq_true, or_self, and_self, ite_true, ite_false, Nat.le_refl, Bool.not_eq_true, decide_not, Bool.not_eq_true', decide_eq_false_iff_not, Bool.not_eq_false, Bool.or_eq_true, if_true, if_false, ite_self, h1]
theorem rcould_s (m : Nat) (c t : Int) : plenumref26_Could m (nA c) (nA t) = some (bA (could c t), []) := by
  have e : (c < 256) = (c ≤ 255) := propext ⟨fun h => by omega, fun h => by omega⟩
  rw [plenumref26_Could_eq]
  unfold could
  by_cases h1 : 0 ≤ c
  · by_cases h2 : c ≤ 255
    · by_cases h3 : 1 ≤ t
      · simp (config := {maxSteps := 4000000, implicitDefEqProofs := false}) (disch := omega) only [go_sem, ↓reduceIte, Nat.reduceAdd, Nat.reduceSub, Nat.reduceMul, Nat.reduceLeDiff, Nat.reduceLT, Int.reduceEq, Int.reduceNe, Int.reduceLT, Int.reduceLE, Int.reduceAdd, Int.reduceSub, Int.reduceMul, Int.reduceNeg, Nat.zero_add, Nat.add_zero, Nat.mul_one, Int.toNat_natCast, Int.natCast_zero, Int.cast_ofNat_Int, or_false, false_or, or_true, true_or, Int.reduceToNat, Nat.sub_zero, Int.natCast_nonneg, Int.toNat_zero, Bool.true_and, Bool.and_true, Bool.false_and, Bool.and_false, Bool.true_or, Bool.or_true, Bool.false_or, Bool.or_false, Bool.not_true, Bool.not_false, Bool.not_not, true_and, and_true, false_and, and_false, not_true_eq_false, not_false_eq_true, eq_self, decide_true, decide_false, ne_eq, implies_true, forall_const, true_implies, false_implies, Bool.true_eq_false, Bool.false_eq_true, reduceCtorEq, List.map_cons, List.map_nil, List.all_cons, List.all_nil, List.length_cons, List.length_nil, List.length_map, List.length_append, List.nil_append, List.cons_append, List.set_cons_zero, List.set_cons_succ, List.set_nil, List.drop_zero, List.drop_succ_cons, List.drop_nil, List.take_zero, List.take_succ_cons, List.take_nil, Option.map_some, Option.map_none, Option.isSome_some, Nat.reduceEqDiff, Nat.reduceBEq, Nat.reduceGT, List.all_append, List.all_map, Function.comp_def, decide_eq_true_eq, Bool.and_eq_true, beq_self_eq_true, or_self, and_self, ite_true, ite_false, Nat.le_refl, Bool.not_eq_true, decide_not, Bool.not_eq_true', decide_eq_false_iff_not, Bool.not_eq_false, Bool.or_eq_true, if_true, if_false, ite_self, h1, h2, h3, e]
      · simp (config := {maxSteps := 4000000, implicitDefEqProofs := false}) (disch := omega) only [go_sem, ↓reduceIte, Nat.reduceAdd, Nat.reduceSub, Nat.reduceMul, Nat.reduceLeDiff, Nat.reduceLT, Int.reduceEq, Int.reduceNe, Int.reduceLT, Int.reduceLE, Int.reduceAdd, Int.reduceSub, Int.reduceMul, Int.reduceNeg, Nat.zero_add, Nat.add_zero, Nat.mul_one, Int.toNat_natCast, Int.natCast_zero, Int.cast_ofNat_Int, or_false, false_or, or_true, true_or, Int.reduceToNat, Nat.sub_zero, Int.natCast_nonneg, Int.toNat_zero, Bool.true_and, Bool.and_true, Bool.false_and, Bool.and_false, Bool.true_or, Bool.or_true, Bool.false_or, Bool.or_false, Bool.not_true, Bool.not_false, Bool.not_not, true_and, and_true, false_and, and_false, not_true_eq_false, not_false_eq_true, eq_self, decide_true, decide_false, ne_eq, implies_true, forall_const, true_implies, false_implies, Bool.true_eq_false, Bool.false_eq_true, reduceCtorEq, List.map_cons, List.map_nil, List.all_cons, List.all_nil, List.length_cons, List.length_nil, List.length_map, List.length_append, List.nil_append, List.cons_append, List.set_cons_zero, List.set_cons_succ, List.set_nil, List.drop_zero, List.drop_succ_cons, List.drop_nil, List.take_zero, List.take_succ_cons, List.take_nil, Option.map_some, Option.map_none, Option.isSome_some, Nat.reduceEqDiff, Nat.reduceBEq, Nat.reduceGT, List.all_append, List.all_map, Function.comp_def, decide_eq_true_eq, Bool.and_eq_true, beq_self_eq_true, or_self, and_self, ite_true, ite_false, Nat.le_refl, Bool.not_eq_true, decide_not, Bool.not_eq_true', decide_eq_false_iff_not, Bool.not_eq_false, Bool.or_eq_true, if_true, if_false, ite_self, h1, h2, h3, e]
    · simp (config := {maxSteps := 4000000, implicitDefEqProofs := false}) (disch := omega) only [go_sem, ↓reduceIte, Nat.reduceAdd, Nat.reduceSub, Nat.reduceMul, Nat.reduceLeDiff, Nat.reduceLT, Int.reduceEq, Int.reduceNe, Int.reduceLT, Int.reduceLE, Int.reduceAdd, Int.reduceSub, Int.reduceMul, Int.reduceNeg, Nat.zero_add, Nat.add_zero, Nat.mul_one, Int.toNat_natCast, Int.natCast_zero, Int.cast_ofNat_Int, or_false, false_or, or_true, true_or, Int.reduceToNat, Nat.sub_zero, Int.natCast_nonneg, Int.toNat_zero, Bool.true_and, Bool.and_true, Bool.false_and, Bool.and_false, Bool.true_or, Bool.or_true, Bool.false_or, Bool.or_false, Bool.not_true, Bool.not_false, Bool.not_not, true_and, and_true, false_and, and_false, not_true_eq_false, not_false_eq_true, eq_self, decide_true, decide_false, ne_eq, implies_true, forall_const, true_implies, false_implies, Bool.true_eq_false, Bool.false_eq_true, reduceCtorEq, List.map_cons, List.map_nil, List.all_cons, List.all_nil, List.length_cons, List.length_nil, List.length_map, List.length_append, List.nil_append, List.cons_append, List.set_cons_zero, List.set_cons_succ, List.set_nil, List.drop_zero, List.drop_succ_cons, List.drop_nil, List.take_zero, List.take_succ_cons, List.take_nil, Option.map_some, Option.map_none, Option.isSome_some, Nat.reduceEqDiff, Nat.reduceBEq, Nat.reduceGT, List.all_append, List.all_map, Function.comp_def, decide_eq_true_eq, Bool.and_eq_true, beq_self_eq_true, or_self, and_self, ite_true, ite_false, Nat.le_refl, Bool.not_eq_true, decide_not, Bool.not_eq_true', decide_eq_false_iff_not, Bool.not_eq_false, Bool.or_eq_true, if_true, if_false, ite_self, h1, h2, e]
  · simp (config := {maxSteps := 4000000, implicitDefEqProofs := false}) (disch := omega) only [go_sem, ↓reduceIte, Nat.reduceAdd, Nat.reduceSub, Nat.reduceMul, Nat.reduceLeDiff, Nat.reduceLT, Int.reduceEq, Int.reduceNe, Int.reduceLT, Int.reduceLE, Int.reduceAdd, Int.reduceSub, Int.reduceMul, Int.reduceNeg, Nat.zero_add, Nat.add_zero, Nat.mul_one, Int.toNat_natCast, Int.natCast_zero, Int.cast_ofNat_Int, or_false, false_or, or_true, true_or, Int.reduceToNat, Nat.sub_zero, Int.natCast_nonneg, Int.toNat_zero, Bool.true_and, Bool.and_true, Bool.false_and, Bool.and_false, Bool.true_or, Bool.or_true, Bool.false_or, Bool.or_false, Bool.not_true, Bool.not_false, Bool.not_not, true_and, and_true, false_and, and_false, not_true_eq_false, not_false_eq_true, eq_self, decide_true, decide_false, ne_eq, implies_true, forall_const, true_implies, false_implies, Bool.true_eq_false, Bool.false_eq_true, reduceCtorEq, List.map_cons, List.map_nil, List.all_cons, List.all_nil, List.length_cons, List.length_nil, List.length_map, List.length_append, List.nil_append, List.cons_append, List.set_cons_zero, List.set_cons_succ, List.set_nil, List.drop_zero, List.drop_succ_cons, List.drop_nil, List.take_zero, List.take_succ_cons, List.take_nil, Option.map_some, Option.map_none, Option.isSome_some, Nat.reduceEqDiff, Nat.reduceBEq, Nat.reduceGT, List.all_append, List.all_map, Function.comp_def, decide_eq_true_eq, Bool.and_eq_true, beq_self_eq_true, or_self, and_self, ite_true, ite_false, Nat.le_refl, Bool.not_eq_true, decide_not, Bool.not_eq_true', decide_eq_false_iff_not, Bool.not_eq_false, Bool.or_eq_true, if_true, if_false, ite_self, h1]
theorem encR_len (r : Rs) : ((encRes r.code r.kind r.i r.s r.ver).length = 0) = (rB r = false) := by
  unfold encRes rB
  cases resB r.code r.kind r.i r.s r.ver <;> simp
theorem rmay_s (m : Nat) (r : Rs) : plenumref22_MayResult m (rA r) = some (bA (rB r), []) := by
  have hV := plenumref07_May_e m r.kind r.i r.s
  rw [plenumref22_MayResult_eq, rA_def]
  unfold rB resB
  by_cases h1 : 0 ≤ r.code
  · by_cases h2 : r.code ≤ 23
    · cases hv : valB r.kind r.i r.s with
      | false =>
        rw [hv] at hV
        simp (config := {maxSteps := 4000000, implicitDefEqProofs := false}) (disch := omega) only [go_sem, ↓reduceIte, Nat.reduceAdd, Nat.reduceSub, Nat.reduceMul, Nat.reduceLeDiff, Nat.reduceLT, Int.reduceEq, Int.reduceNe, Int.reduceLT, Int.reduceLE, Int.reduceAdd, Int.reduceSub, Int.reduceMul, Int.reduceNeg, Nat.zero_add, Nat.add_zero, Nat.mul_one, Int.toNat_natCast, Int.natCast_zero, Int.cast_ofNat_Int, or_false, false_or, or_true, true_or, Int.reduceToNat, Nat.sub_zero, Int.natCast_nonneg, Int.toNat_zero, Bool.true_and, Bool.and_true, Bool.false_and, Bool.and_false, Bool.true_or, Bool.or_true, Bool.false_or, Bool.or_false, Bool.not_true, Bool.not_false, Bool.not_not, true_and, and_true, false_and, and_false, not_true_eq_false, not_false_eq_true, eq_self, decide_true, decide_false, ne_eq, implies_true, forall_const, true_implies, false_implies, Bool.true_eq_false, Bool.false_eq_true, reduceCtorEq, List.map_cons, List.map_nil, List.all_cons, List.all_nil, List.length_cons, List.length_nil, List.length_map, List.length_append, List.nil_append, List.cons_append, List.set_cons_zero, List.set_cons_succ, List.set_nil, List.drop_zero, List.drop_succ_cons, List.drop_nil, List.take_zero, List.take_succ_cons, List.take_nil, Option.map_some, Option.map_none, Option.isSome_some, Nat.reduceEqDiff, Nat.reduceBEq, Nat.reduceGT, List.all_append, List.all_map, Function.comp_def, decide_eq_true_eq, Bool.and_eq_true, beq_self_eq_true, or_self, and_self, ite_true, ite_false, Nat.le_refl, Bool.not_eq_true, decide_not, Bool.not_eq_true', decide_eq_false_iff_not, Bool.not_eq_false, Bool.or_eq_true, if_true, if_false, ite_self, rc_len, rc_sure, rc_ltA, rc_lt1, rc_all1, rc_ro, rc_take, rc_code, rc_ver, rc_val, h1, h2, hV]
      | true =>
        rw [hv] at hV
        by_cases h3 : 0 ≤ r.ver
        · simp (config := {maxSteps := 4000000, implicitDefEqProofs := false}) (disch := omega) only [go_sem, ↓reduceIte, Nat.reduceAdd, Nat.reduceSub, Nat.reduceMul, Nat.reduceLeDiff, Nat.reduceLT, Int.reduceEq, Int.reduceNe, Int.reduceLT, Int.reduceLE, Int.reduceAdd, Int.reduceSub, Int.reduceMul, Int.reduceNeg, Nat.zero_add, Nat.add_zero, Nat.mul_one, Int.toNat_natCast, Int.natCast_zero, Int.cast_ofNat_Int, or_false, false_or, or_true, true_or, Int.reduceToNat, Nat.sub_zero, Int.natCast_nonneg, Int.toNat_zero, Bool.true_and, Bool.and_true, Bool.false_and, Bool.and_false, Bool.true_or, Bool.or_true, Bool.false_or, Bool.or_false, Bool.not_true, Bool.not_false, Bool.not_not, true_and, and_true, false_and, and_false, not_true_eq_false, not_false_eq_true, eq_self, decide_true, decide_false, ne_eq, implies_true, forall_const, true_implies, false_implies, Bool.true_eq_false, Bool.false_eq_true, reduceCtorEq, List.map_cons, List.map_nil, List.all_cons, List.all_nil, List.length_cons, List.length_nil, List.length_map, List.length_append, List.nil_append, List.cons_append, List.set_cons_zero, List.set_cons_succ, List.set_nil, List.drop_zero, List.drop_succ_cons, List.drop_nil, List.take_zero, List.take_succ_cons, List.take_nil, Option.map_some, Option.map_none, Option.isSome_some, Nat.reduceEqDiff, Nat.reduceBEq, Nat.reduceGT, List.all_append, List.all_map, Function.comp_def, decide_eq_true_eq, Bool.and_eq_true, beq_self_eq_true, or_self, and_self, ite_true, ite_false, Nat.le_refl, Bool.not_eq_true, decide_not, Bool.not_eq_true', decide_eq_false_iff_not, Bool.not_eq_false, Bool.or_eq_true, if_true, if_false, ite_self, rc_len, rc_sure, rc_ltA, rc_lt1, rc_all1, rc_ro, rc_take, rc_code, rc_ver, rc_val, h1, h2, h3, hV]
        · simp (config := {maxSteps := 4000000, implicitDefEqProofs := false}) (disch := omega) only [go_sem, ↓reduceIte, Nat.reduceAdd, Nat.reduceSub, Nat.reduceMul, Nat.reduceLeDiff, Nat.reduceLT, Int.reduceEq, Int.reduceNe, Int.reduceLT, Int.reduceLE, Int.reduceAdd, Int.reduceSub, Int.reduceMul, Int.reduceNeg, Nat.zero_add, Nat.add_zero, Nat.mul_one, Int.toNat_natCast, Int.natCast_zero, Int.cast_ofNat_Int, or_false, false_or, or_true, true_or, Int.reduceToNat, Nat.sub_zero, Int.natCast_nonneg, Int.toNat_zero, Bool.true_and, Bool.and_true, Bool.false_and, Bool.and_false, Bool.true_or, Bool.or_true, Bool.false_or, Bool.or_false, Bool.not_true, Bool.not_false, Bool.not_not, true_and, and_true, false_and, and_false, not_true_eq_false, not_false_eq_true, eq_self, decide_true, decide_false, ne_eq, implies_true, forall_const, true_implies, false_implies, Bool.true_eq_false, Bool.false_eq_true, reduceCtorEq, List.map_cons, List.map_nil, List.all_cons, List.all_nil, List.length_cons, List.length_nil, List.length_map, List.length_append, List.nil_append, List.cons_append, List.set_cons_zero, List.set_cons_succ, List.set_nil, List.drop_zero, List.drop_succ_cons, List.drop_nil, List.take_zero, List.take_succ_cons, List.take_nil, Option.map_some, Option.map_none, Option.isSome_some, Nat.reduceEqDiff, Nat.reduceBEq, Nat.reduceGT, List.all_append, List.all_map, Function.comp_def, decide_eq_true_eq, Bool.and_eq_true, beq_self_eq_true, or_self, and_self, ite_true, ite_false, Nat.le_refl, Bool.not_eq_true, decide_not, Bool.not_eq_true', decide_eq_false_iff_not, Bool.not_eq_false, Bool.or_eq_true, if_true, if_false, ite_self, rc_len, rc_sure, rc_ltA, rc_lt1, rc_all1, rc_ro, rc_take, rc_code, rc_ver, rc_val, h1, h2, h3, hV]
    · simp (config := {maxSteps := 4000000, implicitDefEqProofs := false}) (disch := omega) only [go_sem, ↓reduceIte, Nat.reduceAdd, Nat.reduceSub, Nat.reduceMul, Nat.reduceLeDiff, Nat.reduceLT, Int.reduceEq, Int.reduceNe, Int.reduceLT, Int.reduceLE, Int.reduceAdd, Int.reduceSub, Int.reduceMul, Int.reduceNeg, Nat.zero_add, Nat.add_zero, Nat.mul_one, Int.toNat_natCast, Int.natCast_zero, Int.cast_ofNat_Int, or_false, false_or, or_true, true_or, Int.reduceToNat, Nat.sub_zero, Int.natCast_nonneg, Int.toNat_zero, Bool.true_and, Bool.and_true, Bool.false_and, Bool.and_false, Bool.true_or, Bool.or_true, Bool.false_or, Bool.or_false, Bool.not_true, Bool.not_false, Bool.not_not, true_and, and_true, false_and, and_false, not_true_eq_false, not_false_eq_true, eq_self, decide_true, decide_false, ne_eq, implies_true, forall_const, true_implies, false_implies, Bool.true_eq_false, Bool.false_eq_true, reduceCtorEq, List.map_cons, List.map_nil, List.all_cons, List.all_nil, List.length_cons, List.length_nil, List.length_map, List.length_append, List.nil_append, List.cons_append, List.set_cons_zero, List.set_cons_succ, List.set_nil, List.drop_zero, List.drop_succ_cons, List.drop_nil, List.take_zero, List.take_succ_cons, List.take_nil, Option.map_some, Option.map_none, Option.isSome_some, Nat.reduceEqDiff, Nat.reduceBEq, Nat.reduceGT, List.all_append, List.all_map, Function.comp_def, decide_eq_true_eq, Bool.and_eq_true, beq_self_eq_true, or_self, and_self, ite_true, ite_false, Nat.le_refl, Bool.not_eq_true, decide_not, Bool.not_eq_true', decide_eq_false_iff_not, Bool.not_eq_false, Bool.or_eq_true, if_true, if_false, ite_self, rc_len, rc_sure, rc_ltA, rc_lt1, rc_all1, rc_ro, rc_take, rc_code, rc_ver, rc_val, h1, h2]
  · simp (config := {maxSteps := 4000000, implicitDefEqProofs := false}) (disch := omega) only [go_sem, ↓reduceIte, Nat.reduceAdd, Nat.reduceSub, Nat.reduceMul, Nat.reduceLeDiff, Nat.reduceLT, Int.reduceEq, Int.reduceNe, Int.reduceLT, Int.reduceLE, Int.reduceAdd, Int.reduceSub, Int.reduceMul, Int.reduceNeg, Nat.zero_add, Nat.add_zero, Nat.mul_one, Int.toNat_natCast, Int.natCast_zero, Int.cast_ofNat_Int, or_false, false_or, or_true, true_or, Int.reduceToNat, Nat.sub_zero, Int.natCast_nonneg, Int.toNat_zero, Bool.true_and, Bool.and_true, Bool.false_and, Bool.and_false, Bool.true_or, Bool.or_true, Bool.false_or, Bool.or_false, Bool.not_true, Bool.not_false, Bool.not_not, true_and, and_true, false_and, and_false, not_true_eq_false, not_false_eq_true, eq_self, decide_true, decide_false, ne_eq, implies_true, forall_const, true_implies, false_implies, Bool.true_eq_false, Bool.false_eq_true, reduceCtorEq, List.map_cons, List.map_nil, List.all_cons, List.all_nil, List.length_cons, List.length_nil, List.length_map, List.length_append, List.nil_append, List.cons_append, List.set_cons_zero, List.set_cons_succ, List.set_nil, List.drop_zero, List.drop_succ_cons, List.drop_nil, List.take_zero, List.take_succ_cons, List.take_nil, Option.map_some, Option.map_none, Option.isSome_some, Nat.reduceEqDiff, Nat.reduceBEq, Nat.reduceGT, List.all_append, List.all_map, Function.comp_def, decide_eq_true_eq, Bool.and_eq_true, beq_self_eq_true, or_self, and_self, ite_true, ite_false, Nat.le_refl, Bool.not_eq_true, decide_not, Bool.not_eq_true', decide_eq_false_iff_not, Bool.not_eq_false, Bool.or_eq_true, if_true, if_false, ite_self, rc_len, rc_sure, rc_ltA, rc_lt1, rc_all1, rc_ro, rc_take, rc_code, rc_ver, rc_val, h1]
theorem enc_s (m : Nat) (r : Rs) (h : r.In) : txn_EncodeResult_t m [.agg (rC r)] = some (SL ((encRes r.code r.kind r.i r.s r.ver).map fun b => V (cB b)), []) := txn_EncodeResult_e m r.code r.kind r.i r.s r.ver h
theorem check_s (m : Nat) (l : List La) (hm : l.length < m) (hl : l.length ≤ 34359738367) (h : ∀ x ∈ l, x.r.In) : replies_Check m (lL l) = some (TU [nA (chkL l).1, nA (chkL l).2], []) := by
  rw [replies_Check_eq, lL_def]
  unfold chkL
  simp (config := {maxSteps := 4000000, implicitDefEqProofs := false}) (disch := omega) only [go_sem, ↓reduceIte, Nat.reduceAdd, Nat.reduceSub, Nat.reduceMul, Nat.reduceLeDiff, Nat.reduceLT, Int.reduceEq, Int.reduceNe, Int.reduceLT, Int.reduceLE, Int.reduceAdd, Int.reduceSub, Int.reduceMul, Int.reduceNeg, Nat.zero_add, Nat.add_zero, Nat.mul_one, Int.toNat_natCast, Int.natCast_zero, Int.cast_ofNat_Int, or_false, false_or, or_true, true_or, Int.reduceToNat, Nat.sub_zero, Int.natCast_nonneg, Int.toNat_zero, Bool.true_and, Bool.and_true, Bool.false_and, Bool.and_false, Bool.true_or, Bool.or_true, Bool.false_or, Bool.or_false, Bool.not_true, Bool.not_false, Bool.not_not, true_and, and_true, false_and, and_false, not_true_eq_false, not_false_eq_true, eq_self, decide_true, decide_false, ne_eq, implies_true, forall_const, true_implies, false_implies, Bool.true_eq_false, Bool.false_eq_true, reduceCtorEq, List.map_cons, List.map_nil, List.all_cons, List.all_nil, List.length_cons, List.length_nil, List.length_map, List.length_append, List.nil_append, List.cons_append, List.set_cons_zero, List.set_cons_succ, List.set_nil, List.drop_zero, List.drop_succ_cons, List.drop_nil, List.take_zero, List.take_succ_cons, List.take_nil, Option.map_some, Option.map_none, Option.isSome_some, Nat.reduceEqDiff, Nat.reduceBEq, Nat.reduceGT, List.all_append, List.all_map, Function.comp_def, decide_eq_true_eq, Bool.and_eq_true, beq_self_eq_true, or_self, and_self, ite_true, ite_false, Nat.le_refl, Bool.not_eq_true, decide_not, Bool.not_eq_true', decide_eq_false_iff_not, Bool.not_eq_false, Bool.or_eq_true, if_true, if_false, ite_self, hl]
  generalize hR : chkG none 0 l = R
  obtain ⟨e, a⟩ := R
  refine iter_go (ι := {k : Nat // k ≤ l.length ∧ chkG (prevL l k) k (l.drop k) = (e, a)}) (fun k => ⟨[], [(0, SL (l.map laE)), (6, SL (l.map laE)), (7, nA l.length), (8, nA k.1)]⟩) (fun k => l.length - k.1) (fun _ => some (TU [nA e, nA a], [])) ?_ ⟨0, Nat.zero_le _, hR⟩ (by dsimp only; omega)
  rintro kx hkx ⟨k, hk, hinv⟩ kc hkc
  dsimp only at hkc ⊢
  rw [replies_Check_b1_eq]
  by_cases hlt : k < l.length
  · have hlt' : (k : Int) < (l.length : Int) := by omega
    have hC := could_s m l[k].cl l[k].tm
    have hE := enc_s m l[k].r (h _ (List.getElem_mem hlt))
    have hen := encR_len l[k].r
    have hcase := chkG_at hlt hinv
    have step : bad26 (prevL l k) l[k] = 0 → kc ⟨[], [(0, SL (l.map laE)), (6, SL (l.map laE)), (7, nA l.length), (8, nA ((k : Int) + 1))]⟩ = some (TU [nA e, nA a], []) := fun h0 => by
      rcases hcase with ⟨_, h2⟩ | ⟨h1, _⟩
      · exact hkc ⟨k + 1, by omega, h2⟩ (by dsimp only; omega)
      · exact absurd h0 h1
    have stop : bad26 (prevL l k) l[k] ≠ 0 → e = bad26 (prevL l k) l[k] ∧ a = k := fun h0 => by
      rcases hcase with ⟨h1, _⟩ | ⟨_, h2⟩
      · exact absurd h1 h0
      · exact h2
    cases hc : could l[k].cl l[k].tm with
    | false =>
      rw [hc] at hC
      have hb : bad26 (prevL l k) l[k] = 1 := by unfold bad26; rw [hc]; simp
      obtain ⟨rfl, rfl⟩ := stop (by rw [hb]; omega)
      rw [hb]
      simp (config := {maxSteps := 4000000, implicitDefEqProofs := false}) (disch := omega) only [go_sem, ↓reduceIte, Nat.reduceAdd, Nat.reduceSub, Nat.reduceMul, Nat.reduceLeDiff, Nat.reduceLT, Int.reduceEq, Int.reduceNe, Int.reduceLT, Int.reduceLE, Int.reduceAdd, Int.reduceSub, Int.reduceMul, Int.reduceNeg, Nat.zero_add, Nat.add_zero, Nat.mul_one, Int.toNat_natCast, Int.natCast_zero, Int.cast_ofNat_Int, or_false, false_or, or_true, true_or, Int.reduceToNat, Nat.sub_zero, Int.natCast_nonneg, Int.toNat_zero, Bool.true_and, Bool.and_true, Bool.false_and, Bool.and_false, Bool.true_or, Bool.or_true, Bool.false_or, Bool.or_false, Bool.not_true, Bool.not_false, Bool.not_not, true_and, and_true, false_and, and_false, not_true_eq_false, not_false_eq_true, eq_self, decide_true, decide_false, ne_eq, implies_true, forall_const, true_implies, false_implies, Bool.true_eq_false, Bool.false_eq_true, reduceCtorEq, List.map_cons, List.map_nil, List.all_cons, List.all_nil, List.length_cons, List.length_nil, List.length_map, List.length_append, List.nil_append, List.cons_append, List.set_cons_zero, List.set_cons_succ, List.set_nil, List.drop_zero, List.drop_succ_cons, List.drop_nil, List.take_zero, List.take_succ_cons, List.take_nil, Option.map_some, Option.map_none, Option.isSome_some, Nat.reduceEqDiff, Nat.reduceBEq, Nat.reduceGT, List.all_append, List.all_map, Function.comp_def, decide_eq_true_eq, Bool.and_eq_true, beq_self_eq_true, or_self, and_self, ite_true, ite_false, Nat.le_refl, Bool.not_eq_true, decide_not, Bool.not_eq_true', decide_eq_false_iff_not, Bool.not_eq_false, Bool.or_eq_true, if_true, if_false, ite_self, la_it, la_len, la_sure, la_ltA, la_lt1, la_all1, la_ro, la_take, la_cl, la_tm, la_r, la_sl, rc_len, rc_sure, rc_ltA, rc_lt1, rc_all1, rc_ro, rc_take, rc_sl, la_set, rc_set, zcL_eq, zcR_eq, la_allA, la_len7, all_tt, natInt, u_nthM, hlt', w_i64, replies_Check_r5_eq, replies_Check_r4_eq, replies_Check_r3_eq, replies_Check_r2_eq, replies_Check_r1_eq, hC, hkx]
    | true =>
    rw [hc] at hC
    cases hr : rB l[k].r with
    | false =>
      have hb : bad26 (prevL l k) l[k] = 1 := by unfold bad26; rw [hc, hr]; simp
      obtain ⟨rfl, rfl⟩ := stop (by rw [hb]; omega)
      rw [hr] at hen
      have hen' : (encRes l[k].r.code l[k].r.kind l[k].r.i l[k].r.s l[k].r.ver).length = 0 := by rw [hen]
      rw [hb]
      simp (config := {maxSteps := 4000000, implicitDefEqProofs := false}) (disch := omega) only [go_sem, ↓reduceIte, Nat.reduceAdd, Nat.reduceSub, Nat.reduceMul, Nat.reduceLeDiff, Nat.reduceLT, Int.reduceEq, Int.reduceNe, Int.reduceLT, Int.reduceLE, Int.reduceAdd, Int.reduceSub, Int.reduceMul, Int.reduceNeg, Nat.zero_add, Nat.add_zero, Nat.mul_one, Int.toNat_natCast, Int.natCast_zero, Int.cast_ofNat_Int, or_false, false_or, or_true, true_or, Int.reduceToNat, Nat.sub_zero, Int.natCast_nonneg, Int.toNat_zero, Bool.true_and, Bool.and_true, Bool.false_and, Bool.and_false, Bool.true_or, Bool.or_true, Bool.false_or, Bool.or_false, Bool.not_true, Bool.not_false, Bool.not_not, true_and, and_true, false_and, and_false, not_true_eq_false, not_false_eq_true, eq_self, decide_true, decide_false, ne_eq, implies_true, forall_const, true_implies, false_implies, Bool.true_eq_false, Bool.false_eq_true, reduceCtorEq, List.map_cons, List.map_nil, List.all_cons, List.all_nil, List.length_cons, List.length_nil, List.length_map, List.length_append, List.nil_append, List.cons_append, List.set_cons_zero, List.set_cons_succ, List.set_nil, List.drop_zero, List.drop_succ_cons, List.drop_nil, List.take_zero, List.take_succ_cons, List.take_nil, Option.map_some, Option.map_none, Option.isSome_some, Nat.reduceEqDiff, Nat.reduceBEq, Nat.reduceGT, List.all_append, List.all_map, Function.comp_def, decide_eq_true_eq, Bool.and_eq_true, beq_self_eq_true, or_self, and_self, ite_true, ite_false, Nat.le_refl, Bool.not_eq_true, decide_not, Bool.not_eq_true', decide_eq_false_iff_not, Bool.not_eq_false, Bool.or_eq_true, if_true, if_false, ite_self, la_it, la_len, la_sure, la_ltA, la_lt1, la_all1, la_ro, la_take, la_cl, la_tm, la_r, la_sl, rc_len, rc_sure, rc_ltA, rc_lt1, rc_all1, rc_ro, rc_take, rc_sl, la_set, rc_set, zcL_eq, zcR_eq, la_allA, la_len7, all_tt, natInt, u_nthM, hlt', w_i64, replies_Check_r5_eq, replies_Check_r4_eq, replies_Check_r3_eq, replies_Check_r2_eq, replies_Check_r1_eq, hC, hE, hen', hkx]
    | true =>
      rw [hr] at hen
      have hen' : ¬ ((encRes l[k].r.code l[k].r.kind l[k].r.i l[k].r.s l[k].r.ver).length : Int) = 0 := by
        intro q
        have q : (encRes l[k].r.code l[k].r.kind l[k].r.i l[k].r.s l[k].r.ver).length = 0 := by omega
        rw [hen] at q; cases q
      by_cases h0 : k = 0
      · have hk0 : ¬ (0 : Int) < (k : Int) := by omega
        have hb : bad26 (prevL l k) l[k] = 0 := by unfold bad26; rw [if_pos ⟨hc, hr⟩]; unfold prevL; rw [if_pos h0]
        have step := step hb
        simp (config := {maxSteps := 4000000, implicitDefEqProofs := false}) (disch := omega) only [go_sem, ↓reduceIte, Nat.reduceAdd, Nat.reduceSub, Nat.reduceMul, Nat.reduceLeDiff, Nat.reduceLT, Int.reduceEq, Int.reduceNe, Int.reduceLT, Int.reduceLE, Int.reduceAdd, Int.reduceSub, Int.reduceMul, Int.reduceNeg, Nat.zero_add, Nat.add_zero, Nat.mul_one, Int.toNat_natCast, Int.natCast_zero, Int.cast_ofNat_Int, or_false, false_or, or_true, true_or, Int.reduceToNat, Nat.sub_zero, Int.natCast_nonneg, Int.toNat_zero, Bool.true_and, Bool.and_true, Bool.false_and, Bool.and_false, Bool.true_or, Bool.or_true, Bool.false_or, Bool.or_false, Bool.not_true, Bool.not_false, Bool.not_not, true_and, and_true, false_and, and_false, not_true_eq_false, not_false_eq_true, eq_self, decide_true, decide_false, ne_eq, implies_true, forall_const, true_implies, false_implies, Bool.true_eq_false, Bool.false_eq_true, reduceCtorEq, List.map_cons, List.map_nil, List.all_cons, List.all_nil, List.length_cons, List.length_nil, List.length_map, List.length_append, List.nil_append, List.cons_append, List.set_cons_zero, List.set_cons_succ, List.set_nil, List.drop_zero, List.drop_succ_cons, List.drop_nil, List.take_zero, List.take_succ_cons, List.take_nil, Option.map_some, Option.map_none, Option.isSome_some, Nat.reduceEqDiff, Nat.reduceBEq, Nat.reduceGT, List.all_append, List.all_map, Function.comp_def, decide_eq_true_eq, Bool.and_eq_true, beq_self_eq_true, or_self, and_self, ite_true, ite_false, Nat.le_refl, Bool.not_eq_true, decide_not, Bool.not_eq_true', decide_eq_false_iff_not, Bool.not_eq_false, Bool.or_eq_true, if_true, if_false, ite_self, la_it, la_len, la_sure, la_ltA, la_lt1, la_all1, la_ro, la_take, la_cl, la_tm, la_r, la_sl, rc_len, rc_sure, rc_ltA, rc_lt1, rc_all1, rc_ro, rc_take, rc_sl, la_set, rc_set, zcL_eq, zcR_eq, la_allA, la_len7, all_tt, natInt, u_nthM, hlt', w_i64, replies_Check_r5_eq, replies_Check_r4_eq, replies_Check_r3_eq, replies_Check_r2_eq, replies_Check_r1_eq, hC, hE, hen', hk0]
        exact step
      · have hk0 : (0 : Int) < (k : Int) := by omega
        have hk1 : (k : Int) - 1 = ((k - 1 : Nat) : Int) := by omega
        have hlt1 : k - 1 < l.length := by omega
        have hlt1' : ((k - 1 : Nat) : Int) < (l.length : Int) := by omega
        have hp : prevL l k = some l[k - 1] := by unfold prevL; rw [if_neg h0, List.getElem?_eq_getElem hlt1]
        by_cases hq : l[k].cl ≤ l[k - 1].cl
        · have hb : bad26 (prevL l k) l[k] = 3 := by unfold bad26; rw [if_pos ⟨hc, hr⟩, hp]; dsimp only; rw [if_pos hq]
          obtain ⟨rfl, rfl⟩ := stop (by rw [hb]; omega)
          rw [hb]
          simp (config := {maxSteps := 4000000, implicitDefEqProofs := false}) (disch := omega) only [go_sem, ↓reduceIte, Nat.reduceAdd, Nat.reduceSub, Nat.reduceMul, Nat.reduceLeDiff, Nat.reduceLT, Int.reduceEq, Int.reduceNe, Int.reduceLT, Int.reduceLE, Int.reduceAdd, Int.reduceSub, Int.reduceMul, Int.reduceNeg, Nat.zero_add, Nat.add_zero, Nat.mul_one, Int.toNat_natCast, Int.natCast_zero, Int.cast_ofNat_Int, or_false, false_or, or_true, true_or, Int.reduceToNat, Nat.sub_zero, Int.natCast_nonneg, Int.toNat_zero, Bool.true_and, Bool.and_true, Bool.false_and, Bool.and_false, Bool.true_or, Bool.or_true, Bool.false_or, Bool.or_false, Bool.not_true, Bool.not_false, Bool.not_not, true_and, and_true, false_and, and_false, not_true_eq_false, not_false_eq_true, eq_self, decide_true, decide_false, ne_eq, implies_true, forall_const, true_implies, false_implies, Bool.true_eq_false, Bool.false_eq_true, reduceCtorEq, List.map_cons, List.map_nil, List.all_cons, List.all_nil, List.length_cons, List.length_nil, List.length_map, List.length_append, List.nil_append, List.cons_append, List.set_cons_zero, List.set_cons_succ, List.set_nil, List.drop_zero, List.drop_succ_cons, List.drop_nil, List.take_zero, List.take_succ_cons, List.take_nil, Option.map_some, Option.map_none, Option.isSome_some, Nat.reduceEqDiff, Nat.reduceBEq, Nat.reduceGT, List.all_append, List.all_map, Function.comp_def, decide_eq_true_eq, Bool.and_eq_true, beq_self_eq_true, or_self, and_self, ite_true, ite_false, Nat.le_refl, Bool.not_eq_true, decide_not, Bool.not_eq_true', decide_eq_false_iff_not, Bool.not_eq_false, Bool.or_eq_true, if_true, if_false, ite_self, la_it, la_len, la_sure, la_ltA, la_lt1, la_all1, la_ro, la_take, la_cl, la_tm, la_r, la_sl, rc_len, rc_sure, rc_ltA, rc_lt1, rc_all1, rc_ro, rc_take, rc_sl, la_set, rc_set, zcL_eq, zcR_eq, la_allA, la_len7, all_tt, natInt, u_nthM, hlt', w_i64, replies_Check_r5_eq, replies_Check_r4_eq, replies_Check_r3_eq, replies_Check_r2_eq, replies_Check_r1_eq, hC, hE, hen', hk0, hk1, hlt1', hq, hkx]
        · have hb : bad26 (prevL l k) l[k] = 0 := by unfold bad26; rw [if_pos ⟨hc, hr⟩, hp]; dsimp only; rw [if_neg hq]
          have step := step hb
          simp (config := {maxSteps := 4000000, implicitDefEqProofs := false}) (disch := omega) only [go_sem, ↓reduceIte, Nat.reduceAdd, Nat.reduceSub, Nat.reduceMul, Nat.reduceLeDiff, Nat.reduceLT, Int.reduceEq, Int.reduceNe, Int.reduceLT, Int.reduceLE, Int.reduceAdd, Int.reduceSub, Int.reduceMul, Int.reduceNeg, Nat.zero_add, Nat.add_zero, Nat.mul_one, Int.toNat_natCast, Int.natCast_zero, Int.cast_ofNat_Int, or_false, false_or, or_true, true_or, Int.reduceToNat, Nat.sub_zero, Int.natCast_nonneg, Int.toNat_zero, Bool.true_and, Bool.and_true, Bool.false_and, Bool.and_false, Bool.true_or, Bool.or_true, Bool.false_or, Bool.or_false, Bool.not_true, Bool.not_false, Bool.not_not, true_and, and_true, false_and, and_false, not_true_eq_false, not_false_eq_true, eq_self, decide_true, decide_false, ne_eq, implies_true, forall_const, true_implies, false_implies, Bool.true_eq_false, Bool.false_eq_true, reduceCtorEq, List.map_cons, List.map_nil, List.all_cons, List.all_nil, List.length_cons, List.length_nil, List.length_map, List.length_append, List.nil_append, List.cons_append, List.set_cons_zero, List.set_cons_succ, List.set_nil, List.drop_zero, List.drop_succ_cons, List.drop_nil, List.take_zero, List.take_succ_cons, List.take_nil, Option.map_some, Option.map_none, Option.isSome_some, Nat.reduceEqDiff, Nat.reduceBEq, Nat.reduceGT, List.all_append, List.all_map, Function.comp_def, decide_eq_true_eq, Bool.and_eq_true, beq_self_eq_true, or_self, and_self, ite_true, ite_false, Nat.le_refl, Bool.not_eq_true, decide_not, Bool.not_eq_true', decide_eq_false_iff_not, Bool.not_eq_false, Bool.or_eq_true, if_true, if_false, ite_self, la_it, la_len, la_sure, la_ltA, la_lt1, la_all1, la_ro, la_take, la_cl, la_tm, la_r, la_sl, rc_len, rc_sure, rc_ltA, rc_lt1, rc_all1, rc_ro, rc_take, rc_sl, la_set, rc_set, zcL_eq, zcR_eq, la_allA, la_len7, all_tt, natInt, u_nthM, hlt', w_i64, replies_Check_r5_eq, replies_Check_r4_eq, replies_Check_r3_eq, replies_Check_r2_eq, replies_Check_r1_eq, hC, hE, hen', hk0, hk1, hlt1', hq]
          exact step
  · have hlt' : ¬ (k : Int) < (l.length : Int) := by omega
    have : k = l.length := by omega
    subst this
    obtain ⟨rfl, rfl⟩ := chkG_end hinv
    simp (config := {maxSteps := 4000000, implicitDefEqProofs := false}) (disch := omega) only [go_sem, ↓reduceIte, Nat.reduceAdd, Nat.reduceSub, Nat.reduceMul, Nat.reduceLeDiff, Nat.reduceLT, Int.reduceEq, Int.reduceNe, Int.reduceLT, Int.reduceLE, Int.reduceAdd, Int.reduceSub, Int.reduceMul, Int.reduceNeg, Nat.zero_add, Nat.add_zero, Nat.mul_one, Int.toNat_natCast, Int.natCast_zero, Int.cast_ofNat_Int, or_false, false_or, or_true, true_or, Int.reduceToNat, Nat.sub_zero, Int.natCast_nonneg, Int.toNat_zero, Bool.true_and, Bool.and_true, Bool.false_and, Bool.and_false, Bool.true_or, Bool.or_true, Bool.false_or, Bool.or_false, Bool.not_true, Bool.not_false, Bool.not_not, true_and, and_true, false_and, and_false, not_true_eq_false, not_false_eq_true, eq_self, decide_true, decide_false, ne_eq, implies_true, forall_const, true_implies, false_implies, Bool.true_eq_false, Bool.false_eq_true, reduceCtorEq, List.map_cons, List.map_nil, List.all_cons, List.all_nil, List.length_cons, List.length_nil, List.length_map, List.length_append, List.nil_append, List.cons_append, List.set_cons_zero, List.set_cons_succ, List.set_nil, List.drop_zero, List.drop_succ_cons, List.drop_nil, List.take_zero, List.take_succ_cons, List.take_nil, Option.map_some, Option.map_none, Option.isSome_some, Nat.reduceEqDiff, Nat.reduceBEq, Nat.reduceGT, List.all_append, List.all_map, Function.comp_def, decide_eq_true_eq, Bool.and_eq_true, beq_self_eq_true, or_self, and_self, ite_true, ite_false, Nat.le_refl, Bool.not_eq_true, decide_not, Bool.not_eq_true', decide_eq_false_iff_not, Bool.not_eq_false, Bool.or_eq_true, if_true, if_false, ite_self, hkx, hlt', replies_Check_r5_eq, replies_Check_r4_eq, replies_Check_r3_eq, replies_Check_r2_eq, replies_Check_r1_eq]
theorem rcheck_s (m : Nat) (l : List La) (hm : l.length < m) (hl : l.length ≤ 34359738367) : plenumref26_Check m (lL l) = some (TU [nA (chkL l).1, nA (chkL l).2], []) := by
  rw [plenumref26_Check_eq, lL_def]
  unfold chkL
  generalize hR : chkG none 0 l = R
  obtain ⟨e, a⟩ := R
  refine iter_go (ι := {k : Nat // k ≤ l.length ∧ chkG (prevL l k) k (l.drop k) = (e, a)}) (fun k => ⟨[], [(0, SL (l.map laE)), (4, nA k.1)]⟩) (fun k => l.length - k.1) (fun _ => some (TU [nA e, nA a], [])) ?_ ⟨0, Nat.zero_le _, hR⟩ (by dsimp only; omega)
  rintro kx hkx ⟨k, hk, hinv⟩ kc hkc
  dsimp only at hkc ⊢
  rw [plenumref26_Check_b1_eq]
  by_cases hlt : k < l.length
  · have hlt' : (k : Int) < (l.length : Int) := by omega
    have hC := rcould_s m l[k].cl l[k].tm
    have hE := rmay_s m l[k].r
    rw [rA_def] at hE
    have hcase := chkG_at hlt hinv
    have step : bad26 (prevL l k) l[k] = 0 → kc ⟨[], [(0, SL (l.map laE)), (4, nA ((k : Int) + 1))]⟩ = some (TU [nA e, nA a], []) := fun h0 => by
      rcases hcase with ⟨_, h2⟩ | ⟨h1, _⟩
      · exact hkc ⟨k + 1, by omega, h2⟩ (by dsimp only; omega)
      · exact absurd h0 h1
    have stop : bad26 (prevL l k) l[k] ≠ 0 → e = bad26 (prevL l k) l[k] ∧ a = k := fun h0 => by
      rcases hcase with ⟨h1, _⟩ | ⟨_, h2⟩
      · exact absurd h1 h0
      · exact h2
    cases hc : could l[k].cl l[k].tm with
    | false =>
      rw [hc] at hC
      have hb : bad26 (prevL l k) l[k] = 1 := by unfold bad26; rw [hc]; simp
      obtain ⟨rfl, rfl⟩ := stop (by rw [hb]; omega)
      rw [hb]
      simp (config := {maxSteps := 4000000, implicitDefEqProofs := false}) (disch := omega) only [go_sem, ↓reduceIte, Nat.reduceAdd, Nat.reduceSub, Nat.reduceMul, Nat.reduceLeDiff, Nat.reduceLT, Int.reduceEq, Int.reduceNe, Int.reduceLT, Int.reduceLE, Int.reduceAdd, Int.reduceSub, Int.reduceMul, Int.reduceNeg, Nat.zero_add, Nat.add_zero, Nat.mul_one, Int.toNat_natCast, Int.natCast_zero, Int.cast_ofNat_Int, or_false, false_or, or_true, true_or, Int.reduceToNat, Nat.sub_zero, Int.natCast_nonneg, Int.toNat_zero, Bool.true_and, Bool.and_true, Bool.false_and, Bool.and_false, Bool.true_or, Bool.or_true, Bool.false_or, Bool.or_false, Bool.not_true, Bool.not_false, Bool.not_not, true_and, and_true, false_and, and_false, not_true_eq_false, not_false_eq_true, eq_self, decide_true, decide_false, ne_eq, implies_true, forall_const, true_implies, false_implies, Bool.true_eq_false, Bool.false_eq_true, reduceCtorEq, List.map_cons, List.map_nil, List.all_cons, List.all_nil, List.length_cons, List.length_nil, List.length_map, List.length_append, List.nil_append, List.cons_append, List.set_cons_zero, List.set_cons_succ, List.set_nil, List.drop_zero, List.drop_succ_cons, List.drop_nil, List.take_zero, List.take_succ_cons, List.take_nil, Option.map_some, Option.map_none, Option.isSome_some, Nat.reduceEqDiff, Nat.reduceBEq, Nat.reduceGT, List.all_append, List.all_map, Function.comp_def, decide_eq_true_eq, Bool.and_eq_true, beq_self_eq_true, or_self, and_self, ite_true, ite_false, Nat.le_refl, Bool.not_eq_true, decide_not, Bool.not_eq_true', decide_eq_false_iff_not, Bool.not_eq_false, Bool.or_eq_true, if_true, if_false, ite_self, la_it, la_len, la_sure, la_ltA, la_lt1, la_all1, la_ro, la_take, la_cl, la_tm, la_r, la_sl, rc_len, rc_sure, rc_ltA, rc_lt1, rc_all1, rc_ro, rc_take, rc_sl, la_set, rc_set, zcL_eq, zcR_eq, la_allA, la_len7, all_tt, natInt, u_nthM, hlt', w_i64, plenumref26_Check_r7_eq, plenumref26_Check_r6_eq, plenumref26_Check_r5_eq, plenumref26_Check_r4_eq, plenumref26_Check_r3_eq, plenumref26_Check_r2_eq, plenumref26_Check_r1_eq, hC, hkx]
    | true =>
    rw [hc] at hC
    cases hr : rB l[k].r with
    | false =>
      have hb : bad26 (prevL l k) l[k] = 1 := by unfold bad26; rw [hc, hr]; simp
      obtain ⟨rfl, rfl⟩ := stop (by rw [hb]; omega)
      rw [hr] at hE
      rw [hb]
      simp (config := {maxSteps := 4000000, implicitDefEqProofs := false}) (disch := omega) only [go_sem, ↓reduceIte, Nat.reduceAdd, Nat.reduceSub, Nat.reduceMul, Nat.reduceLeDiff, Nat.reduceLT, Int.reduceEq, Int.reduceNe, Int.reduceLT, Int.reduceLE, Int.reduceAdd, Int.reduceSub, Int.reduceMul, Int.reduceNeg, Nat.zero_add, Nat.add_zero, Nat.mul_one, Int.toNat_natCast, Int.natCast_zero, Int.cast_ofNat_Int, or_false, false_or, or_true, true_or, Int.reduceToNat, Nat.sub_zero, Int.natCast_nonneg, Int.toNat_zero, Bool.true_and, Bool.and_true, Bool.false_and, Bool.and_false, Bool.true_or, Bool.or_true, Bool.false_or, Bool.or_false, Bool.not_true, Bool.not_false, Bool.not_not, true_and, and_true, false_and, and_false, not_true_eq_false, not_false_eq_true, eq_self, decide_true, decide_false, ne_eq, implies_true, forall_const, true_implies, false_implies, Bool.true_eq_false, Bool.false_eq_true, reduceCtorEq, List.map_cons, List.map_nil, List.all_cons, List.all_nil, List.length_cons, List.length_nil, List.length_map, List.length_append, List.nil_append, List.cons_append, List.set_cons_zero, List.set_cons_succ, List.set_nil, List.drop_zero, List.drop_succ_cons, List.drop_nil, List.take_zero, List.take_succ_cons, List.take_nil, Option.map_some, Option.map_none, Option.isSome_some, Nat.reduceEqDiff, Nat.reduceBEq, Nat.reduceGT, List.all_append, List.all_map, Function.comp_def, decide_eq_true_eq, Bool.and_eq_true, beq_self_eq_true, or_self, and_self, ite_true, ite_false, Nat.le_refl, Bool.not_eq_true, decide_not, Bool.not_eq_true', decide_eq_false_iff_not, Bool.not_eq_false, Bool.or_eq_true, if_true, if_false, ite_self, la_it, la_len, la_sure, la_ltA, la_lt1, la_all1, la_ro, la_take, la_cl, la_tm, la_r, la_sl, rc_len, rc_sure, rc_ltA, rc_lt1, rc_all1, rc_ro, rc_take, rc_sl, la_set, rc_set, zcL_eq, zcR_eq, la_allA, la_len7, all_tt, natInt, u_nthM, hlt', w_i64, plenumref26_Check_r7_eq, plenumref26_Check_r6_eq, plenumref26_Check_r5_eq, plenumref26_Check_r4_eq, plenumref26_Check_r3_eq, plenumref26_Check_r2_eq, plenumref26_Check_r1_eq, hC, hE, hkx]
    | true =>
      rw [hr] at hE
      by_cases h0 : k = 0
      · have hk0 : ¬ (0 : Int) < (k : Int) := by omega
        have hb : bad26 (prevL l k) l[k] = 0 := by unfold bad26; rw [if_pos ⟨hc, hr⟩]; unfold prevL; rw [if_pos h0]
        have step := step hb
        simp (config := {maxSteps := 4000000, implicitDefEqProofs := false}) (disch := omega) only [go_sem, ↓reduceIte, Nat.reduceAdd, Nat.reduceSub, Nat.reduceMul, Nat.reduceLeDiff, Nat.reduceLT, Int.reduceEq, Int.reduceNe, Int.reduceLT, Int.reduceLE, Int.reduceAdd, Int.reduceSub, Int.reduceMul, Int.reduceNeg, Nat.zero_add, Nat.add_zero, Nat.mul_one, Int.toNat_natCast, Int.natCast_zero, Int.cast_ofNat_Int, or_false, false_or, or_true, true_or, Int.reduceToNat, Nat.sub_zero, Int.natCast_nonneg, Int.toNat_zero, Bool.true_and, Bool.and_true, Bool.false_and, Bool.and_false, Bool.true_or, Bool.or_true, Bool.false_or, Bool.or_false, Bool.not_true, Bool.not_false, Bool.not_not, true_and, and_true, false_and, and_false, not_true_eq_false, not_false_eq_true, eq_self, decide_true, decide_false, ne_eq, implies_true, forall_const, true_implies, false_implies, Bool.true_eq_false, Bool.false_eq_true, reduceCtorEq, List.map_cons, List.map_nil, List.all_cons, List.all_nil, List.length_cons, List.length_nil, List.length_map, List.length_append, List.nil_append, List.cons_append, List.set_cons_zero, List.set_cons_succ, List.set_nil, List.drop_zero, List.drop_succ_cons, List.drop_nil, List.take_zero, List.take_succ_cons, List.take_nil, Option.map_some, Option.map_none, Option.isSome_some, Nat.reduceEqDiff, Nat.reduceBEq, Nat.reduceGT, List.all_append, List.all_map, Function.comp_def, decide_eq_true_eq, Bool.and_eq_true, beq_self_eq_true, or_self, and_self, ite_true, ite_false, Nat.le_refl, Bool.not_eq_true, decide_not, Bool.not_eq_true', decide_eq_false_iff_not, Bool.not_eq_false, Bool.or_eq_true, if_true, if_false, ite_self, la_it, la_len, la_sure, la_ltA, la_lt1, la_all1, la_ro, la_take, la_cl, la_tm, la_r, la_sl, rc_len, rc_sure, rc_ltA, rc_lt1, rc_all1, rc_ro, rc_take, rc_sl, la_set, rc_set, zcL_eq, zcR_eq, la_allA, la_len7, all_tt, natInt, u_nthM, hlt', w_i64, plenumref26_Check_r7_eq, plenumref26_Check_r6_eq, plenumref26_Check_r5_eq, plenumref26_Check_r4_eq, plenumref26_Check_r3_eq, plenumref26_Check_r2_eq, plenumref26_Check_r1_eq, hC, hE, hk0]
        exact step
      · have hk0 : (0 : Int) < (k : Int) := by omega
        have hk1 : (k : Int) - 1 = ((k - 1 : Nat) : Int) := by omega
        have hlt1 : k - 1 < l.length := by omega
        have hlt1' : ((k - 1 : Nat) : Int) < (l.length : Int) := by omega
        have hp : prevL l k = some l[k - 1] := by unfold prevL; rw [if_neg h0, List.getElem?_eq_getElem hlt1]
        by_cases hq : l[k].cl ≤ l[k - 1].cl
        · have hb : bad26 (prevL l k) l[k] = 3 := by unfold bad26; rw [if_pos ⟨hc, hr⟩, hp]; dsimp only; rw [if_pos hq]
          obtain ⟨rfl, rfl⟩ := stop (by rw [hb]; omega)
          rw [hb]
          simp (config := {maxSteps := 4000000, implicitDefEqProofs := false}) (disch := omega) only [go_sem, ↓reduceIte, Nat.reduceAdd, Nat.reduceSub, Nat.reduceMul, Nat.reduceLeDiff, Nat.reduceLT, Int.reduceEq, Int.reduceNe, Int.reduceLT, Int.reduceLE, Int.reduceAdd, Int.reduceSub, Int.reduceMul, Int.reduceNeg, Nat.zero_add, Nat.add_zero, Nat.mul_one, Int.toNat_natCast, Int.natCast_zero, Int.cast_ofNat_Int, or_false, false_or, or_true, true_or, Int.reduceToNat, Nat.sub_zero, Int.natCast_nonneg, Int.toNat_zero, Bool.true_and, Bool.and_true, Bool.false_and, Bool.and_false, Bool.true_or, Bool.or_true, Bool.false_or, Bool.or_false, Bool.not_true, Bool.not_false, Bool.not_not, true_and, and_true, false_and, and_false, not_true_eq_false, not_false_eq_true, eq_self, decide_true, decide_false, ne_eq, implies_true, forall_const, true_implies, false_implies, Bool.true_eq_false, Bool.false_eq_true, reduceCtorEq, List.map_cons, List.map_nil, List.all_cons, List.all_nil, List.length_cons, List.length_nil, List.length_map, List.length_append, List.nil_append, List.cons_append, List.set_cons_zero, List.set_cons_succ, List.set_nil, List.drop_zero, List.drop_succ_cons, List.drop_nil, List.take_zero, List.take_succ_cons, List.take_nil, Option.map_some, Option.map_none, Option.isSome_some, Nat.reduceEqDiff, Nat.reduceBEq, Nat.reduceGT, List.all_append, List.all_map, Function.comp_def, decide_eq_true_eq, Bool.and_eq_true, beq_self_eq_true, or_self, and_self, ite_true, ite_false, Nat.le_refl, Bool.not_eq_true, decide_not, Bool.not_eq_true', decide_eq_false_iff_not, Bool.not_eq_false, Bool.or_eq_true, if_true, if_false, ite_self, la_it, la_len, la_sure, la_ltA, la_lt1, la_all1, la_ro, la_take, la_cl, la_tm, la_r, la_sl, rc_len, rc_sure, rc_ltA, rc_lt1, rc_all1, rc_ro, rc_take, rc_sl, la_set, rc_set, zcL_eq, zcR_eq, la_allA, la_len7, all_tt, natInt, u_nthM, hlt', w_i64, plenumref26_Check_r7_eq, plenumref26_Check_r6_eq, plenumref26_Check_r5_eq, plenumref26_Check_r4_eq, plenumref26_Check_r3_eq, plenumref26_Check_r2_eq, plenumref26_Check_r1_eq, hC, hE, hk0, hk1, hlt1', hq, hkx]
        · have hb : bad26 (prevL l k) l[k] = 0 := by unfold bad26; rw [if_pos ⟨hc, hr⟩, hp]; dsimp only; rw [if_neg hq]
          have step := step hb
          simp (config := {maxSteps := 4000000, implicitDefEqProofs := false}) (disch := omega) only [go_sem, ↓reduceIte, Nat.reduceAdd, Nat.reduceSub, Nat.reduceMul, Nat.reduceLeDiff, Nat.reduceLT, Int.reduceEq, Int.reduceNe, Int.reduceLT, Int.reduceLE, Int.reduceAdd, Int.reduceSub, Int.reduceMul, Int.reduceNeg, Nat.zero_add, Nat.add_zero, Nat.mul_one, Int.toNat_natCast, Int.natCast_zero, Int.cast_ofNat_Int, or_false, false_or, or_true, true_or, Int.reduceToNat, Nat.sub_zero, Int.natCast_nonneg, Int.toNat_zero, Bool.true_and, Bool.and_true, Bool.false_and, Bool.and_false, Bool.true_or, Bool.or_true, Bool.false_or, Bool.or_false, Bool.not_true, Bool.not_false, Bool.not_not, true_and, and_true, false_and, and_false, not_true_eq_false, not_false_eq_true, eq_self, decide_true, decide_false, ne_eq, implies_true, forall_const, true_implies, false_implies, Bool.true_eq_false, Bool.false_eq_true, reduceCtorEq, List.map_cons, List.map_nil, List.all_cons, List.all_nil, List.length_cons, List.length_nil, List.length_map, List.length_append, List.nil_append, List.cons_append, List.set_cons_zero, List.set_cons_succ, List.set_nil, List.drop_zero, List.drop_succ_cons, List.drop_nil, List.take_zero, List.take_succ_cons, List.take_nil, Option.map_some, Option.map_none, Option.isSome_some, Nat.reduceEqDiff, Nat.reduceBEq, Nat.reduceGT, List.all_append, List.all_map, Function.comp_def, decide_eq_true_eq, Bool.and_eq_true, beq_self_eq_true, or_self, and_self, ite_true, ite_false, Nat.le_refl, Bool.not_eq_true, decide_not, Bool.not_eq_true', decide_eq_false_iff_not, Bool.not_eq_false, Bool.or_eq_true, if_true, if_false, ite_self, la_it, la_len, la_sure, la_ltA, la_lt1, la_all1, la_ro, la_take, la_cl, la_tm, la_r, la_sl, rc_len, rc_sure, rc_ltA, rc_lt1, rc_all1, rc_ro, rc_take, rc_sl, la_set, rc_set, zcL_eq, zcR_eq, la_allA, la_len7, all_tt, natInt, u_nthM, hlt', w_i64, plenumref26_Check_r7_eq, plenumref26_Check_r6_eq, plenumref26_Check_r5_eq, plenumref26_Check_r4_eq, plenumref26_Check_r3_eq, plenumref26_Check_r2_eq, plenumref26_Check_r1_eq, hC, hE, hk0, hk1, hlt1', hq]
          exact step
  · have hlt' : ¬ (k : Int) < (l.length : Int) := by omega
    have : k = l.length := by omega
    subst this
    obtain ⟨rfl, rfl⟩ := chkG_end hinv
    simp (config := {maxSteps := 4000000, implicitDefEqProofs := false}) (disch := omega) only [go_sem, ↓reduceIte, Nat.reduceAdd, Nat.reduceSub, Nat.reduceMul, Nat.reduceLeDiff, Nat.reduceLT, Int.reduceEq, Int.reduceNe, Int.reduceLT, Int.reduceLE, Int.reduceAdd, Int.reduceSub, Int.reduceMul, Int.reduceNeg, Nat.zero_add, Nat.add_zero, Nat.mul_one, Int.toNat_natCast, Int.natCast_zero, Int.cast_ofNat_Int, or_false, false_or, or_true, true_or, Int.reduceToNat, Nat.sub_zero, Int.natCast_nonneg, Int.toNat_zero, Bool.true_and, Bool.and_true, Bool.false_and, Bool.and_false, Bool.true_or, Bool.or_true, Bool.false_or, Bool.or_false, Bool.not_true, Bool.not_false, Bool.not_not, true_and, and_true, false_and, and_false, not_true_eq_false, not_false_eq_true, eq_self, decide_true, decide_false, ne_eq, implies_true, forall_const, true_implies, false_implies, Bool.true_eq_false, Bool.false_eq_true, reduceCtorEq, List.map_cons, List.map_nil, List.all_cons, List.all_nil, List.length_cons, List.length_nil, List.length_map, List.length_append, List.nil_append, List.cons_append, List.set_cons_zero, List.set_cons_succ, List.set_nil, List.drop_zero, List.drop_succ_cons, List.drop_nil, List.take_zero, List.take_succ_cons, List.take_nil, Option.map_some, Option.map_none, Option.isSome_some, Nat.reduceEqDiff, Nat.reduceBEq, Nat.reduceGT, List.all_append, List.all_map, Function.comp_def, decide_eq_true_eq, Bool.and_eq_true, beq_self_eq_true, or_self, and_self, ite_true, ite_false, Nat.le_refl, Bool.not_eq_true, decide_not, Bool.not_eq_true', decide_eq_false_iff_not, Bool.not_eq_false, Bool.or_eq_true, if_true, if_false, ite_self, hkx, hlt', plenumref26_Check_r7_eq, plenumref26_Check_r6_eq, plenumref26_Check_r5_eq, plenumref26_Check_r4_eq, plenumref26_Check_r3_eq, plenumref26_Check_r2_eq, plenumref26_Check_r1_eq]
theorem is_s (m : Nat) (l : List La) (hm : l.length < m) (hl : l.length ≤ 34359738367) (h : ∀ x ∈ l, x.r.In) : replies_is m (lL l) = some (bA (isL l), []) := by
  have hC := check_s m l hm hl h
  rw [lL_def] at hC
  rw [replies_is_eq, lL_def]
  unfold isL
  simp (config := {maxSteps := 4000000, implicitDefEqProofs := false}) (disch := omega) only [go_sem, ↓reduceIte, Nat.reduceAdd, Nat.reduceSub, Nat.reduceMul, Nat.reduceLeDiff, Nat.reduceLT, Int.reduceEq, Int.reduceNe, Int.reduceLT, Int.reduceLE, Int.reduceAdd, Int.reduceSub, Int.reduceMul, Int.reduceNeg, Nat.zero_add, Nat.add_zero, Nat.mul_one, Int.toNat_natCast, Int.natCast_zero, Int.cast_ofNat_Int, or_false, false_or, or_true, true_or, Int.reduceToNat, Nat.sub_zero, Int.natCast_nonneg, Int.toNat_zero, Bool.true_and, Bool.and_true, Bool.false_and, Bool.and_false, Bool.true_or, Bool.or_true, Bool.false_or, Bool.or_false, Bool.not_true, Bool.not_false, Bool.not_not, true_and, and_true, false_and, and_false, not_true_eq_false, not_false_eq_true, eq_self, decide_true, decide_false, ne_eq, implies_true, forall_const, true_implies, false_implies, Bool.true_eq_false, Bool.false_eq_true, reduceCtorEq, List.map_cons, List.map_nil, List.all_cons, List.all_nil, List.length_cons, List.length_nil, List.length_map, List.length_append, List.nil_append, List.cons_append, List.set_cons_zero, List.set_cons_succ, List.set_nil, List.drop_zero, List.drop_succ_cons, List.drop_nil, List.take_zero, List.take_succ_cons, List.take_nil, Option.map_some, Option.map_none, Option.isSome_some, Nat.reduceEqDiff, Nat.reduceBEq, Nat.reduceGT, List.all_append, List.all_map, Function.comp_def, decide_eq_true_eq, Bool.and_eq_true, beq_self_eq_true, or_self, and_self, ite_true, ite_false, Nat.le_refl, Bool.not_eq_true, decide_not, Bool.not_eq_true', decide_eq_false_iff_not, Bool.not_eq_false, Bool.or_eq_true, if_true, if_false, ite_self, la_it, la_len, la_sure, la_ltA, la_lt1, la_all1, la_ro, la_take, la_cl, la_tm, la_r, la_sl, rc_len, rc_sure, rc_ltA, rc_lt1, rc_all1, rc_ro, rc_take, rc_sl, la_set, rc_set, zcL_eq, zcR_eq, la_allA, la_len7, all_tt, natInt, u_nthM, hC]
theorem ris_s (m : Nat) (l : List La) (hm : l.length < m) (hl : l.length ≤ 34359738367) : plenumref26_Is m (lL l) = some (bA (isL l), []) := by
  have hC := rcheck_s m l hm hl
  rw [lL_def] at hC
  rw [plenumref26_Is_eq, lL_def]
  unfold isL
  simp (config := {maxSteps := 4000000, implicitDefEqProofs := false}) (disch := omega) only [go_sem, ↓reduceIte, Nat.reduceAdd, Nat.reduceSub, Nat.reduceMul, Nat.reduceLeDiff, Nat.reduceLT, Int.reduceEq, Int.reduceNe, Int.reduceLT, Int.reduceLE, Int.reduceAdd, Int.reduceSub, Int.reduceMul, Int.reduceNeg, Nat.zero_add, Nat.add_zero, Nat.mul_one, Int.toNat_natCast, Int.natCast_zero, Int.cast_ofNat_Int, or_false, false_or, or_true, true_or, Int.reduceToNat, Nat.sub_zero, Int.natCast_nonneg, Int.toNat_zero, Bool.true_and, Bool.and_true, Bool.false_and, Bool.and_false, Bool.true_or, Bool.or_true, Bool.false_or, Bool.or_false, Bool.not_true, Bool.not_false, Bool.not_not, true_and, and_true, false_and, and_false, not_true_eq_false, not_false_eq_true, eq_self, decide_true, decide_false, ne_eq, implies_true, forall_const, true_implies, false_implies, Bool.true_eq_false, Bool.false_eq_true, reduceCtorEq, List.map_cons, List.map_nil, List.all_cons, List.all_nil, List.length_cons, List.length_nil, List.length_map, List.length_append, List.nil_append, List.cons_append, List.set_cons_zero, List.set_cons_succ, List.set_nil, List.drop_zero, List.drop_succ_cons, List.drop_nil, List.take_zero, List.take_succ_cons, List.take_nil, Option.map_some, Option.map_none, Option.isSome_some, Nat.reduceEqDiff, Nat.reduceBEq, Nat.reduceGT, List.all_append, List.all_map, Function.comp_def, decide_eq_true_eq, Bool.and_eq_true, beq_self_eq_true, or_self, and_self, ite_true, ite_false, Nat.le_refl, Bool.not_eq_true, decide_not, Bool.not_eq_true', decide_eq_false_iff_not, Bool.not_eq_false, Bool.or_eq_true, if_true, if_false, ite_self, la_it, la_len, la_sure, la_ltA, la_lt1, la_all1, la_ro, la_take, la_cl, la_tm, la_r, la_sl, rc_len, rc_sure, rc_ltA, rc_lt1, rc_all1, rc_ro, rc_take, rc_sl, la_set, rc_set, zcL_eq, zcR_eq, la_allA, la_len7, all_tt, natInt, u_nthM, hC]
end Go.Proofs.Ytchncgdjefbmfaa

namespace Go.Proofs.Ytchncgdjefbmfaa
open Go.RowKit
set_option linter.unusedVariables false
set_option linter.unusedSimpArgs false
set_option maxRecDepth 20000
def Inc (l : List La) : Prop := ∀ (i j : Nat) (hj : j < l.length) (hi : i < j), (l[i]'(Nat.lt_trans hi hj)).cl < l[j].cl
def fndN (l : List La) (q : Int) : Nat := l.findIdx fun x => decide (q ≤ x.cl)
theorem fndN_le (l : List La) (q : Int) : fndN l q ≤ l.length := List.findIdx_le_length
theorem fndN_at {l : List La} {q : Int} {k : Nat} (hk : k ≤ l.length) (h1 : ∀ (i : Nat) (h : i < k), (l[i]'(Nat.lt_of_lt_of_le h hk)).cl < q) (h2 : ∀ h : k < l.length, q ≤ l[k].cl) : fndN l q = k := by
  unfold fndN
  rcases Nat.lt_or_ge k l.length with hlt | hge
  · rw [List.findIdx_eq hlt]
    refine ⟨by simpa using h2 hlt, fun j hj => ?_⟩
    have := h1 j hj
    simp
    omega
  · have : k = l.length := by omega
    subst this
    rw [List.findIdx_eq_length]
    intro x hx
    obtain ⟨i, hi, rfl⟩ := List.getElem_of_mem hx
    have := h1 i hi
    simp
    omega
theorem fnd_lo {l : List La} {q : Int} {i : Nat} (hi : i < l.length) (h : i < fndN l q) : l[i].cl < q := by
  have := List.not_of_lt_findIdx h
  simp at this
  omega
theorem fnd_hi {l : List La} {q : Int} (h : fndN l q < l.length) : q ≤ l[fndN l q].cl := by
  have := List.findIdx_getElem (p := fun x : La => decide (q ≤ x.cl)) (xs := l) (w := h)
  exact of_decide_eq_true this
theorem fnd_eq {l : List La} (hinc : Inc l) {q : Int} {k : Nat} (hk : k < l.length) (h : l[k].cl = q) : fndN l q = k :=
  fndN_at (Nat.le_of_lt hk) (fun i hi => by have := hinc i k hk hi; omega) (fun _ => by omega)
theorem bad_0 {w : Option La} {x : La} (h : bad26 w x = 0) : could x.cl x.tm = true ∧ rB x.r = true ∧ ∀ y, w = some y → y.cl < x.cl := by
  unfold bad26 at h
  split at h
  · rename_i hn
    refine ⟨hn.1, hn.2, fun y hy => ?_⟩
    subst hy
    dsimp only at h
    split at h
    · simp at h
    · omega
  · simp at h
theorem chkG_ok : ∀ (l : List La) (w : Option La) (k : Nat), (chkG w k l).1 = 0 → (∀ x ∈ l, could x.cl x.tm = true ∧ rB x.r = true) ∧ l.Pairwise (fun a b => a.cl < b.cl) ∧ ∀ y, w = some y → ∀ x ∈ l, y.cl < x.cl
  | [], w, k, h => ⟨fun x hx => absurd hx List.not_mem_nil, List.Pairwise.nil, fun y _ x hx => absurd hx List.not_mem_nil⟩
  | x :: r, w, k, h => by
    unfold chkG at h
    split at h
    · rename_i hb
      obtain ⟨b1, b2, b3⟩ := bad_0 hb
      obtain ⟨i1, i2, i3⟩ := chkG_ok r (some x) (k + 1) h
      refine ⟨fun y hy => ?_, List.Pairwise.cons (fun y hy => i3 x rfl y hy) i2, fun y hy z hz => ?_⟩
      · rcases List.mem_cons.1 hy with e | e
        · subst e; exact ⟨b1, b2⟩
        · exact i1 y e
      · rcases List.mem_cons.1 hz with e | e
        · subst e; exact b3 y hy
        · have := i3 x rfl z e; have := b3 y hy; omega
    · rename_i hb
      exact absurd h hb
theorem chkG_of : ∀ (l : List La) (w : Option La) (k : Nat), (∀ x ∈ l, could x.cl x.tm = true ∧ rB x.r = true) → l.Pairwise (fun a b => a.cl < b.cl) → (∀ y, w = some y → ∀ x ∈ l, y.cl < x.cl) → (chkG w k l).1 = 0
  | [], w, k, _, _, _ => rfl
  | x :: r, w, k, h1, h2, h3 => by
    have hb : bad26 w x = 0 := by
      unfold bad26
      rw [if_pos (h1 x (List.mem_cons_self ..))]
      cases w with
      | none => rfl
      | some y =>
        have := h3 y rfl x (List.mem_cons_self ..)
        dsimp only
        rw [if_neg (by omega)]
    unfold chkG
    rw [if_pos hb]
    rw [List.pairwise_cons] at h2
    exact chkG_of r (some x) (k + 1) (fun y hy => h1 y (List.mem_cons_of_mem _ hy)) h2.2 fun y hy z hz => by
      injection hy with hy; subst hy
      exact h2.1 z hz
theorem isL_iff {l : List La} : isL l = true ↔ (∀ x ∈ l, could x.cl x.tm = true ∧ rB x.r = true) ∧ l.Pairwise (fun a b => a.cl < b.cl) := by
  unfold isL chkL
  rw [decide_eq_true_eq]
  exact ⟨fun h => ⟨(chkG_ok l none 0 h).1, (chkG_ok l none 0 h).2.1⟩, fun h => chkG_of l none 0 h.1 h.2 fun y hy => by cases hy⟩
theorem isL_inc {l : List La} (h : isL l = true) : Inc l := fun i j hj hi => List.pairwise_iff_getElem.1 (isL_iff.1 h).2 i j (by omega) hj hi
theorem could_cl {c t : Int} (h : could c t = true) : 0 ≤ c ∧ c < 256 ∧ 1 ≤ t ∧ t ≤ 2147483647 := by
  unfold could at h
  simp only [Bool.and_eq_true, decide_eq_true_eq] at h
  exact ⟨h.1, h.2.1, h.2.2.1, h.2.2.2⟩
theorem inc_ge {l : List La} (hinc : Inc l) (h0 : ∀ x ∈ l, 0 ≤ x.cl) : ∀ (i : Nat) (hi : i < l.length), (i : Int) ≤ l[i].cl
  | 0, hi => h0 _ (List.getElem_mem hi)
  | i + 1, hi => by
    have := inc_ge hinc h0 i (by omega)
    have := hinc i (i + 1) hi (by omega)
    omega
theorem isL_len {l : List La} (h : isL l = true) : l.length ≤ 256 := by
  rcases Nat.lt_or_ge 256 l.length with q | q
  · exfalso
    have h1 := inc_ge (isL_inc h) (fun x hx => (could_cl ((isL_iff.1 h).1 x hx).1).1) 256 q
    have h2 := could_cl ((isL_iff.1 h).1 _ (List.getElem_mem q)).1
    omega
  · exact q
def thereB (l : List La) (q : Int) : Bool := match l[fndN l q]? with | some x => decide (x.cl = q) | none => false
theorem callV_1 {R : Type} {m d : Nat} {H : List AObj} {K : AV → List AObj → Option R} : callVE (sort_Search_env m) (CL (.func 55) 0 [OP 0 0, OP 1 0]) [nA d] H K = keepE (replies_find_1_t m [nA d, OP 0 0, OP 1 0] H) K := _root_.id rfl
theorem find_s (m : Nat) (l : List La) (q : Int) (hm : 300 < m) (hl : l.length ≤ 256) (hinc : Inc l) : replies_find m (lL l) (nA q) = some (TU [nA (fndN l q), bA (thereB l q)], []) := by
  rw [replies_find_eq, lL_def]
  have hS : sort_Search m (nA l.length) (CL (.func 55) 0 [OP 0 0, OP 1 0]) [⟨1, ty_sl_api_Last, 0, [SL (l.map laE)]⟩, ⟨1, ty_int, 0, [nA q]⟩] = some (nA (fndN l q), [⟨1, ty_sl_api_Last, 0, [SL (l.map laE)]⟩, ⟨1, ty_int, 0, [nA q]⟩]) := by
    rw [sort_Search_eq]
    refine iter_go (ι := {p : Nat × Nat // p.1 ≤ p.2 ∧ p.2 ≤ l.length ∧ (∀ (i : Nat) (h : i < l.length), i < p.1 → l[i].cl < q) ∧ (∀ (i : Nat) (h : i < l.length), p.2 ≤ i → q ≤ l[i].cl)}) (fun p => ⟨[⟨1, ty_sl_api_Last, 0, [SL (l.map laE)]⟩, ⟨1, ty_int, 0, [nA q]⟩], [(1, CL (.func 55) 0 [OP 0 0, OP 1 0]), (5, nA p.1.1), (6, nA p.1.2)]⟩) (fun p => p.1.2 - p.1.1) (fun _ => some (nA (fndN l q), ([⟨1, ty_sl_api_Last, 0, [SL (l.map laE)]⟩, ⟨1, ty_int, 0, [nA q]⟩] : List AObj))) ?_ ⟨(0, l.length), Nat.zero_le _, Nat.le_refl _, (by intro i h h2; omega), (by intro i h h2; dsimp only at h2; omega)⟩ (by dsimp only; omega)
    rintro kx hkx ⟨⟨lo, hi⟩, h1, h2, h3, h4⟩ kc hkc
    dsimp only at hkc h1 h2 h3 h4 ⊢
    rw [sort_Search_b1_eq]
    by_cases hlt : lo < hi
    · have hlt' : (lo : Int) < (hi : Int) := by omega
      obtain ⟨d, hd⟩ : ∃ d : Nat, d = (lo + hi) / 2 := ⟨_, rfl⟩
      have hdl : d < l.length := by omega
      have hdl' : (d : Int) < (l.length : Int) := by omega
      have hdd : ((lo : Int) + (hi : Int)) / 2 = (d : Int) := by omega
      have hw : IntKind.i64.wrap ((IntKind.u64.wrap ((lo : Int) + (hi : Int))).fdiv (2 ^ min 1 64)) = (d : Int) := by
        rw [w_u64 (by omega) (by omega), Int.fdiv_eq_ediv_of_nonneg _ (by decide)]
        show IntKind.i64.wrap (((lo : Int) + (hi : Int)) / 2) = _
        rw [hdd, w_i64 (by omega) (by omega)]
      have hF : replies_find_1_t m [nA d, OP 0 0, OP 1 0] [⟨1, ty_sl_api_Last, 0, [SL (l.map laE)]⟩, ⟨1, ty_int, 0, [nA q]⟩] = some (bA (decide (q ≤ l[d].cl)), [⟨1, ty_sl_api_Last, 0, [SL (l.map laE)]⟩, ⟨1, ty_int, 0, [nA q]⟩]) := by
        show replies_find_1 m _ _ _ _ = _
        rw [replies_find_1_eq]
        simp (config := {maxSteps := 4000000, implicitDefEqProofs := false}) (disch := omega) only [go_sem, ↓reduceIte, Nat.reduceAdd, Nat.reduceSub, Nat.reduceMul, Nat.reduceLeDiff, Nat.reduceLT, Int.reduceEq, Int.reduceNe, Int.reduceLT, Int.reduceLE, Int.reduceAdd, Int.reduceSub, Int.reduceMul, Int.reduceNeg, Nat.zero_add, Nat.add_zero, Nat.mul_one, Int.toNat_natCast, Int.natCast_zero, Int.cast_ofNat_Int, or_false, false_or, or_true, true_or, Int.reduceToNat, Nat.sub_zero, Int.natCast_nonneg, Int.toNat_zero, Bool.true_and, Bool.and_true, Bool.false_and, Bool.and_false, Bool.true_or, Bool.or_true, Bool.false_or, Bool.or_false, Bool.not_true, Bool.not_false, Bool.not_not, true_and, and_true, false_and, and_false, not_true_eq_false, not_false_eq_true, eq_self, decide_true, decide_false, ne_eq, implies_true, forall_const, true_implies, false_implies, Bool.true_eq_false, Bool.false_eq_true, reduceCtorEq, List.map_cons, List.map_nil, List.all_cons, List.all_nil, List.length_cons, List.length_nil, List.length_map, List.length_append, List.nil_append, List.cons_append, List.set_cons_zero, List.set_cons_succ, List.set_nil, List.drop_zero, List.drop_succ_cons, List.drop_nil, List.take_zero, List.take_succ_cons, List.take_nil, Option.map_some, Option.map_none, Option.isSome_some, Nat.reduceEqDiff, Nat.reduceBEq, Nat.reduceGT, List.all_append, List.all_map, Function.comp_def, decide_eq_true_eq, Bool.and_eq_true, beq_self_eq_true, or_self, and_self, ite_true, ite_false, Nat.le_refl, Bool.not_eq_true, decide_not, Bool.not_eq_true', decide_eq_false_iff_not, Bool.not_eq_false, Bool.or_eq_true, if_true, if_false, ite_self, natInt, u_nthM, la_it, hdl', la_len, la_cl]
      by_cases hq : q ≤ l[d].cl
      · have step := hkc ⟨(lo, d), by omega, by omega, h3, fun i h hi' => by
          rcases Nat.lt_or_ge d i with e | e
          · have := hinc d i h e; omega
          · have : i = d := by omega
            subst this; exact hq⟩ (by dsimp only; omega)
        simp (config := {maxSteps := 4000000, implicitDefEqProofs := false}) (disch := omega) only [go_sem, ↓reduceIte, Nat.reduceAdd, Nat.reduceSub, Nat.reduceMul, Nat.reduceLeDiff, Nat.reduceLT, Int.reduceEq, Int.reduceNe, Int.reduceLT, Int.reduceLE, Int.reduceAdd, Int.reduceSub, Int.reduceMul, Int.reduceNeg, Nat.zero_add, Nat.add_zero, Nat.mul_one, Int.toNat_natCast, Int.natCast_zero, Int.cast_ofNat_Int, or_false, false_or, or_true, true_or, Int.reduceToNat, Nat.sub_zero, Int.natCast_nonneg, Int.toNat_zero, Bool.true_and, Bool.and_true, Bool.false_and, Bool.and_false, Bool.true_or, Bool.or_true, Bool.false_or, Bool.or_false, Bool.not_true, Bool.not_false, Bool.not_not, true_and, and_true, false_and, and_false, not_true_eq_false, not_false_eq_true, eq_self, decide_true, decide_false, ne_eq, implies_true, forall_const, true_implies, false_implies, Bool.true_eq_false, Bool.false_eq_true, reduceCtorEq, List.map_cons, List.map_nil, List.all_cons, List.all_nil, List.length_cons, List.length_nil, List.length_map, List.length_append, List.nil_append, List.cons_append, List.set_cons_zero, List.set_cons_succ, List.set_nil, List.drop_zero, List.drop_succ_cons, List.drop_nil, List.take_zero, List.take_succ_cons, List.take_nil, Option.map_some, Option.map_none, Option.isSome_some, Nat.reduceEqDiff, Nat.reduceBEq, Nat.reduceGT, List.all_append, List.all_map, Function.comp_def, decide_eq_true_eq, Bool.and_eq_true, beq_self_eq_true, or_self, and_self, ite_true, ite_false, Nat.le_refl, Bool.not_eq_true, decide_not, Bool.not_eq_true', decide_eq_false_iff_not, Bool.not_eq_false, Bool.or_eq_true, if_true, if_false, ite_self, hlt', hw, w_i64, callV_1, hF, hq]
        exact step
      · have step := hkc ⟨(d + 1, hi), by omega, h2, (fun i h hi' => by
          rcases Nat.lt_or_ge i d with e | e
          · have := hinc i d hdl e; omega
          · have : i = d := by omega
            subst this; omega), h4⟩ (by dsimp only; omega)
        simp (config := {maxSteps := 4000000, implicitDefEqProofs := false}) (disch := omega) only [go_sem, ↓reduceIte, Nat.reduceAdd, Nat.reduceSub, Nat.reduceMul, Nat.reduceLeDiff, Nat.reduceLT, Int.reduceEq, Int.reduceNe, Int.reduceLT, Int.reduceLE, Int.reduceAdd, Int.reduceSub, Int.reduceMul, Int.reduceNeg, Nat.zero_add, Nat.add_zero, Nat.mul_one, Int.toNat_natCast, Int.natCast_zero, Int.cast_ofNat_Int, or_false, false_or, or_true, true_or, Int.reduceToNat, Nat.sub_zero, Int.natCast_nonneg, Int.toNat_zero, Bool.true_and, Bool.and_true, Bool.false_and, Bool.and_false, Bool.true_or, Bool.or_true, Bool.false_or, Bool.or_false, Bool.not_true, Bool.not_false, Bool.not_not, true_and, and_true, false_and, and_false, not_true_eq_false, not_false_eq_true, eq_self, decide_true, decide_false, ne_eq, implies_true, forall_const, true_implies, false_implies, Bool.true_eq_false, Bool.false_eq_true, reduceCtorEq, List.map_cons, List.map_nil, List.all_cons, List.all_nil, List.length_cons, List.length_nil, List.length_map, List.length_append, List.nil_append, List.cons_append, List.set_cons_zero, List.set_cons_succ, List.set_nil, List.drop_zero, List.drop_succ_cons, List.drop_nil, List.take_zero, List.take_succ_cons, List.take_nil, Option.map_some, Option.map_none, Option.isSome_some, Nat.reduceEqDiff, Nat.reduceBEq, Nat.reduceGT, List.all_append, List.all_map, Function.comp_def, decide_eq_true_eq, Bool.and_eq_true, beq_self_eq_true, or_self, and_self, ite_true, ite_false, Nat.le_refl, Bool.not_eq_true, decide_not, Bool.not_eq_true', decide_eq_false_iff_not, Bool.not_eq_false, Bool.or_eq_true, if_true, if_false, ite_self, hlt', hw, w_i64, callV_1, hF, hq]
        exact step
    · have hlt' : ¬ (lo : Int) < (hi : Int) := by omega
      have : lo = hi := by omega
      subst this
      have hf := fndN_at (q := q) h2 (fun i h => h3 i (by omega) h) (fun h => h4 lo h (Nat.le_refl _))
      rw [hf]
      simp (config := {maxSteps := 4000000, implicitDefEqProofs := false}) (disch := omega) only [go_sem, ↓reduceIte, Nat.reduceAdd, Nat.reduceSub, Nat.reduceMul, Nat.reduceLeDiff, Nat.reduceLT, Int.reduceEq, Int.reduceNe, Int.reduceLT, Int.reduceLE, Int.reduceAdd, Int.reduceSub, Int.reduceMul, Int.reduceNeg, Nat.zero_add, Nat.add_zero, Nat.mul_one, Int.toNat_natCast, Int.natCast_zero, Int.cast_ofNat_Int, or_false, false_or, or_true, true_or, Int.reduceToNat, Nat.sub_zero, Int.natCast_nonneg, Int.toNat_zero, Bool.true_and, Bool.and_true, Bool.false_and, Bool.and_false, Bool.true_or, Bool.or_true, Bool.false_or, Bool.or_false, Bool.not_true, Bool.not_false, Bool.not_not, true_and, and_true, false_and, and_false, not_true_eq_false, not_false_eq_true, eq_self, decide_true, decide_false, ne_eq, implies_true, forall_const, true_implies, false_implies, Bool.true_eq_false, Bool.false_eq_true, reduceCtorEq, List.map_cons, List.map_nil, List.all_cons, List.all_nil, List.length_cons, List.length_nil, List.length_map, List.length_append, List.nil_append, List.cons_append, List.set_cons_zero, List.set_cons_succ, List.set_nil, List.drop_zero, List.drop_succ_cons, List.drop_nil, List.take_zero, List.take_succ_cons, List.take_nil, Option.map_some, Option.map_none, Option.isSome_some, Nat.reduceEqDiff, Nat.reduceBEq, Nat.reduceGT, List.all_append, List.all_map, Function.comp_def, decide_eq_true_eq, Bool.and_eq_true, beq_self_eq_true, or_self, and_self, ite_true, ite_false, Nat.le_refl, Bool.not_eq_true, decide_not, Bool.not_eq_true', decide_eq_false_iff_not, Bool.not_eq_false, Bool.or_eq_true, if_true, if_false, ite_self, hlt', hkx, sort_Search_r1_eq]
  have hfl := fndN_le l q
  unfold thereB
  generalize fndN l q = p at hS hfl
  by_cases hp : p < l.length
  · have hp' : (p : Int) < (l.length : Int) := by omega
    rw [List.getElem?_eq_getElem hp]
    simp (config := {maxSteps := 4000000, implicitDefEqProofs := false}) (disch := omega) only [go_sem, ↓reduceIte, Nat.reduceAdd, Nat.reduceSub, Nat.reduceMul, Nat.reduceLeDiff, Nat.reduceLT, Int.reduceEq, Int.reduceNe, Int.reduceLT, Int.reduceLE, Int.reduceAdd, Int.reduceSub, Int.reduceMul, Int.reduceNeg, Nat.zero_add, Nat.add_zero, Nat.mul_one, Int.toNat_natCast, Int.natCast_zero, Int.cast_ofNat_Int, or_false, false_or, or_true, true_or, Int.reduceToNat, Nat.sub_zero, Int.natCast_nonneg, Int.toNat_zero, Bool.true_and, Bool.and_true, Bool.false_and, Bool.and_false, Bool.true_or, Bool.or_true, Bool.false_or, Bool.or_false, Bool.not_true, Bool.not_false, Bool.not_not, true_and, and_true, false_and, and_false, not_true_eq_false, not_false_eq_true, eq_self, decide_true, decide_false, ne_eq, implies_true, forall_const, true_implies, false_implies, Bool.true_eq_false, Bool.false_eq_true, reduceCtorEq, List.map_cons, List.map_nil, List.all_cons, List.all_nil, List.length_cons, List.length_nil, List.length_map, List.length_append, List.nil_append, List.cons_append, List.set_cons_zero, List.set_cons_succ, List.set_nil, List.drop_zero, List.drop_succ_cons, List.drop_nil, List.take_zero, List.take_succ_cons, List.take_nil, Option.map_some, Option.map_none, Option.isSome_some, Nat.reduceEqDiff, Nat.reduceBEq, Nat.reduceGT, List.all_append, List.all_map, Function.comp_def, decide_eq_true_eq, Bool.and_eq_true, beq_self_eq_true, or_self, and_self, ite_true, ite_false, Nat.le_refl, Bool.not_eq_true, decide_not, Bool.not_eq_true', decide_eq_false_iff_not, Bool.not_eq_false, Bool.or_eq_true, if_true, if_false, ite_self, la_it, la_len, la_sure, la_ltA, la_lt1, la_all1, la_ro, la_take, la_cl, la_tm, la_r, la_sl, rc_len, rc_sure, rc_ltA, rc_lt1, rc_all1, rc_ro, rc_take, rc_sl, la_set, rc_set, zcL_eq, zcR_eq, la_allA, la_len7, all_tt, natInt, u_nthM, hS, hp']
  · have hp' : ¬ (p : Int) < (l.length : Int) := by omega
    rw [List.getElem?_eq_none (by omega)]
    simp (config := {maxSteps := 4000000, implicitDefEqProofs := false}) (disch := omega) only [go_sem, ↓reduceIte, Nat.reduceAdd, Nat.reduceSub, Nat.reduceMul, Nat.reduceLeDiff, Nat.reduceLT, Int.reduceEq, Int.reduceNe, Int.reduceLT, Int.reduceLE, Int.reduceAdd, Int.reduceSub, Int.reduceMul, Int.reduceNeg, Nat.zero_add, Nat.add_zero, Nat.mul_one, Int.toNat_natCast, Int.natCast_zero, Int.cast_ofNat_Int, or_false, false_or, or_true, true_or, Int.reduceToNat, Nat.sub_zero, Int.natCast_nonneg, Int.toNat_zero, Bool.true_and, Bool.and_true, Bool.false_and, Bool.and_false, Bool.true_or, Bool.or_true, Bool.false_or, Bool.or_false, Bool.not_true, Bool.not_false, Bool.not_not, true_and, and_true, false_and, and_false, not_true_eq_false, not_false_eq_true, eq_self, decide_true, decide_false, ne_eq, implies_true, forall_const, true_implies, false_implies, Bool.true_eq_false, Bool.false_eq_true, reduceCtorEq, List.map_cons, List.map_nil, List.all_cons, List.all_nil, List.length_cons, List.length_nil, List.length_map, List.length_append, List.nil_append, List.cons_append, List.set_cons_zero, List.set_cons_succ, List.set_nil, List.drop_zero, List.drop_succ_cons, List.drop_nil, List.take_zero, List.take_succ_cons, List.take_nil, Option.map_some, Option.map_none, Option.isSome_some, Nat.reduceEqDiff, Nat.reduceBEq, Nat.reduceGT, List.all_append, List.all_map, Function.comp_def, decide_eq_true_eq, Bool.and_eq_true, beq_self_eq_true, or_self, and_self, ite_true, ite_false, Nat.le_refl, Bool.not_eq_true, decide_not, Bool.not_eq_true', decide_eq_false_iff_not, Bool.not_eq_false, Bool.or_eq_true, if_true, if_false, ite_self, la_it, la_len, la_sure, la_ltA, la_lt1, la_all1, la_ro, la_take, la_cl, la_tm, la_r, la_sl, rc_len, rc_sure, rc_ltA, rc_lt1, rc_all1, rc_ro, rc_take, rc_sl, la_set, rc_set, zcL_eq, zcR_eq, la_allA, la_len7, all_tt, natInt, u_nthM, hS, hp']
def askA (l : List La) (c t : Int) : Rs × Int := if isL l = true ∧ could c t = true then (match l[fndN l c]? with
  | some x => if x.cl = c then (if x.tm < t then (Rs.zero, 6) else if t < x.tm then (Rs.zero, 18) else (x.r, 0)) else (Rs.zero, 6)
  | none => (Rs.zero, 6)) else (Rs.zero, 1)
theorem ask_s (m : Nat) (l : List La) (c t : Int) (hm : 300 < m) (hlm : l.length < m) (hl : l.length ≤ 34359738367) (h : ∀ x ∈ l, x.r.In) : replies_Ask m (lL l) (nA c) (nA t) = some (TU [rA (askA l c t).1, nA (askA l c t).2], []) := by
  have hI := is_s m l hlm hl h
  have hC := could_s m c t
  rw [lL_def] at hI
  rw [replies_Ask_eq, lL_def]
  unfold askA
  cases hi : isL l with
  | false =>
    rw [hi] at hI
    simp (config := {maxSteps := 4000000, implicitDefEqProofs := false}) (disch := omega) only [go_sem, ↓reduceIte, Nat.reduceAdd, Nat.reduceSub, Nat.reduceMul, Nat.reduceLeDiff, Nat.reduceLT, Int.reduceEq, Int.reduceNe, Int.reduceLT, Int.reduceLE, Int.reduceAdd, Int.reduceSub, Int.reduceMul, Int.reduceNeg, Nat.zero_add, Nat.add_zero, Nat.mul_one, Int.toNat_natCast, Int.natCast_zero, Int.cast_ofNat_Int, or_false, false_or, or_true, true_or, Int.reduceToNat, Nat.sub_zero, Int.natCast_nonneg, Int.toNat_zero, Bool.true_and, Bool.and_true, Bool.false_and, Bool.and_false, Bool.true_or, Bool.or_true, Bool.false_or, Bool.or_false, Bool.not_true, Bool.not_false, Bool.not_not, true_and, and_true, false_and, and_false, not_true_eq_false, not_false_eq_true, eq_self, decide_true, decide_false, ne_eq, implies_true, forall_const, true_implies, false_implies, Bool.true_eq_false, Bool.false_eq_true, reduceCtorEq, List.map_cons, List.map_nil, List.all_cons, List.all_nil, List.length_cons, List.length_nil, List.length_map, List.length_append, List.nil_append, List.cons_append, List.set_cons_zero, List.set_cons_succ, List.set_nil, List.drop_zero, List.drop_succ_cons, List.drop_nil, List.take_zero, List.take_succ_cons, List.take_nil, Option.map_some, Option.map_none, Option.isSome_some, Nat.reduceEqDiff, Nat.reduceBEq, Nat.reduceGT, List.all_append, List.all_map, Function.comp_def, decide_eq_true_eq, Bool.and_eq_true, beq_self_eq_true, or_self, and_self, ite_true, ite_false, Nat.le_refl, Bool.not_eq_true, decide_not, Bool.not_eq_true', decide_eq_false_iff_not, Bool.not_eq_false, Bool.or_eq_true, if_true, if_false, ite_self, la_it, la_len, la_sure, la_ltA, la_lt1, la_all1, la_ro, la_take, la_cl, la_tm, la_r, la_sl, rc_len, rc_sure, rc_ltA, rc_lt1, rc_all1, rc_ro, rc_take, rc_sl, la_set, rc_set, zcL_eq, zcR_eq, la_allA, la_len7, all_tt, natInt, u_nthM, hI, rA_def, rc_b0, replies_Ask_r1_eq]
  | true =>
  rw [hi] at hI
  cases hc : could c t with
  | false =>
    rw [hc] at hC
    simp (config := {maxSteps := 4000000, implicitDefEqProofs := false}) (disch := omega) only [go_sem, ↓reduceIte, Nat.reduceAdd, Nat.reduceSub, Nat.reduceMul, Nat.reduceLeDiff, Nat.reduceLT, Int.reduceEq, Int.reduceNe, Int.reduceLT, Int.reduceLE, Int.reduceAdd, Int.reduceSub, Int.reduceMul, Int.reduceNeg, Nat.zero_add, Nat.add_zero, Nat.mul_one, Int.toNat_natCast, Int.natCast_zero, Int.cast_ofNat_Int, or_false, false_or, or_true, true_or, Int.reduceToNat, Nat.sub_zero, Int.natCast_nonneg, Int.toNat_zero, Bool.true_and, Bool.and_true, Bool.false_and, Bool.and_false, Bool.true_or, Bool.or_true, Bool.false_or, Bool.or_false, Bool.not_true, Bool.not_false, Bool.not_not, true_and, and_true, false_and, and_false, not_true_eq_false, not_false_eq_true, eq_self, decide_true, decide_false, ne_eq, implies_true, forall_const, true_implies, false_implies, Bool.true_eq_false, Bool.false_eq_true, reduceCtorEq, List.map_cons, List.map_nil, List.all_cons, List.all_nil, List.length_cons, List.length_nil, List.length_map, List.length_append, List.nil_append, List.cons_append, List.set_cons_zero, List.set_cons_succ, List.set_nil, List.drop_zero, List.drop_succ_cons, List.drop_nil, List.take_zero, List.take_succ_cons, List.take_nil, Option.map_some, Option.map_none, Option.isSome_some, Nat.reduceEqDiff, Nat.reduceBEq, Nat.reduceGT, List.all_append, List.all_map, Function.comp_def, decide_eq_true_eq, Bool.and_eq_true, beq_self_eq_true, or_self, and_self, ite_true, ite_false, Nat.le_refl, Bool.not_eq_true, decide_not, Bool.not_eq_true', decide_eq_false_iff_not, Bool.not_eq_false, Bool.or_eq_true, if_true, if_false, ite_self, la_it, la_len, la_sure, la_ltA, la_lt1, la_all1, la_ro, la_take, la_cl, la_tm, la_r, la_sl, rc_len, rc_sure, rc_ltA, rc_lt1, rc_all1, rc_ro, rc_take, rc_sl, la_set, rc_set, zcL_eq, zcR_eq, la_allA, la_len7, all_tt, natInt, u_nthM, hI, hC, rA_def, rc_b0, replies_Ask_r1_eq]
  | true =>
  rw [hc] at hC
  have h8 := isL_len hi
  have hF := find_s m l c hm h8 (isL_inc hi)
  rw [lL_def] at hF
  have hfl := fndN_le l c
  unfold thereB at hF
  generalize fndN l c = p at hF hfl
  by_cases hp : p < l.length
  · have hp' : (p : Int) < (l.length : Int) := by omega
    rw [List.getElem?_eq_getElem hp] at hF ⊢
    dsimp only at hF ⊢
    by_cases hx : l[p].cl = c
    · by_cases h1 : l[p].tm < t
      · simp (config := {maxSteps := 4000000, implicitDefEqProofs := false}) (disch := omega) only [go_sem, ↓reduceIte, Nat.reduceAdd, Nat.reduceSub, Nat.reduceMul, Nat.reduceLeDiff, Nat.reduceLT, Int.reduceEq, Int.reduceNe, Int.reduceLT, Int.reduceLE, Int.reduceAdd, Int.reduceSub, Int.reduceMul, Int.reduceNeg, Nat.zero_add, Nat.add_zero, Nat.mul_one, Int.toNat_natCast, Int.natCast_zero, Int.cast_ofNat_Int, or_false, false_or, or_true, true_or, Int.reduceToNat, Nat.sub_zero, Int.natCast_nonneg, Int.toNat_zero, Bool.true_and, Bool.and_true, Bool.false_and, Bool.and_false, Bool.true_or, Bool.or_true, Bool.false_or, Bool.or_false, Bool.not_true, Bool.not_false, Bool.not_not, true_and, and_true, false_and, and_false, not_true_eq_false, not_false_eq_true, eq_self, decide_true, decide_false, ne_eq, implies_true, forall_const, true_implies, false_implies, Bool.true_eq_false, Bool.false_eq_true, reduceCtorEq, List.map_cons, List.map_nil, List.all_cons, List.all_nil, List.length_cons, List.length_nil, List.length_map, List.length_append, List.nil_append, List.cons_append, List.set_cons_zero, List.set_cons_succ, List.set_nil, List.drop_zero, List.drop_succ_cons, List.drop_nil, List.take_zero, List.take_succ_cons, List.take_nil, Option.map_some, Option.map_none, Option.isSome_some, Nat.reduceEqDiff, Nat.reduceBEq, Nat.reduceGT, List.all_append, List.all_map, Function.comp_def, decide_eq_true_eq, Bool.and_eq_true, beq_self_eq_true, or_self, and_self, ite_true, ite_false, Nat.le_refl, Bool.not_eq_true, decide_not, Bool.not_eq_true', decide_eq_false_iff_not, Bool.not_eq_false, Bool.or_eq_true, if_true, if_false, ite_self, la_it, la_len, la_sure, la_ltA, la_lt1, la_all1, la_ro, la_take, la_cl, la_tm, la_r, la_sl, rc_len, rc_sure, rc_ltA, rc_lt1, rc_all1, rc_ro, rc_take, rc_sl, la_set, rc_set, zcL_eq, zcR_eq, la_allA, la_len7, all_tt, natInt, u_nthM, hI, hC, hF, hp', hx, h1, rA_def, rc_b0, replies_Ask_r4_eq, replies_Ask_r3_eq, replies_Ask_r2_eq, replies_Ask_r1_eq]
      · by_cases h2 : t < l[p].tm
        · simp (config := {maxSteps := 4000000, implicitDefEqProofs := false}) (disch := omega) only [go_sem, ↓reduceIte, Nat.reduceAdd, Nat.reduceSub, Nat.reduceMul, Nat.reduceLeDiff, Nat.reduceLT, Int.reduceEq, Int.reduceNe, Int.reduceLT, Int.reduceLE, Int.reduceAdd, Int.reduceSub, Int.reduceMul, Int.reduceNeg, Nat.zero_add, Nat.add_zero, Nat.mul_one, Int.toNat_natCast, Int.natCast_zero, Int.cast_ofNat_Int, or_false, false_or, or_true, true_or, Int.reduceToNat, Nat.sub_zero, Int.natCast_nonneg, Int.toNat_zero, Bool.true_and, Bool.and_true, Bool.false_and, Bool.and_false, Bool.true_or, Bool.or_true, Bool.false_or, Bool.or_false, Bool.not_true, Bool.not_false, Bool.not_not, true_and, and_true, false_and, and_false, not_true_eq_false, not_false_eq_true, eq_self, decide_true, decide_false, ne_eq, implies_true, forall_const, true_implies, false_implies, Bool.true_eq_false, Bool.false_eq_true, reduceCtorEq, List.map_cons, List.map_nil, List.all_cons, List.all_nil, List.length_cons, List.length_nil, List.length_map, List.length_append, List.nil_append, List.cons_append, List.set_cons_zero, List.set_cons_succ, List.set_nil, List.drop_zero, List.drop_succ_cons, List.drop_nil, List.take_zero, List.take_succ_cons, List.take_nil, Option.map_some, Option.map_none, Option.isSome_some, Nat.reduceEqDiff, Nat.reduceBEq, Nat.reduceGT, List.all_append, List.all_map, Function.comp_def, decide_eq_true_eq, Bool.and_eq_true, beq_self_eq_true, or_self, and_self, ite_true, ite_false, Nat.le_refl, Bool.not_eq_true, decide_not, Bool.not_eq_true', decide_eq_false_iff_not, Bool.not_eq_false, Bool.or_eq_true, if_true, if_false, ite_self, la_it, la_len, la_sure, la_ltA, la_lt1, la_all1, la_ro, la_take, la_cl, la_tm, la_r, la_sl, rc_len, rc_sure, rc_ltA, rc_lt1, rc_all1, rc_ro, rc_take, rc_sl, la_set, rc_set, zcL_eq, zcR_eq, la_allA, la_len7, all_tt, natInt, u_nthM, hI, hC, hF, hp', hx, h1, h2, rA_def, rc_b0, replies_Ask_r4_eq, replies_Ask_r3_eq, replies_Ask_r2_eq, replies_Ask_r1_eq]
        · simp (config := {maxSteps := 4000000, implicitDefEqProofs := false}) (disch := omega) only [go_sem, ↓reduceIte, Nat.reduceAdd, Nat.reduceSub, Nat.reduceMul, Nat.reduceLeDiff, Nat.reduceLT, Int.reduceEq, Int.reduceNe, Int.reduceLT, Int.reduceLE, Int.reduceAdd, Int.reduceSub, Int.reduceMul, Int.reduceNeg, Nat.zero_add, Nat.add_zero, Nat.mul_one, Int.toNat_natCast, Int.natCast_zero, Int.cast_ofNat_Int, or_false, false_or, or_true, true_or, Int.reduceToNat, Nat.sub_zero, Int.natCast_nonneg, Int.toNat_zero, Bool.true_and, Bool.and_true, Bool.false_and, Bool.and_false, Bool.true_or, Bool.or_true, Bool.false_or, Bool.or_false, Bool.not_true, Bool.not_false, Bool.not_not, true_and, and_true, false_and, and_false, not_true_eq_false, not_false_eq_true, eq_self, decide_true, decide_false, ne_eq, implies_true, forall_const, true_implies, false_implies, Bool.true_eq_false, Bool.false_eq_true, reduceCtorEq, List.map_cons, List.map_nil, List.all_cons, List.all_nil, List.length_cons, List.length_nil, List.length_map, List.length_append, List.nil_append, List.cons_append, List.set_cons_zero, List.set_cons_succ, List.set_nil, List.drop_zero, List.drop_succ_cons, List.drop_nil, List.take_zero, List.take_succ_cons, List.take_nil, Option.map_some, Option.map_none, Option.isSome_some, Nat.reduceEqDiff, Nat.reduceBEq, Nat.reduceGT, List.all_append, List.all_map, Function.comp_def, decide_eq_true_eq, Bool.and_eq_true, beq_self_eq_true, or_self, and_self, ite_true, ite_false, Nat.le_refl, Bool.not_eq_true, decide_not, Bool.not_eq_true', decide_eq_false_iff_not, Bool.not_eq_false, Bool.or_eq_true, if_true, if_false, ite_self, la_it, la_len, la_sure, la_ltA, la_lt1, la_all1, la_ro, la_take, la_cl, la_tm, la_r, la_sl, rc_len, rc_sure, rc_ltA, rc_lt1, rc_all1, rc_ro, rc_take, rc_sl, la_set, rc_set, zcL_eq, zcR_eq, la_allA, la_len7, all_tt, natInt, u_nthM, hI, hC, hF, hp', hx, h1, h2, rA_def, rc_b0, replies_Ask_r4_eq, replies_Ask_r3_eq, replies_Ask_r2_eq, replies_Ask_r1_eq]
    · simp (config := {maxSteps := 4000000, implicitDefEqProofs := false}) (disch := omega) only [go_sem, ↓reduceIte, Nat.reduceAdd, Nat.reduceSub, Nat.reduceMul, Nat.reduceLeDiff, Nat.reduceLT, Int.reduceEq, Int.reduceNe, Int.reduceLT, Int.reduceLE, Int.reduceAdd, Int.reduceSub, Int.reduceMul, Int.reduceNeg, Nat.zero_add, Nat.add_zero, Nat.mul_one, Int.toNat_natCast, Int.natCast_zero, Int.cast_ofNat_Int, or_false, false_or, or_true, true_or, Int.reduceToNat, Nat.sub_zero, Int.natCast_nonneg, Int.toNat_zero, Bool.true_and, Bool.and_true, Bool.false_and, Bool.and_false, Bool.true_or, Bool.or_true, Bool.false_or, Bool.or_false, Bool.not_true, Bool.not_false, Bool.not_not, true_and, and_true, false_and, and_false, not_true_eq_false, not_false_eq_true, eq_self, decide_true, decide_false, ne_eq, implies_true, forall_const, true_implies, false_implies, Bool.true_eq_false, Bool.false_eq_true, reduceCtorEq, List.map_cons, List.map_nil, List.all_cons, List.all_nil, List.length_cons, List.length_nil, List.length_map, List.length_append, List.nil_append, List.cons_append, List.set_cons_zero, List.set_cons_succ, List.set_nil, List.drop_zero, List.drop_succ_cons, List.drop_nil, List.take_zero, List.take_succ_cons, List.take_nil, Option.map_some, Option.map_none, Option.isSome_some, Nat.reduceEqDiff, Nat.reduceBEq, Nat.reduceGT, List.all_append, List.all_map, Function.comp_def, decide_eq_true_eq, Bool.and_eq_true, beq_self_eq_true, or_self, and_self, ite_true, ite_false, Nat.le_refl, Bool.not_eq_true, decide_not, Bool.not_eq_true', decide_eq_false_iff_not, Bool.not_eq_false, Bool.or_eq_true, if_true, if_false, ite_self, la_it, la_len, la_sure, la_ltA, la_lt1, la_all1, la_ro, la_take, la_cl, la_tm, la_r, la_sl, rc_len, rc_sure, rc_ltA, rc_lt1, rc_all1, rc_ro, rc_take, rc_sl, la_set, rc_set, zcL_eq, zcR_eq, la_allA, la_len7, all_tt, natInt, u_nthM, hI, hC, hF, hp', hx, rA_def, rc_b0, replies_Ask_r4_eq, replies_Ask_r3_eq, replies_Ask_r2_eq, replies_Ask_r1_eq]
  · have hp' : ¬ (p : Int) < (l.length : Int) := by omega
    rw [List.getElem?_eq_none (by omega)] at hF ⊢
    dsimp only at hF ⊢
    simp (config := {maxSteps := 4000000, implicitDefEqProofs := false}) (disch := omega) only [go_sem, ↓reduceIte, Nat.reduceAdd, Nat.reduceSub, Nat.reduceMul, Nat.reduceLeDiff, Nat.reduceLT, Int.reduceEq, Int.reduceNe, Int.reduceLT, Int.reduceLE, Int.reduceAdd, Int.reduceSub, Int.reduceMul, Int.reduceNeg, Nat.zero_add, Nat.add_zero, Nat.mul_one, Int.toNat_natCast, Int.natCast_zero, Int.cast_ofNat_Int, or_false, false_or, or_true, true_or, Int.reduceToNat, Nat.sub_zero, Int.natCast_nonneg, Int.toNat_zero, Bool.true_and, Bool.and_true, Bool.false_and, Bool.and_false, Bool.true_or, Bool.or_true, Bool.false_or, Bool.or_false, Bool.not_true, Bool.not_false, Bool.not_not, true_and, and_true, false_and, and_false, not_true_eq_false, not_false_eq_true, eq_self, decide_true, decide_false, ne_eq, implies_true, forall_const, true_implies, false_implies, Bool.true_eq_false, Bool.false_eq_true, reduceCtorEq, List.map_cons, List.map_nil, List.all_cons, List.all_nil, List.length_cons, List.length_nil, List.length_map, List.length_append, List.nil_append, List.cons_append, List.set_cons_zero, List.set_cons_succ, List.set_nil, List.drop_zero, List.drop_succ_cons, List.drop_nil, List.take_zero, List.take_succ_cons, List.take_nil, Option.map_some, Option.map_none, Option.isSome_some, Nat.reduceEqDiff, Nat.reduceBEq, Nat.reduceGT, List.all_append, List.all_map, Function.comp_def, decide_eq_true_eq, Bool.and_eq_true, beq_self_eq_true, or_self, and_self, ite_true, ite_false, Nat.le_refl, Bool.not_eq_true, decide_not, Bool.not_eq_true', decide_eq_false_iff_not, Bool.not_eq_false, Bool.or_eq_true, if_true, if_false, ite_self, la_it, la_len, la_sure, la_ltA, la_lt1, la_all1, la_ro, la_take, la_cl, la_tm, la_r, la_sl, rc_len, rc_sure, rc_ltA, rc_lt1, rc_all1, rc_ro, rc_take, rc_sl, la_set, rc_set, zcL_eq, zcR_eq, la_allA, la_len7, all_tt, natInt, u_nthM, hI, hC, hF, rA_def, rc_b0, replies_Ask_r4_eq, replies_Ask_r3_eq, replies_Ask_r2_eq, replies_Ask_r1_eq]
theorem rask_fin (s : ASt) : plenumref26_Ask_fin .ret s = loadE 7 s.H (gt s.T 6) fun d => tellK s.H (ro s.H (oneOf [d, gt s.T 7])) := by kernel_rfl
theorem rask_s (m : Nat) (l : List La) (c t : Int) (hm : 300 < m) (hlm : l.length < m) (hl : l.length ≤ 34359738367) : plenumref26_Ask m (lL l) (nA c) (nA t) = some (TU [rA (askA l c t).1, nA (askA l c t).2], []) := by
  have hI := ris_s m l hlm hl
  have hC := rcould_s m c t
  rw [lL_def] at hI
  rw [plenumref26_Ask_eq, lL_def]
  cases hi : isL l with
  | false =>
    have he : askA l c t = (Rs.zero, 1) := by unfold askA; rw [hi]; simp
    rw [hi] at hI
    rw [he]
    simp (config := {maxSteps := 4000000, implicitDefEqProofs := false}) (disch := omega) only [go_sem, ↓reduceIte, Nat.reduceAdd, Nat.reduceSub, Nat.reduceMul, Nat.reduceLeDiff, Nat.reduceLT, Int.reduceEq, Int.reduceNe, Int.reduceLT, Int.reduceLE, Int.reduceAdd, Int.reduceSub, Int.reduceMul, Int.reduceNeg, Nat.zero_add, Nat.add_zero, Nat.mul_one, Int.toNat_natCast, Int.natCast_zero, Int.cast_ofNat_Int, or_false, false_or, or_true, true_or, Int.reduceToNat, Nat.sub_zero, Int.natCast_nonneg, Int.toNat_zero, Bool.true_and, Bool.and_true, Bool.false_and, Bool.and_false, Bool.true_or, Bool.or_true, Bool.false_or, Bool.or_false, Bool.not_true, Bool.not_false, Bool.not_not, true_and, and_true, false_and, and_false, not_true_eq_false, not_false_eq_true, eq_self, decide_true, decide_false, ne_eq, implies_true, forall_const, true_implies, false_implies, Bool.true_eq_false, Bool.false_eq_true, reduceCtorEq, List.map_cons, List.map_nil, List.all_cons, List.all_nil, List.length_cons, List.length_nil, List.length_map, List.length_append, List.nil_append, List.cons_append, List.set_cons_zero, List.set_cons_succ, List.set_nil, List.drop_zero, List.drop_succ_cons, List.drop_nil, List.take_zero, List.take_succ_cons, List.take_nil, Option.map_some, Option.map_none, Option.isSome_some, Nat.reduceEqDiff, Nat.reduceBEq, Nat.reduceGT, List.all_append, List.all_map, Function.comp_def, decide_eq_true_eq, Bool.and_eq_true, beq_self_eq_true, or_self, and_self, ite_true, ite_false, Nat.le_refl, Bool.not_eq_true, decide_not, Bool.not_eq_true', decide_eq_false_iff_not, Bool.not_eq_false, Bool.or_eq_true, if_true, if_false, ite_self, la_it, la_len, la_sure, la_ltA, la_lt1, la_all1, la_ro, la_take, la_cl, la_tm, la_r, la_sl, rc_len, rc_sure, rc_ltA, rc_lt1, rc_all1, rc_ro, rc_take, rc_sl, la_set, rc_set, zcL_eq, zcR_eq, la_allA, la_len7, all_tt, natInt, u_nthM, hI, rA_def, rc_b0, plenumref26_Ask_r1_eq]
  | true =>
  rw [hi] at hI
  cases hc : could c t with
  | false =>
    have he : askA l c t = (Rs.zero, 1) := by unfold askA; rw [hc]; simp
    rw [hc] at hC
    rw [he]
    simp (config := {maxSteps := 4000000, implicitDefEqProofs := false}) (disch := omega) only [go_sem, ↓reduceIte, Nat.reduceAdd, Nat.reduceSub, Nat.reduceMul, Nat.reduceLeDiff, Nat.reduceLT, Int.reduceEq, Int.reduceNe, Int.reduceLT, Int.reduceLE, Int.reduceAdd, Int.reduceSub, Int.reduceMul, Int.reduceNeg, Nat.zero_add, Nat.add_zero, Nat.mul_one, Int.toNat_natCast, Int.natCast_zero, Int.cast_ofNat_Int, or_false, false_or, or_true, true_or, Int.reduceToNat, Nat.sub_zero, Int.natCast_nonneg, Int.toNat_zero, Bool.true_and, Bool.and_true, Bool.false_and, Bool.and_false, Bool.true_or, Bool.or_true, Bool.false_or, Bool.or_false, Bool.not_true, Bool.not_false, Bool.not_not, true_and, and_true, false_and, and_false, not_true_eq_false, not_false_eq_true, eq_self, decide_true, decide_false, ne_eq, implies_true, forall_const, true_implies, false_implies, Bool.true_eq_false, Bool.false_eq_true, reduceCtorEq, List.map_cons, List.map_nil, List.all_cons, List.all_nil, List.length_cons, List.length_nil, List.length_map, List.length_append, List.nil_append, List.cons_append, List.set_cons_zero, List.set_cons_succ, List.set_nil, List.drop_zero, List.drop_succ_cons, List.drop_nil, List.take_zero, List.take_succ_cons, List.take_nil, Option.map_some, Option.map_none, Option.isSome_some, Nat.reduceEqDiff, Nat.reduceBEq, Nat.reduceGT, List.all_append, List.all_map, Function.comp_def, decide_eq_true_eq, Bool.and_eq_true, beq_self_eq_true, or_self, and_self, ite_true, ite_false, Nat.le_refl, Bool.not_eq_true, decide_not, Bool.not_eq_true', decide_eq_false_iff_not, Bool.not_eq_false, Bool.or_eq_true, if_true, if_false, ite_self, la_it, la_len, la_sure, la_ltA, la_lt1, la_all1, la_ro, la_take, la_cl, la_tm, la_r, la_sl, rc_len, rc_sure, rc_ltA, rc_lt1, rc_all1, rc_ro, rc_take, rc_sl, la_set, rc_set, zcL_eq, zcR_eq, la_allA, la_len7, all_tt, natInt, u_nthM, hI, hC, rA_def, rc_b0, plenumref26_Ask_r1_eq]
  | true =>
  rw [hc] at hC
  have hinc := isL_inc hi
  generalize hR : askA l c t = R
  have hA : R = (match l[fndN l c]? with
    | some x => if x.cl = c then (if x.tm < t then (Rs.zero, 6) else if t < x.tm then (Rs.zero, 18) else (x.r, 0)) else (Rs.zero, 6)
    | none => (Rs.zero, 6)) := by rw [← hR]; unfold askA; rw [if_pos ⟨hi, hc⟩]
  have hat : ∀ (k : Nat) (hk : k < l.length), l[k].cl = c → R = if l[k].tm < t then (Rs.zero, 6) else if t < l[k].tm then (Rs.zero, 18) else (l[k].r, 0) := by
    intro k hk e
    rw [hA, fnd_eq hinc hk e, List.getElem?_eq_getElem hk]
    dsimp only
    rw [if_pos e]
  have hno : (∀ (k : Nat) (hk : k < l.length), l[k].cl = c → l[k].tm < t) → R = (Rs.zero, 6) := by
    intro h
    rcases Nat.lt_or_ge (fndN l c) l.length with q | q
    · by_cases e : l[fndN l c].cl = c
      · have h1 := hat _ q e
        rw [if_pos (h _ q e)] at h1
        exact h1
      · rw [hA, List.getElem?_eq_getElem q]
        dsimp only
        rw [if_neg e]
    · rw [hA, List.getElem?_eq_none q]
  obtain ⟨R1, R2⟩ := R
  simp (config := {maxSteps := 4000000, implicitDefEqProofs := false}) (disch := omega) only [go_sem, ↓reduceIte, Nat.reduceAdd, Nat.reduceSub, Nat.reduceMul, Nat.reduceLeDiff, Nat.reduceLT, Int.reduceEq, Int.reduceNe, Int.reduceLT, Int.reduceLE, Int.reduceAdd, Int.reduceSub, Int.reduceMul, Int.reduceNeg, Nat.zero_add, Nat.add_zero, Nat.mul_one, Int.toNat_natCast, Int.natCast_zero, Int.cast_ofNat_Int, or_false, false_or, or_true, true_or, Int.reduceToNat, Nat.sub_zero, Int.natCast_nonneg, Int.toNat_zero, Bool.true_and, Bool.and_true, Bool.false_and, Bool.and_false, Bool.true_or, Bool.or_true, Bool.false_or, Bool.or_false, Bool.not_true, Bool.not_false, Bool.not_not, true_and, and_true, false_and, and_false, not_true_eq_false, not_false_eq_true, eq_self, decide_true, decide_false, ne_eq, implies_true, forall_const, true_implies, false_implies, Bool.true_eq_false, Bool.false_eq_true, reduceCtorEq, List.map_cons, List.map_nil, List.all_cons, List.all_nil, List.length_cons, List.length_nil, List.length_map, List.length_append, List.nil_append, List.cons_append, List.set_cons_zero, List.set_cons_succ, List.set_nil, List.drop_zero, List.drop_succ_cons, List.drop_nil, List.take_zero, List.take_succ_cons, List.take_nil, Option.map_some, Option.map_none, Option.isSome_some, Nat.reduceEqDiff, Nat.reduceBEq, Nat.reduceGT, List.all_append, List.all_map, Function.comp_def, decide_eq_true_eq, Bool.and_eq_true, beq_self_eq_true, or_self, and_self, ite_true, ite_false, Nat.le_refl, Bool.not_eq_true, decide_not, Bool.not_eq_true', decide_eq_false_iff_not, Bool.not_eq_false, Bool.or_eq_true, if_true, if_false, ite_self, la_it, la_len, la_sure, la_ltA, la_lt1, la_all1, la_ro, la_take, la_cl, la_tm, la_r, la_sl, rc_len, rc_sure, rc_ltA, rc_lt1, rc_all1, rc_ro, rc_take, rc_sl, la_set, rc_set, zcL_eq, zcR_eq, la_allA, la_len7, all_tt, natInt, u_nthM, hI, hC, rA_def, plenumref26_Ask_r1_eq, plenumref26_Ask_r2_eq]
  refine iter_go (ι := {k : Nat // k ≤ l.length ∧ ∀ (i : Nat) (hi : i < l.length), i < k → l[i].cl = c → l[i].tm < t}) (fun k => ⟨[⟨1, ty_api_Result, 0, rC Rs.zero⟩], [(0, SL (l.map laE)), (1, nA c), (2, nA t), (6, OP 0 0), (8, nA k.1)]⟩) (fun k => l.length - k.1) (fun _ => some (TU [.agg (rC R1), nA R2], [])) ?_ ⟨0, Nat.zero_le _, fun i _ h => by omega⟩ (by dsimp only; omega)
  rintro kx hkx ⟨k, hk, hall⟩ kc hkc
  dsimp only at hkc ⊢
  rw [plenumref26_Ask_b1_eq]
  by_cases hlt : k < l.length
  · have hlt' : (k : Int) < (l.length : Int) := by omega
    by_cases hx : l[k].cl = c
    · have hat := hat k hlt hx
      by_cases h1 : l[k].tm = t
      · rw [if_neg (by omega), if_neg (by omega)] at hat
        injection hat with q1 q2
        subst q1 q2
        simp (config := {maxSteps := 4000000, implicitDefEqProofs := false}) (disch := omega) only [go_sem, ↓reduceIte, Nat.reduceAdd, Nat.reduceSub, Nat.reduceMul, Nat.reduceLeDiff, Nat.reduceLT, Int.reduceEq, Int.reduceNe, Int.reduceLT, Int.reduceLE, Int.reduceAdd, Int.reduceSub, Int.reduceMul, Int.reduceNeg, Nat.zero_add, Nat.add_zero, Nat.mul_one, Int.toNat_natCast, Int.natCast_zero, Int.cast_ofNat_Int, or_false, false_or, or_true, true_or, Int.reduceToNat, Nat.sub_zero, Int.natCast_nonneg, Int.toNat_zero, Bool.true_and, Bool.and_true, Bool.false_and, Bool.and_false, Bool.true_or, Bool.or_true, Bool.false_or, Bool.or_false, Bool.not_true, Bool.not_false, Bool.not_not, true_and, and_true, false_and, and_false, not_true_eq_false, not_false_eq_true, eq_self, decide_true, decide_false, ne_eq, implies_true, forall_const, true_implies, false_implies, Bool.true_eq_false, Bool.false_eq_true, reduceCtorEq, List.map_cons, List.map_nil, List.all_cons, List.all_nil, List.length_cons, List.length_nil, List.length_map, List.length_append, List.nil_append, List.cons_append, List.set_cons_zero, List.set_cons_succ, List.set_nil, List.drop_zero, List.drop_succ_cons, List.drop_nil, List.take_zero, List.take_succ_cons, List.take_nil, Option.map_some, Option.map_none, Option.isSome_some, Nat.reduceEqDiff, Nat.reduceBEq, Nat.reduceGT, List.all_append, List.all_map, Function.comp_def, decide_eq_true_eq, Bool.and_eq_true, beq_self_eq_true, or_self, and_self, ite_true, ite_false, Nat.le_refl, Bool.not_eq_true, decide_not, Bool.not_eq_true', decide_eq_false_iff_not, Bool.not_eq_false, Bool.or_eq_true, if_true, if_false, ite_self, la_it, la_len, la_sure, la_ltA, la_lt1, la_all1, la_ro, la_take, la_cl, la_tm, la_r, la_sl, rc_len, rc_sure, rc_ltA, rc_lt1, rc_all1, rc_ro, rc_take, rc_sl, la_set, rc_set, zcL_eq, zcR_eq, la_allA, la_len7, all_tt, natInt, u_nthM, hlt', hx, h1, hkx, plenumref26_Ask_r4_eq]
        refine (rask_fin _).trans ?_
        simp (config := {maxSteps := 4000000, implicitDefEqProofs := false}) (disch := omega) only [go_sem, ↓reduceIte, Nat.reduceAdd, Nat.reduceSub, Nat.reduceMul, Nat.reduceLeDiff, Nat.reduceLT, Int.reduceEq, Int.reduceNe, Int.reduceLT, Int.reduceLE, Int.reduceAdd, Int.reduceSub, Int.reduceMul, Int.reduceNeg, Nat.zero_add, Nat.add_zero, Nat.mul_one, Int.toNat_natCast, Int.natCast_zero, Int.cast_ofNat_Int, or_false, false_or, or_true, true_or, Int.reduceToNat, Nat.sub_zero, Int.natCast_nonneg, Int.toNat_zero, Bool.true_and, Bool.and_true, Bool.false_and, Bool.and_false, Bool.true_or, Bool.or_true, Bool.false_or, Bool.or_false, Bool.not_true, Bool.not_false, Bool.not_not, true_and, and_true, false_and, and_false, not_true_eq_false, not_false_eq_true, eq_self, decide_true, decide_false, ne_eq, implies_true, forall_const, true_implies, false_implies, Bool.true_eq_false, Bool.false_eq_true, reduceCtorEq, List.map_cons, List.map_nil, List.all_cons, List.all_nil, List.length_cons, List.length_nil, List.length_map, List.length_append, List.nil_append, List.cons_append, List.set_cons_zero, List.set_cons_succ, List.set_nil, List.drop_zero, List.drop_succ_cons, List.drop_nil, List.take_zero, List.take_succ_cons, List.take_nil, Option.map_some, Option.map_none, Option.isSome_some, Nat.reduceEqDiff, Nat.reduceBEq, Nat.reduceGT, List.all_append, List.all_map, Function.comp_def, decide_eq_true_eq, Bool.and_eq_true, beq_self_eq_true, or_self, and_self, ite_true, ite_false, Nat.le_refl, Bool.not_eq_true, decide_not, Bool.not_eq_true', decide_eq_false_iff_not, Bool.not_eq_false, Bool.or_eq_true, if_true, if_false, ite_self, la_it, la_len, la_sure, la_ltA, la_lt1, la_all1, la_ro, la_take, la_cl, la_tm, la_r, la_sl, rc_len, rc_sure, rc_ltA, rc_lt1, rc_all1, rc_ro, rc_take, rc_sl, la_set, rc_set, zcL_eq, zcR_eq, la_allA, la_len7, all_tt, natInt, u_nthM, gt_eq, oneOf]
      · by_cases h2 : t < l[k].tm
        · rw [if_neg (by omega), if_pos h2] at hat
          injection hat with q1 q2
          subst q1 q2
          simp (config := {maxSteps := 4000000, implicitDefEqProofs := false}) (disch := omega) only [go_sem, ↓reduceIte, Nat.reduceAdd, Nat.reduceSub, Nat.reduceMul, Nat.reduceLeDiff, Nat.reduceLT, Int.reduceEq, Int.reduceNe, Int.reduceLT, Int.reduceLE, Int.reduceAdd, Int.reduceSub, Int.reduceMul, Int.reduceNeg, Nat.zero_add, Nat.add_zero, Nat.mul_one, Int.toNat_natCast, Int.natCast_zero, Int.cast_ofNat_Int, or_false, false_or, or_true, true_or, Int.reduceToNat, Nat.sub_zero, Int.natCast_nonneg, Int.toNat_zero, Bool.true_and, Bool.and_true, Bool.false_and, Bool.and_false, Bool.true_or, Bool.or_true, Bool.false_or, Bool.or_false, Bool.not_true, Bool.not_false, Bool.not_not, true_and, and_true, false_and, and_false, not_true_eq_false, not_false_eq_true, eq_self, decide_true, decide_false, ne_eq, implies_true, forall_const, true_implies, false_implies, Bool.true_eq_false, Bool.false_eq_true, reduceCtorEq, List.map_cons, List.map_nil, List.all_cons, List.all_nil, List.length_cons, List.length_nil, List.length_map, List.length_append, List.nil_append, List.cons_append, List.set_cons_zero, List.set_cons_succ, List.set_nil, List.drop_zero, List.drop_succ_cons, List.drop_nil, List.take_zero, List.take_succ_cons, List.take_nil, Option.map_some, Option.map_none, Option.isSome_some, Nat.reduceEqDiff, Nat.reduceBEq, Nat.reduceGT, List.all_append, List.all_map, Function.comp_def, decide_eq_true_eq, Bool.and_eq_true, beq_self_eq_true, or_self, and_self, ite_true, ite_false, Nat.le_refl, Bool.not_eq_true, decide_not, Bool.not_eq_true', decide_eq_false_iff_not, Bool.not_eq_false, Bool.or_eq_true, if_true, if_false, ite_self, la_it, la_len, la_sure, la_ltA, la_lt1, la_all1, la_ro, la_take, la_cl, la_tm, la_r, la_sl, rc_len, rc_sure, rc_ltA, rc_lt1, rc_all1, rc_ro, rc_take, rc_sl, la_set, rc_set, zcL_eq, zcR_eq, la_allA, la_len7, all_tt, natInt, u_nthM, hlt', hx, h1, h2, hkx, rc_b0, plenumref26_Ask_r4_eq, plenumref26_Ask_r5_eq, plenumref26_Ask_r7_eq]
          refine (rask_fin _).trans ?_
          simp (config := {maxSteps := 4000000, implicitDefEqProofs := false}) (disch := omega) only [go_sem, ↓reduceIte, Nat.reduceAdd, Nat.reduceSub, Nat.reduceMul, Nat.reduceLeDiff, Nat.reduceLT, Int.reduceEq, Int.reduceNe, Int.reduceLT, Int.reduceLE, Int.reduceAdd, Int.reduceSub, Int.reduceMul, Int.reduceNeg, Nat.zero_add, Nat.add_zero, Nat.mul_one, Int.toNat_natCast, Int.natCast_zero, Int.cast_ofNat_Int, or_false, false_or, or_true, true_or, Int.reduceToNat, Nat.sub_zero, Int.natCast_nonneg, Int.toNat_zero, Bool.true_and, Bool.and_true, Bool.false_and, Bool.and_false, Bool.true_or, Bool.or_true, Bool.false_or, Bool.or_false, Bool.not_true, Bool.not_false, Bool.not_not, true_and, and_true, false_and, and_false, not_true_eq_false, not_false_eq_true, eq_self, decide_true, decide_false, ne_eq, implies_true, forall_const, true_implies, false_implies, Bool.true_eq_false, Bool.false_eq_true, reduceCtorEq, List.map_cons, List.map_nil, List.all_cons, List.all_nil, List.length_cons, List.length_nil, List.length_map, List.length_append, List.nil_append, List.cons_append, List.set_cons_zero, List.set_cons_succ, List.set_nil, List.drop_zero, List.drop_succ_cons, List.drop_nil, List.take_zero, List.take_succ_cons, List.take_nil, Option.map_some, Option.map_none, Option.isSome_some, Nat.reduceEqDiff, Nat.reduceBEq, Nat.reduceGT, List.all_append, List.all_map, Function.comp_def, decide_eq_true_eq, Bool.and_eq_true, beq_self_eq_true, or_self, and_self, ite_true, ite_false, Nat.le_refl, Bool.not_eq_true, decide_not, Bool.not_eq_true', decide_eq_false_iff_not, Bool.not_eq_false, Bool.or_eq_true, if_true, if_false, ite_self, la_it, la_len, la_sure, la_ltA, la_lt1, la_all1, la_ro, la_take, la_cl, la_tm, la_r, la_sl, rc_len, rc_sure, rc_ltA, rc_lt1, rc_all1, rc_ro, rc_take, rc_sl, la_set, rc_set, zcL_eq, zcR_eq, la_allA, la_len7, all_tt, natInt, u_nthM, gt_eq, oneOf]
        · have step := hkc ⟨k + 1, by omega, fun i hi h3 h4 => by
            rcases Nat.lt_or_ge i k with e | e
            · exact hall i hi e h4
            · have : i = k := by omega
              subst this; omega⟩ (by dsimp only; omega)
          simp (config := {maxSteps := 4000000, implicitDefEqProofs := false}) (disch := omega) only [go_sem, ↓reduceIte, Nat.reduceAdd, Nat.reduceSub, Nat.reduceMul, Nat.reduceLeDiff, Nat.reduceLT, Int.reduceEq, Int.reduceNe, Int.reduceLT, Int.reduceLE, Int.reduceAdd, Int.reduceSub, Int.reduceMul, Int.reduceNeg, Nat.zero_add, Nat.add_zero, Nat.mul_one, Int.toNat_natCast, Int.natCast_zero, Int.cast_ofNat_Int, or_false, false_or, or_true, true_or, Int.reduceToNat, Nat.sub_zero, Int.natCast_nonneg, Int.toNat_zero, Bool.true_and, Bool.and_true, Bool.false_and, Bool.and_false, Bool.true_or, Bool.or_true, Bool.false_or, Bool.or_false, Bool.not_true, Bool.not_false, Bool.not_not, true_and, and_true, false_and, and_false, not_true_eq_false, not_false_eq_true, eq_self, decide_true, decide_false, ne_eq, implies_true, forall_const, true_implies, false_implies, Bool.true_eq_false, Bool.false_eq_true, reduceCtorEq, List.map_cons, List.map_nil, List.all_cons, List.all_nil, List.length_cons, List.length_nil, List.length_map, List.length_append, List.nil_append, List.cons_append, List.set_cons_zero, List.set_cons_succ, List.set_nil, List.drop_zero, List.drop_succ_cons, List.drop_nil, List.take_zero, List.take_succ_cons, List.take_nil, Option.map_some, Option.map_none, Option.isSome_some, Nat.reduceEqDiff, Nat.reduceBEq, Nat.reduceGT, List.all_append, List.all_map, Function.comp_def, decide_eq_true_eq, Bool.and_eq_true, beq_self_eq_true, or_self, and_self, ite_true, ite_false, Nat.le_refl, Bool.not_eq_true, decide_not, Bool.not_eq_true', decide_eq_false_iff_not, Bool.not_eq_false, Bool.or_eq_true, if_true, if_false, ite_self, la_it, la_len, la_sure, la_ltA, la_lt1, la_all1, la_ro, la_take, la_cl, la_tm, la_r, la_sl, rc_len, rc_sure, rc_ltA, rc_lt1, rc_all1, rc_ro, rc_take, rc_sl, la_set, rc_set, zcL_eq, zcR_eq, la_allA, la_len7, all_tt, natInt, u_nthM, hlt', hx, h1, h2, w_i64, plenumref26_Ask_r4_eq, plenumref26_Ask_r5_eq, plenumref26_Ask_r7_eq, plenumref26_Ask_r9_eq]
          exact step
    · have step := hkc ⟨k + 1, by omega, fun i hi h3 h4 => by
        rcases Nat.lt_or_ge i k with e | e
        · exact hall i hi e h4
        · have : i = k := by omega
          subst this; exact absurd h4 hx⟩ (by dsimp only; omega)
      simp (config := {maxSteps := 4000000, implicitDefEqProofs := false}) (disch := omega) only [go_sem, ↓reduceIte, Nat.reduceAdd, Nat.reduceSub, Nat.reduceMul, Nat.reduceLeDiff, Nat.reduceLT, Int.reduceEq, Int.reduceNe, Int.reduceLT, Int.reduceLE, Int.reduceAdd, Int.reduceSub, Int.reduceMul, Int.reduceNeg, Nat.zero_add, Nat.add_zero, Nat.mul_one, Int.toNat_natCast, Int.natCast_zero, Int.cast_ofNat_Int, or_false, false_or, or_true, true_or, Int.reduceToNat, Nat.sub_zero, Int.natCast_nonneg, Int.toNat_zero, Bool.true_and, Bool.and_true, Bool.false_and, Bool.and_false, Bool.true_or, Bool.or_true, Bool.false_or, Bool.or_false, Bool.not_true, Bool.not_false, Bool.not_not, true_and, and_true, false_and, and_false, not_true_eq_false, not_false_eq_true, eq_self, decide_true, decide_false, ne_eq, implies_true, forall_const, true_implies, false_implies, Bool.true_eq_false, Bool.false_eq_true, reduceCtorEq, List.map_cons, List.map_nil, List.all_cons, List.all_nil, List.length_cons, List.length_nil, List.length_map, List.length_append, List.nil_append, List.cons_append, List.set_cons_zero, List.set_cons_succ, List.set_nil, List.drop_zero, List.drop_succ_cons, List.drop_nil, List.take_zero, List.take_succ_cons, List.take_nil, Option.map_some, Option.map_none, Option.isSome_some, Nat.reduceEqDiff, Nat.reduceBEq, Nat.reduceGT, List.all_append, List.all_map, Function.comp_def, decide_eq_true_eq, Bool.and_eq_true, beq_self_eq_true, or_self, and_self, ite_true, ite_false, Nat.le_refl, Bool.not_eq_true, decide_not, Bool.not_eq_true', decide_eq_false_iff_not, Bool.not_eq_false, Bool.or_eq_true, if_true, if_false, ite_self, la_it, la_len, la_sure, la_ltA, la_lt1, la_all1, la_ro, la_take, la_cl, la_tm, la_r, la_sl, rc_len, rc_sure, rc_ltA, rc_lt1, rc_all1, rc_ro, rc_take, rc_sl, la_set, rc_set, zcL_eq, zcR_eq, la_allA, la_len7, all_tt, natInt, u_nthM, hlt', hx, w_i64, plenumref26_Ask_r4_eq, plenumref26_Ask_r5_eq, plenumref26_Ask_r7_eq, plenumref26_Ask_r9_eq]
      exact step
  · have hlt' : ¬ (k : Int) < (l.length : Int) := by omega
    have hno := hno fun i hi h => hall i hi (by omega) h
    injection hno with q1 q2
    subst q1 q2
    simp (config := {maxSteps := 4000000, implicitDefEqProofs := false}) (disch := omega) only [go_sem, ↓reduceIte, Nat.reduceAdd, Nat.reduceSub, Nat.reduceMul, Nat.reduceLeDiff, Nat.reduceLT, Int.reduceEq, Int.reduceNe, Int.reduceLT, Int.reduceLE, Int.reduceAdd, Int.reduceSub, Int.reduceMul, Int.reduceNeg, Nat.zero_add, Nat.add_zero, Nat.mul_one, Int.toNat_natCast, Int.natCast_zero, Int.cast_ofNat_Int, or_false, false_or, or_true, true_or, Int.reduceToNat, Nat.sub_zero, Int.natCast_nonneg, Int.toNat_zero, Bool.true_and, Bool.and_true, Bool.false_and, Bool.and_false, Bool.true_or, Bool.or_true, Bool.false_or, Bool.or_false, Bool.not_true, Bool.not_false, Bool.not_not, true_and, and_true, false_and, and_false, not_true_eq_false, not_false_eq_true, eq_self, decide_true, decide_false, ne_eq, implies_true, forall_const, true_implies, false_implies, Bool.true_eq_false, Bool.false_eq_true, reduceCtorEq, List.map_cons, List.map_nil, List.all_cons, List.all_nil, List.length_cons, List.length_nil, List.length_map, List.length_append, List.nil_append, List.cons_append, List.set_cons_zero, List.set_cons_succ, List.set_nil, List.drop_zero, List.drop_succ_cons, List.drop_nil, List.take_zero, List.take_succ_cons, List.take_nil, Option.map_some, Option.map_none, Option.isSome_some, Nat.reduceEqDiff, Nat.reduceBEq, Nat.reduceGT, List.all_append, List.all_map, Function.comp_def, decide_eq_true_eq, Bool.and_eq_true, beq_self_eq_true, or_self, and_self, ite_true, ite_false, Nat.le_refl, Bool.not_eq_true, decide_not, Bool.not_eq_true', decide_eq_false_iff_not, Bool.not_eq_false, Bool.or_eq_true, if_true, if_false, ite_self, la_it, la_len, la_sure, la_ltA, la_lt1, la_all1, la_ro, la_take, la_cl, la_tm, la_r, la_sl, rc_len, rc_sure, rc_ltA, rc_lt1, rc_all1, rc_ro, rc_take, rc_sl, la_set, rc_set, zcL_eq, zcR_eq, la_allA, la_len7, all_tt, natInt, u_nthM, hkx, hlt', rc_b0, plenumref26_Ask_r3_eq]
end Go.Proofs.Ytchncgdjefbmfaa
