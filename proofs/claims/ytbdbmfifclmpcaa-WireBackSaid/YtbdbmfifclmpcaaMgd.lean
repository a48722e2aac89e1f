/-
  Texts laid together, part 4 of 6: laws of a walk over data, contracts of functions, each whole by itself.
-/
import Derived.Test.YtbdbmfifclmpcaaMgc
namespace Go.Proofs.Ytbdbmfifclmpcaa
open Go.RowKit
set_option linter.unusedVariables false
set_option maxRecDepth 100000
def zc_api_Msg : List AV := [(V (.int .i64 0)), (V (.int .i64 0)), (V (.int .i64 0)), (V (.int .i64 0)), (V (.int .i64 0)), (V (.string ⟨#[]⟩)), (V (.slice none 0 0)), (V (.slice none 0 0))]
noncomputable def plenumref28_in_c : Code := (Try.f40.body).getD .skip
def plenumref28_in_h : Hint := (.two .n (.two .n .n))
noncomputable def plenumref28_in_env (m : Nat) : Env := []
noncomputable abbrev plenumref28_in_fin : KO (AV × List AObj) := tellFK Try.prog [.tmp 4]
noncomputable def plenumref28_in (m : Nat) (t0 t1 : AV) : RO := exec Try.prog GG (plenumref28_in_env m) m ⟨12, []⟩ plenumref28_in_c plenumref28_in_h ⟨[], argsT 0 [t0, t1]⟩ (plenumref28_in_fin)
theorem plenumref28_in_eq (m : Nat) (t0 t1 : AV) : plenumref28_in m t0 t1 =
  binE none false false .leq (V (.int .i64 0)) t0 fun t6 =>
  condE t6 (
   binE none false false .leq t0 t1 fun t10 =>
   tellK [] (ro [] t10)) (
   tellK [] (ro [] (V (.bool false)))) := by
  refine (tellX Try.prog GG (plenumref28_in_env m) m ⟨12, []⟩ plenumref28_in_c plenumref28_in_h ⟨[], argsT 0 [t0, t1]⟩ [.tmp 4]).trans ?_
  kernel_rfl
noncomputable def plenumref28_in_t (m : Nat) : List AV → RO | [t0, t1] => plenumref28_in m t0 t1 | _ => none
theorem plenumref28_in_ok (m : Nat) : ∀ args X H', plenumref28_in_t m args = some (X, H') → ACp Try.prog GG 40 args X := by
  intro args X H' h
  unfold plenumref28_in_t at h
  split at h
  · exact tell_okK MIX (by intro f e h; cases h) (f := 40) (c := plenumref28_in_c) Try.func40 rfl (by kernel_rfl) _ rfl Try.ntmps40 (Nat.le_of_ble_eq_true rfl) plenumref28_in_h h
  · cases h
noncomputable def plenumref28_num_c : Code := (Try.f41.body).getD .skip
def plenumref28_num_h : Hint := (.two .n (.two .n .n))
noncomputable def plenumref28_num_env (m : Nat) : Env := [(40, .tell (plenumref28_in_t m))]
noncomputable abbrev plenumref28_num_fin : KO (AV × List AObj) := tellFK Try.prog [.tmp 2]
noncomputable def plenumref28_num (m : Nat) (t0 : AV) : RO := exec Try.prog GG (plenumref28_num_env m) m ⟨5, []⟩ plenumref28_num_c plenumref28_num_h ⟨[], argsT 0 [t0]⟩ (plenumref28_num_fin)
theorem plenumref28_num_eq (m : Nat) (t0 : AV) : plenumref28_num m t0 =
  tellE (plenumref28_in m (ro [] t0) (V (.int .i64 2147483647))) [(ro [] t0), (V (.int .i64 2147483647))] fun t4 =>
  tellK [] (ro [] t4) := by
  refine (tellX Try.prog GG (plenumref28_num_env m) m ⟨5, []⟩ plenumref28_num_c plenumref28_num_h ⟨[], argsT 0 [t0]⟩ [.tmp 2]).trans ?_
  kernel_rfl
noncomputable def plenumref28_num_t (m : Nat) : List AV → RO | [t0] => plenumref28_num m t0 | _ => none
theorem plenumref28_num_ok (m : Nat) : ∀ args X H', plenumref28_num_t m args = some (X, H') → ACp Try.prog GG 41 args X := by
  intro args X H' h
  unfold plenumref28_num_t at h
  split at h
  · exact tell_okK MIX (by
    intro f e h
    simp only [plenumref28_num_env, Prod.mk.injEq, List.mem_cons, List.not_mem_nil, or_false] at h
    obtain ⟨rfl, rfl⟩ := h
    · exact plenumref28_in_ok m) (f := 41) (c := plenumref28_num_c) Try.func41 rfl (by kernel_rfl) _ rfl Try.ntmps41 (Nat.le_of_ble_eq_true rfl) plenumref28_num_h h
  · cases h
noncomputable def plenumref28_stmts_c : Code := (Try.f42.body).getD .skip
def plenumref28_stmts_h : Hint := (.two .n (.join [0] (.two .n (.one (.lp [] [0, 3] [0, 2] (.two (.two .n (.two .n .n)) (.join [0, 3] (.one (.join [0, 3, 52] .n (.two (.two .n .n) .n))) .n))))) (.two .n .n)))
noncomputable def plenumref28_stmts_env (m : Nat) : Env := [(40, .tell (plenumref28_in_t m)), (41, .tell (plenumref28_num_t m))]
noncomputable abbrev plenumref28_stmts_fin : KO (AV × List AObj) := tellFK Try.prog [.tmp 2]
noncomputable def plenumref28_stmts_r3 (m : Nat) (n0 : Nat) (kc : ASt → RO) (kx : KO (AV × List AObj)) (s : ASt) : RO := joinW Try.prog GG (plenumref28_stmts_env m) m ⟨56, []⟩ (cdR (cdR (cdL (cdL (cdR (cdL (cdR plenumref28_stmts_c))))))) plenumref28_stmts_h.r.l.r.c.c.r.r s (backW n0 [0, 3] [0, 2] kc kx)
noncomputable def plenumref28_stmts_r2 (m : Nat) (n0 : Nat) (kc : ASt → RO) (kx : KO (AV × List AObj)) (s : ASt) : RO := joinW Try.prog GG (plenumref28_stmts_env m) m ⟨56, []⟩ (cdR (cdL (cdL (cdR (cdL (cdL (cdR (cdL (cdR plenumref28_stmts_c))))))))) plenumref28_stmts_h.r.l.r.c.c.r.l.c.r s (blockX 1 (seqX (fun s => plenumref28_stmts_r3 m n0 kc kx ⟨s.H, [(0, gt s.T 0), (3, gt s.T 3)]⟩) (backW n0 [0, 3] [0, 2] kc kx)))
noncomputable def plenumref28_stmts_r1 (m : Nat) (s : ASt) : RO := joinW Try.prog GG (plenumref28_stmts_env m) m ⟨56, []⟩ (cdR (cdR plenumref28_stmts_c)) plenumref28_stmts_h.r.r s (plenumref28_stmts_fin)
noncomputable def plenumref28_stmts_b1 (m : Nat) (s : ASt) (kc : ASt → RO) (kx : KO (AV × List AObj)) : RO := bodyW Try.prog GG (plenumref28_stmts_env m) m ⟨56, []⟩ (cdL (cdL (cdR (cdL (cdR plenumref28_stmts_c))))) plenumref28_stmts_h.r.l.r.c.c [0, 3] [0, 2] s kc kx
noncomputable def plenumref28_stmts (m : Nat) (t0 : AV) : RO := exec Try.prog GG (plenumref28_stmts_env m) m ⟨56, []⟩ plenumref28_stmts_c plenumref28_stmts_h ⟨[], argsT 0 [t0]⟩ (plenumref28_stmts_fin)
theorem plenumref28_stmts_r3_eq (m : Nat) (n0 : Nat) (kc : ASt → RO) (kx : KO (AV × List AObj)) (H : List AObj) (t0 t3 : AV) : plenumref28_stmts_r3 m n0 kc kx ⟨H, [(0, t0), (3, t3)]⟩ =
  binE none false false .add t3 (V (.int .i64 1)) fun t9 =>
  backE n0 H [(0, t0), (3, t9)] kc := by
  refine (joinW_eq Try.prog GG (plenumref28_stmts_env m) m ⟨56, []⟩ (cdR (cdR (cdL (cdL (cdR (cdL (cdR plenumref28_stmts_c))))))) plenumref28_stmts_h.r.l.r.c.c.r.r ⟨H, [(0, t0), (3, t3)]⟩ (backW n0 [0, 3] [0, 2] kc kx)).trans ?_
  kernel_rfl
theorem plenumref28_stmts_r2_eq (m : Nat) (n0 : Nat) (kc : ASt → RO) (kx : KO (AV × List AObj)) (H : List AObj) (t0 t3 t52 : AV) : plenumref28_stmts_r2 m n0 kc kx ⟨H, [(0, t0), (3, t3), (52, t52)]⟩ =
  condE t52 (
   kx .ret ⟨H, [(0, t0), (2, (V (.bool false)))]⟩) (
   plenumref28_stmts_r3 m n0 kc kx ⟨H, [(0, t0), (3, t3)]⟩) := by
  refine (joinW_eq Try.prog GG (plenumref28_stmts_env m) m ⟨56, []⟩ (cdR (cdL (cdL (cdR (cdL (cdL (cdR (cdL (cdR plenumref28_stmts_c))))))))) plenumref28_stmts_h.r.l.r.c.c.r.l.c.r ⟨H, [(0, t0), (3, t3), (52, t52)]⟩ (blockX 1 (seqX (fun s => plenumref28_stmts_r3 m n0 kc kx ⟨s.H, [(0, gt s.T 0), (3, gt s.T 3)]⟩) (backW n0 [0, 3] [0, 2] kc kx)))).trans ?_
  kernel_rfl
theorem plenumref28_stmts_r1_eq (m : Nat) (H : List AObj) (t0 : AV) : plenumref28_stmts_r1 m ⟨H, [(0, t0)]⟩ =
  lenE false true H t0 fun t54 =>
  binE none false false .leq t54 (V (.int .i64 64)) fun t55 =>
  tellK H (ro H t55) := by
  refine (joinW_eq Try.prog GG (plenumref28_stmts_env m) m ⟨56, []⟩ (cdR (cdR plenumref28_stmts_c)) plenumref28_stmts_h.r.r ⟨H, [(0, t0)]⟩ (plenumref28_stmts_fin)).trans ?_
  kernel_rfl
theorem plenumref28_stmts_b1_eq (m : Nat) (H : List AObj) (t0 t3 : AV) (kc : ASt → RO) (kx : KO (AV × List AObj)) : plenumref28_stmts_b1 m ⟨H, [(0, t0), (3, t3)]⟩ kc kx =
  lenE false true H t0 fun t6 =>
  binE none false false .lss t3 t6 fun t7 =>
  condE t7 (
   idxSE 7 H t0 t3 fun t12 =>
   fieldE (some (0, 1)) t12 fun t13 =>
   loadE 1 H t13 fun t14 =>
   tellE (plenumref28_in m (ro H t14) (V (.int .i64 63))) [(ro H t14), (V (.int .i64 63))] fun t15 =>
   unE .not t15 fun t16 =>
   condE t16 (
    plenumref28_stmts_r2 m H.length kc kx ⟨H, [(0, t0), (3, t3), (52, (V (.bool true)))]⟩) (
    idxSE 7 H t0 t3 fun t20 =>
    fieldE (some (1, 1)) t20 fun t21 =>
    loadE 1 H t21 fun t22 =>
    tellE (plenumref28_num m (ro H t22)) [(ro H t22)] fun t23 =>
    unE .not t23 fun t24 =>
    condE t24 (
    plenumref28_stmts_r2 m H.length kc kx ⟨H, [(0, t0), (3, t3), (52, (V (.bool true)))]⟩) (
    idxSE 7 H t0 t3 fun t29 =>
    fieldE (some (2, 1)) t29 fun t30 =>
    loadE 1 H t30 fun t31 =>
    tellE (plenumref28_num m (ro H t31)) [(ro H t31)] fun t32 =>
    unE .not t32 fun t33 =>
    condE t33 (
    plenumref28_stmts_r2 m H.length kc kx ⟨H, [(0, t0), (3, t3), (52, (V (.bool true)))]⟩) (
    idxSE 7 H t0 t3 fun t38 =>
    fieldE (some (3, 1)) t38 fun t39 =>
    loadE 1 H t39 fun t40 =>
    tellE (plenumref28_num m (ro H t40)) [(ro H t40)] fun t41 =>
    unE .not t41 fun t42 =>
    condE t42 (
    plenumref28_stmts_r2 m H.length kc kx ⟨H, [(0, t0), (3, t3), (52, (V (.bool true)))]⟩) (
    idxSE 7 H t0 t3 fun t47 =>
    fieldE (some (4, 1)) t47 fun t48 =>
    loadE 1 H t48 fun t49 =>
    tellE (plenumref28_num m (ro H t49)) [(ro H t49)] fun t50 =>
    unE .not t50 fun t51 =>
    plenumref28_stmts_r2 m H.length kc kx ⟨H, [(0, t0), (3, t3), (52, t51)]⟩))))) (
   kx (.exit 0) ⟨H, [(0, t0), (2, .nil)]⟩) := by
  refine (bodyW_eq Try.prog GG (plenumref28_stmts_env m) m ⟨56, []⟩ (cdL (cdL (cdR (cdL (cdR plenumref28_stmts_c))))) plenumref28_stmts_h.r.l.r.c.c [0, 3] [0, 2] ⟨H, [(0, t0), (3, t3)]⟩ kc kx).trans ?_
  kernel_rfl
theorem plenumref28_stmts_eq (m : Nat) (t0 : AV) : plenumref28_stmts m t0 =
  iterC m (plenumref28_stmts_b1 m) ⟨[], [(0, t0), (3, (V (.int .i64 0)))]⟩ (blockX 0 (seqX (fun s => plenumref28_stmts_r1 m ⟨s.H, [(0, gt s.T 0)]⟩) (plenumref28_stmts_fin))) := by
  refine (tellX Try.prog GG (plenumref28_stmts_env m) m ⟨56, []⟩ plenumref28_stmts_c plenumref28_stmts_h ⟨[], argsT 0 [t0]⟩ [.tmp 2]).trans ?_
  kernel_rfl
noncomputable def plenumref28_stmts_t (m : Nat) : List AV → RO | [t0] => plenumref28_stmts m t0 | _ => none
theorem plenumref28_stmts_ok (m : Nat) : ∀ args X H', plenumref28_stmts_t m args = some (X, H') → ACp Try.prog GG 42 args X := by
  intro args X H' h
  unfold plenumref28_stmts_t at h
  split at h
  · exact tell_okK MIX (by
    intro f e h
    simp only [plenumref28_stmts_env, Prod.mk.injEq, List.mem_cons, List.not_mem_nil, or_false] at h
    rcases h with ⟨rfl, rfl⟩ | ⟨rfl, rfl⟩
    · exact plenumref28_in_ok m
    · exact plenumref28_num_ok m) (f := 42) (c := plenumref28_stmts_c) Try.func42 rfl (by kernel_rfl) _ rfl Try.ntmps42 (Nat.le_of_ble_eq_true rfl) plenumref28_stmts_h h
  · cases h
noncomputable def plenumref28_Change_c : Code := (Try.f16.body).getD .skip
def plenumref28_Change_h : Hint := (.two .n (.join [1] (.join [1, 38] .n (.two (.two .n .n) .n)) (.join [] (.two .n (.one (.lp [] [1, 3] [2] (.two (.two .n (.two .n .n)) (.join [1, 3] (.one (.two .n (.join [1, 3, 78] .n (.two (.two .n .n) .n)))) .n))))) (.two .n .n))))
noncomputable def plenumref28_Change_env (m : Nat) : Env := [(40, .tell (plenumref28_in_t m)), (41, .tell (plenumref28_num_t m)), (42, .tell (plenumref28_stmts_t m))]
noncomputable abbrev plenumref28_Change_fin : KO (AV × List AObj) := tellFK Try.prog [.tmp 2]
noncomputable def plenumref28_Change_r5 (m : Nat) (n0 : Nat) (kc : ASt → RO) (kx : KO (AV × List AObj)) (s : ASt) : RO := joinW Try.prog GG (plenumref28_Change_env m) m ⟨79, []⟩ (cdR (cdR (cdL (cdL (cdR (cdL (cdR (cdR plenumref28_Change_c)))))))) plenumref28_Change_h.r.r.l.r.c.c.r.r s (backW n0 [1, 3] [2] kc kx)
noncomputable def plenumref28_Change_r4 (m : Nat) (n0 : Nat) (kc : ASt → RO) (kx : KO (AV × List AObj)) (s : ASt) : RO := joinW Try.prog GG (plenumref28_Change_env m) m ⟨79, []⟩ (cdR (cdR (cdL (cdL (cdR (cdL (cdL (cdR (cdL (cdR (cdR plenumref28_Change_c))))))))))) plenumref28_Change_h.r.r.l.r.c.c.r.l.c.r.r s (blockX 1 (seqX (fun s => plenumref28_Change_r5 m n0 kc kx ⟨s.H, [(1, gt s.T 1), (3, gt s.T 3)]⟩) (backW n0 [1, 3] [2] kc kx)))
noncomputable def plenumref28_Change_r3 (m : Nat) (s : ASt) : RO := joinW Try.prog GG (plenumref28_Change_env m) m ⟨79, []⟩ (cdR (cdR (cdR plenumref28_Change_c))) plenumref28_Change_h.r.r.r s (plenumref28_Change_fin)
noncomputable def plenumref28_Change_b1 (m : Nat) (s : ASt) (kc : ASt → RO) (kx : KO (AV × List AObj)) : RO := bodyW Try.prog GG (plenumref28_Change_env m) m ⟨79, []⟩ (cdL (cdL (cdR (cdL (cdR (cdR plenumref28_Change_c)))))) plenumref28_Change_h.r.r.l.r.c.c [1, 3] [2] s kc kx
noncomputable def plenumref28_Change_r2 (m : Nat) (s : ASt) : RO := joinW Try.prog GG (plenumref28_Change_env m) m ⟨79, []⟩ (cdR (cdR plenumref28_Change_c)) plenumref28_Change_h.r.r s (plenumref28_Change_fin)
noncomputable def plenumref28_Change_r1 (m : Nat) (s : ASt) : RO := joinW Try.prog GG (plenumref28_Change_env m) m ⟨79, []⟩ (cdR (cdL (cdR plenumref28_Change_c))) plenumref28_Change_h.r.l.r s (seqX (fun s => plenumref28_Change_r2 m ⟨s.H, [(1, gt s.T 1)]⟩) (plenumref28_Change_fin))
noncomputable def plenumref28_Change (m : Nat) (t0 : AV) : RO := exec Try.prog GG (plenumref28_Change_env m) m ⟨79, []⟩ plenumref28_Change_c plenumref28_Change_h ⟨[], argsT 0 [t0]⟩ (plenumref28_Change_fin)
theorem plenumref28_Change_r5_eq (m : Nat) (n0 : Nat) (kc : ASt → RO) (kx : KO (AV × List AObj)) (H : List AObj) (t1 t3 : AV) : plenumref28_Change_r5 m n0 kc kx ⟨H, [(1, t1), (3, t3)]⟩ =
  binE none false false .add t3 (V (.int .i64 1)) fun t45 =>
  backE n0 H [(1, t1), (3, t45)] kc := by
  refine (joinW_eq Try.prog GG (plenumref28_Change_env m) m ⟨79, []⟩ (cdR (cdR (cdL (cdL (cdR (cdL (cdR (cdR plenumref28_Change_c)))))))) plenumref28_Change_h.r.r.l.r.c.c.r.r ⟨H, [(1, t1), (3, t3)]⟩ (backW n0 [1, 3] [2] kc kx)).trans ?_
  kernel_rfl
theorem plenumref28_Change_r4_eq (m : Nat) (n0 : Nat) (kc : ASt → RO) (kx : KO (AV × List AObj)) (H : List AObj) (t1 t3 t78 : AV) : plenumref28_Change_r4 m n0 kc kx ⟨H, [(1, t1), (3, t3), (78, t78)]⟩ =
  condE t78 (
   kx .ret ⟨H, [(2, (V (.bool false)))]⟩) (
   plenumref28_Change_r5 m n0 kc kx ⟨H, [(1, t1), (3, t3)]⟩) := by
  refine (joinW_eq Try.prog GG (plenumref28_Change_env m) m ⟨79, []⟩ (cdR (cdR (cdL (cdL (cdR (cdL (cdL (cdR (cdL (cdR (cdR plenumref28_Change_c))))))))))) plenumref28_Change_h.r.r.l.r.c.c.r.l.c.r.r ⟨H, [(1, t1), (3, t3), (78, t78)]⟩ (blockX 1 (seqX (fun s => plenumref28_Change_r5 m n0 kc kx ⟨s.H, [(1, gt s.T 1), (3, gt s.T 3)]⟩) (backW n0 [1, 3] [2] kc kx)))).trans ?_
  kernel_rfl
theorem plenumref28_Change_r3_eq (m : Nat) (H : List AObj) : plenumref28_Change_r3 m ⟨H, []⟩ =
  tellK H (ro H (V (.bool true))) := by
  refine (joinW_eq Try.prog GG (plenumref28_Change_env m) m ⟨79, []⟩ (cdR (cdR (cdR plenumref28_Change_c))) plenumref28_Change_h.r.r.r ⟨H, []⟩ (plenumref28_Change_fin)).trans ?_
  kernel_rfl
theorem plenumref28_Change_b1_eq (m : Nat) (H : List AObj) (t1 t3 : AV) (kc : ASt → RO) (kx : KO (AV × List AObj)) : plenumref28_Change_b1 m ⟨H, [(1, t1), (3, t3)]⟩ kc kx =
  fieldE (some (5, 1)) t1 fun t40 =>
  loadE 1 H t40 fun t41 =>
  lenE false true H t41 fun t42 =>
  binE none false false .lss t3 t42 fun t43 =>
  condE t43 (
   fieldE (some (5, 1)) t1 fun t46 =>
   loadE 1 H t46 fun t47 =>
   idxSE 7 H t47 t3 fun t49 =>
   loadE 7 H t49 fun t50 =>
   allocE (some zc_api_Cert) ty_api_Cert H fun t4 H2 =>
   storeE 7 H2 t4 t50 fun H3 =>
   fieldE (some (0, 1)) t4 fun t51 =>
   loadE 1 H3 t51 fun t52 =>
   tellE (plenumref28_num m (ro H3 t52)) [(ro H3 t52)] fun t53 =>
   unE .not t53 fun t54 =>
   condE t54 (
    plenumref28_Change_r4 m H.length kc kx ⟨H3, [(1, t1), (3, t3), (78, (V (.bool true)))]⟩) (
    fieldE (some (1, 1)) t4 fun t56 =>
    loadE 1 H3 t56 fun t57 =>
    tellE (plenumref28_num m (ro H3 t57)) [(ro H3 t57)] fun t58 =>
    unE .not t58 fun t59 =>
    condE t59 (
    plenumref28_Change_r4 m H.length kc kx ⟨H3, [(1, t1), (3, t3), (78, (V (.bool true)))]⟩) (
    fieldE (some (2, 1)) t4 fun t62 =>
    loadE 1 H3 t62 fun t63 =>
    tellE (plenumref28_num m (ro H3 t63)) [(ro H3 t63)] fun t64 =>
    unE .not t64 fun t65 =>
    condE t65 (
    plenumref28_Change_r4 m H.length kc kx ⟨H3, [(1, t1), (3, t3), (78, (V (.bool true)))]⟩) (
    fieldE (some (3, 1)) t4 fun t68 =>
    loadE 1 H3 t68 fun t69 =>
    lenE true false H3 t69 fun t70 =>
    binE none false false .gtr t70 (V (.int .i64 65536)) fun t71 =>
    condE t71 (
    plenumref28_Change_r4 m H.length kc kx ⟨H3, [(1, t1), (3, t3), (78, (V (.bool true)))]⟩) (
    fieldE (some (4, 1)) t4 fun t74 =>
    loadE 1 H3 t74 fun t75 =>
    tellE (plenumref28_stmts m (ro H3 t75)) [(ro H3 t75)] fun t76 =>
    unE .not t76 fun t77 =>
    plenumref28_Change_r4 m H.length kc kx ⟨H3, [(1, t1), (3, t3), (78, t77)]⟩))))) (
   kx (.exit 0) ⟨H, [(2, .nil)]⟩) := by
  refine (bodyW_eq Try.prog GG (plenumref28_Change_env m) m ⟨79, []⟩ (cdL (cdL (cdR (cdL (cdR (cdR plenumref28_Change_c)))))) plenumref28_Change_h.r.r.l.r.c.c [1, 3] [2] ⟨H, [(1, t1), (3, t3)]⟩ kc kx).trans ?_
  kernel_rfl
theorem plenumref28_Change_r2_eq (m : Nat) (H : List AObj) (t1 : AV) : plenumref28_Change_r2 m ⟨H, [(1, t1)]⟩ =
  iterC m (plenumref28_Change_b1 m) ⟨H, [(1, t1), (3, (V (.int .i64 0)))]⟩ (blockX 0 (seqX (fun s => plenumref28_Change_r3 m ⟨s.H, []⟩) (plenumref28_Change_fin))) := by
  refine (joinW_eq Try.prog GG (plenumref28_Change_env m) m ⟨79, []⟩ (cdR (cdR plenumref28_Change_c)) plenumref28_Change_h.r.r ⟨H, [(1, t1)]⟩ (plenumref28_Change_fin)).trans ?_
  kernel_rfl
theorem plenumref28_Change_r1_eq (m : Nat) (H : List AObj) (t1 t38 : AV) : plenumref28_Change_r1 m ⟨H, [(1, t1), (38, t38)]⟩ =
  condE t38 (
   tellK H (ro H (V (.bool false)))) (
   plenumref28_Change_r2 m ⟨H, [(1, t1)]⟩) := by
  refine (joinW_eq Try.prog GG (plenumref28_Change_env m) m ⟨79, []⟩ (cdR (cdL (cdR plenumref28_Change_c))) plenumref28_Change_h.r.l.r ⟨H, [(1, t1), (38, t38)]⟩ (seqX (fun s => plenumref28_Change_r2 m ⟨s.H, [(1, gt s.T 1)]⟩) (plenumref28_Change_fin))).trans ?_
  kernel_rfl
theorem plenumref28_Change_eq (m : Nat) (t0 : AV) : plenumref28_Change m t0 =
  boxE ty_api_Change [] t0 fun t1 H1 =>
  fieldE (some (0, 1)) t1 fun t5 =>
  loadE 1 H1 t5 fun t6 =>
  tellE (plenumref28_in m (ro H1 t6) (V (.int .i64 63))) [(ro H1 t6), (V (.int .i64 63))] fun t7 =>
  unE .not t7 fun t8 =>
  condE t8 (
   plenumref28_Change_r1 m ⟨H1, [(1, t1), (38, (V (.bool true)))]⟩) (
   fieldE (some (1, 1)) t1 fun t10 =>
   loadE 1 H1 t10 fun t11 =>
   tellE (plenumref28_num m (ro H1 t11)) [(ro H1 t11)] fun t12 =>
   unE .not t12 fun t13 =>
   condE t13 (
   plenumref28_Change_r1 m ⟨H1, [(1, t1), (38, (V (.bool true)))]⟩) (
   fieldE (some (2, 1)) t1 fun t16 =>
   loadE 1 H1 t16 fun t17 =>
   tellE (plenumref28_num m (ro H1 t17)) [(ro H1 t17)] fun t18 =>
   unE .not t18 fun t19 =>
   condE t19 (
   plenumref28_Change_r1 m ⟨H1, [(1, t1), (38, (V (.bool true)))]⟩) (
   fieldE (some (3, 1)) t1 fun t22 =>
   loadE 1 H1 t22 fun t23 =>
   tellE (plenumref28_num m (ro H1 t23)) [(ro H1 t23)] fun t24 =>
   unE .not t24 fun t25 =>
   condE t25 (
   plenumref28_Change_r1 m ⟨H1, [(1, t1), (38, (V (.bool true)))]⟩) (
   fieldE (some (4, 1)) t1 fun t28 =>
   loadE 1 H1 t28 fun t29 =>
   tellE (plenumref28_stmts m (ro H1 t29)) [(ro H1 t29)] fun t30 =>
   unE .not t30 fun t31 =>
   condE t31 (
   plenumref28_Change_r1 m ⟨H1, [(1, t1), (38, (V (.bool true)))]⟩) (
   fieldE (some (5, 1)) t1 fun t34 =>
   loadE 1 H1 t34 fun t35 =>
   lenE false true H1 t35 fun t36 =>
   binE none false false .gtr t36 (V (.int .i64 64)) fun t37 =>
   plenumref28_Change_r1 m ⟨H1, [(1, t1), (38, t37)]⟩))))) := by
  refine (tellX Try.prog GG (plenumref28_Change_env m) m ⟨79, []⟩ plenumref28_Change_c plenumref28_Change_h ⟨[], argsT 0 [t0]⟩ [.tmp 2]).trans ?_
  kernel_rfl
noncomputable def plenumref28_Change_t (m : Nat) : List AV → RO | [t0] => plenumref28_Change m t0 | _ => none
theorem plenumref28_Change_ok (m : Nat) : ∀ args X H', plenumref28_Change_t m args = some (X, H') → ACp Try.prog GG 16 args X := by
  intro args X H' h
  unfold plenumref28_Change_t at h
  split at h
  · exact tell_okK MIX (by
    intro f e h
    simp only [plenumref28_Change_env, Prod.mk.injEq, List.mem_cons, List.not_mem_nil, or_false] at h
    rcases h with ⟨rfl, rfl⟩ | ⟨rfl, rfl⟩ | ⟨rfl, rfl⟩
    · exact plenumref28_in_ok m
    · exact plenumref28_num_ok m
    · exact plenumref28_stmts_ok m) (f := 16) (c := plenumref28_Change_c) Try.func16 rfl (by kernel_rfl) _ rfl Try.ntmps16 (Nat.le_of_ble_eq_true rfl) plenumref28_Change_h h
  · cases h
noncomputable def plenumref28_May_c : Code := (Try.f13.body).getD .skip
def plenumref28_May_h : Hint := (.two .n (.join [1] (.two .n (.one (.lp [] [1, 3] [1, 2] (.two (.two .n (.two .n .n)) (.two (.one (.two .n (.two (.two .n .n) .n))) .n))))) (.two .n .n)))
noncomputable def plenumref28_May_env (m : Nat) : Env := [(16, .tell (plenumref28_Change_t m)), (40, .tell (plenumref28_in_t m)), (41, .tell (plenumref28_num_t m)), (42, .tell (plenumref28_stmts_t m))]
noncomputable abbrev plenumref28_May_fin : KO (AV × List AObj) := tellFK Try.prog [.tmp 2]
noncomputable def plenumref28_May_r1 (m : Nat) (s : ASt) : RO := joinW Try.prog GG (plenumref28_May_env m) m ⟨63, []⟩ (cdR (cdR plenumref28_May_c)) plenumref28_May_h.r.r s (plenumref28_May_fin)
noncomputable def plenumref28_May_b1 (m : Nat) (s : ASt) (kc : ASt → RO) (kx : KO (AV × List AObj)) : RO := bodyW Try.prog GG (plenumref28_May_env m) m ⟨63, []⟩ (cdL (cdL (cdR (cdL (cdR plenumref28_May_c))))) plenumref28_May_h.r.l.r.c.c [1, 3] [1, 2] s kc kx
noncomputable def plenumref28_May (m : Nat) (t0 : AV) : RO := exec Try.prog GG (plenumref28_May_env m) m ⟨63, []⟩ plenumref28_May_c plenumref28_May_h ⟨[], argsT 0 [t0]⟩ (plenumref28_May_fin)
theorem plenumref28_May_r1_eq (m : Nat) (H : List AObj) (t1 : AV) : plenumref28_May_r1 m ⟨H, [(1, t1)]⟩ =
  fieldE (some (0, 1)) t1 fun t18 =>
  loadE 1 H t18 fun t19 =>
  binE none false false .geq t19 (V (.int .i64 1)) fun t20 =>
  condE t20 (
   fieldE (some (0, 1)) t1 fun t22 =>
   loadE 1 H t22 fun t23 =>
   binE none false false .leq t23 (V (.int .i64 10)) fun t24 =>
   condE t24 (
   fieldE (some (1, 1)) t1 fun t27 =>
   loadE 1 H t27 fun t28 =>
   tellE (plenumref28_in m (ro H t28) (V (.int .i64 63))) [(ro H t28), (V (.int .i64 63))] fun t29 =>
   condE t29 (
   fieldE (some (2, 1)) t1 fun t32 =>
   loadE 1 H t32 fun t33 =>
   tellE (plenumref28_num m (ro H t33)) [(ro H t33)] fun t34 =>
   condE t34 (
   fieldE (some (3, 1)) t1 fun t37 =>
   loadE 1 H t37 fun t38 =>
   tellE (plenumref28_num m (ro H t38)) [(ro H t38)] fun t39 =>
   condE t39 (
   fieldE (some (4, 1)) t1 fun t42 =>
   loadE 1 H t42 fun t43 =>
   tellE (plenumref28_num m (ro H t43)) [(ro H t43)] fun t44 =>
   condE t44 (
   fieldE (some (5, 1)) t1 fun t47 =>
   loadE 1 H t47 fun t48 =>
   lenE true false H t48 fun t49 =>
   binE none false false .leq t49 (V (.int .i64 65536)) fun t50 =>
   condE t50 (
   fieldE (some (6, 1)) t1 fun t53 =>
   loadE 1 H t53 fun t54 =>
   tellE (plenumref28_stmts m (ro H t54)) [(ro H t54)] fun t55 =>
   condE t55 (
   fieldE (some (7, 1)) t1 fun t58 =>
   loadE 1 H t58 fun t59 =>
   lenE false true H t59 fun t60 =>
   binE none false false .leq t60 (V (.int .i64 64)) fun t61 =>
   tellK H (ro H t61)) (
   tellK H (ro H (V (.bool false))))) (
   tellK H (ro H (V (.bool false))))) (
   tellK H (ro H (V (.bool false))))) (
   tellK H (ro H (V (.bool false))))) (
   tellK H (ro H (V (.bool false))))) (
   tellK H (ro H (V (.bool false))))) (
   tellK H (ro H (V (.bool false))))) (
   tellK H (ro H (V (.bool false)))) := by
  refine (joinW_eq Try.prog GG (plenumref28_May_env m) m ⟨63, []⟩ (cdR (cdR plenumref28_May_c)) plenumref28_May_h.r.r ⟨H, [(1, t1)]⟩ (plenumref28_May_fin)).trans ?_
  kernel_rfl
theorem plenumref28_May_b1_eq (m : Nat) (H : List AObj) (t1 t3 : AV) (kc : ASt → RO) (kx : KO (AV × List AObj)) : plenumref28_May_b1 m ⟨H, [(1, t1), (3, t3)]⟩ kc kx =
  fieldE (some (7, 1)) t1 fun t5 =>
  loadE 1 H t5 fun t6 =>
  lenE false true H t6 fun t7 =>
  binE none false false .lss t3 t7 fun t8 =>
  condE t8 (
   fieldE (some (7, 1)) t1 fun t11 =>
   loadE 1 H t11 fun t12 =>
   idxSE 8 H t12 t3 fun t14 =>
   loadE 8 H t14 fun t15 =>
   tellE (plenumref28_Change m (ro H t15)) [(ro H t15)] fun t16 =>
   unE .not t16 fun t17 =>
   condE t17 (
    kx .ret ⟨H, [(1, t1), (2, (V (.bool false)))]⟩) (
    binE none false false .add t3 (V (.int .i64 1)) fun t10 =>
    backE H.length H [(1, t1), (3, t10)] kc)) (
   kx (.exit 0) ⟨H, [(1, t1), (2, .nil)]⟩) := by
  refine (bodyW_eq Try.prog GG (plenumref28_May_env m) m ⟨63, []⟩ (cdL (cdL (cdR (cdL (cdR plenumref28_May_c))))) plenumref28_May_h.r.l.r.c.c [1, 3] [1, 2] ⟨H, [(1, t1), (3, t3)]⟩ kc kx).trans ?_
  kernel_rfl
theorem plenumref28_May_eq (m : Nat) (t0 : AV) : plenumref28_May m t0 =
  boxE ty_api_Msg [] t0 fun t1 H1 =>
  iterC m (plenumref28_May_b1 m) ⟨H1, [(1, t1), (3, (V (.int .i64 0)))]⟩ (blockX 0 (seqX (fun s => plenumref28_May_r1 m ⟨s.H, [(1, gt s.T 1)]⟩) (plenumref28_May_fin))) := by
  refine (tellX Try.prog GG (plenumref28_May_env m) m ⟨63, []⟩ plenumref28_May_c plenumref28_May_h ⟨[], argsT 0 [t0]⟩ [.tmp 2]).trans ?_
  kernel_rfl
noncomputable def plenumref28_May_t (m : Nat) : List AV → RO | [t0] => plenumref28_May m t0 | _ => none
theorem plenumref28_May_ok (m : Nat) : ∀ args X H', plenumref28_May_t m args = some (X, H') → ACp Try.prog GG 13 args X := by
  intro args X H' h
  unfold plenumref28_May_t at h
  split at h
  · exact tell_okK MIX (by
    intro f e h
    simp only [plenumref28_May_env, Prod.mk.injEq, List.mem_cons, List.not_mem_nil, or_false] at h
    rcases h with ⟨rfl, rfl⟩ | ⟨rfl, rfl⟩ | ⟨rfl, rfl⟩ | ⟨rfl, rfl⟩
    · exact plenumref28_Change_ok m
    · exact plenumref28_in_ok m
    · exact plenumref28_num_ok m
    · exact plenumref28_stmts_ok m) (f := 13) (c := plenumref28_May_c) Try.func13 rfl (by kernel_rfl) _ rfl Try.ntmps13 (Nat.le_of_ble_eq_true rfl) plenumref28_May_h h
  · cases h
noncomputable def plenumref28_Stmts_c : Code := (Try.f35.body).getD .skip
def plenumref28_Stmts_h : Hint := (.two .n (.two (.two .n (.two (.two .n .n) .n)) (.join [] (.two .n (.one (.lp [] [0, 1, 5] [4] (.two (.two .n (.two .n .n)) (.two (.one (.two .n (.two (.two .n .n) .n))) .n))))) (.two .n .n))))
noncomputable def plenumref28_Stmts_env (m : Nat) : Env := []
noncomputable abbrev plenumref28_Stmts_fin : KO (AV × List AObj) := tellFK Try.prog [.tmp 4]
noncomputable def plenumref28_Stmts_r1 (m : Nat) (s : ASt) : RO := joinW Try.prog GG (plenumref28_Stmts_env m) m ⟨26, []⟩ (cdR (cdR (cdR plenumref28_Stmts_c))) plenumref28_Stmts_h.r.r.r s (plenumref28_Stmts_fin)
noncomputable def plenumref28_Stmts_b1 (m : Nat) (s : ASt) (kc : ASt → RO) (kx : KO (AV × List AObj)) : RO := bodyW Try.prog GG (plenumref28_Stmts_env m) m ⟨26, []⟩ (cdL (cdL (cdR (cdL (cdR (cdR plenumref28_Stmts_c)))))) plenumref28_Stmts_h.r.r.l.r.c.c [0, 1, 5] [4] s kc kx
noncomputable def plenumref28_Stmts (m : Nat) (t0 t1 : AV) : RO := exec Try.prog GG (plenumref28_Stmts_env m) m ⟨26, []⟩ plenumref28_Stmts_c plenumref28_Stmts_h ⟨[], argsT 0 [t0, t1]⟩ (plenumref28_Stmts_fin)
theorem plenumref28_Stmts_r1_eq (m : Nat) (H : List AObj) : plenumref28_Stmts_r1 m ⟨H, []⟩ =
  tellK H (ro H (V (.bool true))) := by
  refine (joinW_eq Try.prog GG (plenumref28_Stmts_env m) m ⟨26, []⟩ (cdR (cdR (cdR plenumref28_Stmts_c))) plenumref28_Stmts_h.r.r.r ⟨H, []⟩ (plenumref28_Stmts_fin)).trans ?_
  kernel_rfl
theorem plenumref28_Stmts_b1_eq (m : Nat) (H : List AObj) (t0 t1 t5 : AV) (kc : ASt → RO) (kx : KO (AV × List AObj)) : plenumref28_Stmts_b1 m ⟨H, [(0, t0), (1, t1), (5, t5)]⟩ kc kx =
  lenE false true H t0 fun t13 =>
  binE none false false .lss t5 t13 fun t14 =>
  condE t14 (
   idxSE 7 H t0 t5 fun t19 =>
   loadE 7 H t19 fun t20 =>
   idxSE 7 H t1 t5 fun t23 =>
   loadE 7 H t23 fun t24 =>
   binE (some [.i .i64, .i .i64, .i .i64, .i .i64, .i .i64]) false false .neq t20 t24 fun t25 =>
   condE t25 (
    kx .ret ⟨H, [(4, (V (.bool false)))]⟩) (
    binE none false false .add t5 (V (.int .i64 1)) fun t16 =>
    backE H.length H [(0, t0), (1, t1), (5, t16)] kc)) (
   kx (.exit 0) ⟨H, [(4, .nil)]⟩) := by
  refine (bodyW_eq Try.prog GG (plenumref28_Stmts_env m) m ⟨26, []⟩ (cdL (cdL (cdR (cdL (cdR (cdR plenumref28_Stmts_c)))))) plenumref28_Stmts_h.r.r.l.r.c.c [0, 1, 5] [4] ⟨H, [(0, t0), (1, t1), (5, t5)]⟩ kc kx).trans ?_
  kernel_rfl
theorem plenumref28_Stmts_eq (m : Nat) (t0 t1 : AV) : plenumref28_Stmts m t0 t1 =
  lenE false true [] t0 fun t7 =>
  lenE false true [] t1 fun t9 =>
  binE none false false .neq t7 t9 fun t10 =>
  condE t10 (
   tellK [] (ro [] (V (.bool false)))) (
   iterC m (plenumref28_Stmts_b1 m) ⟨[], [(0, t0), (1, t1), (5, (V (.int .i64 0)))]⟩ (blockX 0 (seqX (fun s => plenumref28_Stmts_r1 m ⟨s.H, []⟩) (plenumref28_Stmts_fin)))) := by
  refine (tellX Try.prog GG (plenumref28_Stmts_env m) m ⟨26, []⟩ plenumref28_Stmts_c plenumref28_Stmts_h ⟨[], argsT 0 [t0, t1]⟩ [.tmp 4]).trans ?_
  kernel_rfl
noncomputable def plenumref28_Stmts_t (m : Nat) : List AV → RO | [t0, t1] => plenumref28_Stmts m t0 t1 | _ => none
theorem plenumref28_Stmts_ok (m : Nat) : ∀ args X H', plenumref28_Stmts_t m args = some (X, H') → ACp Try.prog GG 35 args X := by
  intro args X H' h
  unfold plenumref28_Stmts_t at h
  split at h
  · exact tell_okK MIX (by intro f e h; cases h) (f := 35) (c := plenumref28_Stmts_c) Try.func35 rfl (by kernel_rfl) _ rfl Try.ntmps35 (Nat.le_of_ble_eq_true rfl) plenumref28_Stmts_h h
  · cases h
noncomputable def plenumref28_Changes_c : Code := (Try.f36.body).getD .skip
def plenumref28_Changes_h : Hint := (.two .n (.join [2, 3] (.join [2, 3, 50] .n (.two (.two .n .n) .n)) (.join [] (.two .n (.one (.lp [] [2, 3, 5] [4] (.two (.two .n (.two .n .n)) (.join [2, 3, 5] (.one (.two .n (.join [2, 3, 5, 101] .n (.two (.two .n .n) .n)))) .n))))) (.two .n .n))))
noncomputable def plenumref28_Changes_env (m : Nat) : Env := [(35, .tell (plenumref28_Stmts_t m))]
noncomputable abbrev plenumref28_Changes_fin : KO (AV × List AObj) := tellFK Try.prog [.tmp 4]
noncomputable def plenumref28_Changes_r5 (m : Nat) (n0 : Nat) (kc : ASt → RO) (kx : KO (AV × List AObj)) (s : ASt) : RO := joinW Try.prog GG (plenumref28_Changes_env m) m ⟨102, []⟩ (cdR (cdR (cdL (cdL (cdR (cdL (cdR (cdR plenumref28_Changes_c)))))))) plenumref28_Changes_h.r.r.l.r.c.c.r.r s (backW n0 [2, 3, 5] [4] kc kx)
noncomputable def plenumref28_Changes_r4 (m : Nat) (n0 : Nat) (kc : ASt → RO) (kx : KO (AV × List AObj)) (s : ASt) : RO := joinW Try.prog GG (plenumref28_Changes_env m) m ⟨102, []⟩ (cdR (cdR (cdL (cdL (cdR (cdL (cdL (cdR (cdL (cdR (cdR plenumref28_Changes_c))))))))))) plenumref28_Changes_h.r.r.l.r.c.c.r.l.c.r.r s (blockX 1 (seqX (fun s => plenumref28_Changes_r5 m n0 kc kx ⟨s.H, [(2, gt s.T 2), (3, gt s.T 3), (5, gt s.T 5)]⟩) (backW n0 [2, 3, 5] [4] kc kx)))
noncomputable def plenumref28_Changes_r3 (m : Nat) (s : ASt) : RO := joinW Try.prog GG (plenumref28_Changes_env m) m ⟨102, []⟩ (cdR (cdR (cdR plenumref28_Changes_c))) plenumref28_Changes_h.r.r.r s (plenumref28_Changes_fin)
noncomputable def plenumref28_Changes_b1 (m : Nat) (s : ASt) (kc : ASt → RO) (kx : KO (AV × List AObj)) : RO := bodyW Try.prog GG (plenumref28_Changes_env m) m ⟨102, []⟩ (cdL (cdL (cdR (cdL (cdR (cdR plenumref28_Changes_c)))))) plenumref28_Changes_h.r.r.l.r.c.c [2, 3, 5] [4] s kc kx
noncomputable def plenumref28_Changes_r2 (m : Nat) (s : ASt) : RO := joinW Try.prog GG (plenumref28_Changes_env m) m ⟨102, []⟩ (cdR (cdR plenumref28_Changes_c)) plenumref28_Changes_h.r.r s (plenumref28_Changes_fin)
noncomputable def plenumref28_Changes_r1 (m : Nat) (s : ASt) : RO := joinW Try.prog GG (plenumref28_Changes_env m) m ⟨102, []⟩ (cdR (cdL (cdR plenumref28_Changes_c))) plenumref28_Changes_h.r.l.r s (seqX (fun s => plenumref28_Changes_r2 m ⟨s.H, [(2, gt s.T 2), (3, gt s.T 3)]⟩) (plenumref28_Changes_fin))
noncomputable def plenumref28_Changes (m : Nat) (t0 t1 : AV) : RO := exec Try.prog GG (plenumref28_Changes_env m) m ⟨102, []⟩ plenumref28_Changes_c plenumref28_Changes_h ⟨[], argsT 0 [t0, t1]⟩ (plenumref28_Changes_fin)
theorem plenumref28_Changes_r5_eq (m : Nat) (n0 : Nat) (kc : ASt → RO) (kx : KO (AV × List AObj)) (H : List AObj) (t2 t3 t5 : AV) : plenumref28_Changes_r5 m n0 kc kx ⟨H, [(2, t2), (3, t3), (5, t5)]⟩ =
  binE none false false .add t5 (V (.int .i64 1)) fun t57 =>
  backE n0 H [(2, t2), (3, t3), (5, t57)] kc := by
  refine (joinW_eq Try.prog GG (plenumref28_Changes_env m) m ⟨102, []⟩ (cdR (cdR (cdL (cdL (cdR (cdL (cdR (cdR plenumref28_Changes_c)))))))) plenumref28_Changes_h.r.r.l.r.c.c.r.r ⟨H, [(2, t2), (3, t3), (5, t5)]⟩ (backW n0 [2, 3, 5] [4] kc kx)).trans ?_
  kernel_rfl
theorem plenumref28_Changes_r4_eq (m : Nat) (n0 : Nat) (kc : ASt → RO) (kx : KO (AV × List AObj)) (H : List AObj) (t2 t3 t5 t101 : AV) : plenumref28_Changes_r4 m n0 kc kx ⟨H, [(2, t2), (3, t3), (5, t5), (101, t101)]⟩ =
  condE t101 (
   kx .ret ⟨H, [(4, (V (.bool false)))]⟩) (
   plenumref28_Changes_r5 m n0 kc kx ⟨H, [(2, t2), (3, t3), (5, t5)]⟩) := by
  refine (joinW_eq Try.prog GG (plenumref28_Changes_env m) m ⟨102, []⟩ (cdR (cdR (cdL (cdL (cdR (cdL (cdL (cdR (cdL (cdR (cdR plenumref28_Changes_c))))))))))) plenumref28_Changes_h.r.r.l.r.c.c.r.l.c.r.r ⟨H, [(2, t2), (3, t3), (5, t5), (101, t101)]⟩ (blockX 1 (seqX (fun s => plenumref28_Changes_r5 m n0 kc kx ⟨s.H, [(2, gt s.T 2), (3, gt s.T 3), (5, gt s.T 5)]⟩) (backW n0 [2, 3, 5] [4] kc kx)))).trans ?_
  kernel_rfl
theorem plenumref28_Changes_r3_eq (m : Nat) (H : List AObj) : plenumref28_Changes_r3 m ⟨H, []⟩ =
  tellK H (ro H (V (.bool true))) := by
  refine (joinW_eq Try.prog GG (plenumref28_Changes_env m) m ⟨102, []⟩ (cdR (cdR (cdR plenumref28_Changes_c))) plenumref28_Changes_h.r.r.r ⟨H, []⟩ (plenumref28_Changes_fin)).trans ?_
  kernel_rfl
theorem plenumref28_Changes_b1_eq (m : Nat) (H : List AObj) (t2 t3 t5 : AV) (kc : ASt → RO) (kx : KO (AV × List AObj)) : plenumref28_Changes_b1 m ⟨H, [(2, t2), (3, t3), (5, t5)]⟩ kc kx =
  fieldE (some (5, 1)) t2 fun t52 =>
  loadE 1 H t52 fun t53 =>
  lenE false true H t53 fun t54 =>
  binE none false false .lss t5 t54 fun t55 =>
  condE t55 (
   fieldE (some (5, 1)) t2 fun t58 =>
   loadE 1 H t58 fun t59 =>
   idxSE 7 H t59 t5 fun t61 =>
   loadE 7 H t61 fun t62 =>
   fieldE (some (5, 1)) t3 fun t63 =>
   loadE 1 H t63 fun t64 =>
   idxSE 7 [] t64 t5 fun t66 =>
   loadE 7 H t66 fun t67 =>
   allocE (some zc_api_Cert) ty_api_Cert H fun t6 H2 =>
   loadE 7 H2 t66 fun t8021 =>
   eqE t67 t8021 (
   loadE 1 H2 t63 fun t8022 =>
   eqE t64 t8022 (
   allocE (some zc_api_Cert) ty_api_Cert H2 fun t7 H3 =>
   loadE 7 H3 t66 fun t8025 =>
   eqE t67 t8025 (
   loadE 1 H3 t63 fun t8026 =>
   eqE t64 t8026 (
   storeE 7 H3 t6 t62 fun H4 =>
   loadE 7 H4 t66 fun t8028 =>
   eqE t67 t8028 (
   loadE 1 H4 t63 fun t8029 =>
   eqE t64 t8029 (
   storeE 7 H4 t7 t67 fun H5 =>
   fieldE (some (0, 1)) t6 fun t68 =>
   loadE 1 H5 t68 fun t69 =>
   fieldE (some (0, 1)) t7 fun t70 =>
   loadE 1 H5 t70 fun t71 =>
   binE none false false .neq t69 t71 fun t72 =>
   condE t72 (
    plenumref28_Changes_r4 m H.length kc kx ⟨H5, [(2, t2), (3, t3), (5, t5), (101, (V (.bool true)))]⟩) (
    fieldE (some (1, 1)) t6 fun t74 =>
    loadE 1 H5 t74 fun t75 =>
    fieldE (some (1, 1)) t7 fun t76 =>
    loadE 1 H5 t76 fun t77 =>
    binE none false false .neq t75 t77 fun t78 =>
    condE t78 (
    plenumref28_Changes_r4 m H.length kc kx ⟨H5, [(2, t2), (3, t3), (5, t5), (101, (V (.bool true)))]⟩) (
    fieldE (some (2, 1)) t6 fun t81 =>
    loadE 1 H5 t81 fun t82 =>
    fieldE (some (2, 1)) t7 fun t83 =>
    loadE 1 H5 t83 fun t84 =>
    binE none false false .neq t82 t84 fun t85 =>
    condE t85 (
    plenumref28_Changes_r4 m H.length kc kx ⟨H5, [(2, t2), (3, t3), (5, t5), (101, (V (.bool true)))]⟩) (
    fieldE (some (3, 1)) t6 fun t88 =>
    loadE 1 H5 t88 fun t89 =>
    fieldE (some (3, 1)) t7 fun t90 =>
    loadE 1 H5 t90 fun t91 =>
    binE none false false .neq t89 t91 fun t92 =>
    condE t92 (
    plenumref28_Changes_r4 m H.length kc kx ⟨H5, [(2, t2), (3, t3), (5, t5), (101, (V (.bool true)))]⟩) (
    fieldE (some (4, 1)) t6 fun t95 =>
    loadE 1 H5 t95 fun t96 =>
    fieldE (some (4, 1)) t7 fun t97 =>
    loadE 1 H5 t97 fun t98 =>
    tellE (plenumref28_Stmts m (ro H5 t96) (ro H5 t98)) [(ro H5 t96), (ro H5 t98)] fun t99 =>
    unE .not t99 fun t100 =>
    plenumref28_Changes_r4 m H.length kc kx ⟨H5, [(2, t2), (3, t3), (5, t5), (101, t100)]⟩))))))))))) (
   kx (.exit 0) ⟨H, [(4, .nil)]⟩) := by
  refine (bodyW_eq Try.prog GG (plenumref28_Changes_env m) m ⟨102, []⟩ (cdL (cdL (cdR (cdL (cdR (cdR plenumref28_Changes_c)))))) plenumref28_Changes_h.r.r.l.r.c.c [2, 3, 5] [4] ⟨H, [(2, t2), (3, t3), (5, t5)]⟩ kc kx).trans ?_
  kernel_rfl
theorem plenumref28_Changes_r2_eq (m : Nat) (H : List AObj) (t2 t3 : AV) : plenumref28_Changes_r2 m ⟨H, [(2, t2), (3, t3)]⟩ =
  iterC m (plenumref28_Changes_b1 m) ⟨H, [(2, t2), (3, t3), (5, (V (.int .i64 0)))]⟩ (blockX 0 (seqX (fun s => plenumref28_Changes_r3 m ⟨s.H, []⟩) (plenumref28_Changes_fin))) := by
  refine (joinW_eq Try.prog GG (plenumref28_Changes_env m) m ⟨102, []⟩ (cdR (cdR plenumref28_Changes_c)) plenumref28_Changes_h.r.r ⟨H, [(2, t2), (3, t3)]⟩ (plenumref28_Changes_fin)).trans ?_
  kernel_rfl
theorem plenumref28_Changes_r1_eq (m : Nat) (H : List AObj) (t2 t3 t50 : AV) : plenumref28_Changes_r1 m ⟨H, [(2, t2), (3, t3), (50, t50)]⟩ =
  condE t50 (
   tellK H (ro H (V (.bool false)))) (
   plenumref28_Changes_r2 m ⟨H, [(2, t2), (3, t3)]⟩) := by
  refine (joinW_eq Try.prog GG (plenumref28_Changes_env m) m ⟨102, []⟩ (cdR (cdL (cdR plenumref28_Changes_c))) plenumref28_Changes_h.r.l.r ⟨H, [(2, t2), (3, t3), (50, t50)]⟩ (seqX (fun s => plenumref28_Changes_r2 m ⟨s.H, [(2, gt s.T 2), (3, gt s.T 3)]⟩) (plenumref28_Changes_fin))).trans ?_
  kernel_rfl
theorem plenumref28_Changes_eq (m : Nat) (t0 t1 : AV) : plenumref28_Changes m t0 t1 =
  boxE ty_api_Change [] t0 fun t2 H1 =>
  boxE ty_api_Change H1 t1 fun t3 H2 =>
  fieldE (some (0, 1)) t2 fun t8 =>
  loadE 1 H2 t8 fun t9 =>
  fieldE (some (0, 1)) t3 fun t10 =>
  loadE 1 H2 t10 fun t11 =>
  binE none false false .neq t9 t11 fun t12 =>
  condE t12 (
   plenumref28_Changes_r1 m ⟨H2, [(2, t2), (3, t3), (50, (V (.bool true)))]⟩) (
   fieldE (some (1, 1)) t2 fun t14 =>
   loadE 1 H2 t14 fun t15 =>
   fieldE (some (1, 1)) t3 fun t16 =>
   loadE 1 H2 t16 fun t17 =>
   binE none false false .neq t15 t17 fun t18 =>
   condE t18 (
   plenumref28_Changes_r1 m ⟨H2, [(2, t2), (3, t3), (50, (V (.bool true)))]⟩) (
   fieldE (some (2, 1)) t2 fun t21 =>
   loadE 1 H2 t21 fun t22 =>
   fieldE (some (2, 1)) t3 fun t23 =>
   loadE 1 H2 t23 fun t24 =>
   binE none false false .neq t22 t24 fun t25 =>
   condE t25 (
   plenumref28_Changes_r1 m ⟨H2, [(2, t2), (3, t3), (50, (V (.bool true)))]⟩) (
   fieldE (some (3, 1)) t2 fun t28 =>
   loadE 1 H2 t28 fun t29 =>
   fieldE (some (3, 1)) t3 fun t30 =>
   loadE 1 H2 t30 fun t31 =>
   binE none false false .neq t29 t31 fun t32 =>
   condE t32 (
   plenumref28_Changes_r1 m ⟨H2, [(2, t2), (3, t3), (50, (V (.bool true)))]⟩) (
   fieldE (some (4, 1)) t2 fun t35 =>
   loadE 1 H2 t35 fun t36 =>
   fieldE (some (4, 1)) t3 fun t37 =>
   loadE 1 H2 t37 fun t38 =>
   tellE (plenumref28_Stmts m (ro H2 t36) (ro H2 t38)) [(ro H2 t36), (ro H2 t38)] fun t39 =>
   unE .not t39 fun t40 =>
   condE t40 (
   plenumref28_Changes_r1 m ⟨H2, [(2, t2), (3, t3), (50, (V (.bool true)))]⟩) (
   fieldE (some (5, 1)) t2 fun t43 =>
   loadE 1 H2 t43 fun t44 =>
   lenE false true H2 t44 fun t45 =>
   fieldE (some (5, 1)) t3 fun t46 =>
   loadE 1 H2 t46 fun t47 =>
   lenE false true H2 t47 fun t48 =>
   binE none false false .neq t45 t48 fun t49 =>
   plenumref28_Changes_r1 m ⟨H2, [(2, t2), (3, t3), (50, t49)]⟩))))) := by
  refine (tellX Try.prog GG (plenumref28_Changes_env m) m ⟨102, []⟩ plenumref28_Changes_c plenumref28_Changes_h ⟨[], argsT 0 [t0, t1]⟩ [.tmp 4]).trans ?_
  kernel_rfl
noncomputable def plenumref28_Changes_t (m : Nat) : List AV → RO | [t0, t1] => plenumref28_Changes m t0 t1 | _ => none
theorem plenumref28_Changes_ok (m : Nat) : ∀ args X H', plenumref28_Changes_t m args = some (X, H') → ACp Try.prog GG 36 args X := by
  intro args X H' h
  unfold plenumref28_Changes_t at h
  split at h
  · exact tell_okK MIX (by
    intro f e h
    simp only [plenumref28_Changes_env, Prod.mk.injEq, List.mem_cons, List.not_mem_nil, or_false] at h
    obtain ⟨rfl, rfl⟩ := h
    · exact plenumref28_Stmts_ok m) (f := 36) (c := plenumref28_Changes_c) Try.func36 rfl (by kernel_rfl) _ rfl Try.ntmps36 (Nat.le_of_ble_eq_true rfl) plenumref28_Changes_h h
  · cases h
noncomputable def plenumref28_Same_c : Code := (Try.f11.body).getD .skip
def plenumref28_Same_h : Hint := (.two .n (.join [2, 3] (.join [2, 3, 62] .n (.two (.two .n .n) .n)) (.join [] (.two .n (.one (.lp [] [2, 3, 5] [4] (.two (.two .n (.two .n .n)) (.two (.one (.two .n (.two (.two .n .n) .n))) .n))))) (.two .n .n))))
noncomputable def plenumref28_Same_env (m : Nat) : Env := [(35, .tell (plenumref28_Stmts_t m)), (36, .tell (plenumref28_Changes_t m))]
noncomputable abbrev plenumref28_Same_fin : KO (AV × List AObj) := tellFK Try.prog [.tmp 4]
noncomputable def plenumref28_Same_r3 (m : Nat) (s : ASt) : RO := joinW Try.prog GG (plenumref28_Same_env m) m ⟨82, []⟩ (cdR (cdR (cdR plenumref28_Same_c))) plenumref28_Same_h.r.r.r s (plenumref28_Same_fin)
noncomputable def plenumref28_Same_b1 (m : Nat) (s : ASt) (kc : ASt → RO) (kx : KO (AV × List AObj)) : RO := bodyW Try.prog GG (plenumref28_Same_env m) m ⟨82, []⟩ (cdL (cdL (cdR (cdL (cdR (cdR plenumref28_Same_c)))))) plenumref28_Same_h.r.r.l.r.c.c [2, 3, 5] [4] s kc kx
noncomputable def plenumref28_Same_r2 (m : Nat) (s : ASt) : RO := joinW Try.prog GG (plenumref28_Same_env m) m ⟨82, []⟩ (cdR (cdR plenumref28_Same_c)) plenumref28_Same_h.r.r s (plenumref28_Same_fin)
noncomputable def plenumref28_Same_r1 (m : Nat) (s : ASt) : RO := joinW Try.prog GG (plenumref28_Same_env m) m ⟨82, []⟩ (cdR (cdL (cdR plenumref28_Same_c))) plenumref28_Same_h.r.l.r s (seqX (fun s => plenumref28_Same_r2 m ⟨s.H, [(2, gt s.T 2), (3, gt s.T 3)]⟩) (plenumref28_Same_fin))
noncomputable def plenumref28_Same (m : Nat) (t0 t1 : AV) : RO := exec Try.prog GG (plenumref28_Same_env m) m ⟨82, []⟩ plenumref28_Same_c plenumref28_Same_h ⟨[], argsT 0 [t0, t1]⟩ (plenumref28_Same_fin)
theorem plenumref28_Same_r3_eq (m : Nat) (H : List AObj) : plenumref28_Same_r3 m ⟨H, []⟩ =
  tellK H (ro H (V (.bool true))) := by
  refine (joinW_eq Try.prog GG (plenumref28_Same_env m) m ⟨82, []⟩ (cdR (cdR (cdR plenumref28_Same_c))) plenumref28_Same_h.r.r.r ⟨H, []⟩ (plenumref28_Same_fin)).trans ?_
  kernel_rfl
theorem plenumref28_Same_b1_eq (m : Nat) (H : List AObj) (t2 t3 t5 : AV) (kc : ASt → RO) (kx : KO (AV × List AObj)) : plenumref28_Same_b1 m ⟨H, [(2, t2), (3, t3), (5, t5)]⟩ kc kx =
  fieldE (some (7, 1)) t2 fun t64 =>
  loadE 1 H t64 fun t65 =>
  lenE false true H t65 fun t66 =>
  binE none false false .lss t5 t66 fun t67 =>
  condE t67 (
   fieldE (some (7, 1)) t2 fun t70 =>
   loadE 1 H t70 fun t71 =>
   idxSE 8 H t71 t5 fun t73 =>
   loadE 8 H t73 fun t74 =>
   fieldE (some (7, 1)) t3 fun t75 =>
   loadE 1 H t75 fun t76 =>
   idxSE 8 H t76 t5 fun t78 =>
   loadE 8 H t78 fun t79 =>
   tellE (plenumref28_Changes m (ro H t74) (ro H t79)) [(ro H t74), (ro H t79)] fun t80 =>
   unE .not t80 fun t81 =>
   condE t81 (
    kx .ret ⟨H, [(4, (V (.bool false)))]⟩) (
    binE none false false .add t5 (V (.int .i64 1)) fun t69 =>
    backE H.length H [(2, t2), (3, t3), (5, t69)] kc)) (
   kx (.exit 0) ⟨H, [(4, .nil)]⟩) := by
  refine (bodyW_eq Try.prog GG (plenumref28_Same_env m) m ⟨82, []⟩ (cdL (cdL (cdR (cdL (cdR (cdR plenumref28_Same_c)))))) plenumref28_Same_h.r.r.l.r.c.c [2, 3, 5] [4] ⟨H, [(2, t2), (3, t3), (5, t5)]⟩ kc kx).trans ?_
  kernel_rfl
theorem plenumref28_Same_r2_eq (m : Nat) (H : List AObj) (t2 t3 : AV) : plenumref28_Same_r2 m ⟨H, [(2, t2), (3, t3)]⟩ =
  iterC m (plenumref28_Same_b1 m) ⟨H, [(2, t2), (3, t3), (5, (V (.int .i64 0)))]⟩ (blockX 0 (seqX (fun s => plenumref28_Same_r3 m ⟨s.H, []⟩) (plenumref28_Same_fin))) := by
  refine (joinW_eq Try.prog GG (plenumref28_Same_env m) m ⟨82, []⟩ (cdR (cdR plenumref28_Same_c)) plenumref28_Same_h.r.r ⟨H, [(2, t2), (3, t3)]⟩ (plenumref28_Same_fin)).trans ?_
  kernel_rfl
theorem plenumref28_Same_r1_eq (m : Nat) (H : List AObj) (t2 t3 t62 : AV) : plenumref28_Same_r1 m ⟨H, [(2, t2), (3, t3), (62, t62)]⟩ =
  condE t62 (
   tellK H (ro H (V (.bool false)))) (
   plenumref28_Same_r2 m ⟨H, [(2, t2), (3, t3)]⟩) := by
  refine (joinW_eq Try.prog GG (plenumref28_Same_env m) m ⟨82, []⟩ (cdR (cdL (cdR plenumref28_Same_c))) plenumref28_Same_h.r.l.r ⟨H, [(2, t2), (3, t3), (62, t62)]⟩ (seqX (fun s => plenumref28_Same_r2 m ⟨s.H, [(2, gt s.T 2), (3, gt s.T 3)]⟩) (plenumref28_Same_fin))).trans ?_
  kernel_rfl
theorem plenumref28_Same_eq (m : Nat) (t0 t1 : AV) : plenumref28_Same m t0 t1 =
  boxE ty_api_Msg [] t0 fun t2 H1 =>
  boxE ty_api_Msg H1 t1 fun t3 H2 =>
  fieldE (some (0, 1)) t2 fun t6 =>
  loadE 1 H2 t6 fun t7 =>
  fieldE (some (0, 1)) t3 fun t8 =>
  loadE 1 H2 t8 fun t9 =>
  binE none false false .neq t7 t9 fun t10 =>
  condE t10 (
   plenumref28_Same_r1 m ⟨H2, [(2, t2), (3, t3), (62, (V (.bool true)))]⟩) (
   fieldE (some (1, 1)) t2 fun t12 =>
   loadE 1 H2 t12 fun t13 =>
   fieldE (some (1, 1)) t3 fun t14 =>
   loadE 1 H2 t14 fun t15 =>
   binE none false false .neq t13 t15 fun t16 =>
   condE t16 (
   plenumref28_Same_r1 m ⟨H2, [(2, t2), (3, t3), (62, (V (.bool true)))]⟩) (
   fieldE (some (2, 1)) t2 fun t19 =>
   loadE 1 H2 t19 fun t20 =>
   fieldE (some (2, 1)) t3 fun t21 =>
   loadE 1 H2 t21 fun t22 =>
   binE none false false .neq t20 t22 fun t23 =>
   condE t23 (
   plenumref28_Same_r1 m ⟨H2, [(2, t2), (3, t3), (62, (V (.bool true)))]⟩) (
   fieldE (some (3, 1)) t2 fun t26 =>
   loadE 1 H2 t26 fun t27 =>
   fieldE (some (3, 1)) t3 fun t28 =>
   loadE 1 H2 t28 fun t29 =>
   binE none false false .neq t27 t29 fun t30 =>
   condE t30 (
   plenumref28_Same_r1 m ⟨H2, [(2, t2), (3, t3), (62, (V (.bool true)))]⟩) (
   fieldE (some (4, 1)) t2 fun t33 =>
   loadE 1 H2 t33 fun t34 =>
   fieldE (some (4, 1)) t3 fun t35 =>
   loadE 1 H2 t35 fun t36 =>
   binE none false false .neq t34 t36 fun t37 =>
   condE t37 (
   plenumref28_Same_r1 m ⟨H2, [(2, t2), (3, t3), (62, (V (.bool true)))]⟩) (
   fieldE (some (5, 1)) t2 fun t40 =>
   loadE 1 H2 t40 fun t41 =>
   fieldE (some (5, 1)) t3 fun t42 =>
   loadE 1 H2 t42 fun t43 =>
   binE none false false .neq t41 t43 fun t44 =>
   condE t44 (
   plenumref28_Same_r1 m ⟨H2, [(2, t2), (3, t3), (62, (V (.bool true)))]⟩) (
   fieldE (some (6, 1)) t2 fun t47 =>
   loadE 1 H2 t47 fun t48 =>
   fieldE (some (6, 1)) t3 fun t49 =>
   loadE 1 H2 t49 fun t50 =>
   tellE (plenumref28_Stmts m (ro H2 t48) (ro H2 t50)) [(ro H2 t48), (ro H2 t50)] fun t51 =>
   unE .not t51 fun t52 =>
   condE t52 (
   plenumref28_Same_r1 m ⟨H2, [(2, t2), (3, t3), (62, (V (.bool true)))]⟩) (
   fieldE (some (7, 1)) t2 fun t55 =>
   loadE 1 H2 t55 fun t56 =>
   lenE false true H2 t56 fun t57 =>
   fieldE (some (7, 1)) t3 fun t58 =>
   loadE 1 H2 t58 fun t59 =>
   lenE false true H2 t59 fun t60 =>
   binE none false false .neq t57 t60 fun t61 =>
   plenumref28_Same_r1 m ⟨H2, [(2, t2), (3, t3), (62, t61)]⟩))))))) := by
  refine (tellX Try.prog GG (plenumref28_Same_env m) m ⟨82, []⟩ plenumref28_Same_c plenumref28_Same_h ⟨[], argsT 0 [t0, t1]⟩ [.tmp 4]).trans ?_
  kernel_rfl
noncomputable def plenumref28_Same_t (m : Nat) : List AV → RO | [t0, t1] => plenumref28_Same m t0 t1 | _ => none
theorem plenumref28_Same_ok (m : Nat) : ∀ args X H', plenumref28_Same_t m args = some (X, H') → ACp Try.prog GG 11 args X := by
  intro args X H' h
  unfold plenumref28_Same_t at h
  split at h
  · exact tell_okK MIX (by
    intro f e h
    simp only [plenumref28_Same_env, Prod.mk.injEq, List.mem_cons, List.not_mem_nil, or_false] at h
    rcases h with ⟨rfl, rfl⟩ | ⟨rfl, rfl⟩
    · exact plenumref28_Stmts_ok m
    · exact plenumref28_Changes_ok m) (f := 11) (c := plenumref28_Same_c) Try.func11 rfl (by kernel_rfl) _ rfl Try.ntmps11 (Nat.le_of_ble_eq_true rfl) plenumref28_Same_h h
  · cases h
noncomputable def plenumlaw28_text_c : Code := (Try.f37.body).getD .skip
def plenumlaw28_text_h : Hint := (.two .n (.join [0] (.join [0, 10] .n (.two (.two .n .n) .n)) (.two (.two .n (.two (.two .n .n) .n)) (.two .n .n))))
noncomputable def plenumlaw28_text_env (m : Nat) : Env := []
noncomputable abbrev plenumlaw28_text_fin : KO (AV × List AObj) := tellFK Try.prog [.tmp 2]
noncomputable def plenumlaw28_text_r2 (m : Nat) (s : ASt) : RO := joinW Try.prog GG (plenumlaw28_text_env m) m ⟨19, []⟩ (cdR (cdR plenumlaw28_text_c)) plenumlaw28_text_h.r.r s (plenumlaw28_text_fin)
noncomputable def plenumlaw28_text_r1 (m : Nat) (s : ASt) : RO := joinW Try.prog GG (plenumlaw28_text_env m) m ⟨19, []⟩ (cdR (cdL (cdR plenumlaw28_text_c))) plenumlaw28_text_h.r.l.r s (seqX (fun s => plenumlaw28_text_r2 m ⟨s.H, [(0, gt s.T 0)]⟩) (plenumlaw28_text_fin))
noncomputable def plenumlaw28_text (m : Nat) (t0 : AV) : RO := exec Try.prog GG (plenumlaw28_text_env m) m ⟨19, []⟩ plenumlaw28_text_c plenumlaw28_text_h ⟨[], argsT 0 [t0]⟩ (plenumlaw28_text_fin)
theorem plenumlaw28_text_r2_eq (m : Nat) (H : List AObj) (t0 : AV) : plenumlaw28_text_r2 m ⟨H, [(0, t0)]⟩ =
  lenE true false H t0 fun t14 =>
  binE none false false .gtr t14 (V (.int .i64 65540)) fun t15 =>
  condE t15 (
   sliceE true none H t0 none (some (V (.int .i64 65540))) fun t17 =>
   tellK H (ro H t17)) (
   tellK H (ro H t0)) := by
  refine (joinW_eq Try.prog GG (plenumlaw28_text_env m) m ⟨19, []⟩ (cdR (cdR plenumlaw28_text_c)) plenumlaw28_text_h.r.r ⟨H, [(0, t0)]⟩ (plenumlaw28_text_fin)).trans ?_
  kernel_rfl
theorem plenumlaw28_text_r1_eq (m : Nat) (H : List AObj) (t0 t10 : AV) : plenumlaw28_text_r1 m ⟨H, [(0, t0), (10, t10)]⟩ =
  condE t10 (
   sliceE true none H t0 none (some (V (.int .i64 3000))) fun t12 =>
   tellK H (ro H t12)) (
   plenumlaw28_text_r2 m ⟨H, [(0, t0)]⟩) := by
  refine (joinW_eq Try.prog GG (plenumlaw28_text_env m) m ⟨19, []⟩ (cdR (cdL (cdR plenumlaw28_text_c))) plenumlaw28_text_h.r.l.r ⟨H, [(0, t0), (10, t10)]⟩ (seqX (fun s => plenumlaw28_text_r2 m ⟨s.H, [(0, gt s.T 0)]⟩) (plenumlaw28_text_fin))).trans ?_
  kernel_rfl
theorem plenumlaw28_text_eq (m : Nat) (t0 : AV) : plenumlaw28_text m t0 =
  lenE true false [] t0 fun t4 =>
  binE none false false .gtr t4 (V (.int .i64 3000)) fun t5 =>
  condE t5 (
   lenE true false [] t0 fun t8 =>
   binE none false false .leq t8 (V (.int .i64 65536)) fun t9 =>
   plenumlaw28_text_r1 m ⟨[], [(0, t0), (10, t9)]⟩) (
   plenumlaw28_text_r1 m ⟨[], [(0, t0), (10, (V (.bool false)))]⟩) := by
  refine (tellX Try.prog GG (plenumlaw28_text_env m) m ⟨19, []⟩ plenumlaw28_text_c plenumlaw28_text_h ⟨[], argsT 0 [t0]⟩ [.tmp 2]).trans ?_
  kernel_rfl
noncomputable def plenumlaw28_text_t (m : Nat) : List AV → RO | [t0] => plenumlaw28_text m t0 | _ => none
theorem plenumlaw28_text_ok (m : Nat) : ∀ args X H', plenumlaw28_text_t m args = some (X, H') → ACp Try.prog GG 37 args X := by
  intro args X H' h
  unfold plenumlaw28_text_t at h
  split at h
  · exact tell_okK MIX (by intro f e h; cases h) (f := 37) (c := plenumlaw28_text_c) Try.func37 rfl (by kernel_rfl) _ rfl Try.ntmps37 (Nat.le_of_ble_eq_true rfl) plenumlaw28_text_h h
  · cases h
noncomputable def plenumlaw28_stmts_c : Code := (Try.f38.body).getD .skip
def plenumlaw28_stmts_h : Hint := (.two .n (.two (.two .n (.two (.two .n .n) .n)) (.two .n .n)))
noncomputable def plenumlaw28_stmts_env (m : Nat) : Env := []
noncomputable abbrev plenumlaw28_stmts_fin : KO (AV × List AObj) := tellFK Try.prog [.tmp 2]
noncomputable def plenumlaw28_stmts (m : Nat) (t0 : AV) : RO := exec Try.prog GG (plenumlaw28_stmts_env m) m ⟨9, []⟩ plenumlaw28_stmts_c plenumlaw28_stmts_h ⟨[], argsT 0 [t0]⟩ (plenumlaw28_stmts_fin)
theorem plenumlaw28_stmts_eq (m : Nat) (t0 : AV) : plenumlaw28_stmts m t0 =
  lenE false true [] t0 fun t4 =>
  binE none false false .gtr t4 (V (.int .i64 66)) fun t5 =>
  condE t5 (
   sliceE false (some (ty_api_Stmt, 7)) [] t0 none (some (V (.int .i64 66))) fun t7 =>
   tellK [] (ro [] t7)) (
   tellK [] (ro [] t0)) := by
  refine (tellX Try.prog GG (plenumlaw28_stmts_env m) m ⟨9, []⟩ plenumlaw28_stmts_c plenumlaw28_stmts_h ⟨[], argsT 0 [t0]⟩ [.tmp 2]).trans ?_
  kernel_rfl
noncomputable def plenumlaw28_stmts_t (m : Nat) : List AV → RO | [t0] => plenumlaw28_stmts m t0 | _ => none
theorem plenumlaw28_stmts_ok (m : Nat) : ∀ args X H', plenumlaw28_stmts_t m args = some (X, H') → ACp Try.prog GG 38 args X := by
  intro args X H' h
  unfold plenumlaw28_stmts_t at h
  split at h
  · exact tell_okK MIX (by intro f e h; cases h) (f := 38) (c := plenumlaw28_stmts_c) Try.func38 rfl (by kernel_rfl) _ rfl Try.ntmps38 (Nat.le_of_ble_eq_true rfl) plenumlaw28_stmts_h h
  · cases h
noncomputable def plenumlaw28_FewChange_c : Code := (Try.f39.body).getD .skip
def plenumlaw28_FewChange_h : Hint := (.two .n (.two .n (.join [1, 2] (.two .n (.two .n .n)) (.two .n (.join [1, 2, 3] (.two .n (.one (.lp [(3, ty_api_Cert, 5)] [1, 2, 3, 4] [1, 2, 3] (.two (.two .n (.two .n .n)) (.two (.one (.two .n (.two .n (.two .n .n)))) .n))))) (.two .n (.two .n .n)))))))
noncomputable def plenumlaw28_FewChange_env (m : Nat) : Env := [(38, .tell (plenumlaw28_stmts_t m)), (37, .tell (plenumlaw28_text_t m))]
noncomputable abbrev plenumlaw28_FewChange_fin : KO (AV × List AObj) := tellFK Try.prog [.cell 2 43]
noncomputable def plenumlaw28_FewChange_r2 (m : Nat) (s : ASt) : RO := joinW Try.prog GG (plenumlaw28_FewChange_env m) m ⟨45, []⟩ (cdR (cdR (cdR (cdR (cdR plenumlaw28_FewChange_c))))) plenumlaw28_FewChange_h.r.r.r.r.r s (plenumlaw28_FewChange_fin)
noncomputable def plenumlaw28_FewChange_b1 (m : Nat) (s : ASt) (kc : ASt → RO) (kx : KO (AV × List AObj)) : RO := bodyW Try.prog GG (plenumlaw28_FewChange_env m) m ⟨45, []⟩ (cdL (cdL (cdR (cdL (cdR (cdR (cdR (cdR plenumlaw28_FewChange_c)))))))) plenumlaw28_FewChange_h.r.r.r.r.l.r.c.c [1, 2, 3, 4] [1, 2, 3] s kc kx
noncomputable def plenumlaw28_FewChange_r1 (m : Nat) (s : ASt) : RO := joinW Try.prog GG (plenumlaw28_FewChange_env m) m ⟨45, []⟩ (cdR (cdR (cdR plenumlaw28_FewChange_c))) plenumlaw28_FewChange_h.r.r.r s (plenumlaw28_FewChange_fin)
noncomputable def plenumlaw28_FewChange (m : Nat) (t0 : AV) : RO := exec Try.prog GG (plenumlaw28_FewChange_env m) m ⟨45, []⟩ plenumlaw28_FewChange_c plenumlaw28_FewChange_h ⟨[], argsT 0 [t0]⟩ (plenumlaw28_FewChange_fin)
theorem plenumlaw28_FewChange_r2_eq (m : Nat) (H : List AObj) (t1 t2 t3 : AV) : plenumlaw28_FewChange_r2 m ⟨H, [(1, t1), (2, t2), (3, t3)]⟩ =
  fieldE (some (5, 1)) t1 fun t43 =>
  storeE 1 H t43 t3 fun H2 =>
  loadE 8 H2 t1 fun t44 =>
  storeE 8 H2 t2 t44 fun H3 =>
  loadE 8 H3 t2 fun t9000 =>
  tellK H3 (ro H3 t9000) := by
  refine (joinW_eq Try.prog GG (plenumlaw28_FewChange_env m) m ⟨45, []⟩ (cdR (cdR (cdR (cdR (cdR plenumlaw28_FewChange_c))))) plenumlaw28_FewChange_h.r.r.r.r.r ⟨H, [(1, t1), (2, t2), (3, t3)]⟩ (plenumlaw28_FewChange_fin)).trans ?_
  kernel_rfl
theorem plenumlaw28_FewChange_b1_eq (m : Nat) (H : List AObj) (t1 t2 t3 t4 : AV) (kc : ASt → RO) (kx : KO (AV × List AObj)) : plenumlaw28_FewChange_b1 m ⟨H, [(1, t1), (2, t2), (3, t3), (4, t4)]⟩ kc kx =
  fieldE (some (5, 1)) t1 fun t19 =>
  loadE 1 H t19 fun t20 =>
  lenE false true H t20 fun t21 =>
  binE none false false .lss t4 t21 fun t22 =>
  condE t22 (
   fieldE (some (5, 1)) t1 fun t25 =>
   loadE 1 H t25 fun t26 =>
   idxSE 7 H t26 t4 fun t28 =>
   loadE 7 H t28 fun t29 =>
   allocE (some zc_api_Cert) ty_api_Cert H fun t5 H2 =>
   storeE 7 H2 t5 t29 fun H3 =>
   fieldE (some (3, 1)) t5 fun t30 =>
   loadE 1 H3 t30 fun t31 =>
   tellE (plenumlaw28_text m (ro H3 t31)) [(ro H3 t31)] fun t32 =>
   fieldE (some (3, 1)) t5 fun t33 =>
   storeE 1 H3 t33 t32 fun H4 =>
   fieldE (some (4, 1)) t5 fun t34 =>
   loadE 1 H4 t34 fun t35 =>
   tellE (plenumlaw28_stmts m (ro H4 t35)) [(ro H4 t35)] fun t36 =>
   fieldE (some (4, 1)) t5 fun t37 =>
   storeE 1 H4 t37 t36 fun H5 =>
   loadE 7 H5 t5 fun t39 =>
   buildSE (some (ty_api_Cert, 5)) 1 [(0, t39)] fun t40 =>
   appE (some (ty_api_Cert, 5)) H5 t3 t40 fun t41 H6 =>
   binE none false false .add t4 (V (.int .i64 1)) fun t24 =>
   backE H.length H6 [(1, t1), (2, t2), (3, t41), (4, t24)] kc) (
   kx (.exit 0) ⟨H, [(1, t1), (2, t2), (3, t3)]⟩) := by
  refine (bodyW_eq Try.prog GG (plenumlaw28_FewChange_env m) m ⟨45, []⟩ (cdL (cdL (cdR (cdL (cdR (cdR (cdR (cdR plenumlaw28_FewChange_c)))))))) plenumlaw28_FewChange_h.r.r.r.r.l.r.c.c [1, 2, 3, 4] [1, 2, 3] ⟨H, [(1, t1), (2, t2), (3, t3), (4, t4)]⟩ kc kx).trans ?_
  kernel_rfl
theorem plenumlaw28_FewChange_r1_eq (m : Nat) (H : List AObj) (t1 t2 : AV) : plenumlaw28_FewChange_r1 m ⟨H, [(1, t1), (2, t2)]⟩ =
  rowE (V (.slice none 0 0)) ty_api_Cert 5 H fun t3 H2 =>
  iterC m (plenumlaw28_FewChange_b1 m) ⟨H2, [(1, t1), (2, t2), (3, t3), (4, (V (.int .i64 0)))]⟩ (blockX 0 (seqX (fun s => plenumlaw28_FewChange_r2 m ⟨s.H, [(1, gt s.T 1), (2, gt s.T 2), (3, gt s.T 3)]⟩) (plenumlaw28_FewChange_fin))) := by
  refine (joinW_eq Try.prog GG (plenumlaw28_FewChange_env m) m ⟨45, []⟩ (cdR (cdR (cdR plenumlaw28_FewChange_c))) plenumlaw28_FewChange_h.r.r.r ⟨H, [(1, t1), (2, t2)]⟩ (plenumlaw28_FewChange_fin)).trans ?_
  kernel_rfl
theorem plenumlaw28_FewChange_eq (m : Nat) (t0 : AV) : plenumlaw28_FewChange m t0 =
  boxE ty_api_Change [] t0 fun t1 H1 =>
  allocE (some zc_api_Change) ty_api_Change H1 fun t2 H2 =>
  fieldE (some (4, 1)) t1 fun t6 =>
  loadE 1 H2 t6 fun t7 =>
  tellE (plenumlaw28_stmts m (ro H2 t7)) [(ro H2 t7)] fun t8 =>
  fieldE (some (4, 1)) t1 fun t9 =>
  storeE 1 H2 t9 t8 fun H3 =>
  fieldE (some (5, 1)) t1 fun t10 =>
  loadE 1 H3 t10 fun t11 =>
  lenE false true H3 t11 fun t12 =>
  binE none false false .gtr t12 (V (.int .i64 66)) fun t13 =>
  condE t13 (
   fieldE (some (5, 1)) t1 fun t14 =>
   loadE 1 H3 t14 fun t15 =>
   sliceE false (some (ty_api_Cert, 7)) H3 t15 none (some (V (.int .i64 66))) fun t16 =>
   fieldE (some (5, 1)) t1 fun t17 =>
   storeE 1 H3 t17 t16 fun H4 =>
   plenumlaw28_FewChange_r1 m ⟨H4, [(1, t1), (2, t2)]⟩) (
   plenumlaw28_FewChange_r1 m ⟨H3, [(1, t1), (2, t2)]⟩) := by
  refine (tellX Try.prog GG (plenumlaw28_FewChange_env m) m ⟨45, []⟩ plenumlaw28_FewChange_c plenumlaw28_FewChange_h ⟨[], argsT 0 [t0]⟩ [.cell 2 43]).trans ?_
  kernel_rfl
noncomputable def plenumlaw28_FewChange_t (m : Nat) : List AV → RO | [t0] => plenumlaw28_FewChange m t0 | _ => none
theorem plenumlaw28_FewChange_ok (m : Nat) : ∀ args X H', plenumlaw28_FewChange_t m args = some (X, H') → ACp Try.prog GG 39 args X := by
  intro args X H' h
  unfold plenumlaw28_FewChange_t at h
  split at h
  · exact tell_okK MIX (by
    intro f e h
    simp only [plenumlaw28_FewChange_env, Prod.mk.injEq, List.mem_cons, List.not_mem_nil, or_false] at h
    rcases h with ⟨rfl, rfl⟩ | ⟨rfl, rfl⟩
    · exact plenumlaw28_stmts_ok m
    · exact plenumlaw28_text_ok m) (f := 39) (c := plenumlaw28_FewChange_c) Try.func39 rfl (by kernel_rfl) _ rfl Try.ntmps39 (Nat.le_of_ble_eq_true rfl) plenumlaw28_FewChange_h h
  · cases h
noncomputable def plenumlaw28_Few_c : Code := (Try.f12.body).getD .skip
def plenumlaw28_Few_h : Hint := (.two .n (.two .n (.two .n (.join [1, 2] (.two .n (.two .n .n)) (.two .n (.join [1, 2, 3] (.two .n (.one (.lp [(3, ty_api_Change, 6)] [1, 2, 3, 4] [1, 2, 3] (.two (.two .n (.two .n .n)) (.two (.one .n) .n))))) (.two .n (.two .n .n))))))))
noncomputable def plenumlaw28_Few_env (m : Nat) : Env := [(37, .tell (plenumlaw28_text_t m)), (38, .tell (plenumlaw28_stmts_t m)), (39, .tell (plenumlaw28_FewChange_t m))]
noncomputable abbrev plenumlaw28_Few_fin : KO (AV × List AObj) := tellFK Try.prog [.cell 2 27]
noncomputable def plenumlaw28_Few_r2 (m : Nat) (s : ASt) : RO := joinW Try.prog GG (plenumlaw28_Few_env m) m ⟨40, []⟩ (cdR (cdR (cdR (cdR (cdR (cdR plenumlaw28_Few_c)))))) plenumlaw28_Few_h.r.r.r.r.r.r s (plenumlaw28_Few_fin)
noncomputable def plenumlaw28_Few_b1 (m : Nat) (s : ASt) (kc : ASt → RO) (kx : KO (AV × List AObj)) : RO := bodyW Try.prog GG (plenumlaw28_Few_env m) m ⟨40, []⟩ (cdL (cdL (cdR (cdL (cdR (cdR (cdR (cdR (cdR plenumlaw28_Few_c))))))))) plenumlaw28_Few_h.r.r.r.r.r.l.r.c.c [1, 2, 3, 4] [1, 2, 3] s kc kx
noncomputable def plenumlaw28_Few_r1 (m : Nat) (s : ASt) : RO := joinW Try.prog GG (plenumlaw28_Few_env m) m ⟨40, []⟩ (cdR (cdR (cdR (cdR plenumlaw28_Few_c)))) plenumlaw28_Few_h.r.r.r.r s (plenumlaw28_Few_fin)
noncomputable def plenumlaw28_Few (m : Nat) (t0 : AV) : RO := exec Try.prog GG (plenumlaw28_Few_env m) m ⟨40, []⟩ plenumlaw28_Few_c plenumlaw28_Few_h ⟨[], argsT 0 [t0]⟩ (plenumlaw28_Few_fin)
theorem plenumlaw28_Few_r2_eq (m : Nat) (H : List AObj) (t1 t2 t3 : AV) : plenumlaw28_Few_r2 m ⟨H, [(1, t1), (2, t2), (3, t3)]⟩ =
  fieldE (some (7, 1)) t1 fun t38 =>
  storeE 1 H t38 t3 fun H2 =>
  loadE 10 H2 t1 fun t39 =>
  storeE 10 H2 t2 t39 fun H3 =>
  loadE 10 H3 t2 fun t9000 =>
  tellK H3 (ro H3 t9000) := by
  refine (joinW_eq Try.prog GG (plenumlaw28_Few_env m) m ⟨40, []⟩ (cdR (cdR (cdR (cdR (cdR (cdR plenumlaw28_Few_c)))))) plenumlaw28_Few_h.r.r.r.r.r.r ⟨H, [(1, t1), (2, t2), (3, t3)]⟩ (plenumlaw28_Few_fin)).trans ?_
  kernel_rfl
theorem plenumlaw28_Few_b1_eq (m : Nat) (H : List AObj) (t1 t2 t3 t4 : AV) (kc : ASt → RO) (kx : KO (AV × List AObj)) : plenumlaw28_Few_b1 m ⟨H, [(1, t1), (2, t2), (3, t3), (4, t4)]⟩ kc kx =
  fieldE (some (7, 1)) t1 fun t22 =>
  loadE 1 H t22 fun t23 =>
  lenE false true H t23 fun t24 =>
  binE none false false .lss t4 t24 fun t25 =>
  condE t25 (
   fieldE (some (7, 1)) t1 fun t29 =>
   loadE 1 H t29 fun t30 =>
   idxSE 8 H t30 t4 fun t32 =>
   loadE 8 H t32 fun t33 =>
   tellE (plenumlaw28_FewChange m (ro H t33)) [(ro H t33)] fun t34 =>
   buildSE (some (ty_api_Change, 6)) 1 [(0, t34)] fun t35 =>
   appE (some (ty_api_Change, 6)) H t3 t35 fun t36 H2 =>
   binE none false false .add t4 (V (.int .i64 1)) fun t27 =>
   backE H.length H2 [(1, t1), (2, t2), (3, t36), (4, t27)] kc) (
   kx (.exit 0) ⟨H, [(1, t1), (2, t2), (3, t3)]⟩) := by
  refine (bodyW_eq Try.prog GG (plenumlaw28_Few_env m) m ⟨40, []⟩ (cdL (cdL (cdR (cdL (cdR (cdR (cdR (cdR (cdR plenumlaw28_Few_c))))))))) plenumlaw28_Few_h.r.r.r.r.r.l.r.c.c [1, 2, 3, 4] [1, 2, 3] ⟨H, [(1, t1), (2, t2), (3, t3), (4, t4)]⟩ kc kx).trans ?_
  kernel_rfl
theorem plenumlaw28_Few_r1_eq (m : Nat) (H : List AObj) (t1 t2 : AV) : plenumlaw28_Few_r1 m ⟨H, [(1, t1), (2, t2)]⟩ =
  rowE (V (.slice none 0 0)) ty_api_Change 6 H fun t3 H2 =>
  iterC m (plenumlaw28_Few_b1 m) ⟨H2, [(1, t1), (2, t2), (3, t3), (4, (V (.int .i64 0)))]⟩ (blockX 0 (seqX (fun s => plenumlaw28_Few_r2 m ⟨s.H, [(1, gt s.T 1), (2, gt s.T 2), (3, gt s.T 3)]⟩) (plenumlaw28_Few_fin))) := by
  refine (joinW_eq Try.prog GG (plenumlaw28_Few_env m) m ⟨40, []⟩ (cdR (cdR (cdR (cdR plenumlaw28_Few_c)))) plenumlaw28_Few_h.r.r.r.r ⟨H, [(1, t1), (2, t2)]⟩ (plenumlaw28_Few_fin)).trans ?_
  kernel_rfl
theorem plenumlaw28_Few_eq (m : Nat) (t0 : AV) : plenumlaw28_Few m t0 =
  boxE ty_api_Msg [] t0 fun t1 H1 =>
  allocE (some zc_api_Msg) ty_api_Msg H1 fun t2 H2 =>
  fieldE (some (5, 1)) t1 fun t5 =>
  loadE 1 H2 t5 fun t6 =>
  tellE (plenumlaw28_text m (ro H2 t6)) [(ro H2 t6)] fun t7 =>
  fieldE (some (5, 1)) t1 fun t8 =>
  storeE 1 H2 t8 t7 fun H3 =>
  fieldE (some (6, 1)) t1 fun t9 =>
  loadE 1 H3 t9 fun t10 =>
  tellE (plenumlaw28_stmts m (ro H3 t10)) [(ro H3 t10)] fun t11 =>
  fieldE (some (6, 1)) t1 fun t12 =>
  storeE 1 H3 t12 t11 fun H4 =>
  fieldE (some (7, 1)) t1 fun t13 =>
  loadE 1 H4 t13 fun t14 =>
  lenE false true H4 t14 fun t15 =>
  binE none false false .gtr t15 (V (.int .i64 66)) fun t16 =>
  condE t16 (
   fieldE (some (7, 1)) t1 fun t17 =>
   loadE 1 H4 t17 fun t18 =>
   sliceE false (some (ty_api_Change, 8)) H4 t18 none (some (V (.int .i64 66))) fun t19 =>
   fieldE (some (7, 1)) t1 fun t20 =>
   storeE 1 H4 t20 t19 fun H5 =>
   plenumlaw28_Few_r1 m ⟨H5, [(1, t1), (2, t2)]⟩) (
   plenumlaw28_Few_r1 m ⟨H4, [(1, t1), (2, t2)]⟩) := by
  refine (tellX Try.prog GG (plenumlaw28_Few_env m) m ⟨40, []⟩ plenumlaw28_Few_c plenumlaw28_Few_h ⟨[], argsT 0 [t0]⟩ [.cell 2 27]).trans ?_
  kernel_rfl
noncomputable def plenumlaw28_Few_t (m : Nat) : List AV → RO | [t0] => plenumlaw28_Few m t0 | _ => none
theorem plenumlaw28_Few_ok (m : Nat) : ∀ args X H', plenumlaw28_Few_t m args = some (X, H') → ACp Try.prog GG 12 args X := by
  intro args X H' h
  unfold plenumlaw28_Few_t at h
  split at h
  · exact tell_okK MIX (by
    intro f e h
    simp only [plenumlaw28_Few_env, Prod.mk.injEq, List.mem_cons, List.not_mem_nil, or_false] at h
    rcases h with ⟨rfl, rfl⟩ | ⟨rfl, rfl⟩ | ⟨rfl, rfl⟩
    · exact plenumlaw28_text_ok m
    · exact plenumlaw28_stmts_ok m
    · exact plenumlaw28_FewChange_ok m) (f := 12) (c := plenumlaw28_Few_c) Try.func12 rfl (by kernel_rfl) _ rfl Try.ntmps12 (Nat.le_of_ble_eq_true rfl) plenumlaw28_Few_h h
  · cases h
end Go.Proofs.Ytbdbmfifclmpcaa

namespace Go.Proofs.Ytbdbmfifclmpcaa
open Go.RowKit
set_option linter.unusedVariables false
set_option maxRecDepth 100000
def zc_wire_no : List AV := [(V (.int .i64 0)), (V (.int .i64 0))]
def pl_api_Cert : List (Nat × Nat) := [(0, 1), (1, 1), (2, 1), (3, 1), (4, 1)]
def pl_api_Change : List (Nat × Nat) := [(0, 1), (1, 1), (2, 1), (3, 1), (4, 1), (5, 1)]
def pl_api_Stmt : List (Nat × Nat) := [(0, 1), (1, 1), (2, 1), (3, 1), (4, 1)]
def pl_wire_no : List (Nat × Nat) := [(0, 1), (1, 1)]
noncomputable def wire_reader_num_c : Code := (Try.f22.body).getD .skip
def wire_reader_num_h : Hint := (.two .n (.two .n (.join [0, 5, 6, 7] (.join [0, 5, 6, 7, 29] .n (.two .n .n)) (.join [0, 5, 6] (.two .n (.two .n .n)) (.two .n (.two .n .n))))))
noncomputable def wire_reader_num_env (m : Nat) : Env := [(60, .tell (varint_Cut_t m)), (999999, .pan fun _ _ => none)]
noncomputable abbrev wire_reader_num_fin (n0 : Nat) : KO (AV × List AObj) := panFK Try.prog n0 [.tmp 4]
noncomputable def wire_reader_num_r3 (m : Nat) (n0k : Nat) (s : ASt) : RO := joinW Try.prog GG (wire_reader_num_env m) m ⟨49, []⟩ (cdR (cdR (cdR (cdR wire_reader_num_c)))) wire_reader_num_h.r.r.r.r s (wire_reader_num_fin n0k)
noncomputable def wire_reader_num_r2 (m : Nat) (n0k : Nat) (s : ASt) : RO := joinW Try.prog GG (wire_reader_num_env m) m ⟨49, []⟩ (cdR (cdR (cdR wire_reader_num_c))) wire_reader_num_h.r.r.r s (wire_reader_num_fin n0k)
noncomputable def wire_reader_num_r1 (m : Nat) (n0k : Nat) (s : ASt) : RO := joinW Try.prog GG (wire_reader_num_env m) m ⟨49, []⟩ (cdR (cdL (cdR (cdR wire_reader_num_c)))) wire_reader_num_h.r.r.l.r s (seqX (fun s => wire_reader_num_r2 m n0k ⟨s.H, [(0, gt s.T 0), (5, gt s.T 5), (6, gt s.T 6), (7, gt s.T 7)]⟩) (wire_reader_num_fin n0k))
noncomputable def wire_reader_num (m : Nat) (t0 t1 : AV) (H : List AObj) : RO := exec Try.prog GG (wire_reader_num_env m) m ⟨49, []⟩ wire_reader_num_c wire_reader_num_h ⟨H, argsT 0 [t0, t1]⟩ (wire_reader_num_fin H.length)
theorem wire_reader_num_r3_eq (m : Nat) (n0k : Nat) (H : List AObj) (t0 t5 t6 : AV) : wire_reader_num_r3 m n0k ⟨H, [(0, t0), (5, t5), (6, t6)]⟩ =
  nilE t0 fun t40 =>
  fieldE (some (1, 1)) t40 fun t41 =>
  loadE 1 H t41 fun t42 =>
  binE none false false .add t42 t6 fun t44 =>
  nilE t0 fun t45 =>
  fieldE (some (1, 1)) t45 fun t46 =>
  storeE 1 H t46 t44 fun H2 =>
  convE false (some .i64) true false (ro H2 t5) fun t48 =>
  keepK n0k H2 (ro H2 t48) := by
  refine (joinW_eq Try.prog GG (wire_reader_num_env m) m ⟨49, []⟩ (cdR (cdR (cdR (cdR wire_reader_num_c)))) wire_reader_num_h.r.r.r.r ⟨H, [(0, t0), (5, t5), (6, t6)]⟩ (wire_reader_num_fin n0k)).trans ?_
  kernel_rfl
theorem wire_reader_num_r2_eq (m : Nat) (n0k : Nat) (H : List AObj) (t0 t5 t6 t7 : AV) : wire_reader_num_r2 m n0k ⟨H, [(0, t0), (5, t5), (6, t6), (7, t7)]⟩ =
  binE none false false .neq t7 (V (.int .i64 0)) fun t31 =>
  condE t31 (
   nilE t0 fun t34 =>
   fieldE (some (1, 1)) t34 fun t35 =>
   loadE 1 H t35 fun t36 =>
   buildE (some pl_wire_no) (some zc_wire_no) [(0, t7), (1, t36)] fun t37 =>
   whenE true (ifE 47 t37 fun t38 =>
   panicE t38 H fun u1 H2 => panKE n0k H2 u1)) (
   wire_reader_num_r3 m n0k ⟨H, [(0, t0), (5, t5), (6, t6)]⟩) := by
  refine (joinW_eq Try.prog GG (wire_reader_num_env m) m ⟨49, []⟩ (cdR (cdR (cdR wire_reader_num_c))) wire_reader_num_h.r.r.r ⟨H, [(0, t0), (5, t5), (6, t6), (7, t7)]⟩ (wire_reader_num_fin n0k)).trans ?_
  kernel_rfl
theorem wire_reader_num_r1_eq (m : Nat) (n0k : Nat) (H : List AObj) (t0 t5 t6 t7 t29 : AV) : wire_reader_num_r1 m n0k ⟨H, [(0, t0), (5, t5), (6, t6), (7, t7), (29, t29)]⟩ =
  condE t29 (
   wire_reader_num_r2 m n0k ⟨H, [(0, t0), (5, t5), (6, t6), (7, (V (.int .i64 8)))]⟩) (
   wire_reader_num_r2 m n0k ⟨H, [(0, t0), (5, t5), (6, t6), (7, t7)]⟩) := by
  refine (joinW_eq Try.prog GG (wire_reader_num_env m) m ⟨49, []⟩ (cdR (cdL (cdR (cdR wire_reader_num_c)))) wire_reader_num_h.r.r.l.r ⟨H, [(0, t0), (5, t5), (6, t6), (7, t7), (29, t29)]⟩ (seqX (fun s => wire_reader_num_r2 m n0k ⟨s.H, [(0, gt s.T 0), (5, gt s.T 5), (6, gt s.T 6), (7, gt s.T 7)]⟩) (wire_reader_num_fin n0k))).trans ?_
  kernel_rfl
theorem wire_reader_num_eq (m : Nat) (t0 t1 : AV) (H : List AObj) : wire_reader_num m t0 t1 H =
  nilE t0 fun t10 =>
  fieldE (some (0, 1)) t10 fun t11 =>
  loadE 1 H t11 fun t12 =>
  nilE t0 fun t14 =>
  fieldE (some (1, 1)) t14 fun t15 =>
  loadE 1 H t15 fun t16 =>
  sliceE false (some (ty_uint8, 1)) H t12 (some t16) none fun t17 =>
  tellE (varint_Cut_t m [(ro H t17)]) [(ro H t17)] fun t18 =>
  extE t18 0 fun t19 =>
  extE t18 1 fun t20 =>
  extE t18 2 fun t21 =>
  binE none false false .eql t21 (V (.int .i64 0)) fun t23 =>
  condE t23 (
   convE false (some .u64) true false (ro H t1) fun t27 =>
   binE none false false .gtr t19 t27 fun t28 =>
   wire_reader_num_r1 m H.length ⟨H, [(0, t0), (5, t19), (6, t20), (7, t21), (29, t28)]⟩) (
   wire_reader_num_r1 m H.length ⟨H, [(0, t0), (5, t19), (6, t20), (7, t21), (29, (V (.bool false)))]⟩) := by
  refine (panX Try.prog GG (wire_reader_num_env m) m ⟨49, []⟩ H.length wire_reader_num_c wire_reader_num_h ⟨H, argsT 0 [t0, t1]⟩ [.tmp 4]).trans ?_
  kernel_rfl
noncomputable def wire_reader_num_t (m : Nat) : List AV → List AObj → RO | [t0, t1], H => wire_reader_num m t0 t1 H | _, _ => none
theorem wire_reader_num_ok (m : Nat) : ∀ args H X H', wire_reader_num_t m args H = some (X, H') → ACx Try.prog GG 22 args H (Is X H') := by
  intro args H X H' h
  unfold wire_reader_num_t at h
  split at h
  · exact pan_ok MIX (by
    intro f e h
    simp only [wire_reader_num_env, Prod.mk.injEq, Prod.mk.injEq, List.mem_cons, List.not_mem_nil, or_false] at h
    rcases h with ⟨rfl, rfl⟩ | ⟨rfl, rfl⟩
    · exact varint_Cut_ok m
    · intro _ _ _ _ h; cases h) (f := 22) (c := wire_reader_num_c) Try.func22 rfl (by kernel_rfl) _ rfl Try.ntmps22 (Nat.le_of_ble_eq_true rfl) wire_reader_num_h h
  · cases h
noncomputable def wire_reader_party_c : Code := (Try.f23.body).getD .skip
def wire_reader_party_h : Hint := (.two .n (.two .n .n))
noncomputable def wire_reader_party_env (m : Nat) : Env := [(22, .pan (wire_reader_num_t m))]
noncomputable abbrev wire_reader_party_fin (n0 : Nat) : KO (AV × List AObj) := panFK Try.prog n0 [.tmp 2]
noncomputable def wire_reader_party (m : Nat) (t0 : AV) (H : List AObj) : RO := exec Try.prog GG (wire_reader_party_env m) m ⟨5, []⟩ wire_reader_party_c wire_reader_party_h ⟨H, argsT 0 [t0]⟩ (wire_reader_party_fin H.length)
theorem wire_reader_party_eq (m : Nat) (t0 : AV) (H : List AObj) : wire_reader_party m t0 H =
  panE (wire_reader_num m (ro H t0) (V (.int .i64 63)) H) (fun t4 H2 =>
  keepK H.length H2 (ro H2 t4)) (fun u1 H2 => panKE H.length H2 u1) := by
  refine (panX Try.prog GG (wire_reader_party_env m) m ⟨5, []⟩ H.length wire_reader_party_c wire_reader_party_h ⟨H, argsT 0 [t0]⟩ [.tmp 2]).trans ?_
  kernel_rfl
noncomputable def wire_reader_party_t (m : Nat) : List AV → List AObj → RO | [t0], H => wire_reader_party m t0 H | _, _ => none
theorem wire_reader_party_ok (m : Nat) : ∀ args H X H', wire_reader_party_t m args H = some (X, H') → ACx Try.prog GG 23 args H (Is X H') := by
  intro args H X H' h
  unfold wire_reader_party_t at h
  split at h
  · exact pan_ok MIX (by
    intro f e h
    simp only [wire_reader_party_env, Prod.mk.injEq, List.mem_cons, List.not_mem_nil, or_false] at h
    obtain ⟨rfl, rfl⟩ := h
    · exact wire_reader_num_ok m) (f := 23) (c := wire_reader_party_c) Try.func23 rfl (by kernel_rfl) _ rfl Try.ntmps23 (Nat.le_of_ble_eq_true rfl) wire_reader_party_h h
  · cases h
noncomputable def wire_reader_any_c : Code := (Try.f24.body).getD .skip
def wire_reader_any_h : Hint := (.two .n (.two .n .n))
noncomputable def wire_reader_any_env (m : Nat) : Env := [(22, .pan (wire_reader_num_t m))]
noncomputable abbrev wire_reader_any_fin (n0 : Nat) : KO (AV × List AObj) := panFK Try.prog n0 [.tmp 2]
noncomputable def wire_reader_any (m : Nat) (t0 : AV) (H : List AObj) : RO := exec Try.prog GG (wire_reader_any_env m) m ⟨5, []⟩ wire_reader_any_c wire_reader_any_h ⟨H, argsT 0 [t0]⟩ (wire_reader_any_fin H.length)
theorem wire_reader_any_eq (m : Nat) (t0 : AV) (H : List AObj) : wire_reader_any m t0 H =
  panE (wire_reader_num m (ro H t0) (V (.int .i64 2147483647)) H) (fun t4 H2 =>
  keepK H.length H2 (ro H2 t4)) (fun u1 H2 => panKE H.length H2 u1) := by
  refine (panX Try.prog GG (wire_reader_any_env m) m ⟨5, []⟩ H.length wire_reader_any_c wire_reader_any_h ⟨H, argsT 0 [t0]⟩ [.tmp 2]).trans ?_
  kernel_rfl
noncomputable def wire_reader_any_t (m : Nat) : List AV → List AObj → RO | [t0], H => wire_reader_any m t0 H | _, _ => none
theorem wire_reader_any_ok (m : Nat) : ∀ args H X H', wire_reader_any_t m args H = some (X, H') → ACx Try.prog GG 24 args H (Is X H') := by
  intro args H X H' h
  unfold wire_reader_any_t at h
  split at h
  · exact pan_ok MIX (by
    intro f e h
    simp only [wire_reader_any_env, Prod.mk.injEq, List.mem_cons, List.not_mem_nil, or_false] at h
    obtain ⟨rfl, rfl⟩ := h
    · exact wire_reader_num_ok m) (f := 24) (c := wire_reader_any_c) Try.func24 rfl (by kernel_rfl) _ rfl Try.ntmps24 (Nat.le_of_ble_eq_true rfl) wire_reader_any_h h
  · cases h
noncomputable def wire_reader_text_c : Code := (Try.f25.body).getD .skip
def wire_reader_text_h : Hint := (.two .n (.two .n (.join [0, 3] (.two .n (.two .n .n)) (.two .n (.two .n .n)))))
noncomputable def wire_reader_text_env (m : Nat) : Env := [(22, .pan (wire_reader_num_t m))]
noncomputable abbrev wire_reader_text_fin (n0 : Nat) : KO (AV × List AObj) := panFK Try.prog n0 [.tmp 2]
noncomputable def wire_reader_text_r1 (m : Nat) (n0k : Nat) (s : ASt) : RO := joinW Try.prog GG (wire_reader_text_env m) m ⟨48, []⟩ (cdR (cdR (cdR wire_reader_text_c))) wire_reader_text_h.r.r.r s (wire_reader_text_fin n0k)
noncomputable def wire_reader_text (m : Nat) (t0 : AV) (H : List AObj) : RO := exec Try.prog GG (wire_reader_text_env m) m ⟨48, []⟩ wire_reader_text_c wire_reader_text_h ⟨H, argsT 0 [t0]⟩ (wire_reader_text_fin H.length)
theorem wire_reader_text_r1_eq (m : Nat) (n0k : Nat) (H : List AObj) (t0 t3 : AV) : wire_reader_text_r1 m n0k ⟨H, [(0, t0), (3, t3)]⟩ =
  nilE t0 fun t25 =>
  fieldE (some (1, 1)) t25 fun t26 =>
  loadE 1 H t26 fun t27 =>
  binE none false false .add t27 t3 fun t29 =>
  nilE t0 fun t30 =>
  fieldE (some (1, 1)) t30 fun t31 =>
  storeE 1 H t31 t29 fun H2 =>
  nilE t0 fun t33 =>
  fieldE (some (0, 1)) t33 fun t34 =>
  loadE 1 H2 t34 fun t35 =>
  nilE t0 fun t37 =>
  fieldE (some (1, 1)) t37 fun t38 =>
  loadE 1 H2 t38 fun t39 =>
  binE none false false .sub t39 t3 fun t41 =>
  nilE t0 fun t43 =>
  fieldE (some (1, 1)) t43 fun t44 =>
  loadE 1 H2 t44 fun t45 =>
  sliceE false (some (ty_uint8, 1)) H2 t35 (some t41) (some t45) fun t46 =>
  convE false none true true (ro H2 t46) fun t47 =>
  keepK n0k H2 (ro H2 t47) := by
  refine (joinW_eq Try.prog GG (wire_reader_text_env m) m ⟨48, []⟩ (cdR (cdR (cdR wire_reader_text_c))) wire_reader_text_h.r.r.r ⟨H, [(0, t0), (3, t3)]⟩ (wire_reader_text_fin n0k)).trans ?_
  kernel_rfl
theorem wire_reader_text_eq (m : Nat) (t0 : AV) (H : List AObj) : wire_reader_text m t0 H =
  panE (wire_reader_num m (ro H t0) (V (.int .i64 65536)) H) (fun t5 H2 =>
  nilE t0 fun t8 =>
  fieldE (some (0, 1)) t8 fun t9 =>
  loadE 1 H2 t9 fun t10 =>
  lenE false true H2 t10 fun t11 =>
  nilE t0 fun t13 =>
  fieldE (some (1, 1)) t13 fun t14 =>
  loadE 1 H2 t14 fun t15 =>
  binE none false false .sub t11 t15 fun t16 =>
  binE none false false .gtr t5 t16 fun t17 =>
  condE t17 (
   nilE t0 fun t19 =>
   fieldE (some (1, 1)) t19 fun t20 =>
   loadE 1 H2 t20 fun t21 =>
   buildE (some pl_wire_no) (some zc_wire_no) [(0, (V (.int .i64 2))), (1, t21)] fun t22 =>
   whenE true (ifE 47 t22 fun t23 =>
   panicE t23 H2 fun u1 H3 => panKE H.length H3 u1)) (
   wire_reader_text_r1 m H.length ⟨H2, [(0, t0), (3, t5)]⟩)) (fun u1 H2 => panKE H.length H2 u1) := by
  refine (panX Try.prog GG (wire_reader_text_env m) m ⟨48, []⟩ H.length wire_reader_text_c wire_reader_text_h ⟨H, argsT 0 [t0]⟩ [.tmp 2]).trans ?_
  kernel_rfl
noncomputable def wire_reader_text_t (m : Nat) : List AV → List AObj → RO | [t0], H => wire_reader_text m t0 H | _, _ => none
theorem wire_reader_text_ok (m : Nat) : ∀ args H X H', wire_reader_text_t m args H = some (X, H') → ACx Try.prog GG 25 args H (Is X H') := by
  intro args H X H' h
  unfold wire_reader_text_t at h
  split at h
  · exact pan_ok MIX (by
    intro f e h
    simp only [wire_reader_text_env, Prod.mk.injEq, List.mem_cons, List.not_mem_nil, or_false] at h
    obtain ⟨rfl, rfl⟩ := h
    · exact wire_reader_num_ok m) (f := 25) (c := wire_reader_text_c) Try.func25 rfl (by kernel_rfl) _ rfl Try.ntmps25 (Nat.le_of_ble_eq_true rfl) wire_reader_text_h h
  · cases h
noncomputable def wire_reader_stmt_c : Code := (Try.f27.body).getD .skip
def wire_reader_stmt_h : Hint := (.two .n (.two .n .n))
noncomputable def wire_reader_stmt_env (m : Nat) : Env := [(23, .pan (wire_reader_party_t m)), (24, .pan (wire_reader_any_t m))]
noncomputable abbrev wire_reader_stmt_fin (n0 : Nat) : KO (AV × List AObj) := panFK Try.prog n0 [.cell 2 56]
noncomputable def wire_reader_stmt (m : Nat) (t0 : AV) (H : List AObj) : RO := exec Try.prog GG (wire_reader_stmt_env m) m ⟨14, []⟩ wire_reader_stmt_c wire_reader_stmt_h ⟨H, argsT 0 [t0]⟩ (wire_reader_stmt_fin H.length)
theorem wire_reader_stmt_eq (m : Nat) (t0 : AV) (H : List AObj) : wire_reader_stmt m t0 H =
  allocE (some zc_api_Stmt) ty_api_Stmt H fun t2 H2 =>
  panE (wire_reader_party m (ro H2 t0) H2) (fun t4 H3 =>
  panE (wire_reader_any m (ro H3 t0) H3) (fun t6 H4 =>
  panE (wire_reader_any m (ro H4 t0) H4) (fun t8 H5 =>
  panE (wire_reader_any m (ro H5 t0) H5) (fun t10 H6 =>
  panE (wire_reader_any m (ro H6 t0) H6) (fun t12 H7 =>
  buildE (some pl_api_Stmt) (some zc_api_Stmt) [(0, t4), (1, t6), (2, t8), (3, t10), (4, t12)] fun t13 =>
  storeE 7 H7 t2 t13 fun H8 =>
  loadE 7 H8 t2 fun t9000 =>
  keepK H.length H8 (ro H8 t9000)) (fun u1 H7 => panKE H.length H7 u1)) (fun u1 H6 => panKE H.length H6 u1)) (fun u1 H5 => panKE H.length H5 u1)) (fun u1 H4 => panKE H.length H4 u1)) (fun u1 H3 => panKE H.length H3 u1) := by
  refine (panX Try.prog GG (wire_reader_stmt_env m) m ⟨14, []⟩ H.length wire_reader_stmt_c wire_reader_stmt_h ⟨H, argsT 0 [t0]⟩ [.cell 2 56]).trans ?_
  kernel_rfl
noncomputable def wire_reader_stmt_t (m : Nat) : List AV → List AObj → RO | [t0], H => wire_reader_stmt m t0 H | _, _ => none
theorem wire_reader_stmt_ok (m : Nat) : ∀ args H X H', wire_reader_stmt_t m args H = some (X, H') → ACx Try.prog GG 27 args H (Is X H') := by
  intro args H X H' h
  unfold wire_reader_stmt_t at h
  split at h
  · exact pan_ok MIX (by
    intro f e h
    simp only [wire_reader_stmt_env, Prod.mk.injEq, List.mem_cons, List.not_mem_nil, or_false] at h
    rcases h with ⟨rfl, rfl⟩ | ⟨rfl, rfl⟩
    · exact wire_reader_party_ok m
    · exact wire_reader_any_ok m) (f := 27) (c := wire_reader_stmt_c) Try.func27 rfl (by kernel_rfl) _ rfl Try.ntmps27 (Nat.le_of_ble_eq_true rfl) wire_reader_stmt_h h
  · cases h
noncomputable def wire_some_Stmt_c : Code := (Try.f26.body).getD .skip
def wire_some_Stmt_h : Hint := (.two .n (.two .n (.join [5] (.two .n (.one (.lp [(5, ty_api_Stmt, 5)] [1, 5, 7, 8] [5] (.two .n (.two (.two .n .n) (.two (.one .n) .n)))))) (.two .n .n))))
noncomputable def wire_some_Stmt_env (m : Nat) : Env := [(22, .pan (wire_reader_num_t m)), (27, .pan (wire_reader_stmt_t m))]
noncomputable abbrev wire_some_Stmt_fin (n0 : Nat) : KO (AV × List AObj) := panFK Try.prog n0 [.tmp 4]
noncomputable def wire_some_Stmt_r1 (m : Nat) (n0k : Nat) (s : ASt) : RO := joinW Try.prog GG (wire_some_Stmt_env m) m ⟨17, []⟩ (cdR (cdR (cdR wire_some_Stmt_c))) wire_some_Stmt_h.r.r.r s (wire_some_Stmt_fin n0k)
noncomputable def wire_some_Stmt_b1 (m : Nat) (s : ASt) (kc : ASt → RO) (kx : KO (AV × List AObj)) : RO := bodyW Try.prog GG (wire_some_Stmt_env m) m ⟨17, []⟩ (cdL (cdL (cdR (cdL (cdR (cdR wire_some_Stmt_c)))))) wire_some_Stmt_h.r.r.l.r.c.c [1, 5, 7, 8] [5] s kc kx
noncomputable def wire_some_Stmt (m : Nat) (t0 t1 : AV) (H : List AObj) : RO := exec Try.prog GG (wire_some_Stmt_env m) m ⟨17, []⟩ wire_some_Stmt_c wire_some_Stmt_h ⟨H, argsT 0 [t0, t1]⟩ (wire_some_Stmt_fin H.length)
theorem wire_some_Stmt_r1_eq (m : Nat) (n0k : Nat) (H : List AObj) (t5 : AV) : wire_some_Stmt_r1 m n0k ⟨H, [(5, t5)]⟩ =
  keepK n0k H (ro H t5) := by
  refine (joinW_eq Try.prog GG (wire_some_Stmt_env m) m ⟨17, []⟩ (cdR (cdR (cdR wire_some_Stmt_c))) wire_some_Stmt_h.r.r.r ⟨H, [(5, t5)]⟩ (wire_some_Stmt_fin n0k)).trans ?_
  kernel_rfl
theorem wire_some_Stmt_b1_eq (m : Nat) (H : List AObj) (t1 t5 t7 t8 : AV) (kc : ASt → RO) (kx : KO (AV × List AObj)) : wire_some_Stmt_b1 m ⟨H, [(1, t1), (5, t5), (7, t7), (8, t8)]⟩ kc kx =
  binE none false false .lss t8 t7 fun t9 =>
  condE t9 (
   callVPE (wire_some_Stmt_env m) t1 [] H (fun t12 H2 =>
   buildSE (some (ty_api_Stmt, 5)) 1 [(0, t12)] fun t13 =>
   appE (some (ty_api_Stmt, 5)) H2 t5 t13 fun t14 H3 =>
   binE none false false .add t8 (V (.int .i64 1)) fun t15 =>
   backE H.length H3 [(1, t1), (5, t14), (7, t7), (8, t15)] kc) (fun u1 H2 => kx (.panic (pch u1)) ⟨H2, [(5, t5)]⟩)) (
   kx (.exit 0) ⟨H, [(5, t5)]⟩) := by
  refine (bodyW_eq Try.prog GG (wire_some_Stmt_env m) m ⟨17, []⟩ (cdL (cdL (cdR (cdL (cdR (cdR wire_some_Stmt_c)))))) wire_some_Stmt_h.r.r.l.r.c.c [1, 5, 7, 8] [5] ⟨H, [(1, t1), (5, t5), (7, t7), (8, t8)]⟩ kc kx).trans ?_
  kernel_rfl
theorem wire_some_Stmt_eq (m : Nat) (t0 t1 : AV) (H : List AObj) : wire_some_Stmt m t0 t1 H =
  panE (wire_reader_num m (ro H t0) (V (.int .i64 64)) H) (fun t7 H2 =>
  rowE (V (.slice none 0 0)) ty_api_Stmt 5 H2 fun t5 H3 =>
  iterC m (wire_some_Stmt_b1 m) ⟨H3, [(1, t1), (5, t5), (7, t7), (8, (V (.int .i64 0)))]⟩ (blockX 0 (seqX (fun s => wire_some_Stmt_r1 m H.length ⟨s.H, [(5, gt s.T 5)]⟩) (wire_some_Stmt_fin H.length)))) (fun u1 H2 => panKE H.length H2 u1) := by
  refine (panX Try.prog GG (wire_some_Stmt_env m) m ⟨17, []⟩ H.length wire_some_Stmt_c wire_some_Stmt_h ⟨H, argsT 0 [t0, t1]⟩ [.tmp 4]).trans ?_
  kernel_rfl
noncomputable def wire_some_Stmt_t (m : Nat) : List AV → List AObj → RO | [t0, t1], H => wire_some_Stmt m t0 t1 H | _, _ => none
theorem wire_some_Stmt_ok (m : Nat) : ∀ args H X H', wire_some_Stmt_t m args H = some (X, H') → ACx Try.prog GG 26 args H (Is X H') := by
  intro args H X H' h
  unfold wire_some_Stmt_t at h
  split at h
  · exact pan_ok MIX (by
    intro f e h
    simp only [wire_some_Stmt_env, Prod.mk.injEq, List.mem_cons, List.not_mem_nil, or_false] at h
    rcases h with ⟨rfl, rfl⟩ | ⟨rfl, rfl⟩
    · exact wire_reader_num_ok m
    · exact wire_reader_stmt_ok m) (f := 26) (c := wire_some_Stmt_c) Try.func26 rfl (by kernel_rfl) _ rfl Try.ntmps26 (Nat.le_of_ble_eq_true rfl) wire_some_Stmt_h h
  · cases h
noncomputable def wire_reader_cert_c : Code := (Try.f62.body).getD .skip
def wire_reader_cert_h : Hint := (.two .n (.two .n (.two .n (.two .n .n))))
noncomputable def wire_reader_cert_env (m : Nat) : Env := [(24, .pan (wire_reader_any_t m)), (25, .pan (wire_reader_text_t m)), (26, .pan (wire_some_Stmt_t m))]
noncomputable abbrev wire_reader_cert_fin (n0 : Nat) : KO (AV × List AObj) := panFK Try.prog n0 [.cell 2 89]
noncomputable def wire_reader_cert (m : Nat) (t0 : AV) (H : List AObj) : RO := exec Try.prog GG (wire_reader_cert_env m) m ⟨19, []⟩ wire_reader_cert_c wire_reader_cert_h ⟨H, argsT 0 [t0]⟩ (wire_reader_cert_fin H.length)
theorem wire_reader_cert_eq (m : Nat) (t0 : AV) (H : List AObj) : wire_reader_cert m t0 H =
  allocE (some zc_api_Cert) ty_api_Cert H fun t2 H2 =>
  panE (wire_reader_any m (ro H2 t0) H2) (fun t5 H3 =>
  panE (wire_reader_any m (ro H3 t0) H3) (fun t7 H4 =>
  panE (wire_reader_any m (ro H4 t0) H4) (fun t9 H5 =>
  panE (wire_reader_text m (ro H5 t0) H5) (fun t11 H6 =>
  buildE (some pl_api_Cert) (some zc_api_Cert) [(0, t5), (1, t7), (2, t9), (3, t11)] fun t12 =>
  allocE (some zc_api_Cert) ty_api_Cert H6 fun t3 H7 =>
  storeE 7 H7 t3 t12 fun H8 =>
  whenE (([t0] : List AV).all cap0) (
  panE (wire_some_Stmt m (ro H8 t0) (ro H8 (CL (.func 27) 1 [t0])) H8) (fun t16 H9 =>
  fieldE (some (4, 1)) t3 fun t17 =>
  storeE 1 H9 t17 t16 fun H10 =>
  loadE 7 H10 t3 fun t18 =>
  storeE 7 H10 t2 t18 fun H11 =>
  loadE 7 H11 t2 fun t9000 =>
  keepK H.length H11 (ro H11 t9000)) (fun u1 H9 => panKE H.length H9 u1))) (fun u1 H6 => panKE H.length H6 u1)) (fun u1 H5 => panKE H.length H5 u1)) (fun u1 H4 => panKE H.length H4 u1)) (fun u1 H3 => panKE H.length H3 u1) := by
  refine (panX Try.prog GG (wire_reader_cert_env m) m ⟨19, []⟩ H.length wire_reader_cert_c wire_reader_cert_h ⟨H, argsT 0 [t0]⟩ [.cell 2 89]).trans ?_
  kernel_rfl
noncomputable def wire_reader_cert_t (m : Nat) : List AV → List AObj → RO | [t0], H => wire_reader_cert m t0 H | _, _ => none
theorem wire_reader_cert_ok (m : Nat) : ∀ args H X H', wire_reader_cert_t m args H = some (X, H') → ACx Try.prog GG 62 args H (Is X H') := by
  intro args H X H' h
  unfold wire_reader_cert_t at h
  split at h
  · exact pan_ok MIX (by
    intro f e h
    simp only [wire_reader_cert_env, Prod.mk.injEq, List.mem_cons, List.not_mem_nil, or_false] at h
    rcases h with ⟨rfl, rfl⟩ | ⟨rfl, rfl⟩ | ⟨rfl, rfl⟩
    · exact wire_reader_any_ok m
    · exact wire_reader_text_ok m
    · exact wire_some_Stmt_ok m) (f := 62) (c := wire_reader_cert_c) Try.func62 rfl (by kernel_rfl) _ rfl Try.ntmps62 (Nat.le_of_ble_eq_true rfl) wire_reader_cert_h h
  · cases h
noncomputable def wire_some_Cert_c : Code := (Try.f61.body).getD .skip
def wire_some_Cert_h : Hint := (.two .n (.two .n (.join [5] (.two .n (.one (.lp [(5, ty_api_Cert, 5)] [1, 5, 7, 8] [5] (.two .n (.two (.two .n .n) (.two (.one .n) .n)))))) (.two .n .n))))
noncomputable def wire_some_Cert_env (m : Nat) : Env := [(22, .pan (wire_reader_num_t m)), (62, .pan (wire_reader_cert_t m))]
noncomputable abbrev wire_some_Cert_fin (n0 : Nat) : KO (AV × List AObj) := panFK Try.prog n0 [.tmp 4]
noncomputable def wire_some_Cert_r1 (m : Nat) (n0k : Nat) (s : ASt) : RO := joinW Try.prog GG (wire_some_Cert_env m) m ⟨17, []⟩ (cdR (cdR (cdR wire_some_Cert_c))) wire_some_Cert_h.r.r.r s (wire_some_Cert_fin n0k)
noncomputable def wire_some_Cert_b1 (m : Nat) (s : ASt) (kc : ASt → RO) (kx : KO (AV × List AObj)) : RO := bodyW Try.prog GG (wire_some_Cert_env m) m ⟨17, []⟩ (cdL (cdL (cdR (cdL (cdR (cdR wire_some_Cert_c)))))) wire_some_Cert_h.r.r.l.r.c.c [1, 5, 7, 8] [5] s kc kx
noncomputable def wire_some_Cert (m : Nat) (t0 t1 : AV) (H : List AObj) : RO := exec Try.prog GG (wire_some_Cert_env m) m ⟨17, []⟩ wire_some_Cert_c wire_some_Cert_h ⟨H, argsT 0 [t0, t1]⟩ (wire_some_Cert_fin H.length)
theorem wire_some_Cert_r1_eq (m : Nat) (n0k : Nat) (H : List AObj) (t5 : AV) : wire_some_Cert_r1 m n0k ⟨H, [(5, t5)]⟩ =
  keepK n0k H (ro H t5) := by
  refine (joinW_eq Try.prog GG (wire_some_Cert_env m) m ⟨17, []⟩ (cdR (cdR (cdR wire_some_Cert_c))) wire_some_Cert_h.r.r.r ⟨H, [(5, t5)]⟩ (wire_some_Cert_fin n0k)).trans ?_
  kernel_rfl
theorem wire_some_Cert_b1_eq (m : Nat) (H : List AObj) (t1 t5 t7 t8 : AV) (kc : ASt → RO) (kx : KO (AV × List AObj)) : wire_some_Cert_b1 m ⟨H, [(1, t1), (5, t5), (7, t7), (8, t8)]⟩ kc kx =
  binE none false false .lss t8 t7 fun t9 =>
  condE t9 (
   callVPE (wire_some_Cert_env m) t1 [] H (fun t12 H2 =>
   buildSE (some (ty_api_Cert, 5)) 1 [(0, t12)] fun t13 =>
   appE (some (ty_api_Cert, 5)) H2 t5 t13 fun t14 H3 =>
   binE none false false .add t8 (V (.int .i64 1)) fun t15 =>
   backE H.length H3 [(1, t1), (5, t14), (7, t7), (8, t15)] kc) (fun u1 H2 => kx (.panic (pch u1)) ⟨H2, [(5, t5)]⟩)) (
   kx (.exit 0) ⟨H, [(5, t5)]⟩) := by
  refine (bodyW_eq Try.prog GG (wire_some_Cert_env m) m ⟨17, []⟩ (cdL (cdL (cdR (cdL (cdR (cdR wire_some_Cert_c)))))) wire_some_Cert_h.r.r.l.r.c.c [1, 5, 7, 8] [5] ⟨H, [(1, t1), (5, t5), (7, t7), (8, t8)]⟩ kc kx).trans ?_
  kernel_rfl
theorem wire_some_Cert_eq (m : Nat) (t0 t1 : AV) (H : List AObj) : wire_some_Cert m t0 t1 H =
  panE (wire_reader_num m (ro H t0) (V (.int .i64 64)) H) (fun t7 H2 =>
  rowE (V (.slice none 0 0)) ty_api_Cert 5 H2 fun t5 H3 =>
  iterC m (wire_some_Cert_b1 m) ⟨H3, [(1, t1), (5, t5), (7, t7), (8, (V (.int .i64 0)))]⟩ (blockX 0 (seqX (fun s => wire_some_Cert_r1 m H.length ⟨s.H, [(5, gt s.T 5)]⟩) (wire_some_Cert_fin H.length)))) (fun u1 H2 => panKE H.length H2 u1) := by
  refine (panX Try.prog GG (wire_some_Cert_env m) m ⟨17, []⟩ H.length wire_some_Cert_c wire_some_Cert_h ⟨H, argsT 0 [t0, t1]⟩ [.tmp 4]).trans ?_
  kernel_rfl
noncomputable def wire_some_Cert_t (m : Nat) : List AV → List AObj → RO | [t0, t1], H => wire_some_Cert m t0 t1 H | _, _ => none
theorem wire_some_Cert_ok (m : Nat) : ∀ args H X H', wire_some_Cert_t m args H = some (X, H') → ACx Try.prog GG 61 args H (Is X H') := by
  intro args H X H' h
  unfold wire_some_Cert_t at h
  split at h
  · exact pan_ok MIX (by
    intro f e h
    simp only [wire_some_Cert_env, Prod.mk.injEq, List.mem_cons, List.not_mem_nil, or_false] at h
    rcases h with ⟨rfl, rfl⟩ | ⟨rfl, rfl⟩
    · exact wire_reader_num_ok m
    · exact wire_reader_cert_ok m) (f := 61) (c := wire_some_Cert_c) Try.func61 rfl (by kernel_rfl) _ rfl Try.ntmps61 (Nat.le_of_ble_eq_true rfl) wire_some_Cert_h h
  · cases h
noncomputable def wire_reader_change_c : Code := (Try.f29.body).getD .skip
def wire_reader_change_h : Hint := (.two .n (.two .n (.two .n (.two .n (.two .n .n)))))
noncomputable def wire_reader_change_env (m : Nat) : Env := [(23, .pan (wire_reader_party_t m)), (24, .pan (wire_reader_any_t m)), (26, .pan (wire_some_Stmt_t m)), (61, .pan (wire_some_Cert_t m))]
noncomputable abbrev wire_reader_change_fin (n0 : Nat) : KO (AV × List AObj) := panFK Try.prog n0 [.cell 2 43]
noncomputable def wire_reader_change (m : Nat) (t0 : AV) (H : List AObj) : RO := exec Try.prog GG (wire_reader_change_env m) m ⟨24, []⟩ wire_reader_change_c wire_reader_change_h ⟨H, argsT 0 [t0]⟩ (wire_reader_change_fin H.length)
theorem wire_reader_change_eq (m : Nat) (t0 : AV) (H : List AObj) : wire_reader_change m t0 H =
  allocE (some zc_api_Change) ty_api_Change H fun t2 H2 =>
  panE (wire_reader_party m (ro H2 t0) H2) (fun t5 H3 =>
  panE (wire_reader_any m (ro H3 t0) H3) (fun t7 H4 =>
  panE (wire_reader_any m (ro H4 t0) H4) (fun t9 H5 =>
  panE (wire_reader_any m (ro H5 t0) H5) (fun t11 H6 =>
  buildE (some pl_api_Change) (some zc_api_Change) [(0, t5), (1, t7), (2, t9), (3, t11)] fun t12 =>
  allocE (some zc_api_Change) ty_api_Change H6 fun t3 H7 =>
  storeE 8 H7 t3 t12 fun H8 =>
  whenE (([t0] : List AV).all cap0) (
  panE (wire_some_Stmt m (ro H8 t0) (ro H8 (CL (.func 27) 1 [t0])) H8) (fun t16 H9 =>
  fieldE (some (4, 1)) t3 fun t17 =>
  storeE 1 H9 t17 t16 fun H10 =>
  whenE (([t0] : List AV).all cap0) (
  panE (wire_some_Cert m (ro H10 t0) (ro H10 (CL (.func 62) 1 [t0])) H10) (fun t21 H11 =>
  fieldE (some (5, 1)) t3 fun t22 =>
  storeE 1 H11 t22 t21 fun H12 =>
  loadE 8 H12 t3 fun t23 =>
  storeE 8 H12 t2 t23 fun H13 =>
  loadE 8 H13 t2 fun t9000 =>
  keepK H.length H13 (ro H13 t9000)) (fun u1 H11 => panKE H.length H11 u1))) (fun u1 H9 => panKE H.length H9 u1))) (fun u1 H6 => panKE H.length H6 u1)) (fun u1 H5 => panKE H.length H5 u1)) (fun u1 H4 => panKE H.length H4 u1)) (fun u1 H3 => panKE H.length H3 u1) := by
  refine (panX Try.prog GG (wire_reader_change_env m) m ⟨24, []⟩ H.length wire_reader_change_c wire_reader_change_h ⟨H, argsT 0 [t0]⟩ [.cell 2 43]).trans ?_
  kernel_rfl
noncomputable def wire_reader_change_t (m : Nat) : List AV → List AObj → RO | [t0], H => wire_reader_change m t0 H | _, _ => none
theorem wire_reader_change_ok (m : Nat) : ∀ args H X H', wire_reader_change_t m args H = some (X, H') → ACx Try.prog GG 29 args H (Is X H') := by
  intro args H X H' h
  unfold wire_reader_change_t at h
  split at h
  · exact pan_ok MIX (by
    intro f e h
    simp only [wire_reader_change_env, Prod.mk.injEq, List.mem_cons, List.not_mem_nil, or_false] at h
    rcases h with ⟨rfl, rfl⟩ | ⟨rfl, rfl⟩ | ⟨rfl, rfl⟩ | ⟨rfl, rfl⟩
    · exact wire_reader_party_ok m
    · exact wire_reader_any_ok m
    · exact wire_some_Stmt_ok m
    · exact wire_some_Cert_ok m) (f := 29) (c := wire_reader_change_c) Try.func29 rfl (by kernel_rfl) _ rfl Try.ntmps29 (Nat.le_of_ble_eq_true rfl) wire_reader_change_h h
  · cases h
noncomputable def wire_some_Change_c : Code := (Try.f28.body).getD .skip
def wire_some_Change_h : Hint := (.two .n (.two .n (.join [5] (.two .n (.one (.lp [(5, ty_api_Change, 6)] [1, 5, 7, 8] [5] (.two .n (.two (.two .n .n) (.two (.one .n) .n)))))) (.two .n .n))))
noncomputable def wire_some_Change_env (m : Nat) : Env := [(22, .pan (wire_reader_num_t m)), (29, .pan (wire_reader_change_t m))]
noncomputable abbrev wire_some_Change_fin (n0 : Nat) : KO (AV × List AObj) := panFK Try.prog n0 [.tmp 4]
noncomputable def wire_some_Change_r1 (m : Nat) (n0k : Nat) (s : ASt) : RO := joinW Try.prog GG (wire_some_Change_env m) m ⟨17, []⟩ (cdR (cdR (cdR wire_some_Change_c))) wire_some_Change_h.r.r.r s (wire_some_Change_fin n0k)
noncomputable def wire_some_Change_b1 (m : Nat) (s : ASt) (kc : ASt → RO) (kx : KO (AV × List AObj)) : RO := bodyW Try.prog GG (wire_some_Change_env m) m ⟨17, []⟩ (cdL (cdL (cdR (cdL (cdR (cdR wire_some_Change_c)))))) wire_some_Change_h.r.r.l.r.c.c [1, 5, 7, 8] [5] s kc kx
noncomputable def wire_some_Change (m : Nat) (t0 t1 : AV) (H : List AObj) : RO := exec Try.prog GG (wire_some_Change_env m) m ⟨17, []⟩ wire_some_Change_c wire_some_Change_h ⟨H, argsT 0 [t0, t1]⟩ (wire_some_Change_fin H.length)
theorem wire_some_Change_r1_eq (m : Nat) (n0k : Nat) (H : List AObj) (t5 : AV) : wire_some_Change_r1 m n0k ⟨H, [(5, t5)]⟩ =
  keepK n0k H (ro H t5) := by
  refine (joinW_eq Try.prog GG (wire_some_Change_env m) m ⟨17, []⟩ (cdR (cdR (cdR wire_some_Change_c))) wire_some_Change_h.r.r.r ⟨H, [(5, t5)]⟩ (wire_some_Change_fin n0k)).trans ?_
  kernel_rfl
theorem wire_some_Change_b1_eq (m : Nat) (H : List AObj) (t1 t5 t7 t8 : AV) (kc : ASt → RO) (kx : KO (AV × List AObj)) : wire_some_Change_b1 m ⟨H, [(1, t1), (5, t5), (7, t7), (8, t8)]⟩ kc kx =
  binE none false false .lss t8 t7 fun t9 =>
  condE t9 (
   callVPE (wire_some_Change_env m) t1 [] H (fun t12 H2 =>
   buildSE (some (ty_api_Change, 6)) 1 [(0, t12)] fun t13 =>
   appE (some (ty_api_Change, 6)) H2 t5 t13 fun t14 H3 =>
   binE none false false .add t8 (V (.int .i64 1)) fun t15 =>
   backE H.length H3 [(1, t1), (5, t14), (7, t7), (8, t15)] kc) (fun u1 H2 => kx (.panic (pch u1)) ⟨H2, [(5, t5)]⟩)) (
   kx (.exit 0) ⟨H, [(5, t5)]⟩) := by
  refine (bodyW_eq Try.prog GG (wire_some_Change_env m) m ⟨17, []⟩ (cdL (cdL (cdR (cdL (cdR (cdR wire_some_Change_c)))))) wire_some_Change_h.r.r.l.r.c.c [1, 5, 7, 8] [5] ⟨H, [(1, t1), (5, t5), (7, t7), (8, t8)]⟩ kc kx).trans ?_
  kernel_rfl
theorem wire_some_Change_eq (m : Nat) (t0 t1 : AV) (H : List AObj) : wire_some_Change m t0 t1 H =
  panE (wire_reader_num m (ro H t0) (V (.int .i64 64)) H) (fun t7 H2 =>
  rowE (V (.slice none 0 0)) ty_api_Change 6 H2 fun t5 H3 =>
  iterC m (wire_some_Change_b1 m) ⟨H3, [(1, t1), (5, t5), (7, t7), (8, (V (.int .i64 0)))]⟩ (blockX 0 (seqX (fun s => wire_some_Change_r1 m H.length ⟨s.H, [(5, gt s.T 5)]⟩) (wire_some_Change_fin H.length)))) (fun u1 H2 => panKE H.length H2 u1) := by
  refine (panX Try.prog GG (wire_some_Change_env m) m ⟨17, []⟩ H.length wire_some_Change_c wire_some_Change_h ⟨H, argsT 0 [t0, t1]⟩ [.tmp 4]).trans ?_
  kernel_rfl
noncomputable def wire_some_Change_t (m : Nat) : List AV → List AObj → RO | [t0, t1], H => wire_some_Change m t0 t1 H | _, _ => none
theorem wire_some_Change_ok (m : Nat) : ∀ args H X H', wire_some_Change_t m args H = some (X, H') → ACx Try.prog GG 28 args H (Is X H') := by
  intro args H X H' h
  unfold wire_some_Change_t at h
  split at h
  · exact pan_ok MIX (by
    intro f e h
    simp only [wire_some_Change_env, Prod.mk.injEq, List.mem_cons, List.not_mem_nil, or_false] at h
    rcases h with ⟨rfl, rfl⟩ | ⟨rfl, rfl⟩
    · exact wire_reader_num_ok m
    · exact wire_reader_change_ok m) (f := 28) (c := wire_some_Change_c) Try.func28 rfl (by kernel_rfl) _ rfl Try.ntmps28 (Nat.le_of_ble_eq_true rfl) wire_some_Change_h h
  · cases h
end Go.Proofs.Ytbdbmfifclmpcaa

namespace Go.Proofs.Ytbdbmfifclmpcaa
open Go.RowKit
set_option linter.unusedVariables false
set_option maxRecDepth 100000
def pl_api_Msg : List (Nat × Nat) := [(0, 1), (1, 1), (2, 1), (3, 1), (4, 1), (5, 1), (6, 1), (7, 1)]
end Go.Proofs.Ytbdbmfifclmpcaa

namespace Go.Proofs.Ytbdbmfifclmpcaa
open Go.RowKit
set_option linter.unusedVariables false
set_option linter.unusedSimpArgs false
set_option maxRecDepth 20000
theorem natInt (k : Nat) : ((k : Int)).toNat = k := Int.toNat_natCast k
theorem u_addS {R : Type} {X : AV} {Y H : List AObj} {K : AV → List AObj → Option R} : addE (some (X, Y)) H K = K X (H ++ Y) := _root_.id rfl
theorem u_bi1 {R : Type} {t : TypeId} {a : Int} {K1 : AV → Option R} : buildSE (some (t, 1)) 1 [(0, V (.int .i64 a))] K1 = K1 (SL [nA a]) := by
  first | rfl | (simp [buildSE, whenE]; rfl) | simp [buildSE, whenE]
theorem u_bi2 {R : Type} {t : TypeId} {a b : Int} {K1 : AV → Option R} : buildSE (some (t, 1)) 2 [(0, V (.int .i64 a)), (1, V (.int .i64 b))] K1 = K1 (SL [nA a, nA b]) := by
  first | rfl | (simp [buildSE, whenE]; rfl) | simp [buildSE, whenE]
theorem u_bi3 {R : Type} {t : TypeId} {a b c : Int} {K1 : AV → Option R} : buildSE (some (t, 1)) 3 [(0, V (.int .i64 a)), (1, V (.int .i64 b)), (2, V (.int .i64 c))] K1 = K1 (SL [nA a, nA b, nA c]) := by
  first | rfl | (simp [buildSE, whenE]; rfl) | simp [buildSE, whenE]
theorem u_bi4 {R : Type} {t : TypeId} {a b c d : Int} {K1 : AV → Option R} : buildSE (some (t, 1)) 4 [(0, V (.int .i64 a)), (1, V (.int .i64 b)), (2, V (.int .i64 c)), (3, V (.int .i64 d))] K1 = K1 (SL [nA a, nA b, nA c, nA d]) := by
  first | rfl | (simp [buildSE, whenE]; rfl) | simp [buildSE, whenE]
theorem u_bi5 {R : Type} {t : TypeId} {a b c d e : Int} {K1 : AV → Option R} : buildSE (some (t, 1)) 5 [(0, V (.int .i64 a)), (1, V (.int .i64 b)), (2, V (.int .i64 c)), (3, V (.int .i64 d)), (4, V (.int .i64 e))] K1 = K1 (SL [nA a, nA b, nA c, nA d, nA e]) := by
  first | rfl | (simp [buildSE, whenE]; rfl) | simp [buildSE, whenE]
theorem u_bi6 {R : Type} {t : TypeId} {a b c d e f : Int} {K1 : AV → Option R} : buildSE (some (t, 1)) 6 [(0, V (.int .i64 a)), (1, V (.int .i64 b)), (2, V (.int .i64 c)), (3, V (.int .i64 d)), (4, V (.int .i64 e)), (5, V (.int .i64 f))] K1 = K1 (SL [nA a, nA b, nA c, nA d, nA e, nA f]) := by
  first | rfl | (simp [buildSE, whenE]; rfl) | simp [buildSE, whenE]
theorem u_bi7 {R : Type} {t : TypeId} {a b c d e f g : Int} {K1 : AV → Option R} : buildSE (some (t, 1)) 7 [(0, V (.int .i64 a)), (1, V (.int .i64 b)), (2, V (.int .i64 c)), (3, V (.int .i64 d)), (4, V (.int .i64 e)), (5, V (.int .i64 f)), (6, V (.int .i64 g))] K1 = K1 (SL [nA a, nA b, nA c, nA d, nA e, nA f, nA g]) := by
  first | rfl | (simp [buildSE, whenE]; rfl) | simp [buildSE, whenE]
theorem u_bz {R : Type} {t : TypeId} {z : Nat} {K1 : AV → Option R} : buildSE (some (t, z)) 0 [] K1 = K1 ZV := by
  first | rfl | (simp [buildSE, whenE]; rfl) | simp [buildSE, whenE]
structure Sm where
  fr : Int
  kd : Int
  vw : Int
  sq : Int
  tm : Int
deriving DecidableEq
def Sm.zero : Sm := ⟨0, 0, 0, 0, 0⟩
def smC (x : Sm) : List AV := [nA x.fr, nA x.kd, nA x.vw, nA x.sq, nA x.tm]
def smE (x : Sm) : AV := .agg (smC x)
structure Ce where
  sq : Int
  vw : Int
  tm : Int
  body : List UInt8
  vs : List Sm
deriving DecidableEq
def Ce.zero : Ce := ⟨0, 0, 0, [], []⟩
def ceC (x : Ce) : List AV := [nA x.sq, nA x.vw, nA x.tm, sA x.body, SL (x.vs.map smE)]
def ceE (x : Ce) : AV := .agg (ceC x)
structure Ch where
  fr : Int
  vw : Int
  st : Int
  rt : Int
  pf : List Sm
  cs : List Ce
deriving DecidableEq
def Ch.zero : Ch := ⟨0, 0, 0, 0, [], []⟩
def cgC (x : Ch) : List AV := [nA x.fr, nA x.vw, nA x.st, nA x.rt, SL (x.pf.map smE), SL (x.cs.map ceE)]
def cgE (x : Ch) : AV := .agg (cgC x)
structure Ms where
  kd : Int
  fr : Int
  vw : Int
  sq : Int
  tm : Int
  body : List UInt8
  vs : List Sm
  chs : List Ch
deriving DecidableEq
def Ms.zero : Ms := ⟨0, 0, 0, 0, 0, [], [], []⟩
def msC (x : Ms) : List AV := [nA x.kd, nA x.fr, nA x.vw, nA x.sq, nA x.tm, sA x.body, SL (x.vs.map smE), SL (x.chs.map cgE)]
def msE (x : Ms) : AV := .agg (msC x)
section
variable {R : Type} {n : Nat} {H : List AObj} {K1 : AV → Option R}
theorem sm_it (x : Sm) : smE x = .agg (smC x) := _root_.id rfl
theorem sm_len {x : Sm} : (smC x).length = 5 := _root_.id rfl
theorem sm_sure {x : Sm} : (smC x).all sure = true := _root_.id rfl
theorem sm_ltA {x : Sm} : (smC x).all (ltA n) = true := _root_.id rfl
theorem sm_lt1 {x : Sm} : (smC x).all (lt1 n) = true := _root_.id rfl
theorem sm_all1 {x : Sm} : ((smC x).all fun y => lt1 n (ro1 H y)) = true := _root_.id rfl
theorem sm_ro {x : Sm} : (smC x).map (ro1 H) = smC x := _root_.id rfl
theorem sm_take {x : Sm} : (smC x).take 5 = smC x := _root_.id rfl
theorem sm_sl {x : Sm} : ((smC x).all fun y => sure y && lt1 n y) = true := _root_.id rfl
theorem sm_set {x y : Sm} : setCells (smC y) 0 (smC x) = smC x := _root_.id rfl
theorem sm_noT {x : Sm} : noT (.agg (smC x)) = .agg (smC x) := _root_.id rfl
theorem sm_fr {x : Sm} : nthE (smC x) 0 K1 = K1 (nA x.fr) := _root_.id rfl
theorem sm_st_fr {x : Sm} {q : Int} : (smC x).set 0 (nA q) = smC { x with fr := q } := _root_.id rfl
theorem sm_set_fr {x : Sm} {q : Int} : setCells (smC x) 0 [nA q] = smC { x with fr := q } := _root_.id rfl
theorem sm_kd {x : Sm} : nthE (smC x) 1 K1 = K1 (nA x.kd) := _root_.id rfl
theorem sm_st_kd {x : Sm} {q : Int} : (smC x).set 1 (nA q) = smC { x with kd := q } := _root_.id rfl
theorem sm_set_kd {x : Sm} {q : Int} : setCells (smC x) 1 [nA q] = smC { x with kd := q } := _root_.id rfl
theorem sm_vw {x : Sm} : nthE (smC x) 2 K1 = K1 (nA x.vw) := _root_.id rfl
theorem sm_st_vw {x : Sm} {q : Int} : (smC x).set 2 (nA q) = smC { x with vw := q } := _root_.id rfl
theorem sm_set_vw {x : Sm} {q : Int} : setCells (smC x) 2 [nA q] = smC { x with vw := q } := _root_.id rfl
theorem sm_sq {x : Sm} : nthE (smC x) 3 K1 = K1 (nA x.sq) := _root_.id rfl
theorem sm_st_sq {x : Sm} {q : Int} : (smC x).set 3 (nA q) = smC { x with sq := q } := _root_.id rfl
theorem sm_set_sq {x : Sm} {q : Int} : setCells (smC x) 3 [nA q] = smC { x with sq := q } := _root_.id rfl
theorem sm_tm {x : Sm} : nthE (smC x) 4 K1 = K1 (nA x.tm) := _root_.id rfl
theorem sm_st_tm {x : Sm} {q : Int} : (smC x).set 4 (nA q) = smC { x with tm := q } := _root_.id rfl
theorem sm_set_tm {x : Sm} {q : Int} : setCells (smC x) 4 [nA q] = smC { x with tm := q } := _root_.id rfl
theorem zsm_len : zc_api_Stmt.length = 5 := _root_.id rfl
theorem zsm_sure : zc_api_Stmt.all sure = true := _root_.id rfl
theorem zsm_lt1 : zc_api_Stmt.all (lt1 n) = true := _root_.id rfl
theorem zsm_sl : (zc_api_Stmt.all fun y => sure y && lt1 n y) = true := _root_.id rfl
theorem zsm_ro : zc_api_Stmt.map (ro1 H) = smC Sm.zero := _root_.id rfl
theorem zsm_setz : setCells zc_api_Stmt 0 zc_api_Stmt = zc_api_Stmt := _root_.id rfl
theorem zsm_set {x : Sm} : setCells zc_api_Stmt 0 (smC x) = smC x := _root_.id rfl
theorem zsm_setr {x : Sm} : setCells (smC x) 0 zc_api_Stmt = zc_api_Stmt := _root_.id rfl
theorem zsm_take : zc_api_Stmt.take 5 = zc_api_Stmt := _root_.id rfl
theorem sms_ltA {l : List Sm} : (l.all fun x => ltA n (smE x)) = true := List.all_eq_true.2 fun _ _ => rfl
theorem sms_len {l : List Sm} : (l.all fun x => decide ((cellsOf (smE x)).length = 5)) = true := List.all_eq_true.2 fun _ _ => rfl
theorem ce_it (x : Ce) : ceE x = .agg (ceC x) := _root_.id rfl
theorem ce_len {x : Ce} : (ceC x).length = 5 := _root_.id rfl
theorem ce_sure {x : Ce} : (ceC x).all sure = true := _root_.id rfl
theorem ce_ltA {x : Ce} : (ceC x).all (ltA n) = true := _root_.id rfl
theorem ce_lt1 {x : Ce} : (ceC x).all (lt1 n) = true := _root_.id rfl
theorem ce_all1 {x : Ce} : ((ceC x).all fun y => lt1 n (ro1 H y)) = true := _root_.id rfl
theorem ce_ro {x : Ce} : (ceC x).map (ro1 H) = ceC x := _root_.id rfl
theorem ce_take {x : Ce} : (ceC x).take 5 = ceC x := _root_.id rfl
theorem ce_sl {x : Ce} : ((ceC x).all fun y => sure y && lt1 n y) = true := _root_.id rfl
theorem ce_set {x y : Ce} : setCells (ceC y) 0 (ceC x) = ceC x := _root_.id rfl
theorem ce_noT {x : Ce} : noT (.agg (ceC x)) = .agg (ceC x) := _root_.id rfl
theorem ce_sq {x : Ce} : nthE (ceC x) 0 K1 = K1 (nA x.sq) := _root_.id rfl
theorem ce_st_sq {x : Ce} {q : Int} : (ceC x).set 0 (nA q) = ceC { x with sq := q } := _root_.id rfl
theorem ce_set_sq {x : Ce} {q : Int} : setCells (ceC x) 0 [nA q] = ceC { x with sq := q } := _root_.id rfl
theorem ce_vw {x : Ce} : nthE (ceC x) 1 K1 = K1 (nA x.vw) := _root_.id rfl
theorem ce_st_vw {x : Ce} {q : Int} : (ceC x).set 1 (nA q) = ceC { x with vw := q } := _root_.id rfl
theorem ce_set_vw {x : Ce} {q : Int} : setCells (ceC x) 1 [nA q] = ceC { x with vw := q } := _root_.id rfl
theorem ce_tm {x : Ce} : nthE (ceC x) 2 K1 = K1 (nA x.tm) := _root_.id rfl
theorem ce_st_tm {x : Ce} {q : Int} : (ceC x).set 2 (nA q) = ceC { x with tm := q } := _root_.id rfl
theorem ce_set_tm {x : Ce} {q : Int} : setCells (ceC x) 2 [nA q] = ceC { x with tm := q } := _root_.id rfl
theorem ce_body {x : Ce} : nthE (ceC x) 3 K1 = K1 (sA x.body) := _root_.id rfl
theorem ce_st_body {x : Ce} {q : List UInt8} : (ceC x).set 3 (sA q) = ceC { x with body := q } := _root_.id rfl
theorem ce_set_body {x : Ce} {q : List UInt8} : setCells (ceC x) 3 [sA q] = ceC { x with body := q } := _root_.id rfl
theorem ce_vs {x : Ce} : nthE (ceC x) 4 K1 = K1 (SL (x.vs.map smE)) := _root_.id rfl
theorem ce_st_vs {x : Ce} {q : List Sm} : (ceC x).set 4 (SL (q.map smE)) = ceC { x with vs := q } := _root_.id rfl
theorem ce_set_vs {x : Ce} {q : List Sm} : setCells (ceC x) 4 [SL (q.map smE)] = ceC { x with vs := q } := _root_.id rfl
theorem zce_len : zc_api_Cert.length = 5 := _root_.id rfl
theorem zce_sure : zc_api_Cert.all sure = true := _root_.id rfl
theorem zce_lt1 : zc_api_Cert.all (lt1 n) = true := _root_.id rfl
theorem zce_sl : (zc_api_Cert.all fun y => sure y && lt1 n y) = true := _root_.id rfl
theorem zce_ro : zc_api_Cert.map (ro1 H) = ceC Ce.zero := _root_.id rfl
theorem zce_setz : setCells zc_api_Cert 0 zc_api_Cert = zc_api_Cert := _root_.id rfl
theorem zce_set {x : Ce} : setCells zc_api_Cert 0 (ceC x) = ceC x := _root_.id rfl
theorem zce_setr {x : Ce} : setCells (ceC x) 0 zc_api_Cert = zc_api_Cert := _root_.id rfl
theorem zce_take : zc_api_Cert.take 5 = zc_api_Cert := _root_.id rfl
theorem ces_ltA {l : List Ce} : (l.all fun x => ltA n (ceE x)) = true := List.all_eq_true.2 fun _ _ => rfl
theorem ces_len {l : List Ce} : (l.all fun x => decide ((cellsOf (ceE x)).length = 5)) = true := List.all_eq_true.2 fun _ _ => rfl
theorem cg_it (x : Ch) : cgE x = .agg (cgC x) := _root_.id rfl
theorem cg_len {x : Ch} : (cgC x).length = 6 := _root_.id rfl
theorem cg_sure {x : Ch} : (cgC x).all sure = true := _root_.id rfl
theorem cg_ltA {x : Ch} : (cgC x).all (ltA n) = true := _root_.id rfl
theorem cg_lt1 {x : Ch} : (cgC x).all (lt1 n) = true := _root_.id rfl
theorem cg_all1 {x : Ch} : ((cgC x).all fun y => lt1 n (ro1 H y)) = true := _root_.id rfl
theorem cg_ro {x : Ch} : (cgC x).map (ro1 H) = cgC x := _root_.id rfl
theorem cg_take {x : Ch} : (cgC x).take 6 = cgC x := _root_.id rfl
theorem cg_sl {x : Ch} : ((cgC x).all fun y => sure y && lt1 n y) = true := _root_.id rfl
theorem cg_set {x y : Ch} : setCells (cgC y) 0 (cgC x) = cgC x := _root_.id rfl
theorem cg_noT {x : Ch} : noT (.agg (cgC x)) = .agg (cgC x) := _root_.id rfl
theorem cg_fr {x : Ch} : nthE (cgC x) 0 K1 = K1 (nA x.fr) := _root_.id rfl
theorem cg_st_fr {x : Ch} {q : Int} : (cgC x).set 0 (nA q) = cgC { x with fr := q } := _root_.id rfl
theorem cg_set_fr {x : Ch} {q : Int} : setCells (cgC x) 0 [nA q] = cgC { x with fr := q } := _root_.id rfl
theorem cg_vw {x : Ch} : nthE (cgC x) 1 K1 = K1 (nA x.vw) := _root_.id rfl
theorem cg_st_vw {x : Ch} {q : Int} : (cgC x).set 1 (nA q) = cgC { x with vw := q } := _root_.id rfl
theorem cg_set_vw {x : Ch} {q : Int} : setCells (cgC x) 1 [nA q] = cgC { x with vw := q } := _root_.id rfl
theorem cg_st {x : Ch} : nthE (cgC x) 2 K1 = K1 (nA x.st) := _root_.id rfl
theorem cg_st_st {x : Ch} {q : Int} : (cgC x).set 2 (nA q) = cgC { x with st := q } := _root_.id rfl
theorem cg_set_st {x : Ch} {q : Int} : setCells (cgC x) 2 [nA q] = cgC { x with st := q } := _root_.id rfl
theorem cg_rt {x : Ch} : nthE (cgC x) 3 K1 = K1 (nA x.rt) := _root_.id rfl
theorem cg_st_rt {x : Ch} {q : Int} : (cgC x).set 3 (nA q) = cgC { x with rt := q } := _root_.id rfl
theorem cg_set_rt {x : Ch} {q : Int} : setCells (cgC x) 3 [nA q] = cgC { x with rt := q } := _root_.id rfl
theorem cg_pf {x : Ch} : nthE (cgC x) 4 K1 = K1 (SL (x.pf.map smE)) := _root_.id rfl
theorem cg_st_pf {x : Ch} {q : List Sm} : (cgC x).set 4 (SL (q.map smE)) = cgC { x with pf := q } := _root_.id rfl
theorem cg_set_pf {x : Ch} {q : List Sm} : setCells (cgC x) 4 [SL (q.map smE)] = cgC { x with pf := q } := _root_.id rfl
theorem cg_cs {x : Ch} : nthE (cgC x) 5 K1 = K1 (SL (x.cs.map ceE)) := _root_.id rfl
theorem cg_st_cs {x : Ch} {q : List Ce} : (cgC x).set 5 (SL (q.map ceE)) = cgC { x with cs := q } := _root_.id rfl
theorem cg_set_cs {x : Ch} {q : List Ce} : setCells (cgC x) 5 [SL (q.map ceE)] = cgC { x with cs := q } := _root_.id rfl
theorem zcg_len : zc_api_Change.length = 6 := _root_.id rfl
theorem zcg_sure : zc_api_Change.all sure = true := _root_.id rfl
theorem zcg_lt1 : zc_api_Change.all (lt1 n) = true := _root_.id rfl
theorem zcg_sl : (zc_api_Change.all fun y => sure y && lt1 n y) = true := _root_.id rfl
theorem zcg_ro : zc_api_Change.map (ro1 H) = cgC Ch.zero := _root_.id rfl
theorem zcg_setz : setCells zc_api_Change 0 zc_api_Change = zc_api_Change := _root_.id rfl
theorem zcg_set {x : Ch} : setCells zc_api_Change 0 (cgC x) = cgC x := _root_.id rfl
theorem zcg_setr {x : Ch} : setCells (cgC x) 0 zc_api_Change = zc_api_Change := _root_.id rfl
theorem zcg_take : zc_api_Change.take 6 = zc_api_Change := _root_.id rfl
theorem cgs_ltA {l : List Ch} : (l.all fun x => ltA n (cgE x)) = true := List.all_eq_true.2 fun _ _ => rfl
theorem cgs_len {l : List Ch} : (l.all fun x => decide ((cellsOf (cgE x)).length = 6)) = true := List.all_eq_true.2 fun _ _ => rfl
theorem ms_it (x : Ms) : msE x = .agg (msC x) := _root_.id rfl
theorem ms_len {x : Ms} : (msC x).length = 8 := _root_.id rfl
theorem ms_sure {x : Ms} : (msC x).all sure = true := _root_.id rfl
theorem ms_ltA {x : Ms} : (msC x).all (ltA n) = true := _root_.id rfl
theorem ms_lt1 {x : Ms} : (msC x).all (lt1 n) = true := _root_.id rfl
theorem ms_all1 {x : Ms} : ((msC x).all fun y => lt1 n (ro1 H y)) = true := _root_.id rfl
theorem ms_ro {x : Ms} : (msC x).map (ro1 H) = msC x := _root_.id rfl
theorem ms_take {x : Ms} : (msC x).take 8 = msC x := _root_.id rfl
theorem ms_sl {x : Ms} : ((msC x).all fun y => sure y && lt1 n y) = true := _root_.id rfl
theorem ms_set {x y : Ms} : setCells (msC y) 0 (msC x) = msC x := _root_.id rfl
theorem ms_noT {x : Ms} : noT (.agg (msC x)) = .agg (msC x) := _root_.id rfl
theorem ms_kd {x : Ms} : nthE (msC x) 0 K1 = K1 (nA x.kd) := _root_.id rfl
theorem ms_st_kd {x : Ms} {q : Int} : (msC x).set 0 (nA q) = msC { x with kd := q } := _root_.id rfl
theorem ms_set_kd {x : Ms} {q : Int} : setCells (msC x) 0 [nA q] = msC { x with kd := q } := _root_.id rfl
theorem ms_fr {x : Ms} : nthE (msC x) 1 K1 = K1 (nA x.fr) := _root_.id rfl
theorem ms_st_fr {x : Ms} {q : Int} : (msC x).set 1 (nA q) = msC { x with fr := q } := _root_.id rfl
theorem ms_set_fr {x : Ms} {q : Int} : setCells (msC x) 1 [nA q] = msC { x with fr := q } := _root_.id rfl
theorem ms_vw {x : Ms} : nthE (msC x) 2 K1 = K1 (nA x.vw) := _root_.id rfl
theorem ms_st_vw {x : Ms} {q : Int} : (msC x).set 2 (nA q) = msC { x with vw := q } := _root_.id rfl
theorem ms_set_vw {x : Ms} {q : Int} : setCells (msC x) 2 [nA q] = msC { x with vw := q } := _root_.id rfl
theorem ms_sq {x : Ms} : nthE (msC x) 3 K1 = K1 (nA x.sq) := _root_.id rfl
theorem ms_st_sq {x : Ms} {q : Int} : (msC x).set 3 (nA q) = msC { x with sq := q } := _root_.id rfl
theorem ms_set_sq {x : Ms} {q : Int} : setCells (msC x) 3 [nA q] = msC { x with sq := q } := _root_.id rfl
theorem ms_tm {x : Ms} : nthE (msC x) 4 K1 = K1 (nA x.tm) := _root_.id rfl
theorem ms_st_tm {x : Ms} {q : Int} : (msC x).set 4 (nA q) = msC { x with tm := q } := _root_.id rfl
theorem ms_set_tm {x : Ms} {q : Int} : setCells (msC x) 4 [nA q] = msC { x with tm := q } := _root_.id rfl
theorem ms_body {x : Ms} : nthE (msC x) 5 K1 = K1 (sA x.body) := _root_.id rfl
theorem ms_st_body {x : Ms} {q : List UInt8} : (msC x).set 5 (sA q) = msC { x with body := q } := _root_.id rfl
theorem ms_set_body {x : Ms} {q : List UInt8} : setCells (msC x) 5 [sA q] = msC { x with body := q } := _root_.id rfl
theorem ms_vs {x : Ms} : nthE (msC x) 6 K1 = K1 (SL (x.vs.map smE)) := _root_.id rfl
theorem ms_st_vs {x : Ms} {q : List Sm} : (msC x).set 6 (SL (q.map smE)) = msC { x with vs := q } := _root_.id rfl
theorem ms_set_vs {x : Ms} {q : List Sm} : setCells (msC x) 6 [SL (q.map smE)] = msC { x with vs := q } := _root_.id rfl
theorem ms_chs {x : Ms} : nthE (msC x) 7 K1 = K1 (SL (x.chs.map cgE)) := _root_.id rfl
theorem ms_st_chs {x : Ms} {q : List Ch} : (msC x).set 7 (SL (q.map cgE)) = msC { x with chs := q } := _root_.id rfl
theorem ms_set_chs {x : Ms} {q : List Ch} : setCells (msC x) 7 [SL (q.map cgE)] = msC { x with chs := q } := _root_.id rfl
theorem zms_len : zc_api_Msg.length = 8 := _root_.id rfl
theorem zms_sure : zc_api_Msg.all sure = true := _root_.id rfl
theorem zms_lt1 : zc_api_Msg.all (lt1 n) = true := _root_.id rfl
theorem zms_sl : (zc_api_Msg.all fun y => sure y && lt1 n y) = true := _root_.id rfl
theorem zms_ro : zc_api_Msg.map (ro1 H) = msC Ms.zero := _root_.id rfl
theorem zms_setz : setCells zc_api_Msg 0 zc_api_Msg = zc_api_Msg := _root_.id rfl
theorem zms_set {x : Ms} : setCells zc_api_Msg 0 (msC x) = msC x := _root_.id rfl
theorem zms_setr {x : Ms} : setCells (msC x) 0 zc_api_Msg = zc_api_Msg := _root_.id rfl
theorem zms_take : zc_api_Msg.take 8 = zc_api_Msg := _root_.id rfl
theorem mss_ltA {l : List Ms} : (l.all fun x => ltA n (msE x)) = true := List.all_eq_true.2 fun _ _ => rfl
theorem mss_len {l : List Ms} : (l.all fun x => decide ((cellsOf (msE x)).length = 8)) = true := List.all_eq_true.2 fun _ _ => rfl
end
end Go.Proofs.Ytbdbmfifclmpcaa

namespace Go.Proofs.Ytbdbmfifclmpcaa
open Go.RowKit
set_option linter.unusedVariables false
set_option linter.unusedSimpArgs false
set_option maxRecDepth 20000
attribute [local go_sem] Nat.zero_add Nat.add_zero Nat.mul_one Int.toNat_natCast Int.natCast_zero Int.cast_ofNat_Int or_false false_or or_true true_or Nat.sub_zero Int.natCast_nonneg Int.toNat_zero Bool.true_and Bool.and_true Bool.false_and Bool.and_false Bool.true_or Bool.or_true Bool.false_or Bool.or_false Bool.not_true Bool.not_false Bool.not_not true_and and_true false_and and_false not_true_eq_false not_false_eq_true eq_self decide_true decide_false ne_eq implies_true forall_const true_implies false_implies Bool.true_eq_false Bool.false_eq_true List.map_cons List.map_nil List.all_cons List.all_nil List.length_cons List.length_nil List.length_map List.length_append List.nil_append List.cons_append List.set_cons_zero List.set_cons_succ List.set_nil List.drop_zero List.drop_succ_cons List.drop_nil List.take_zero List.take_succ_cons List.take_nil Option.map_some Option.map_none Option.isSome_some List.all_append List.all_map Function.comp_def decide_eq_true_eq Bool.and_eq_true beq_self_eq_true or_self and_self ite_true ite_false Nat.le_refl Bool.not_eq_true decide_not Bool.not_eq_true' decide_eq_false_iff_not Bool.not_eq_false Bool.or_eq_true if_true if_false ite_self u_roF u_cvF u_cvC u_ceT u_ceK u_appS sm_it sm_len sm_sure sm_ltA sm_lt1 sm_all1 sm_ro sm_take sm_sl sm_set sm_noT sm_fr sm_st_fr sm_set_fr sm_kd sm_st_kd sm_set_kd sm_vw sm_st_vw sm_set_vw sm_sq sm_st_sq sm_set_sq sm_tm sm_st_tm sm_set_tm zsm_len zsm_sure zsm_lt1 zsm_sl zsm_ro zsm_setz zsm_set zsm_setr zsm_take sms_ltA sms_len ce_it ce_len ce_sure ce_ltA ce_lt1 ce_all1 ce_ro ce_take ce_sl ce_set ce_noT ce_sq ce_st_sq ce_set_sq ce_vw ce_st_vw ce_set_vw ce_tm ce_st_tm ce_set_tm ce_body ce_st_body ce_set_body ce_vs ce_st_vs ce_set_vs zce_len zce_sure zce_lt1 zce_sl zce_ro zce_setz zce_set zce_setr zce_take ces_ltA ces_len cg_it cg_len cg_sure cg_ltA cg_lt1 cg_all1 cg_ro cg_take cg_sl cg_set cg_noT cg_fr cg_st_fr cg_set_fr cg_vw cg_st_vw cg_set_vw cg_st cg_st_st cg_set_st cg_rt cg_st_rt cg_set_rt cg_pf cg_st_pf cg_set_pf cg_cs cg_st_cs cg_set_cs zcg_len zcg_sure zcg_lt1 zcg_sl zcg_ro zcg_setz zcg_set zcg_setr zcg_take cgs_ltA cgs_len ms_it ms_len ms_sure ms_ltA ms_lt1 ms_all1 ms_ro ms_take ms_sl ms_set ms_noT ms_kd ms_st_kd ms_set_kd ms_fr ms_st_fr ms_set_fr ms_vw ms_st_vw ms_set_vw ms_sq ms_st_sq ms_set_sq ms_tm ms_st_tm ms_set_tm ms_body ms_st_body ms_set_body ms_vs ms_st_vs ms_set_vs ms_chs ms_st_chs ms_set_chs zms_len zms_sure zms_lt1 zms_sl zms_ro zms_setz zms_set zms_setr zms_take mss_ltA mss_len natInt u_nthM u_bz u_bi1 u_bi2 u_bi3 u_bi4 u_bi5 u_bi6 u_bi7
def numB (v : Int) : Bool := decide (0 ≤ v) && decide (v ≤ 2147483647)
def parB (v : Int) : Bool := decide (0 ≤ v) && decide (v ≤ 63)
def smB (x : Sm) : Bool := parB x.fr && [x.kd, x.vw, x.sq, x.tm].all numB
def smsB (l : List Sm) : Bool := decide (l.length ≤ 64) && l.all smB
def ceB (x : Ce) : Bool := [x.sq, x.vw, x.tm].all numB && (decide (x.body.length ≤ 65536) && smsB x.vs)
def cesB (l : List Ce) : Bool := decide (l.length ≤ 64) && l.all ceB
def cgB (x : Ch) : Bool := parB x.fr && ([x.vw, x.st, x.rt].all numB && (smsB x.pf && cesB x.cs))
def cgsB (l : List Ch) : Bool := decide (l.length ≤ 64) && l.all cgB
def msB (x : Ms) : Bool := decide (1 ≤ x.kd) && (decide (x.kd ≤ 10) && (parB x.fr && ([x.vw, x.sq, x.tm].all numB && (decide (x.body.length ≤ 65536) && (smsB x.vs && cgsB x.chs)))))
theorem number_s (m : Nat) (l : List Int) (hm : l.length < m) (hl : l.length ≤ 34359738367) : wire_number m (SL (l.map nA)) = some (bA (l.all numB), []) := by
  rw [wire_number_eq]
  simp (config := {maxSteps := 4000000, implicitDefEqProofs := false}) (disch := omega) only [go_sem, ↓reduceIte, Nat.reduceAdd, Nat.reduceSub, Nat.reduceMul, Nat.reduceLeDiff, Nat.reduceLT, Int.reduceEq, Int.reduceNe, Int.reduceLT, Int.reduceLE, Int.reduceAdd, Int.reduceSub, Int.reduceMul, Int.reduceNeg, Int.reduceToNat, reduceCtorEq, Nat.reduceEqDiff, Nat.reduceBEq, Nat.reduceGT]
  generalize hg : l.all numB = g
  refine iter_go (ι := {k : Nat // k ≤ l.length ∧ (l.drop k).all numB = g}) (fun k => ⟨[], [(5, SL (l.map nA)), (6, nA l.length), (7, nA k.1)]⟩) (fun k => l.length - k.1) (fun _ => some (bA g, [])) ?_ ⟨0, Nat.zero_le _, hg⟩ (by dsimp only; omega)
  rintro kx hkx ⟨k, hk, hG⟩ kc hkc
  dsimp only at hkc hG ⊢
  rw [wire_number_b1_eq]
  by_cases hlt : k < l.length
  · have hlt' : (k : Int) < (l.length : Int) := by omega
    rw [List.drop_eq_getElem_cons hlt, List.all_cons] at hG
    by_cases h1 : l[k] < 0
    · have e : numB l[k] = false := by unfold numB; rw [decide_eq_false (by omega)]; rfl
      rw [e] at hG
      have hG2 : false = g := hG
      subst hG2
      simp (config := {maxSteps := 4000000, implicitDefEqProofs := false}) (disch := omega) only [go_sem, ↓reduceIte, Nat.reduceAdd, Nat.reduceSub, Nat.reduceMul, Nat.reduceLeDiff, Nat.reduceLT, Int.reduceEq, Int.reduceNe, Int.reduceLT, Int.reduceLE, Int.reduceAdd, Int.reduceSub, Int.reduceMul, Int.reduceNeg, Int.reduceToNat, reduceCtorEq, Nat.reduceEqDiff, Nat.reduceBEq, Nat.reduceGT, hlt', h1, w_i64, hkx, wire_number_r3_eq, wire_number_r2_eq, wire_number_r1_eq]
    · by_cases h2 : l[k] > 2147483647
      · have e : numB l[k] = false := by unfold numB; rw [decide_eq_false (p := l[k] ≤ 2147483647) (by omega)]; simp
        rw [e] at hG
        have hG2 : false = g := hG
        subst hG2
        simp (config := {maxSteps := 4000000, implicitDefEqProofs := false}) (disch := omega) only [go_sem, ↓reduceIte, Nat.reduceAdd, Nat.reduceSub, Nat.reduceMul, Nat.reduceLeDiff, Nat.reduceLT, Int.reduceEq, Int.reduceNe, Int.reduceLT, Int.reduceLE, Int.reduceAdd, Int.reduceSub, Int.reduceMul, Int.reduceNeg, Int.reduceToNat, reduceCtorEq, Nat.reduceEqDiff, Nat.reduceBEq, Nat.reduceGT, hlt', h1, h2, w_i64, hkx, wire_number_r3_eq, wire_number_r2_eq, wire_number_r1_eq]
      · have e : numB l[k] = true := by unfold numB; rw [decide_eq_true (by omega), decide_eq_true (by omega)]; rfl
        rw [e] at hG
        have step := hkc ⟨k + 1, by omega, hG⟩ (by dsimp only; omega)
        simp (config := {maxSteps := 4000000, implicitDefEqProofs := false}) (disch := omega) only [go_sem, ↓reduceIte, Nat.reduceAdd, Nat.reduceSub, Nat.reduceMul, Nat.reduceLeDiff, Nat.reduceLT, Int.reduceEq, Int.reduceNe, Int.reduceLT, Int.reduceLE, Int.reduceAdd, Int.reduceSub, Int.reduceMul, Int.reduceNeg, Int.reduceToNat, reduceCtorEq, Nat.reduceEqDiff, Nat.reduceBEq, Nat.reduceGT, hlt', h1, h2, w_i64, wire_number_r3_eq, wire_number_r2_eq, wire_number_r1_eq]
        exact step
  · have hlt' : ¬ (k : Int) < (l.length : Int) := by omega
    rw [List.drop_of_length_le (by omega)] at hG
    have hG2 : true = g := hG
    subst hG2
    simp (config := {maxSteps := 4000000, implicitDefEqProofs := false}) (disch := omega) only [go_sem, ↓reduceIte, Nat.reduceAdd, Nat.reduceSub, Nat.reduceMul, Nat.reduceLeDiff, Nat.reduceLT, Int.reduceEq, Int.reduceNe, Int.reduceLT, Int.reduceLE, Int.reduceAdd, Int.reduceSub, Int.reduceMul, Int.reduceNeg, Int.reduceToNat, reduceCtorEq, Nat.reduceEqDiff, Nat.reduceBEq, Nat.reduceGT, hlt', hkx, wire_number_r3_eq, wire_number_r2_eq, wire_number_r1_eq]
theorem party_s (m : Nat) (v : Int) : wire_party m (nA v) = some (bA (parB v), []) := by
  rw [wire_party_eq]
  unfold parB
  have e : decide (v ≤ 63) = decide (v < 64) := by apply decide_eq_decide.2; omega
  rw [e]
  by_cases h1 : 0 ≤ v
  · simp (config := {maxSteps := 4000000, implicitDefEqProofs := false}) (disch := omega) only [go_sem, ↓reduceIte, Nat.reduceAdd, Nat.reduceSub, Nat.reduceMul, Nat.reduceLeDiff, Nat.reduceLT, Int.reduceEq, Int.reduceNe, Int.reduceLT, Int.reduceLE, Int.reduceAdd, Int.reduceSub, Int.reduceMul, Int.reduceNeg, Int.reduceToNat, reduceCtorEq, Nat.reduceEqDiff, Nat.reduceBEq, Nat.reduceGT, h1]
  · simp (config := {maxSteps := 4000000, implicitDefEqProofs := false}) (disch := omega) only [go_sem, ↓reduceIte, Nat.reduceAdd, Nat.reduceSub, Nat.reduceMul, Nat.reduceLeDiff, Nat.reduceLT, Int.reduceEq, Int.reduceNe, Int.reduceLT, Int.reduceLE, Int.reduceAdd, Int.reduceSub, Int.reduceMul, Int.reduceNeg, Int.reduceToNat, reduceCtorEq, Nat.reduceEqDiff, Nat.reduceBEq, Nat.reduceGT, h1]
theorem stmt_s (m : Nat) (x : Sm) (hm : 4 < m) : wire_stmt m (smE x) = some (bA (smB x), []) := by
  have hN := number_s m [x.kd, x.vw, x.sq, x.tm] hm (by simp only [List.length_cons, List.length_nil]; omega)
  have hP := party_s m x.fr
  rw [wire_stmt_eq, sm_it]
  unfold smB
  generalize [x.kd, x.vw, x.sq, x.tm].all numB = gn at hN ⊢
  simp only [List.map_cons, List.map_nil] at hN
  cases h : parB x.fr with
  | false => rw [h] at hP; simp (config := {maxSteps := 4000000, implicitDefEqProofs := false}) (disch := omega) only [go_sem, ↓reduceIte, Nat.reduceAdd, Nat.reduceSub, Nat.reduceMul, Nat.reduceLeDiff, Nat.reduceLT, Int.reduceEq, Int.reduceNe, Int.reduceLT, Int.reduceLE, Int.reduceAdd, Int.reduceSub, Int.reduceMul, Int.reduceNeg, Int.reduceToNat, reduceCtorEq, Nat.reduceEqDiff, Nat.reduceBEq, Nat.reduceGT, hP, hN]
  | true => rw [h] at hP; simp (config := {maxSteps := 4000000, implicitDefEqProofs := false}) (disch := omega) only [go_sem, ↓reduceIte, Nat.reduceAdd, Nat.reduceSub, Nat.reduceMul, Nat.reduceLeDiff, Nat.reduceLT, Int.reduceEq, Int.reduceNe, Int.reduceLT, Int.reduceLE, Int.reduceAdd, Int.reduceSub, Int.reduceMul, Int.reduceNeg, Int.reduceToNat, reduceCtorEq, Nat.reduceEqDiff, Nat.reduceBEq, Nat.reduceGT, hP, hN]
theorem listStmt_s (m : Nat) (l : List Sm) (hm : 70 < m) : wire_list_Stmt m (SL (l.map smE)) (V (.func (.func 55) #[] #[])) = some (bA (smsB l), []) := by
  rw [wire_list_Stmt_eq]
  unfold smsB
  by_cases h64 : l.length ≤ 64
  rotate_left
  · have h64' : (l.length : Int) > 64 := by omega
    simp (config := {maxSteps := 4000000, implicitDefEqProofs := false}) (disch := omega) only [go_sem, ↓reduceIte, Nat.reduceAdd, Nat.reduceSub, Nat.reduceMul, Nat.reduceLeDiff, Nat.reduceLT, Int.reduceEq, Int.reduceNe, Int.reduceLT, Int.reduceLE, Int.reduceAdd, Int.reduceSub, Int.reduceMul, Int.reduceNeg, Int.reduceToNat, reduceCtorEq, Nat.reduceEqDiff, Nat.reduceBEq, Nat.reduceGT, h64', h64]
  have h64' : ¬ (l.length : Int) > 64 := by omega
  simp (config := {maxSteps := 4000000, implicitDefEqProofs := false}) (disch := omega) only [go_sem, ↓reduceIte, Nat.reduceAdd, Nat.reduceSub, Nat.reduceMul, Nat.reduceLeDiff, Nat.reduceLT, Int.reduceEq, Int.reduceNe, Int.reduceLT, Int.reduceLE, Int.reduceAdd, Int.reduceSub, Int.reduceMul, Int.reduceNeg, Int.reduceToNat, reduceCtorEq, Nat.reduceEqDiff, Nat.reduceBEq, Nat.reduceGT, h64', h64]
  generalize hg : l.all smB = g
  refine iter_go (ι := {k : Nat // k ≤ l.length ∧ (l.drop k).all smB = g}) (fun k => ⟨[], [(1, V (.func (.func 55) #[] #[])), (10, SL (l.map smE)), (11, nA l.length), (12, nA k.1)]⟩) (fun k => l.length - k.1) (fun _ => some (bA g, [])) ?_ ⟨0, Nat.zero_le _, hg⟩ (by dsimp only; omega)
  rintro kx hkx ⟨k, hk, hG⟩ kc hkc
  dsimp only at hkc hG ⊢
  rw [wire_list_Stmt_b1_eq]
  by_cases hlt : k < l.length
  · have hlt' : (k : Int) < (l.length : Int) := by omega
    rw [List.drop_eq_getElem_cons hlt, List.all_cons] at hG
    have hV := stmt_s m l[k] (by omega)
    rw [sm_it] at hV
    have hF : findE (wire_list_Stmt_env m) 55 = some (.tell (wire_stmt_t m)) := rfl
    have hT : wire_stmt_t m [.agg (smC l[k])] = wire_stmt m (.agg (smC l[k])) := rfl
    cases h1 : smB l[k] with
    | false =>
      rw [h1] at hG hV
      have hG2 : false = g := hG
      subst hG2
      simp (config := {maxSteps := 4000000, implicitDefEqProofs := false}) (disch := omega) only [go_sem, ↓reduceIte, Nat.reduceAdd, Nat.reduceSub, Nat.reduceMul, Nat.reduceLeDiff, Nat.reduceLT, Int.reduceEq, Int.reduceNe, Int.reduceLT, Int.reduceLE, Int.reduceAdd, Int.reduceSub, Int.reduceMul, Int.reduceNeg, Int.reduceToNat, reduceCtorEq, Nat.reduceEqDiff, Nat.reduceBEq, Nat.reduceGT, hlt', hF, hT, hV, w_i64, hkx, wire_list_Stmt_r1_eq]
    | true =>
      rw [h1] at hG hV
      have step := hkc ⟨k + 1, by omega, hG⟩ (by dsimp only; omega)
      simp (config := {maxSteps := 4000000, implicitDefEqProofs := false}) (disch := omega) only [go_sem, ↓reduceIte, Nat.reduceAdd, Nat.reduceSub, Nat.reduceMul, Nat.reduceLeDiff, Nat.reduceLT, Int.reduceEq, Int.reduceNe, Int.reduceLT, Int.reduceLE, Int.reduceAdd, Int.reduceSub, Int.reduceMul, Int.reduceNeg, Int.reduceToNat, reduceCtorEq, Nat.reduceEqDiff, Nat.reduceBEq, Nat.reduceGT, hlt', hF, hT, hV, w_i64, wire_list_Stmt_r1_eq]
      exact step
  · have hlt' : ¬ (k : Int) < (l.length : Int) := by omega
    rw [List.drop_of_length_le (by omega)] at hG
    have hG2 : true = g := hG
    subst hG2
    simp (config := {maxSteps := 4000000, implicitDefEqProofs := false}) (disch := omega) only [go_sem, ↓reduceIte, Nat.reduceAdd, Nat.reduceSub, Nat.reduceMul, Nat.reduceLeDiff, Nat.reduceLT, Int.reduceEq, Int.reduceNe, Int.reduceLT, Int.reduceLE, Int.reduceAdd, Int.reduceSub, Int.reduceMul, Int.reduceNeg, Int.reduceToNat, reduceCtorEq, Nat.reduceEqDiff, Nat.reduceBEq, Nat.reduceGT, hlt', hkx, wire_list_Stmt_r1_eq]
theorem cert_s (m : Nat) (x : Ce) (hm : 70 < m) : wire_cert m (ceE x) = some (bA (ceB x), []) := by
  have hN := number_s m [x.sq, x.vw, x.tm] (by simp only [List.length_cons, List.length_nil]; omega) (by simp only [List.length_cons, List.length_nil]; omega)
  have hL := listStmt_s m x.vs hm
  rw [wire_cert_eq, ce_it]
  unfold ceB
  simp only [List.map_cons, List.map_nil] at hN
  cases h : [x.sq, x.vw, x.tm].all numB with
  | false => rw [h] at hN; simp (config := {maxSteps := 4000000, implicitDefEqProofs := false}) (disch := omega) only [go_sem, ↓reduceIte, Nat.reduceAdd, Nat.reduceSub, Nat.reduceMul, Nat.reduceLeDiff, Nat.reduceLT, Int.reduceEq, Int.reduceNe, Int.reduceLT, Int.reduceLE, Int.reduceAdd, Int.reduceSub, Int.reduceMul, Int.reduceNeg, Int.reduceToNat, reduceCtorEq, Nat.reduceEqDiff, Nat.reduceBEq, Nat.reduceGT, hN]
  | true =>
    rw [h] at hN
    by_cases h1 : x.body.length ≤ 65536
    · have h1' : (x.body.length : Int) ≤ 65536 := by omega
      simp (config := {maxSteps := 4000000, implicitDefEqProofs := false}) (disch := omega) only [go_sem, ↓reduceIte, Nat.reduceAdd, Nat.reduceSub, Nat.reduceMul, Nat.reduceLeDiff, Nat.reduceLT, Int.reduceEq, Int.reduceNe, Int.reduceLT, Int.reduceLE, Int.reduceAdd, Int.reduceSub, Int.reduceMul, Int.reduceNeg, Int.reduceToNat, reduceCtorEq, Nat.reduceEqDiff, Nat.reduceBEq, Nat.reduceGT, hN, h1, h1', hL]
    · have h1' : ¬ (x.body.length : Int) ≤ 65536 := by omega
      simp (config := {maxSteps := 4000000, implicitDefEqProofs := false}) (disch := omega) only [go_sem, ↓reduceIte, Nat.reduceAdd, Nat.reduceSub, Nat.reduceMul, Nat.reduceLeDiff, Nat.reduceLT, Int.reduceEq, Int.reduceNe, Int.reduceLT, Int.reduceLE, Int.reduceAdd, Int.reduceSub, Int.reduceMul, Int.reduceNeg, Int.reduceToNat, reduceCtorEq, Nat.reduceEqDiff, Nat.reduceBEq, Nat.reduceGT, hN, h1, h1', hL]
theorem listCert_s (m : Nat) (l : List Ce) (hm : 70 < m) : wire_list_Cert m (SL (l.map ceE)) (V (.func (.func 69) #[] #[])) = some (bA (cesB l), []) := by
  rw [wire_list_Cert_eq]
  unfold cesB
  by_cases h64 : l.length ≤ 64
  rotate_left
  · have h64' : (l.length : Int) > 64 := by omega
    simp (config := {maxSteps := 4000000, implicitDefEqProofs := false}) (disch := omega) only [go_sem, ↓reduceIte, Nat.reduceAdd, Nat.reduceSub, Nat.reduceMul, Nat.reduceLeDiff, Nat.reduceLT, Int.reduceEq, Int.reduceNe, Int.reduceLT, Int.reduceLE, Int.reduceAdd, Int.reduceSub, Int.reduceMul, Int.reduceNeg, Int.reduceToNat, reduceCtorEq, Nat.reduceEqDiff, Nat.reduceBEq, Nat.reduceGT, h64', h64]
  have h64' : ¬ (l.length : Int) > 64 := by omega
  simp (config := {maxSteps := 4000000, implicitDefEqProofs := false}) (disch := omega) only [go_sem, ↓reduceIte, Nat.reduceAdd, Nat.reduceSub, Nat.reduceMul, Nat.reduceLeDiff, Nat.reduceLT, Int.reduceEq, Int.reduceNe, Int.reduceLT, Int.reduceLE, Int.reduceAdd, Int.reduceSub, Int.reduceMul, Int.reduceNeg, Int.reduceToNat, reduceCtorEq, Nat.reduceEqDiff, Nat.reduceBEq, Nat.reduceGT, h64', h64]
  generalize hg : l.all ceB = g
  refine iter_go (ι := {k : Nat // k ≤ l.length ∧ (l.drop k).all ceB = g}) (fun k => ⟨[], [(1, V (.func (.func 69) #[] #[])), (10, SL (l.map ceE)), (11, nA l.length), (12, nA k.1)]⟩) (fun k => l.length - k.1) (fun _ => some (bA g, [])) ?_ ⟨0, Nat.zero_le _, hg⟩ (by dsimp only; omega)
  rintro kx hkx ⟨k, hk, hG⟩ kc hkc
  dsimp only at hkc hG ⊢
  rw [wire_list_Cert_b1_eq]
  by_cases hlt : k < l.length
  · have hlt' : (k : Int) < (l.length : Int) := by omega
    rw [List.drop_eq_getElem_cons hlt, List.all_cons] at hG
    have hV := cert_s m l[k] hm
    rw [ce_it] at hV
    have hF : findE (wire_list_Cert_env m) 69 = some (.tell (wire_cert_t m)) := rfl
    have hT : wire_cert_t m [.agg (ceC l[k])] = wire_cert m (.agg (ceC l[k])) := rfl
    cases h1 : ceB l[k] with
    | false =>
      rw [h1] at hG hV
      have hG2 : false = g := hG
      subst hG2
      simp (config := {maxSteps := 4000000, implicitDefEqProofs := false}) (disch := omega) only [go_sem, ↓reduceIte, Nat.reduceAdd, Nat.reduceSub, Nat.reduceMul, Nat.reduceLeDiff, Nat.reduceLT, Int.reduceEq, Int.reduceNe, Int.reduceLT, Int.reduceLE, Int.reduceAdd, Int.reduceSub, Int.reduceMul, Int.reduceNeg, Int.reduceToNat, reduceCtorEq, Nat.reduceEqDiff, Nat.reduceBEq, Nat.reduceGT, hlt', hF, hT, hV, w_i64, hkx, wire_list_Cert_r1_eq]
    | true =>
      rw [h1] at hG hV
      have step := hkc ⟨k + 1, by omega, hG⟩ (by dsimp only; omega)
      simp (config := {maxSteps := 4000000, implicitDefEqProofs := false}) (disch := omega) only [go_sem, ↓reduceIte, Nat.reduceAdd, Nat.reduceSub, Nat.reduceMul, Nat.reduceLeDiff, Nat.reduceLT, Int.reduceEq, Int.reduceNe, Int.reduceLT, Int.reduceLE, Int.reduceAdd, Int.reduceSub, Int.reduceMul, Int.reduceNeg, Int.reduceToNat, reduceCtorEq, Nat.reduceEqDiff, Nat.reduceBEq, Nat.reduceGT, hlt', hF, hT, hV, w_i64, wire_list_Cert_r1_eq]
      exact step
  · have hlt' : ¬ (k : Int) < (l.length : Int) := by omega
    rw [List.drop_of_length_le (by omega)] at hG
    have hG2 : true = g := hG
    subst hG2
    simp (config := {maxSteps := 4000000, implicitDefEqProofs := false}) (disch := omega) only [go_sem, ↓reduceIte, Nat.reduceAdd, Nat.reduceSub, Nat.reduceMul, Nat.reduceLeDiff, Nat.reduceLT, Int.reduceEq, Int.reduceNe, Int.reduceLT, Int.reduceLE, Int.reduceAdd, Int.reduceSub, Int.reduceMul, Int.reduceNeg, Int.reduceToNat, reduceCtorEq, Nat.reduceEqDiff, Nat.reduceBEq, Nat.reduceGT, hlt', hkx, wire_list_Cert_r1_eq]
theorem change_s (m : Nat) (x : Ch) (hm : 70 < m) : wire_change m (cgE x) = some (bA (cgB x), []) := by
  have hN := number_s m [x.vw, x.st, x.rt] (by simp only [List.length_cons, List.length_nil]; omega) (by simp only [List.length_cons, List.length_nil]; omega)
  have hP := party_s m x.fr
  have hL := listStmt_s m x.pf hm
  have hC := listCert_s m x.cs hm
  rw [wire_change_eq, cg_it]
  unfold cgB
  simp only [List.map_cons, List.map_nil] at hN
  cases h0 : parB x.fr with
  | false => rw [h0] at hP; simp (config := {maxSteps := 4000000, implicitDefEqProofs := false}) (disch := omega) only [go_sem, ↓reduceIte, Nat.reduceAdd, Nat.reduceSub, Nat.reduceMul, Nat.reduceLeDiff, Nat.reduceLT, Int.reduceEq, Int.reduceNe, Int.reduceLT, Int.reduceLE, Int.reduceAdd, Int.reduceSub, Int.reduceMul, Int.reduceNeg, Int.reduceToNat, reduceCtorEq, Nat.reduceEqDiff, Nat.reduceBEq, Nat.reduceGT, hP]
  | true =>
    rw [h0] at hP
    cases h : [x.vw, x.st, x.rt].all numB with
    | false => rw [h] at hN; simp (config := {maxSteps := 4000000, implicitDefEqProofs := false}) (disch := omega) only [go_sem, ↓reduceIte, Nat.reduceAdd, Nat.reduceSub, Nat.reduceMul, Nat.reduceLeDiff, Nat.reduceLT, Int.reduceEq, Int.reduceNe, Int.reduceLT, Int.reduceLE, Int.reduceAdd, Int.reduceSub, Int.reduceMul, Int.reduceNeg, Int.reduceToNat, reduceCtorEq, Nat.reduceEqDiff, Nat.reduceBEq, Nat.reduceGT, hP, hN]
    | true =>
      rw [h] at hN
      cases h1 : smsB x.pf with
      | false => rw [h1] at hL; simp (config := {maxSteps := 4000000, implicitDefEqProofs := false}) (disch := omega) only [go_sem, ↓reduceIte, Nat.reduceAdd, Nat.reduceSub, Nat.reduceMul, Nat.reduceLeDiff, Nat.reduceLT, Int.reduceEq, Int.reduceNe, Int.reduceLT, Int.reduceLE, Int.reduceAdd, Int.reduceSub, Int.reduceMul, Int.reduceNeg, Int.reduceToNat, reduceCtorEq, Nat.reduceEqDiff, Nat.reduceBEq, Nat.reduceGT, hP, hN, hL]
      | true => rw [h1] at hL; simp (config := {maxSteps := 4000000, implicitDefEqProofs := false}) (disch := omega) only [go_sem, ↓reduceIte, Nat.reduceAdd, Nat.reduceSub, Nat.reduceMul, Nat.reduceLeDiff, Nat.reduceLT, Int.reduceEq, Int.reduceNe, Int.reduceLT, Int.reduceLE, Int.reduceAdd, Int.reduceSub, Int.reduceMul, Int.reduceNeg, Int.reduceToNat, reduceCtorEq, Nat.reduceEqDiff, Nat.reduceBEq, Nat.reduceGT, hP, hN, hL, hC]
theorem listChange_s (m : Nat) (l : List Ch) (hm : 70 < m) : wire_list_Change m (SL (l.map cgE)) (V (.func (.func 51) #[] #[])) = some (bA (cgsB l), []) := by
  rw [wire_list_Change_eq]
  unfold cgsB
  by_cases h64 : l.length ≤ 64
  rotate_left
  · have h64' : (l.length : Int) > 64 := by omega
    simp (config := {maxSteps := 4000000, implicitDefEqProofs := false}) (disch := omega) only [go_sem, ↓reduceIte, Nat.reduceAdd, Nat.reduceSub, Nat.reduceMul, Nat.reduceLeDiff, Nat.reduceLT, Int.reduceEq, Int.reduceNe, Int.reduceLT, Int.reduceLE, Int.reduceAdd, Int.reduceSub, Int.reduceMul, Int.reduceNeg, Int.reduceToNat, reduceCtorEq, Nat.reduceEqDiff, Nat.reduceBEq, Nat.reduceGT, h64', h64]
  have h64' : ¬ (l.length : Int) > 64 := by omega
  simp (config := {maxSteps := 4000000, implicitDefEqProofs := false}) (disch := omega) only [go_sem, ↓reduceIte, Nat.reduceAdd, Nat.reduceSub, Nat.reduceMul, Nat.reduceLeDiff, Nat.reduceLT, Int.reduceEq, Int.reduceNe, Int.reduceLT, Int.reduceLE, Int.reduceAdd, Int.reduceSub, Int.reduceMul, Int.reduceNeg, Int.reduceToNat, reduceCtorEq, Nat.reduceEqDiff, Nat.reduceBEq, Nat.reduceGT, h64', h64]
  generalize hg : l.all cgB = g
  refine iter_go (ι := {k : Nat // k ≤ l.length ∧ (l.drop k).all cgB = g}) (fun k => ⟨[], [(1, V (.func (.func 51) #[] #[])), (10, SL (l.map cgE)), (11, nA l.length), (12, nA k.1)]⟩) (fun k => l.length - k.1) (fun _ => some (bA g, [])) ?_ ⟨0, Nat.zero_le _, hg⟩ (by dsimp only; omega)
  rintro kx hkx ⟨k, hk, hG⟩ kc hkc
  dsimp only at hkc hG ⊢
  rw [wire_list_Change_b1_eq]
  by_cases hlt : k < l.length
  · have hlt' : (k : Int) < (l.length : Int) := by omega
    rw [List.drop_eq_getElem_cons hlt, List.all_cons] at hG
    have hV := change_s m l[k] hm
    rw [cg_it] at hV
    have hF : findE (wire_list_Change_env m) 51 = some (.tell (wire_change_t m)) := rfl
    have hT : wire_change_t m [.agg (cgC l[k])] = wire_change m (.agg (cgC l[k])) := rfl
    cases h1 : cgB l[k] with
    | false =>
      rw [h1] at hG hV
      have hG2 : false = g := hG
      subst hG2
      simp (config := {maxSteps := 4000000, implicitDefEqProofs := false}) (disch := omega) only [go_sem, ↓reduceIte, Nat.reduceAdd, Nat.reduceSub, Nat.reduceMul, Nat.reduceLeDiff, Nat.reduceLT, Int.reduceEq, Int.reduceNe, Int.reduceLT, Int.reduceLE, Int.reduceAdd, Int.reduceSub, Int.reduceMul, Int.reduceNeg, Int.reduceToNat, reduceCtorEq, Nat.reduceEqDiff, Nat.reduceBEq, Nat.reduceGT, hlt', hF, hT, hV, w_i64, hkx, wire_list_Change_r1_eq]
    | true =>
      rw [h1] at hG hV
      have step := hkc ⟨k + 1, by omega, hG⟩ (by dsimp only; omega)
      simp (config := {maxSteps := 4000000, implicitDefEqProofs := false}) (disch := omega) only [go_sem, ↓reduceIte, Nat.reduceAdd, Nat.reduceSub, Nat.reduceMul, Nat.reduceLeDiff, Nat.reduceLT, Int.reduceEq, Int.reduceNe, Int.reduceLT, Int.reduceLE, Int.reduceAdd, Int.reduceSub, Int.reduceMul, Int.reduceNeg, Int.reduceToNat, reduceCtorEq, Nat.reduceEqDiff, Nat.reduceBEq, Nat.reduceGT, hlt', hF, hT, hV, w_i64, wire_list_Change_r1_eq]
      exact step
  · have hlt' : ¬ (k : Int) < (l.length : Int) := by omega
    rw [List.drop_of_length_le (by omega)] at hG
    have hG2 : true = g := hG
    subst hG2
    simp (config := {maxSteps := 4000000, implicitDefEqProofs := false}) (disch := omega) only [go_sem, ↓reduceIte, Nat.reduceAdd, Nat.reduceSub, Nat.reduceMul, Nat.reduceLeDiff, Nat.reduceLT, Int.reduceEq, Int.reduceNe, Int.reduceLT, Int.reduceLE, Int.reduceAdd, Int.reduceSub, Int.reduceMul, Int.reduceNeg, Int.reduceToNat, reduceCtorEq, Nat.reduceEqDiff, Nat.reduceBEq, Nat.reduceGT, hlt', hkx, wire_list_Change_r1_eq]
theorem may_s (m : Nat) (x : Ms) (hm : 70 < m) : wire_May m (msE x) = some (bA (msB x), []) := by
  have hN := number_s m [x.vw, x.sq, x.tm] (by simp only [List.length_cons, List.length_nil]; omega) (by simp only [List.length_cons, List.length_nil]; omega)
  have hP := party_s m x.fr
  have hL := listStmt_s m x.vs hm
  have hC := listChange_s m x.chs hm
  rw [wire_May_eq, ms_it]
  unfold msB
  simp only [List.map_cons, List.map_nil] at hN
  by_cases k1 : 1 ≤ x.kd
  rotate_left
  · simp (config := {maxSteps := 4000000, implicitDefEqProofs := false}) (disch := omega) only [go_sem, ↓reduceIte, Nat.reduceAdd, Nat.reduceSub, Nat.reduceMul, Nat.reduceLeDiff, Nat.reduceLT, Int.reduceEq, Int.reduceNe, Int.reduceLT, Int.reduceLE, Int.reduceAdd, Int.reduceSub, Int.reduceMul, Int.reduceNeg, Int.reduceToNat, reduceCtorEq, Nat.reduceEqDiff, Nat.reduceBEq, Nat.reduceGT, k1]
  by_cases k2 : x.kd ≤ 10
  rotate_left
  · simp (config := {maxSteps := 4000000, implicitDefEqProofs := false}) (disch := omega) only [go_sem, ↓reduceIte, Nat.reduceAdd, Nat.reduceSub, Nat.reduceMul, Nat.reduceLeDiff, Nat.reduceLT, Int.reduceEq, Int.reduceNe, Int.reduceLT, Int.reduceLE, Int.reduceAdd, Int.reduceSub, Int.reduceMul, Int.reduceNeg, Int.reduceToNat, reduceCtorEq, Nat.reduceEqDiff, Nat.reduceBEq, Nat.reduceGT, k1, k2]
  cases h0 : parB x.fr with
  | false => rw [h0] at hP; simp (config := {maxSteps := 4000000, implicitDefEqProofs := false}) (disch := omega) only [go_sem, ↓reduceIte, Nat.reduceAdd, Nat.reduceSub, Nat.reduceMul, Nat.reduceLeDiff, Nat.reduceLT, Int.reduceEq, Int.reduceNe, Int.reduceLT, Int.reduceLE, Int.reduceAdd, Int.reduceSub, Int.reduceMul, Int.reduceNeg, Int.reduceToNat, reduceCtorEq, Nat.reduceEqDiff, Nat.reduceBEq, Nat.reduceGT, hP, k1, k2]
  | true =>
    rw [h0] at hP
    cases h : [x.vw, x.sq, x.tm].all numB with
    | false => rw [h] at hN; simp (config := {maxSteps := 4000000, implicitDefEqProofs := false}) (disch := omega) only [go_sem, ↓reduceIte, Nat.reduceAdd, Nat.reduceSub, Nat.reduceMul, Nat.reduceLeDiff, Nat.reduceLT, Int.reduceEq, Int.reduceNe, Int.reduceLT, Int.reduceLE, Int.reduceAdd, Int.reduceSub, Int.reduceMul, Int.reduceNeg, Int.reduceToNat, reduceCtorEq, Nat.reduceEqDiff, Nat.reduceBEq, Nat.reduceGT, hP, hN, k1, k2]
    | true =>
      rw [h] at hN
      by_cases h2 : x.body.length ≤ 65536
      rotate_left
      · have h2' : ¬ (x.body.length : Int) ≤ 65536 := by omega
        simp (config := {maxSteps := 4000000, implicitDefEqProofs := false}) (disch := omega) only [go_sem, ↓reduceIte, Nat.reduceAdd, Nat.reduceSub, Nat.reduceMul, Nat.reduceLeDiff, Nat.reduceLT, Int.reduceEq, Int.reduceNe, Int.reduceLT, Int.reduceLE, Int.reduceAdd, Int.reduceSub, Int.reduceMul, Int.reduceNeg, Int.reduceToNat, reduceCtorEq, Nat.reduceEqDiff, Nat.reduceBEq, Nat.reduceGT, hP, hN, k1, k2, h2, h2']
      have h2' : (x.body.length : Int) ≤ 65536 := by omega
      cases h1 : smsB x.vs with
      | false => rw [h1] at hL; simp (config := {maxSteps := 4000000, implicitDefEqProofs := false}) (disch := omega) only [go_sem, ↓reduceIte, Nat.reduceAdd, Nat.reduceSub, Nat.reduceMul, Nat.reduceLeDiff, Nat.reduceLT, Int.reduceEq, Int.reduceNe, Int.reduceLT, Int.reduceLE, Int.reduceAdd, Int.reduceSub, Int.reduceMul, Int.reduceNeg, Int.reduceToNat, reduceCtorEq, Nat.reduceEqDiff, Nat.reduceBEq, Nat.reduceGT, hP, hN, hL, k1, k2, h2, h2']
      | true => rw [h1] at hL; simp (config := {maxSteps := 4000000, implicitDefEqProofs := false}) (disch := omega) only [go_sem, ↓reduceIte, Nat.reduceAdd, Nat.reduceSub, Nat.reduceMul, Nat.reduceLeDiff, Nat.reduceLT, Int.reduceEq, Int.reduceNe, Int.reduceLT, Int.reduceLE, Int.reduceAdd, Int.reduceSub, Int.reduceMul, Int.reduceNeg, Int.reduceToNat, reduceCtorEq, Nat.reduceEqDiff, Nat.reduceBEq, Nat.reduceGT, hP, hN, hL, hC, k1, k2, h2, h2']
end Go.Proofs.Ytbdbmfifclmpcaa

namespace Go.Proofs.Ytbdbmfifclmpcaa
open Go.RowKit
set_option linter.unusedVariables false
set_option linter.unusedSimpArgs false
set_option maxRecDepth 20000
theorem bc_ltA {n : Nat} {l : List UInt8} : (bC l).all (ltA n) = true := List.all_eq_true.2 fun d hd => by
  obtain ⟨b, _, rfl⟩ := List.mem_map.1 hd; rfl
theorem bc_one {l : List UInt8} : ((bC l).all fun d => decide ((cellsOf d).length = 1)) = true := List.all_eq_true.2 fun d hd => by
  obtain ⟨b, _, rfl⟩ := List.mem_map.1 hd; rfl
theorem nthOL {R : Type} {o : AObj} {Y : List AObj} {K : AObj → Option R} : nthOE (Y ++ [o]) Y.length K = K o := by simp [nthOE]
theorem ltO_o {n e z : Nat} {c : List AV} : ltO n ⟨1, e, z, c⟩ = c.all (ltA n) := _root_.id rfl
theorem ltO_r {n e z : Nat} {c : List AV} : ltO n ⟨2, e, z, c⟩ = c.all (ltA n) := _root_.id rfl
theorem takeL {Y Z : List AObj} : (Y ++ Z).take Y.length = Y := List.take_left
theorem put_i (m n : Nat) (v : Int) (h0 : 0 ≤ v) (h1 : v < 18446744073709551616) : varint_Put_t m [V (.int .u64 v)] n = some (OW n (put v.toNat).length, [⟨2, ty_uint8, 1, bC (put v.toNat)⟩]) := by
  have := varint_Put_e m n v.toNat (by omega)
  rw [Int.toNat_of_nonneg h0] at this
  exact this
def putsL (l : List Int) : List UInt8 := l.flatMap fun v => put v.toNat
theorem putsL_cons (v : Int) (l : List Int) : putsL (v :: l) = put v.toNat ++ putsL l := rfl
theorem putsL_nil : putsL [] = [] := rfl
theorem putsL_append (a b : List Int) : putsL (a ++ b) = putsL a ++ putsL b := by simp [putsL]
def inI (l : List Int) : Prop := ∀ v ∈ l, 0 ≤ v ∧ v < 9223372036854775808
theorem putsL_len : ∀ {l : List Int}, inI l → (putsL l).length ≤ 10 * l.length
  | [], _ => Nat.le_refl _
  | v :: r, h => by
    have h1 := putsL_len (l := r) (fun x hx => h x (List.mem_cons_of_mem _ hx))
    have h2 := h v (List.mem_cons_self ..)
    have h3 := put_len v.toNat (by omega)
    rw [putsL_cons, List.length_append, List.length_cons]; omega
theorem inI.take {l : List Int} (h : inI l) (k : Nat) : inI (l.take k) := fun v hv => h v (List.mem_of_mem_take hv)
attribute [local go_sem] Nat.zero_add Nat.add_zero Nat.mul_one Int.toNat_natCast Int.natCast_zero Int.cast_ofNat_Int or_false false_or or_true true_or Nat.sub_zero Int.natCast_nonneg Int.toNat_zero Bool.true_and Bool.and_true Bool.false_and Bool.and_false Bool.true_or Bool.or_true Bool.false_or Bool.or_false Bool.not_true Bool.not_false Bool.not_not true_and and_true false_and and_false not_true_eq_false not_false_eq_true eq_self decide_true decide_false ne_eq implies_true forall_const true_implies false_implies Bool.true_eq_false Bool.false_eq_true List.map_cons List.map_nil List.all_cons List.all_nil List.length_cons List.length_nil List.length_map List.length_append List.nil_append List.cons_append List.set_cons_zero List.set_cons_succ List.set_nil List.drop_zero List.drop_succ_cons List.drop_nil List.take_zero List.take_succ_cons List.take_nil Option.map_some Option.map_none Option.isSome_some List.all_append List.all_map Function.comp_def decide_eq_true_eq Bool.and_eq_true beq_self_eq_true or_self and_self ite_true ite_false Nat.le_refl Bool.not_eq_true decide_not Bool.not_eq_true' decide_eq_false_iff_not Bool.not_eq_false Bool.or_eq_true if_true if_false ite_self u_roF u_cvF u_cvC u_ceT u_ceK u_appS sm_it sm_len sm_sure sm_ltA sm_lt1 sm_all1 sm_ro sm_take sm_sl sm_set sm_noT sm_fr sm_st_fr sm_set_fr sm_kd sm_st_kd sm_set_kd sm_vw sm_st_vw sm_set_vw sm_sq sm_st_sq sm_set_sq sm_tm sm_st_tm sm_set_tm zsm_len zsm_sure zsm_lt1 zsm_sl zsm_ro zsm_setz zsm_set zsm_setr zsm_take sms_ltA sms_len ce_it ce_len ce_sure ce_ltA ce_lt1 ce_all1 ce_ro ce_take ce_sl ce_set ce_noT ce_sq ce_st_sq ce_set_sq ce_vw ce_st_vw ce_set_vw ce_tm ce_st_tm ce_set_tm ce_body ce_st_body ce_set_body ce_vs ce_st_vs ce_set_vs zce_len zce_sure zce_lt1 zce_sl zce_ro zce_setz zce_set zce_setr zce_take ces_ltA ces_len cg_it cg_len cg_sure cg_ltA cg_lt1 cg_all1 cg_ro cg_take cg_sl cg_set cg_noT cg_fr cg_st_fr cg_set_fr cg_vw cg_st_vw cg_set_vw cg_st cg_st_st cg_set_st cg_rt cg_st_rt cg_set_rt cg_pf cg_st_pf cg_set_pf cg_cs cg_st_cs cg_set_cs zcg_len zcg_sure zcg_lt1 zcg_sl zcg_ro zcg_setz zcg_set zcg_setr zcg_take cgs_ltA cgs_len ms_it ms_len ms_sure ms_ltA ms_lt1 ms_all1 ms_ro ms_take ms_sl ms_set ms_noT ms_kd ms_st_kd ms_set_kd ms_fr ms_st_fr ms_set_fr ms_vw ms_st_vw ms_set_vw ms_sq ms_st_sq ms_set_sq ms_tm ms_st_tm ms_set_tm ms_body ms_st_body ms_set_body ms_vs ms_st_vs ms_set_vs ms_chs ms_st_chs ms_set_chs zms_len zms_sure zms_lt1 zms_sl zms_ro zms_setz zms_set zms_setr zms_take mss_ltA mss_len natInt u_nthM u_bz u_bi1 u_bi2 u_bi3 u_bi4 u_bi5 u_bi6 u_bi7 bC_length bc_ltA bc_one nthOL ltO_o ltO_r takeL bC_append u_addS List.take_length
theorem nums_s (m : Nat) (X : AObj) (B : List UInt8) (Y : List AObj) (l : List Int) (hX : ∀ n, ltO n X = true) (hY : ∀ n, Y.all (ltO n) = true) (hl : inI l) (hm : l.length < m) (hB : B.length + 10 * l.length ≤ 34359738368) :
    wire_writer_nums m (OP 1 0) (SL (l.map nA)) (X :: ⟨1, ty_wire_writer, 0, [OW 2 B.length]⟩ :: ⟨2, ty_uint8, 1, bC B⟩ :: Y) = some (TU [], (X :: ⟨1, ty_wire_writer, 0, [OW 2 (B ++ putsL l).length]⟩ :: ⟨2, ty_uint8, 1, bC (B ++ putsL l)⟩ :: Y)) := by
  obtain ⟨r, hr⟩ : ∃ r, r = some (TU [], (X :: ⟨1, ty_wire_writer, 0, [OW 2 (B ++ putsL l).length]⟩ :: ⟨2, ty_uint8, 1, bC (B ++ putsL l)⟩ :: Y)) := ⟨_, rfl⟩
  have hY2 : 2 < Y.length + 1 + 1 + 1 := by omega
  rw [← hr, wire_writer_nums_eq]
  simp (config := {maxSteps := 4000000, implicitDefEqProofs := false}) (disch := omega) only [go_sem, ↓reduceIte, Nat.reduceAdd, Nat.reduceSub, Nat.reduceMul, Nat.reduceLeDiff, Nat.reduceLT, Int.reduceEq, Int.reduceNe, Int.reduceLT, Int.reduceLE, Int.reduceAdd, Int.reduceSub, Int.reduceMul, Int.reduceNeg, Int.reduceToNat, reduceCtorEq, Nat.reduceEqDiff, Nat.reduceBEq, Nat.reduceGT]
  have e0 : B = B ++ putsL (l.take 0) := by simp [putsL]
  have hr' := hr
  clear hr
  rw [e0]
  refine iter_go (ι := {k : Nat // k ≤ l.length}) (fun k => ⟨(X :: ⟨1, ty_wire_writer, 0, [OW 2 (B ++ putsL (l.take k.1)).length]⟩ :: ⟨2, ty_uint8, 1, bC (B ++ putsL (l.take k.1))⟩ :: Y), [(0, OP 1 0), (6, SL (l.map nA)), (7, nA l.length), (8, nA k.1)]⟩) (fun k => l.length - k.1) (fun _ => r) ?_ ⟨0, Nat.zero_le _⟩ (by dsimp only; omega)
  rintro kx hkx ⟨k, hk⟩ kc hkc
  dsimp only at hkc ⊢
  have hlen := putsL_len (hl.take k)
  rw [List.length_take, Nat.min_eq_left hk] at hlen
  rw [wire_writer_nums_b1_eq]
  by_cases hlt : k < l.length
  · have hlt' : (k : Int) < (l.length : Int) := by omega
    obtain ⟨hv0, hv1⟩ := hl l[k] (List.getElem_mem hlt)
    have hp := put_len l[k].toNat (by omega)
    have hP := put_i m (Y.length + 3) l[k] hv0 (by omega)
    have hw : IntKind.u64.wrap l[k] = l[k] := by rw [w_u64 (by omega) (by omega)]
    have step := hkc ⟨k + 1, by omega⟩ (by dsimp only; omega)
    dsimp only at step
    rw [List.take_succ_eq_append_getElem hlt, putsL_append, putsL_cons, putsL_nil, List.append_nil, ← List.append_assoc] at step
    generalize putsL (l.take k) = B1 at hlen step ⊢
    have hs : B.length + B1.length + (put l[k].toNat).length ≤ 34359738368 := by omega
    have hY3 : Y.length ≤ Y.length + 1 := Nat.le_succ _
    simp only [List.length_append, bC_append] at step
    simp (config := {maxSteps := 4000000, implicitDefEqProofs := false}) (disch := omega) only [go_sem, ↓reduceIte, Nat.reduceAdd, Nat.reduceSub, Nat.reduceMul, Nat.reduceLeDiff, Nat.reduceLT, Int.reduceEq, Int.reduceNe, Int.reduceLT, Int.reduceLE, Int.reduceAdd, Int.reduceSub, Int.reduceMul, Int.reduceNeg, Int.reduceToNat, reduceCtorEq, Nat.reduceEqDiff, Nat.reduceBEq, Nat.reduceGT, hlt', hw, hP, hX, hY, hY2, hY3, hs, w_i64]
    exact step
  · have hlt' : ¬ (k : Int) < (l.length : Int) := by omega
    have hk2 : l.take k = l := List.take_of_length_le (by omega)
    rw [hk2] at hlen ⊢
    rw [hr']
    generalize putsL l = B1 at hlen ⊢
    simp (config := {maxSteps := 4000000, implicitDefEqProofs := false}) (disch := omega) only [go_sem, ↓reduceIte, Nat.reduceAdd, Nat.reduceSub, Nat.reduceMul, Nat.reduceLeDiff, Nat.reduceLT, Int.reduceEq, Int.reduceNe, Int.reduceLT, Int.reduceLE, Int.reduceAdd, Int.reduceSub, Int.reduceMul, Int.reduceNeg, Int.reduceToNat, reduceCtorEq, Nat.reduceEqDiff, Nat.reduceBEq, Nat.reduceGT, hlt', hkx, hX, hY, hY2]
theorem setL {o o' : AObj} {Y : List AObj} : (Y ++ [o]).set Y.length o' = Y ++ [o'] := by simp
def textB (s : List UInt8) : List UInt8 := put s.length ++ s
theorem putsL_one (n : Nat) : putsL [(n : Int)] = put n := by simp [putsL]
theorem ro_cl {H : List AObj} {fn : Fn} {i : Nat} : ro H (CL fn 1 [OP i 0]) = CL fn 1 [OP i 0] := _root_.id rfl
theorem text_s (m : Nat) (X : AObj) (B : List UInt8) (Y : List AObj) (s : List UInt8) (hX : ∀ n, ltO n X = true) (hY : ∀ n, Y.all (ltO n) = true) (hm : 70 < m) (hB : B.length + 10 + s.length ≤ 34359738368) :
    wire_writer_text m (OP 1 0) (sA s) (X :: ⟨1, ty_wire_writer, 0, [OW 2 B.length]⟩ :: ⟨2, ty_uint8, 1, bC B⟩ :: Y) = some (TU [], (X :: ⟨1, ty_wire_writer, 0, [OW 2 (B ++ textB s).length]⟩ :: ⟨2, ty_uint8, 1, bC (B ++ textB s)⟩ :: Y)) := by
  have hN := nums_s m X B Y [(s.length : Int)] hX hY (by intro v hv; simp at hv; omega) (by simp; omega) (by simp; omega)
  rw [putsL_one] at hN
  simp only [List.map_cons, List.map_nil, List.length_append, bC_append] at hN
  have hp := put_len s.length (by omega)
  have hY2 : 2 < Y.length + 1 + 1 + 1 := by omega
  have hs : B.length + ((put s.length).length + s.length) ≤ 34359738368 := by omega
  rw [wire_writer_text_eq]
  unfold textB
  simp (config := {maxSteps := 4000000, implicitDefEqProofs := false}) (disch := omega) only [go_sem, ↓reduceIte, Nat.reduceAdd, Nat.reduceSub, Nat.reduceMul, Nat.reduceLeDiff, Nat.reduceLT, Int.reduceEq, Int.reduceNe, Int.reduceLT, Int.reduceLE, Int.reduceAdd, Int.reduceSub, Int.reduceMul, Int.reduceNeg, Int.reduceToNat, reduceCtorEq, Nat.reduceEqDiff, Nat.reduceBEq, Nat.reduceGT, hN, hX, hY, hY2, hs, strA_of, List.append_assoc, Nat.add_assoc]
theorem smB_inI {x : Sm} (h : smB x = true) : inI [x.fr, x.kd, x.vw, x.sq, x.tm] := by
  unfold smB parB at h
  simp only [Bool.and_eq_true, decide_eq_true_eq, List.all_eq_true] at h
  obtain ⟨h1, h2⟩ := h
  intro v hv
  rcases List.mem_cons.1 hv with rfl | hv
  · omega
  · have := h2 v hv
    unfold numB at this
    simp only [Bool.and_eq_true, decide_eq_true_eq] at this
    omega
theorem all_inI {l : List Int} (h : l.all numB = true) : inI l := by
  intro v hv
  have := List.all_eq_true.1 h v hv
  unfold numB at this
  simp only [Bool.and_eq_true, decide_eq_true_eq] at this
  omega
def encSm (x : Sm) : List UInt8 := putsL [x.fr, x.kd, x.vw, x.sq, x.tm]
theorem encSm_len {x : Sm} (h : smB x = true) : (encSm x).length ≤ 50 := putsL_len (smB_inI h)
theorem wstmt_s (m : Nat) (X : AObj) (B : List UInt8) (Y : List AObj) (x : Sm) (hX : ∀ n, ltO n X = true) (hY : ∀ n, Y.all (ltO n) = true) (hx : smB x = true) (hm : 70 < m) (hB : B.length + 50 ≤ 34359738368) :
    wire_writer_stmt m (OP 1 0) (smE x) (X :: ⟨1, ty_wire_writer, 0, [OW 2 B.length]⟩ :: ⟨2, ty_uint8, 1, bC B⟩ :: Y) = some (TU [], (X :: ⟨1, ty_wire_writer, 0, [OW 2 (B ++ encSm x).length]⟩ :: ⟨2, ty_uint8, 1, bC (B ++ encSm x)⟩ :: Y)) := by
  have hN := nums_s m X B (Y ++ [⟨1, ty_api_Stmt, 0, smC x⟩]) [x.fr, x.kd, x.vw, x.sq, x.tm] hX (fun n => by rw [List.all_append, hY]; rfl) (smB_inI hx) (by simp; omega) (by simpa using hB)
  simp only [List.map_cons, List.map_nil, List.length_append, bC_append] at hN
  have hY2 : 2 < Y.length + 1 + 1 + 1 := by omega
  have hY3 : Y.length ≤ Y.length + 1 := Nat.le_succ _
  rw [wire_writer_stmt_eq, sm_it]
  unfold encSm
  simp (config := {maxSteps := 4000000, implicitDefEqProofs := false}) (disch := omega) only [go_sem, ↓reduceIte, Nat.reduceAdd, Nat.reduceSub, Nat.reduceMul, Nat.reduceLeDiff, Nat.reduceLT, Int.reduceEq, Int.reduceNe, Int.reduceLT, Int.reduceLE, Int.reduceAdd, Int.reduceSub, Int.reduceMul, Int.reduceNeg, Int.reduceToNat, reduceCtorEq, Nat.reduceEqDiff, Nat.reduceBEq, Nat.reduceGT, hN, hX, hY, hY2, hY3]
theorem stmt_t {m : Nat} {a b : AV} {H : List AObj} : wire_writer_stmt_t m [a, b] H = wire_writer_stmt m a b H := _root_.id rfl
theorem stmt_f {m : Nat} : findE (wire_each_Stmt_env m) 46 = some (.keep (wire_writer_stmt_t m)) := _root_.id rfl
def encStmts (l : List Sm) : List UInt8 := put l.length ++ l.flatMap encSm
theorem flatStmt_len : ∀ {l : List Sm}, l.all smB = true → (l.flatMap encSm).length ≤ 50 * l.length
  | [], _ => Nat.le_refl _
  | x :: r, h => by
    rw [List.all_cons, Bool.and_eq_true] at h
    have h1 := flatStmt_len h.2
    have h2 := encSm_len h.1
    rw [List.flatMap_cons, List.length_append, List.length_cons]; omega
theorem eachStmt_s (m : Nat) (X : AObj) (B : List UInt8) (Y : List AObj) (l : List Sm) (hX : ∀ n, ltO n X = true) (hY : ∀ n, Y.all (ltO n) = true) (hx : l.all smB = true) (h64 : l.length ≤ 64) (hm : 70 < m) (hB : B.length + 10 + 50 * l.length ≤ 34359738368) :
    wire_each_Stmt m (OP 1 0) (SL (l.map smE)) (CL (.func 46) 1 [OP 1 0]) (X :: ⟨1, ty_wire_writer, 0, [OW 2 B.length]⟩ :: ⟨2, ty_uint8, 1, bC B⟩ :: Y) = some (TU [], (X :: ⟨1, ty_wire_writer, 0, [OW 2 (B ++ encStmts l).length]⟩ :: ⟨2, ty_uint8, 1, bC (B ++ encStmts l)⟩ :: Y)) := by
  have hp := put_len l.length (by omega)
  obtain ⟨r, hr⟩ : ∃ r, r = some (TU [], (X :: ⟨1, ty_wire_writer, 0, [OW 2 (B ++ encStmts l).length]⟩ :: ⟨2, ty_uint8, 1, bC (B ++ encStmts l)⟩ :: Y)) := ⟨_, rfl⟩
  have hY2 : 2 < Y.length + 1 + 1 + 1 := by omega
  have hY3 : Y.length ≤ Y.length + 1 := Nat.le_succ _
  have hN := nums_s m X B Y [(l.length : Int)] hX hY (by intro v hv; simp at hv; omega) (by simp; omega) (by simp; omega)
  rw [putsL_one] at hN
  simp only [List.map_cons, List.map_nil] at hN
  rw [← hr, wire_each_Stmt_eq]
  rw [show put l.length = put l.length ++ (l.take 0).flatMap encSm by simp] at hN
  generalize hz : (l.take 0).flatMap encSm = Z at hN
  simp only [List.length_append, bC_append] at hN
  simp (config := {maxSteps := 4000000, implicitDefEqProofs := false}) (disch := omega) only [go_sem, ↓reduceIte, Nat.reduceAdd, Nat.reduceSub, Nat.reduceMul, Nat.reduceLeDiff, Nat.reduceLT, Int.reduceEq, Int.reduceNe, Int.reduceLT, Int.reduceLE, Int.reduceAdd, Int.reduceSub, Int.reduceMul, Int.reduceNeg, Int.reduceToNat, reduceCtorEq, Nat.reduceEqDiff, Nat.reduceBEq, Nat.reduceGT, hN]
  subst hz
  simp only [← bC_append, ← List.length_append]
  refine iter_go (ι := {k : Nat // k ≤ l.length}) (fun k => ⟨(X :: ⟨1, ty_wire_writer, 0, [OW 2 (B ++ (put l.length ++ (l.take k.1).flatMap encSm)).length]⟩ :: ⟨2, ty_uint8, 1, bC (B ++ (put l.length ++ (l.take k.1).flatMap encSm))⟩ :: Y), [(2, CL (.func 46) 1 [OP 1 0]), (13, SL (l.map smE)), (14, nA l.length), (15, nA k.1)]⟩) (fun k => l.length - k.1) (fun _ => r) ?_ ⟨0, Nat.zero_le _⟩ (by dsimp only; omega)
  rintro kx hkx ⟨k, hk⟩ kc hkc
  dsimp only at hkc ⊢
  rw [wire_each_Stmt_b1_eq]
  by_cases hlt : k < l.length
  · have hlt' : (k : Int) < (l.length : Int) := by omega
    have hv := List.all_eq_true.1 hx l[k] (List.getElem_mem hlt)
    have hlen := flatStmt_len (l := l.take k) (List.all_eq_true.2 fun y hy => List.all_eq_true.1 hx y (List.mem_of_mem_take hy))
    rw [List.length_take, Nat.min_eq_left hk] at hlen
    have step := hkc ⟨k + 1, by omega⟩ (by dsimp only; omega)
    dsimp only at step
    rw [List.take_succ_eq_append_getElem hlt, List.flatMap_append, List.flatMap_cons, List.flatMap_nil, List.append_nil] at step
    generalize (l.take k).flatMap encSm = B1 at hlen step ⊢
    have hV := wstmt_s m X (B ++ (put l.length ++ B1)) (Y ++ [⟨1, ty_api_Stmt, 0, smC l[k]⟩]) l[k] hX (fun n => by rw [List.all_append, hY]; rfl) hv hm (by simp only [List.length_append]; omega)
    rw [sm_it] at hV
    simp only [List.length_append, bC_append, List.append_assoc, Nat.add_assoc] at hV step
    simp (config := {maxSteps := 4000000, implicitDefEqProofs := false}) (disch := omega) only [go_sem, ↓reduceIte, Nat.reduceAdd, Nat.reduceSub, Nat.reduceMul, Nat.reduceLeDiff, Nat.reduceLT, Int.reduceEq, Int.reduceNe, Int.reduceLT, Int.reduceLE, Int.reduceAdd, Int.reduceSub, Int.reduceMul, Int.reduceNeg, Int.reduceToNat, reduceCtorEq, Nat.reduceEqDiff, Nat.reduceBEq, Nat.reduceGT, hlt', hV, hX, hY, hY2, hY3, w_i64, setL, stmt_t, stmt_f, List.append_assoc, Nat.add_assoc]
    exact step
  · have hlt' : ¬ (k : Int) < (l.length : Int) := by omega
    have hk2 : l.take k = l := List.take_of_length_le (by omega)
    rw [hk2, hr]
    unfold encStmts
    generalize l.flatMap encSm = B1
    simp (config := {maxSteps := 4000000, implicitDefEqProofs := false}) (disch := omega) only [go_sem, ↓reduceIte, Nat.reduceAdd, Nat.reduceSub, Nat.reduceMul, Nat.reduceLeDiff, Nat.reduceLT, Int.reduceEq, Int.reduceNe, Int.reduceLT, Int.reduceLE, Int.reduceAdd, Int.reduceSub, Int.reduceMul, Int.reduceNeg, Int.reduceToNat, reduceCtorEq, Nat.reduceEqDiff, Nat.reduceBEq, Nat.reduceGT, hlt', hkx, hX, hY, hY2]
theorem smsB_ok {l : List Sm} (h : smsB l = true) : l.length ≤ 64 ∧ l.all smB = true := by
  unfold smsB at h
  simpa [Bool.and_eq_true] using h
theorem textB_len (s : List UInt8) (h : s.length ≤ 65536) : (textB s).length ≤ 65546 := by
  have := put_len s.length (by omega)
  unfold textB; rw [List.length_append]; omega
theorem encStmts_len {l : List Sm} (h : smsB l = true) : (encStmts l).length ≤ 3210 := by
  obtain ⟨h1, h2⟩ := smsB_ok h
  have h3 := flatStmt_len h2
  have := put_len l.length (by omega)
  unfold encStmts; rw [List.length_append]; omega
theorem ceB_ok {x : Ce} (h : ceB x = true) : [x.sq, x.vw, x.tm].all numB = true ∧ x.body.length ≤ 65536 ∧ smsB x.vs = true := by
  unfold ceB at h
  rw [Bool.and_eq_true, Bool.and_eq_true, decide_eq_true_eq] at h
  exact h
def encCe (x : Ce) : List UInt8 := putsL [x.sq, x.vw, x.tm] ++ (textB x.body ++ encStmts x.vs)
theorem encCe_len {x : Ce} (h : ceB x = true) : (encCe x).length ≤ 70000 := by
  obtain ⟨h1, h2, h3⟩ := ceB_ok h
  have e1 := putsL_len (all_inI h1)
  have e2 := textB_len x.body h2
  have e3 := encStmts_len h3
  unfold encCe
  rw [List.length_append, List.length_append]
  simp only [List.length_cons, List.length_nil] at e1
  omega
theorem wcert_s (m : Nat) (X : AObj) (B : List UInt8) (Y : List AObj) (x : Ce) (hX : ∀ n, ltO n X = true) (hY : ∀ n, Y.all (ltO n) = true) (hx : ceB x = true) (hm : 70 < m) (hB : B.length + 70000 ≤ 34359738368) :
    wire_writer_cert m (OP 1 0) (ceE x) (X :: ⟨1, ty_wire_writer, 0, [OW 2 B.length]⟩ :: ⟨2, ty_uint8, 1, bC B⟩ :: Y) = some (TU [], (X :: ⟨1, ty_wire_writer, 0, [OW 2 (B ++ encCe x).length]⟩ :: ⟨2, ty_uint8, 1, bC (B ++ encCe x)⟩ :: Y)) := by
  obtain ⟨h1, h2, h3⟩ := ceB_ok hx
  obtain ⟨h4, h5⟩ := smsB_ok h3
  have e1 := putsL_len (all_inI h1)
  have e2 := textB_len x.body h2
  have e3 := encStmts_len h3
  simp only [List.length_cons, List.length_nil] at e1
  have hY' : ∀ n, (Y ++ [(⟨1, ty_api_Cert, 0, ceC x⟩ : AObj)]).all (ltO n) = true := fun n => by rw [List.all_append, hY]; rfl
  have hN := nums_s m X B (Y ++ [⟨1, ty_api_Cert, 0, ceC x⟩]) [x.sq, x.vw, x.tm] hX hY' (all_inI h1) (by simp; omega) (by simp; omega)
  have hT := text_s m X (B ++ putsL [x.sq, x.vw, x.tm]) (Y ++ [⟨1, ty_api_Cert, 0, ceC x⟩]) x.body hX hY' hm (by rw [List.length_append]; omega)
  have hE := eachStmt_s m X (B ++ putsL [x.sq, x.vw, x.tm] ++ textB x.body) (Y ++ [⟨1, ty_api_Cert, 0, ceC x⟩]) x.vs hX hY' h5 h4 hm (by rw [List.length_append, List.length_append]; omega)
  simp only [List.map_cons, List.map_nil, List.length_append, bC_append, List.append_assoc, Nat.add_assoc] at hN hT hE
  have hY2 : 2 < Y.length + 1 + 1 + 1 := by omega
  have hY3 : Y.length ≤ Y.length + 1 := Nat.le_succ _
  rw [wire_writer_cert_eq, ce_it]
  unfold encCe
  simp (config := {maxSteps := 4000000, implicitDefEqProofs := false}) (disch := omega) only [go_sem, ↓reduceIte, Nat.reduceAdd, Nat.reduceSub, Nat.reduceMul, Nat.reduceLeDiff, Nat.reduceLT, Int.reduceEq, Int.reduceNe, Int.reduceLT, Int.reduceLE, Int.reduceAdd, Int.reduceSub, Int.reduceMul, Int.reduceNeg, Int.reduceToNat, reduceCtorEq, Nat.reduceEqDiff, Nat.reduceBEq, Nat.reduceGT, hN, hT, hE, ro_cl, hX, hY, hY2, hY3, List.append_assoc, Nat.add_assoc]
theorem cert_t {m : Nat} {a b : AV} {H : List AObj} : wire_writer_cert_t m [a, b] H = wire_writer_cert m a b H := _root_.id rfl
theorem cert_f {m : Nat} : findE (wire_each_Cert_env m) 66 = some (.keep (wire_writer_cert_t m)) := _root_.id rfl
def encCerts (l : List Ce) : List UInt8 := put l.length ++ l.flatMap encCe
theorem flatCert_len : ∀ {l : List Ce}, l.all ceB = true → (l.flatMap encCe).length ≤ 70000 * l.length
  | [], _ => Nat.le_refl _
  | x :: r, h => by
    rw [List.all_cons, Bool.and_eq_true] at h
    have h1 := flatCert_len h.2
    have h2 := encCe_len h.1
    rw [List.flatMap_cons, List.length_append, List.length_cons]; omega
theorem eachCert_s (m : Nat) (X : AObj) (B : List UInt8) (Y : List AObj) (l : List Ce) (hX : ∀ n, ltO n X = true) (hY : ∀ n, Y.all (ltO n) = true) (hx : l.all ceB = true) (h64 : l.length ≤ 64) (hm : 70 < m) (hB : B.length + 10 + 70000 * l.length ≤ 34359738368) :
    wire_each_Cert m (OP 1 0) (SL (l.map ceE)) (CL (.func 66) 1 [OP 1 0]) (X :: ⟨1, ty_wire_writer, 0, [OW 2 B.length]⟩ :: ⟨2, ty_uint8, 1, bC B⟩ :: Y) = some (TU [], (X :: ⟨1, ty_wire_writer, 0, [OW 2 (B ++ encCerts l).length]⟩ :: ⟨2, ty_uint8, 1, bC (B ++ encCerts l)⟩ :: Y)) := by
  have hp := put_len l.length (by omega)
  obtain ⟨r, hr⟩ : ∃ r, r = some (TU [], (X :: ⟨1, ty_wire_writer, 0, [OW 2 (B ++ encCerts l).length]⟩ :: ⟨2, ty_uint8, 1, bC (B ++ encCerts l)⟩ :: Y)) := ⟨_, rfl⟩
  have hY2 : 2 < Y.length + 1 + 1 + 1 := by omega
  have hY3 : Y.length ≤ Y.length + 1 := Nat.le_succ _
  have hN := nums_s m X B Y [(l.length : Int)] hX hY (by intro v hv; simp at hv; omega) (by simp; omega) (by simp; omega)
  rw [putsL_one] at hN
  simp only [List.map_cons, List.map_nil] at hN
  rw [← hr, wire_each_Cert_eq]
  rw [show put l.length = put l.length ++ (l.take 0).flatMap encCe by simp] at hN
  generalize hz : (l.take 0).flatMap encCe = Z at hN
  simp only [List.length_append, bC_append] at hN
  simp (config := {maxSteps := 4000000, implicitDefEqProofs := false}) (disch := omega) only [go_sem, ↓reduceIte, Nat.reduceAdd, Nat.reduceSub, Nat.reduceMul, Nat.reduceLeDiff, Nat.reduceLT, Int.reduceEq, Int.reduceNe, Int.reduceLT, Int.reduceLE, Int.reduceAdd, Int.reduceSub, Int.reduceMul, Int.reduceNeg, Int.reduceToNat, reduceCtorEq, Nat.reduceEqDiff, Nat.reduceBEq, Nat.reduceGT, hN]
  subst hz
  simp only [← bC_append, ← List.length_append]
  refine iter_go (ι := {k : Nat // k ≤ l.length}) (fun k => ⟨(X :: ⟨1, ty_wire_writer, 0, [OW 2 (B ++ (put l.length ++ (l.take k.1).flatMap encCe)).length]⟩ :: ⟨2, ty_uint8, 1, bC (B ++ (put l.length ++ (l.take k.1).flatMap encCe))⟩ :: Y), [(2, CL (.func 66) 1 [OP 1 0]), (13, SL (l.map ceE)), (14, nA l.length), (15, nA k.1)]⟩) (fun k => l.length - k.1) (fun _ => r) ?_ ⟨0, Nat.zero_le _⟩ (by dsimp only; omega)
  rintro kx hkx ⟨k, hk⟩ kc hkc
  dsimp only at hkc ⊢
  rw [wire_each_Cert_b1_eq]
  by_cases hlt : k < l.length
  · have hlt' : (k : Int) < (l.length : Int) := by omega
    have hv := List.all_eq_true.1 hx l[k] (List.getElem_mem hlt)
    have hlen := flatCert_len (l := l.take k) (List.all_eq_true.2 fun y hy => List.all_eq_true.1 hx y (List.mem_of_mem_take hy))
    rw [List.length_take, Nat.min_eq_left hk] at hlen
    have step := hkc ⟨k + 1, by omega⟩ (by dsimp only; omega)
    dsimp only at step
    rw [List.take_succ_eq_append_getElem hlt, List.flatMap_append, List.flatMap_cons, List.flatMap_nil, List.append_nil] at step
    generalize (l.take k).flatMap encCe = B1 at hlen step ⊢
    have hV := wcert_s m X (B ++ (put l.length ++ B1)) (Y ++ [⟨1, ty_api_Cert, 0, ceC l[k]⟩]) l[k] hX (fun n => by rw [List.all_append, hY]; rfl) hv hm (by simp only [List.length_append]; omega)
    rw [ce_it] at hV
    simp only [List.length_append, bC_append, List.append_assoc, Nat.add_assoc] at hV step
    simp (config := {maxSteps := 4000000, implicitDefEqProofs := false}) (disch := omega) only [go_sem, ↓reduceIte, Nat.reduceAdd, Nat.reduceSub, Nat.reduceMul, Nat.reduceLeDiff, Nat.reduceLT, Int.reduceEq, Int.reduceNe, Int.reduceLT, Int.reduceLE, Int.reduceAdd, Int.reduceSub, Int.reduceMul, Int.reduceNeg, Int.reduceToNat, reduceCtorEq, Nat.reduceEqDiff, Nat.reduceBEq, Nat.reduceGT, hlt', hV, hX, hY, hY2, hY3, w_i64, setL, cert_t, cert_f, List.append_assoc, Nat.add_assoc]
    exact step
  · have hlt' : ¬ (k : Int) < (l.length : Int) := by omega
    have hk2 : l.take k = l := List.take_of_length_le (by omega)
    rw [hk2, hr]
    unfold encCerts
    generalize l.flatMap encCe = B1
    simp (config := {maxSteps := 4000000, implicitDefEqProofs := false}) (disch := omega) only [go_sem, ↓reduceIte, Nat.reduceAdd, Nat.reduceSub, Nat.reduceMul, Nat.reduceLeDiff, Nat.reduceLT, Int.reduceEq, Int.reduceNe, Int.reduceLT, Int.reduceLE, Int.reduceAdd, Int.reduceSub, Int.reduceMul, Int.reduceNeg, Int.reduceToNat, reduceCtorEq, Nat.reduceEqDiff, Nat.reduceBEq, Nat.reduceGT, hlt', hkx, hX, hY, hY2]
theorem cesB_ok {l : List Ce} (h : cesB l = true) : l.length ≤ 64 ∧ l.all ceB = true := by
  unfold cesB at h
  simpa [Bool.and_eq_true] using h
theorem encCerts_len {l : List Ce} (h : cesB l = true) : (encCerts l).length ≤ 4480010 := by
  obtain ⟨h1, h2⟩ := cesB_ok h
  have h3 := flatCert_len h2
  have := put_len l.length (by omega)
  unfold encCerts; rw [List.length_append]; omega
theorem cgB_ok {x : Ch} (h : cgB x = true) : parB x.fr = true ∧ [x.vw, x.st, x.rt].all numB = true ∧ smsB x.pf = true ∧ cesB x.cs = true := by
  unfold cgB at h
  rw [Bool.and_eq_true, Bool.and_eq_true, Bool.and_eq_true] at h
  exact h
theorem parB_num {v : Int} (h : parB v = true) : numB v = true := by
  unfold parB at h
  unfold numB
  simp only [Bool.and_eq_true, decide_eq_true_eq] at h ⊢
  omega
def encCg (x : Ch) : List UInt8 := putsL [x.fr, x.vw, x.st, x.rt] ++ (encStmts x.pf ++ encCerts x.cs)
theorem cgB_inI {x : Ch} (h : cgB x = true) : inI [x.fr, x.vw, x.st, x.rt] := by
  obtain ⟨h0, h1, _, _⟩ := cgB_ok h
  exact all_inI (by rw [List.all_cons, parB_num h0, h1]; rfl)
theorem encCg_len {x : Ch} (h : cgB x = true) : (encCg x).length ≤ 4500000 := by
  obtain ⟨h0, h1, h2, h3⟩ := cgB_ok h
  have e1 := putsL_len (cgB_inI h)
  have e2 := encStmts_len h2
  have e3 := encCerts_len h3
  unfold encCg
  rw [List.length_append, List.length_append]
  simp only [List.length_cons, List.length_nil] at e1
  omega
theorem wchange_s (m : Nat) (X : AObj) (B : List UInt8) (Y : List AObj) (x : Ch) (hX : ∀ n, ltO n X = true) (hY : ∀ n, Y.all (ltO n) = true) (hx : cgB x = true) (hm : 70 < m) (hB : B.length + 4500000 ≤ 34359738368) :
    wire_writer_change m (OP 1 0) (cgE x) (X :: ⟨1, ty_wire_writer, 0, [OW 2 B.length]⟩ :: ⟨2, ty_uint8, 1, bC B⟩ :: Y) = some (TU [], (X :: ⟨1, ty_wire_writer, 0, [OW 2 (B ++ encCg x).length]⟩ :: ⟨2, ty_uint8, 1, bC (B ++ encCg x)⟩ :: Y)) := by
  obtain ⟨h0, h1, h2, h3⟩ := cgB_ok hx
  obtain ⟨h4, h5⟩ := smsB_ok h2
  obtain ⟨h6, h7⟩ := cesB_ok h3
  have e1 := putsL_len (cgB_inI hx)
  have e2 := encStmts_len h2
  have e3 := encCerts_len h3
  simp only [List.length_cons, List.length_nil] at e1
  have hY' : ∀ n, (Y ++ [(⟨1, ty_api_Change, 0, cgC x⟩ : AObj)]).all (ltO n) = true := fun n => by rw [List.all_append, hY]; rfl
  have hN := nums_s m X B (Y ++ [⟨1, ty_api_Change, 0, cgC x⟩]) [x.fr, x.vw, x.st, x.rt] hX hY' (cgB_inI hx) (by simp; omega) (by simp; omega)
  have hT := eachStmt_s m X (B ++ putsL [x.fr, x.vw, x.st, x.rt]) (Y ++ [⟨1, ty_api_Change, 0, cgC x⟩]) x.pf hX hY' h5 h4 hm (by rw [List.length_append]; omega)
  have hE := eachCert_s m X (B ++ putsL [x.fr, x.vw, x.st, x.rt] ++ encStmts x.pf) (Y ++ [⟨1, ty_api_Change, 0, cgC x⟩]) x.cs hX hY' h7 h6 hm (by rw [List.length_append, List.length_append]; omega)
  simp only [List.map_cons, List.map_nil, List.length_append, bC_append, List.append_assoc, Nat.add_assoc] at hN hT hE
  have hY2 : 2 < Y.length + 1 + 1 + 1 := by omega
  have hY3 : Y.length ≤ Y.length + 1 := Nat.le_succ _
  rw [wire_writer_change_eq, cg_it]
  unfold encCg
  simp (config := {maxSteps := 4000000, implicitDefEqProofs := false}) (disch := omega) only [go_sem, ↓reduceIte, Nat.reduceAdd, Nat.reduceSub, Nat.reduceMul, Nat.reduceLeDiff, Nat.reduceLT, Int.reduceEq, Int.reduceNe, Int.reduceLT, Int.reduceLE, Int.reduceAdd, Int.reduceSub, Int.reduceMul, Int.reduceNeg, Int.reduceToNat, reduceCtorEq, Nat.reduceEqDiff, Nat.reduceBEq, Nat.reduceGT, hN, hT, hE, ro_cl, hX, hY, hY2, hY3, List.append_assoc, Nat.add_assoc]
theorem change_t {m : Nat} {a b : AV} {H : List AObj} : wire_writer_change_t m [a, b] H = wire_writer_change m a b H := _root_.id rfl
theorem change_f {m : Nat} : findE (wire_each_Change_env m) 48 = some (.keep (wire_writer_change_t m)) := _root_.id rfl
def encChanges (l : List Ch) : List UInt8 := put l.length ++ l.flatMap encCg
theorem flatChange_len : ∀ {l : List Ch}, l.all cgB = true → (l.flatMap encCg).length ≤ 4500000 * l.length
  | [], _ => Nat.le_refl _
  | x :: r, h => by
    rw [List.all_cons, Bool.and_eq_true] at h
    have h1 := flatChange_len h.2
    have h2 := encCg_len h.1
    rw [List.flatMap_cons, List.length_append, List.length_cons]; omega
theorem eachChange_s (m : Nat) (X : AObj) (B : List UInt8) (Y : List AObj) (l : List Ch) (hX : ∀ n, ltO n X = true) (hY : ∀ n, Y.all (ltO n) = true) (hx : l.all cgB = true) (h64 : l.length ≤ 64) (hm : 70 < m) (hB : B.length + 10 + 4500000 * l.length ≤ 34359738368) :
    wire_each_Change m (OP 1 0) (SL (l.map cgE)) (CL (.func 48) 1 [OP 1 0]) (X :: ⟨1, ty_wire_writer, 0, [OW 2 B.length]⟩ :: ⟨2, ty_uint8, 1, bC B⟩ :: Y) = some (TU [], (X :: ⟨1, ty_wire_writer, 0, [OW 2 (B ++ encChanges l).length]⟩ :: ⟨2, ty_uint8, 1, bC (B ++ encChanges l)⟩ :: Y)) := by
  have hp := put_len l.length (by omega)
  obtain ⟨r, hr⟩ : ∃ r, r = some (TU [], (X :: ⟨1, ty_wire_writer, 0, [OW 2 (B ++ encChanges l).length]⟩ :: ⟨2, ty_uint8, 1, bC (B ++ encChanges l)⟩ :: Y)) := ⟨_, rfl⟩
  have hY2 : 2 < Y.length + 1 + 1 + 1 := by omega
  have hY3 : Y.length ≤ Y.length + 1 := Nat.le_succ _
  have hN := nums_s m X B Y [(l.length : Int)] hX hY (by intro v hv; simp at hv; omega) (by simp; omega) (by simp; omega)
  rw [putsL_one] at hN
  simp only [List.map_cons, List.map_nil] at hN
  rw [← hr, wire_each_Change_eq]
  rw [show put l.length = put l.length ++ (l.take 0).flatMap encCg by simp] at hN
  generalize hz : (l.take 0).flatMap encCg = Z at hN
  simp only [List.length_append, bC_append] at hN
  simp (config := {maxSteps := 4000000, implicitDefEqProofs := false}) (disch := omega) only [go_sem, ↓reduceIte, Nat.reduceAdd, Nat.reduceSub, Nat.reduceMul, Nat.reduceLeDiff, Nat.reduceLT, Int.reduceEq, Int.reduceNe, Int.reduceLT, Int.reduceLE, Int.reduceAdd, Int.reduceSub, Int.reduceMul, Int.reduceNeg, Int.reduceToNat, reduceCtorEq, Nat.reduceEqDiff, Nat.reduceBEq, Nat.reduceGT, hN]
  subst hz
  simp only [← bC_append, ← List.length_append]
  refine iter_go (ι := {k : Nat // k ≤ l.length}) (fun k => ⟨(X :: ⟨1, ty_wire_writer, 0, [OW 2 (B ++ (put l.length ++ (l.take k.1).flatMap encCg)).length]⟩ :: ⟨2, ty_uint8, 1, bC (B ++ (put l.length ++ (l.take k.1).flatMap encCg))⟩ :: Y), [(2, CL (.func 48) 1 [OP 1 0]), (13, SL (l.map cgE)), (14, nA l.length), (15, nA k.1)]⟩) (fun k => l.length - k.1) (fun _ => r) ?_ ⟨0, Nat.zero_le _⟩ (by dsimp only; omega)
  rintro kx hkx ⟨k, hk⟩ kc hkc
  dsimp only at hkc ⊢
  rw [wire_each_Change_b1_eq]
  by_cases hlt : k < l.length
  · have hlt' : (k : Int) < (l.length : Int) := by omega
    have hv := List.all_eq_true.1 hx l[k] (List.getElem_mem hlt)
    have hlen := flatChange_len (l := l.take k) (List.all_eq_true.2 fun y hy => List.all_eq_true.1 hx y (List.mem_of_mem_take hy))
    rw [List.length_take, Nat.min_eq_left hk] at hlen
    have step := hkc ⟨k + 1, by omega⟩ (by dsimp only; omega)
    dsimp only at step
    rw [List.take_succ_eq_append_getElem hlt, List.flatMap_append, List.flatMap_cons, List.flatMap_nil, List.append_nil] at step
    generalize (l.take k).flatMap encCg = B1 at hlen step ⊢
    have hV := wchange_s m X (B ++ (put l.length ++ B1)) (Y ++ [⟨1, ty_api_Change, 0, cgC l[k]⟩]) l[k] hX (fun n => by rw [List.all_append, hY]; rfl) hv hm (by simp only [List.length_append]; omega)
    rw [cg_it] at hV
    simp only [List.length_append, bC_append, List.append_assoc, Nat.add_assoc] at hV step
    simp (config := {maxSteps := 4000000, implicitDefEqProofs := false}) (disch := omega) only [go_sem, ↓reduceIte, Nat.reduceAdd, Nat.reduceSub, Nat.reduceMul, Nat.reduceLeDiff, Nat.reduceLT, Int.reduceEq, Int.reduceNe, Int.reduceLT, Int.reduceLE, Int.reduceAdd, Int.reduceSub, Int.reduceMul, Int.reduceNeg, Int.reduceToNat, reduceCtorEq, Nat.reduceEqDiff, Nat.reduceBEq, Nat.reduceGT, hlt', hV, hX, hY, hY2, hY3, w_i64, setL, change_t, change_f, List.append_assoc, Nat.add_assoc]
    exact step
  · have hlt' : ¬ (k : Int) < (l.length : Int) := by omega
    have hk2 : l.take k = l := List.take_of_length_le (by omega)
    rw [hk2, hr]
    unfold encChanges
    generalize l.flatMap encCg = B1
    simp (config := {maxSteps := 4000000, implicitDefEqProofs := false}) (disch := omega) only [go_sem, ↓reduceIte, Nat.reduceAdd, Nat.reduceSub, Nat.reduceMul, Nat.reduceLeDiff, Nat.reduceLT, Int.reduceEq, Int.reduceNe, Int.reduceLT, Int.reduceLE, Int.reduceAdd, Int.reduceSub, Int.reduceMul, Int.reduceNeg, Int.reduceToNat, reduceCtorEq, Nat.reduceEqDiff, Nat.reduceBEq, Nat.reduceGT, hlt', hkx, hX, hY, hY2]
theorem cgsB_ok {l : List Ch} (h : cgsB l = true) : l.length ≤ 64 ∧ l.all cgB = true := by
  unfold cgsB at h
  simpa [Bool.and_eq_true] using h
theorem encChanges_len {l : List Ch} (h : cgsB l = true) : (encChanges l).length ≤ 288000010 := by
  obtain ⟨h1, h2⟩ := cgsB_ok h
  have h3 := flatChange_len h2
  have := put_len l.length (by omega)
  unfold encChanges; rw [List.length_append]; omega
theorem msB_ok {x : Ms} (h : msB x = true) : 1 ≤ x.kd ∧ x.kd ≤ 10 ∧ parB x.fr = true ∧ [x.vw, x.sq, x.tm].all numB = true ∧ x.body.length ≤ 65536 ∧ smsB x.vs = true ∧ cgsB x.chs = true := by
  unfold msB at h
  simp only [Bool.and_eq_true, decide_eq_true_eq] at h
  exact h
theorem msB_inI {x : Ms} (h : msB x = true) : inI [x.kd, x.fr, x.vw, x.sq, x.tm] := by
  obtain ⟨h0, h1, h2, h3, _⟩ := msB_ok h
  refine all_inI ?_
  rw [List.all_cons, List.all_cons, parB_num h2, h3]
  unfold numB
  rw [decide_eq_true (by omega), decide_eq_true (by omega)]
  rfl
def encMs (x : Ms) : List UInt8 := putsL [x.kd, x.fr, x.vw, x.sq, x.tm] ++ (textB x.body ++ (encStmts x.vs ++ encChanges x.chs))
theorem encMs_len {x : Ms} (h : msB x = true) : (encMs x).length ≤ 300000000 := by
  obtain ⟨_, _, _, _, h2, h3, h4⟩ := msB_ok h
  have e1 := putsL_len (msB_inI h)
  have e2 := textB_len x.body h2
  have e3 := encStmts_len h3
  have e4 := encChanges_len h4
  unfold encMs
  rw [List.length_append, List.length_append, List.length_append]
  simp only [List.length_cons, List.length_nil] at e1
  omega
theorem gh_it {X : AObj} {T : Tm} (h : get T 3 = OP 1 0) : ghS 3 0 ty_uint8 1 ⟨[X, ⟨1, ty_wire_writer, 0, [V (.slice none 0 0)]⟩], T⟩ = ⟨[X, ⟨1, ty_wire_writer, 0, [OW 2 0]⟩, ⟨2, ty_uint8, 1, []⟩], T⟩ := by
  unfold ghS
  rw [h]
  rfl
theorem zw_b {R : Type} {K1 : AV → Option R} : buildE (some pl_wire_writer) (some zc_wire_writer) [] K1 = K1 (.agg [V (.slice none 0 0)]) := _root_.id rfl
theorem encode_s (m : Nat) (x : Ms) (hm : 70 < m) : wire_Encode m (msE x) = some (SL (bC (if msB x = true then encMs x else [])), []) := by
  have hC := may_s m x hm
  rw [ms_it] at hC
  rw [wire_Encode_eq, ms_it]
  cases h : msB x with
  | false => rw [h] at hC; have hz : bC [] = [] := rfl; simp (config := {maxSteps := 4000000, implicitDefEqProofs := false}) (disch := omega) only [go_sem, ↓reduceIte, Nat.reduceAdd, Nat.reduceSub, Nat.reduceMul, Nat.reduceLeDiff, Nat.reduceLT, Int.reduceEq, Int.reduceNe, Int.reduceLT, Int.reduceLE, Int.reduceAdd, Int.reduceSub, Int.reduceMul, Int.reduceNeg, Int.reduceToNat, reduceCtorEq, Nat.reduceEqDiff, Nat.reduceBEq, Nat.reduceGT, hC, hz]
  | true =>
    rw [h] at hC
    obtain ⟨_, _, _, _, h2, h3, h4⟩ := msB_ok h
    obtain ⟨h5, h6⟩ := smsB_ok h3
    obtain ⟨h7, h8⟩ := cgsB_ok h4
    have e1 := putsL_len (msB_inI h)
    have e2 := textB_len x.body h2
    have e3 := encStmts_len h3
    simp only [List.length_cons, List.length_nil] at e1
    have hN := nums_s m ⟨1, ty_api_Msg, 0, msC x⟩ [] [] [x.kd, x.fr, x.vw, x.sq, x.tm] (fun n => rfl) (fun n => rfl) (msB_inI h) (by simp; omega) (by simp)
    have hT := text_s m ⟨1, ty_api_Msg, 0, msC x⟩ ([] ++ putsL [x.kd, x.fr, x.vw, x.sq, x.tm]) [] x.body (fun n => rfl) (fun n => rfl) hm (by rw [List.nil_append]; omega)
    have hE := eachStmt_s m ⟨1, ty_api_Msg, 0, msC x⟩ ([] ++ putsL [x.kd, x.fr, x.vw, x.sq, x.tm] ++ textB x.body) [] x.vs (fun n => rfl) (fun n => rfl) h6 h5 hm (by rw [List.nil_append, List.length_append]; omega)
    have hG := eachChange_s m ⟨1, ty_api_Msg, 0, msC x⟩ ([] ++ putsL [x.kd, x.fr, x.vw, x.sq, x.tm] ++ textB x.body ++ encStmts x.vs) [] x.chs (fun n => rfl) (fun n => rfl) h8 h7 hm (by rw [List.nil_append, List.length_append, List.length_append]; omega)
    have hz : bC [] = [] := rfl
    simp only [List.map_cons, List.map_nil, List.length_nil, List.nil_append, Nat.zero_add, hz, List.length_append, bC_append, List.append_assoc, Nat.add_assoc] at hN hT hE hG
    unfold encMs
    simp (config := {maxSteps := 4000000, implicitDefEqProofs := false}) (disch := omega) only [go_sem, ↓reduceIte, Nat.reduceAdd, Nat.reduceSub, Nat.reduceMul, Nat.reduceLeDiff, Nat.reduceLT, Int.reduceEq, Int.reduceNe, Int.reduceLT, Int.reduceLE, Int.reduceAdd, Int.reduceSub, Int.reduceMul, Int.reduceNeg, Int.reduceToNat, reduceCtorEq, Nat.reduceEqDiff, Nat.reduceBEq, Nat.reduceGT, hC, zw_b]
    rw [gh_it (by rfl), wire_Encode_r1_eq]
    simp (config := {maxSteps := 4000000, implicitDefEqProofs := false}) (disch := omega) only [go_sem, ↓reduceIte, Nat.reduceAdd, Nat.reduceSub, Nat.reduceMul, Nat.reduceLeDiff, Nat.reduceLT, Int.reduceEq, Int.reduceNe, Int.reduceLT, Int.reduceLE, Int.reduceAdd, Int.reduceSub, Int.reduceMul, Int.reduceNeg, Int.reduceToNat, reduceCtorEq, Nat.reduceEqDiff, Nat.reduceBEq, Nat.reduceGT, hN, hT, hE, hG, ro_cl, List.append_assoc, Nat.add_assoc]
end Go.Proofs.Ytbdbmfifclmpcaa

namespace Go.Proofs.Ytbdbmfifclmpcaa
open Go.RowKit
set_option linter.unusedVariables false
set_option linter.unusedSimpArgs false
set_option maxRecDepth 20000
attribute [local go_sem] Nat.zero_add Nat.add_zero Nat.mul_one Int.toNat_natCast Int.natCast_zero Int.cast_ofNat_Int or_false false_or or_true true_or Nat.sub_zero Int.natCast_nonneg Int.toNat_zero Bool.true_and Bool.and_true Bool.false_and Bool.and_false Bool.true_or Bool.or_true Bool.false_or Bool.or_false Bool.not_true Bool.not_false Bool.not_not true_and and_true false_and and_false not_true_eq_false not_false_eq_true eq_self decide_true decide_false ne_eq implies_true forall_const true_implies false_implies Bool.true_eq_false Bool.false_eq_true List.map_cons List.map_nil List.all_cons List.all_nil List.length_cons List.length_nil List.length_map List.length_append List.nil_append List.cons_append List.set_cons_zero List.set_cons_succ List.set_nil List.drop_zero List.drop_succ_cons List.drop_nil List.take_zero List.take_succ_cons List.take_nil Option.map_some Option.map_none Option.isSome_some List.all_append List.all_map Function.comp_def decide_eq_true_eq Bool.and_eq_true beq_self_eq_true or_self and_self ite_true ite_false Nat.le_refl Bool.not_eq_true decide_not Bool.not_eq_true' decide_eq_false_iff_not Bool.not_eq_false Bool.or_eq_true if_true if_false ite_self u_roF u_cvF u_cvC u_ceT u_ceK u_appS sm_it sm_len sm_sure sm_ltA sm_lt1 sm_all1 sm_ro sm_take sm_sl sm_set sm_noT sm_fr sm_st_fr sm_set_fr sm_kd sm_st_kd sm_set_kd sm_vw sm_st_vw sm_set_vw sm_sq sm_st_sq sm_set_sq sm_tm sm_st_tm sm_set_tm zsm_len zsm_sure zsm_lt1 zsm_sl zsm_ro zsm_setz zsm_set zsm_setr zsm_take sms_ltA sms_len ce_it ce_len ce_sure ce_ltA ce_lt1 ce_all1 ce_ro ce_take ce_sl ce_set ce_noT ce_sq ce_st_sq ce_set_sq ce_vw ce_st_vw ce_set_vw ce_tm ce_st_tm ce_set_tm ce_body ce_st_body ce_set_body ce_vs ce_st_vs ce_set_vs zce_len zce_sure zce_lt1 zce_sl zce_ro zce_setz zce_set zce_setr zce_take ces_ltA ces_len cg_it cg_len cg_sure cg_ltA cg_lt1 cg_all1 cg_ro cg_take cg_sl cg_set cg_noT cg_fr cg_st_fr cg_set_fr cg_vw cg_st_vw cg_set_vw cg_st cg_st_st cg_set_st cg_rt cg_st_rt cg_set_rt cg_pf cg_st_pf cg_set_pf cg_cs cg_st_cs cg_set_cs zcg_len zcg_sure zcg_lt1 zcg_sl zcg_ro zcg_setz zcg_set zcg_setr zcg_take cgs_ltA cgs_len ms_it ms_len ms_sure ms_ltA ms_lt1 ms_all1 ms_ro ms_take ms_sl ms_set ms_noT ms_kd ms_st_kd ms_set_kd ms_fr ms_st_fr ms_set_fr ms_vw ms_st_vw ms_set_vw ms_sq ms_st_sq ms_set_sq ms_tm ms_st_tm ms_set_tm ms_body ms_st_body ms_set_body ms_vs ms_st_vs ms_set_vs ms_chs ms_st_chs ms_set_chs zms_len zms_sure zms_lt1 zms_sl zms_ro zms_setz zms_set zms_setr zms_take mss_ltA mss_len natInt u_nthM u_bz u_bi1 u_bi2 u_bi3 u_bi4 u_bi5 u_bi6 u_bi7 bC_length bc_ltA bc_one nthOL ltO_o ltO_r takeL bC_append u_addS List.take_length
theorem in_s (m : Nat) (v : Int) : plenumref28_in m (nA v) (nA 63) = some (bA (parB v), []) := by
  rw [plenumref28_in_eq]
  unfold parB
  by_cases h1 : 0 ≤ v
  · simp (config := {maxSteps := 4000000, implicitDefEqProofs := false}) (disch := omega) only [go_sem, ↓reduceIte, Nat.reduceAdd, Nat.reduceSub, Nat.reduceMul, Nat.reduceLeDiff, Nat.reduceLT, Int.reduceEq, Int.reduceNe, Int.reduceLT, Int.reduceLE, Int.reduceAdd, Int.reduceSub, Int.reduceMul, Int.reduceNeg, Int.reduceToNat, reduceCtorEq, Nat.reduceEqDiff, Nat.reduceBEq, Nat.reduceGT, h1]
  · simp (config := {maxSteps := 4000000, implicitDefEqProofs := false}) (disch := omega) only [go_sem, ↓reduceIte, Nat.reduceAdd, Nat.reduceSub, Nat.reduceMul, Nat.reduceLeDiff, Nat.reduceLT, Int.reduceEq, Int.reduceNe, Int.reduceLT, Int.reduceLE, Int.reduceAdd, Int.reduceSub, Int.reduceMul, Int.reduceNeg, Int.reduceToNat, reduceCtorEq, Nat.reduceEqDiff, Nat.reduceBEq, Nat.reduceGT, h1]
theorem num_s (m : Nat) (v : Int) : plenumref28_num m (nA v) = some (bA (numB v), []) := by
  rw [plenumref28_num_eq, plenumref28_in_eq]
  unfold numB
  by_cases h1 : 0 ≤ v
  · simp (config := {maxSteps := 4000000, implicitDefEqProofs := false}) (disch := omega) only [go_sem, ↓reduceIte, Nat.reduceAdd, Nat.reduceSub, Nat.reduceMul, Nat.reduceLeDiff, Nat.reduceLT, Int.reduceEq, Int.reduceNe, Int.reduceLT, Int.reduceLE, Int.reduceAdd, Int.reduceSub, Int.reduceMul, Int.reduceNeg, Int.reduceToNat, reduceCtorEq, Nat.reduceEqDiff, Nat.reduceBEq, Nat.reduceGT, h1]
  · simp (config := {maxSteps := 4000000, implicitDefEqProofs := false}) (disch := omega) only [go_sem, ↓reduceIte, Nat.reduceAdd, Nat.reduceSub, Nat.reduceMul, Nat.reduceLeDiff, Nat.reduceLT, Int.reduceEq, Int.reduceNe, Int.reduceLT, Int.reduceLE, Int.reduceAdd, Int.reduceSub, Int.reduceMul, Int.reduceNeg, Int.reduceToNat, reduceCtorEq, Nat.reduceEqDiff, Nat.reduceBEq, Nat.reduceGT, h1]
theorem rstmts_s (m : Nat) (l : List Sm) (hm : l.length < m) (hl : l.length ≤ 34359738367) : plenumref28_stmts m (SL (l.map smE)) = some (bA (smsB l), []) := by
  rw [plenumref28_stmts_eq]
  simp (config := {maxSteps := 4000000, implicitDefEqProofs := false}) (disch := omega) only [go_sem, ↓reduceIte, Nat.reduceAdd, Nat.reduceSub, Nat.reduceMul, Nat.reduceLeDiff, Nat.reduceLT, Int.reduceEq, Int.reduceNe, Int.reduceLT, Int.reduceLE, Int.reduceAdd, Int.reduceSub, Int.reduceMul, Int.reduceNeg, Int.reduceToNat, reduceCtorEq, Nat.reduceEqDiff, Nat.reduceBEq, Nat.reduceGT]
  generalize hg : smsB l = g
  refine iter_go (ι := {k : Nat // k ≤ l.length ∧ (decide (l.length ≤ 64) && (l.drop k).all smB) = g}) (fun k => ⟨[], [(0, SL (l.map smE)), (3, nA k.1)]⟩) (fun k => l.length - k.1) (fun _ => some (bA g, [])) ?_ ⟨0, Nat.zero_le _, hg⟩ (by dsimp only; omega)
  rintro kx hkx ⟨k, hk, hG⟩ kc hkc
  dsimp only at hkc hG ⊢
  rw [plenumref28_stmts_b1_eq]
  by_cases hlt : k < l.length
  · have hlt' : (k : Int) < (l.length : Int) := by omega
    rw [List.drop_eq_getElem_cons hlt, List.all_cons] at hG
    have q0 := in_s m l[k].fr
    have q1 := num_s m l[k].kd
    have q2 := num_s m l[k].vw
    have q3 := num_s m l[k].sq
    have q4 := num_s m l[k].tm
    cases c0 : parB l[k].fr with
    | false =>
      rw [c0] at q0
      have e : smB l[k] = false := by simp [smB, c0]
      rw [e] at hG
      have hG2 : false = g := by rw [← hG]; simp
      subst hG2
      simp (config := {maxSteps := 4000000, implicitDefEqProofs := false}) (disch := omega) only [go_sem, ↓reduceIte, Nat.reduceAdd, Nat.reduceSub, Nat.reduceMul, Nat.reduceLeDiff, Nat.reduceLT, Int.reduceEq, Int.reduceNe, Int.reduceLT, Int.reduceLE, Int.reduceAdd, Int.reduceSub, Int.reduceMul, Int.reduceNeg, Int.reduceToNat, reduceCtorEq, Nat.reduceEqDiff, Nat.reduceBEq, Nat.reduceGT, hlt', q0, q1, q2, q3, q4, w_i64, hkx, plenumref28_stmts_r3_eq, plenumref28_stmts_r2_eq, plenumref28_stmts_r1_eq]
    | true =>
      rw [c0] at q0
      cases c1 : numB l[k].kd with
      | false =>
        rw [c1] at q1
        have e : smB l[k] = false := by simp [smB, c0, c1]
        rw [e] at hG
        have hG2 : false = g := by rw [← hG]; simp
        subst hG2
        simp (config := {maxSteps := 4000000, implicitDefEqProofs := false}) (disch := omega) only [go_sem, ↓reduceIte, Nat.reduceAdd, Nat.reduceSub, Nat.reduceMul, Nat.reduceLeDiff, Nat.reduceLT, Int.reduceEq, Int.reduceNe, Int.reduceLT, Int.reduceLE, Int.reduceAdd, Int.reduceSub, Int.reduceMul, Int.reduceNeg, Int.reduceToNat, reduceCtorEq, Nat.reduceEqDiff, Nat.reduceBEq, Nat.reduceGT, hlt', q0, q1, q2, q3, q4, w_i64, hkx, plenumref28_stmts_r3_eq, plenumref28_stmts_r2_eq, plenumref28_stmts_r1_eq]
      | true =>
        rw [c1] at q1
        cases c2 : numB l[k].vw with
        | false =>
          rw [c2] at q2
          have e : smB l[k] = false := by simp [smB, c0, c1, c2]
          rw [e] at hG
          have hG2 : false = g := by rw [← hG]; simp
          subst hG2
          simp (config := {maxSteps := 4000000, implicitDefEqProofs := false}) (disch := omega) only [go_sem, ↓reduceIte, Nat.reduceAdd, Nat.reduceSub, Nat.reduceMul, Nat.reduceLeDiff, Nat.reduceLT, Int.reduceEq, Int.reduceNe, Int.reduceLT, Int.reduceLE, Int.reduceAdd, Int.reduceSub, Int.reduceMul, Int.reduceNeg, Int.reduceToNat, reduceCtorEq, Nat.reduceEqDiff, Nat.reduceBEq, Nat.reduceGT, hlt', q0, q1, q2, q3, q4, w_i64, hkx, plenumref28_stmts_r3_eq, plenumref28_stmts_r2_eq, plenumref28_stmts_r1_eq]
        | true =>
          rw [c2] at q2
          cases c3 : numB l[k].sq with
          | false =>
            rw [c3] at q3
            have e : smB l[k] = false := by simp [smB, c0, c1, c2, c3]
            rw [e] at hG
            have hG2 : false = g := by rw [← hG]; simp
            subst hG2
            simp (config := {maxSteps := 4000000, implicitDefEqProofs := false}) (disch := omega) only [go_sem, ↓reduceIte, Nat.reduceAdd, Nat.reduceSub, Nat.reduceMul, Nat.reduceLeDiff, Nat.reduceLT, Int.reduceEq, Int.reduceNe, Int.reduceLT, Int.reduceLE, Int.reduceAdd, Int.reduceSub, Int.reduceMul, Int.reduceNeg, Int.reduceToNat, reduceCtorEq, Nat.reduceEqDiff, Nat.reduceBEq, Nat.reduceGT, hlt', q0, q1, q2, q3, q4, w_i64, hkx, plenumref28_stmts_r3_eq, plenumref28_stmts_r2_eq, plenumref28_stmts_r1_eq]
          | true =>
            rw [c3] at q3
            cases c4 : numB l[k].tm with
            | false =>
              rw [c4] at q4
              have e : smB l[k] = false := by simp [smB, c0, c1, c2, c3, c4]
              rw [e] at hG
              have hG2 : false = g := by rw [← hG]; simp
              subst hG2
              simp (config := {maxSteps := 4000000, implicitDefEqProofs := false}) (disch := omega) only [go_sem, ↓reduceIte, Nat.reduceAdd, Nat.reduceSub, Nat.reduceMul, Nat.reduceLeDiff, Nat.reduceLT, Int.reduceEq, Int.reduceNe, Int.reduceLT, Int.reduceLE, Int.reduceAdd, Int.reduceSub, Int.reduceMul, Int.reduceNeg, Int.reduceToNat, reduceCtorEq, Nat.reduceEqDiff, Nat.reduceBEq, Nat.reduceGT, hlt', q0, q1, q2, q3, q4, w_i64, hkx, plenumref28_stmts_r3_eq, plenumref28_stmts_r2_eq, plenumref28_stmts_r1_eq]
            | true =>
              rw [c4] at q4
              have e : smB l[k] = true := by simp [smB, c0, c1, c2, c3, c4]
              rw [e] at hG
              have step := hkc ⟨k + 1, by omega, hG⟩ (by dsimp only; omega)
              simp (config := {maxSteps := 4000000, implicitDefEqProofs := false}) (disch := omega) only [go_sem, ↓reduceIte, Nat.reduceAdd, Nat.reduceSub, Nat.reduceMul, Nat.reduceLeDiff, Nat.reduceLT, Int.reduceEq, Int.reduceNe, Int.reduceLT, Int.reduceLE, Int.reduceAdd, Int.reduceSub, Int.reduceMul, Int.reduceNeg, Int.reduceToNat, reduceCtorEq, Nat.reduceEqDiff, Nat.reduceBEq, Nat.reduceGT, hlt', q0, q1, q2, q3, q4, w_i64, plenumref28_stmts_r3_eq, plenumref28_stmts_r2_eq, plenumref28_stmts_r1_eq]
              exact step
  · have hlt' : ¬ (k : Int) < (l.length : Int) := by omega
    rw [List.drop_of_length_le (by omega)] at hG
    have hG2 : decide (l.length ≤ 64) = g := by rw [← hG]; simp
    subst hG2
    have e : decide ((l.length : Int) ≤ 64) = decide (l.length ≤ 64) := by apply decide_eq_decide.2; omega
    simp (config := {maxSteps := 4000000, implicitDefEqProofs := false}) (disch := omega) only [go_sem, ↓reduceIte, Nat.reduceAdd, Nat.reduceSub, Nat.reduceMul, Nat.reduceLeDiff, Nat.reduceLT, Int.reduceEq, Int.reduceNe, Int.reduceLT, Int.reduceLE, Int.reduceAdd, Int.reduceSub, Int.reduceMul, Int.reduceNeg, Int.reduceToNat, reduceCtorEq, Nat.reduceEqDiff, Nat.reduceBEq, Nat.reduceGT, hlt', e, hkx, plenumref28_stmts_r3_eq, plenumref28_stmts_r2_eq, plenumref28_stmts_r1_eq]
theorem rchange_s (m : Nat) (x : Ch) (hp : x.pf.length < m) (hp2 : x.pf.length ≤ 34359738367) (hc : x.cs.length < m) (hc2 : x.cs.length ≤ 34359738367) (hv : ∀ y ∈ x.cs, y.vs.length < m ∧ y.vs.length ≤ 34359738367) : plenumref28_Change m (cgE x) = some (bA (cgB x), []) := by
  have q0 := in_s m x.fr
  have q1 := num_s m x.vw
  have q2 := num_s m x.st
  have q3 := num_s m x.rt
  have q4 := rstmts_s m x.pf hp hp2
  have E : cgB x = (parB x.fr && ([x.vw, x.st, x.rt].all numB && (smsB x.pf && (decide (x.cs.length ≤ 64) && x.cs.all ceB)))) := rfl
  rw [plenumref28_Change_eq, cg_it]
  cases c0 : parB x.fr with
  | false =>
    rw [c0] at q0
    have e : cgB x = false := by simp [E, c0]
    rw [e]
    simp (config := {maxSteps := 4000000, implicitDefEqProofs := false}) (disch := omega) only [go_sem, ↓reduceIte, Nat.reduceAdd, Nat.reduceSub, Nat.reduceMul, Nat.reduceLeDiff, Nat.reduceLT, Int.reduceEq, Int.reduceNe, Int.reduceLT, Int.reduceLE, Int.reduceAdd, Int.reduceSub, Int.reduceMul, Int.reduceNeg, Int.reduceToNat, reduceCtorEq, Nat.reduceEqDiff, Nat.reduceBEq, Nat.reduceGT, q0, q1, q2, q3, q4, plenumref28_Change_r5_eq, plenumref28_Change_r4_eq, plenumref28_Change_r3_eq, plenumref28_Change_r2_eq, plenumref28_Change_r1_eq]
  | true =>
    rw [c0] at q0
    cases c1 : numB x.vw with
    | false =>
      rw [c1] at q1
      have e : cgB x = false := by simp [E, c0, c1]
      rw [e]
      simp (config := {maxSteps := 4000000, implicitDefEqProofs := false}) (disch := omega) only [go_sem, ↓reduceIte, Nat.reduceAdd, Nat.reduceSub, Nat.reduceMul, Nat.reduceLeDiff, Nat.reduceLT, Int.reduceEq, Int.reduceNe, Int.reduceLT, Int.reduceLE, Int.reduceAdd, Int.reduceSub, Int.reduceMul, Int.reduceNeg, Int.reduceToNat, reduceCtorEq, Nat.reduceEqDiff, Nat.reduceBEq, Nat.reduceGT, q0, q1, q2, q3, q4, plenumref28_Change_r5_eq, plenumref28_Change_r4_eq, plenumref28_Change_r3_eq, plenumref28_Change_r2_eq, plenumref28_Change_r1_eq]
    | true =>
      rw [c1] at q1
      cases c2 : numB x.st with
      | false =>
        rw [c2] at q2
        have e : cgB x = false := by simp [E, c0, c1, c2]
        rw [e]
        simp (config := {maxSteps := 4000000, implicitDefEqProofs := false}) (disch := omega) only [go_sem, ↓reduceIte, Nat.reduceAdd, Nat.reduceSub, Nat.reduceMul, Nat.reduceLeDiff, Nat.reduceLT, Int.reduceEq, Int.reduceNe, Int.reduceLT, Int.reduceLE, Int.reduceAdd, Int.reduceSub, Int.reduceMul, Int.reduceNeg, Int.reduceToNat, reduceCtorEq, Nat.reduceEqDiff, Nat.reduceBEq, Nat.reduceGT, q0, q1, q2, q3, q4, plenumref28_Change_r5_eq, plenumref28_Change_r4_eq, plenumref28_Change_r3_eq, plenumref28_Change_r2_eq, plenumref28_Change_r1_eq]
      | true =>
        rw [c2] at q2
        cases c3 : numB x.rt with
        | false =>
          rw [c3] at q3
          have e : cgB x = false := by simp [E, c0, c1, c2, c3]
          rw [e]
          simp (config := {maxSteps := 4000000, implicitDefEqProofs := false}) (disch := omega) only [go_sem, ↓reduceIte, Nat.reduceAdd, Nat.reduceSub, Nat.reduceMul, Nat.reduceLeDiff, Nat.reduceLT, Int.reduceEq, Int.reduceNe, Int.reduceLT, Int.reduceLE, Int.reduceAdd, Int.reduceSub, Int.reduceMul, Int.reduceNeg, Int.reduceToNat, reduceCtorEq, Nat.reduceEqDiff, Nat.reduceBEq, Nat.reduceGT, q0, q1, q2, q3, q4, plenumref28_Change_r5_eq, plenumref28_Change_r4_eq, plenumref28_Change_r3_eq, plenumref28_Change_r2_eq, plenumref28_Change_r1_eq]
        | true =>
          rw [c3] at q3
          cases c4 : smsB x.pf with
          | false =>
            rw [c4] at q4
            have e : cgB x = false := by simp [E, c0, c1, c2, c3, c4]
            rw [e]
            simp (config := {maxSteps := 4000000, implicitDefEqProofs := false}) (disch := omega) only [go_sem, ↓reduceIte, Nat.reduceAdd, Nat.reduceSub, Nat.reduceMul, Nat.reduceLeDiff, Nat.reduceLT, Int.reduceEq, Int.reduceNe, Int.reduceLT, Int.reduceLE, Int.reduceAdd, Int.reduceSub, Int.reduceMul, Int.reduceNeg, Int.reduceToNat, reduceCtorEq, Nat.reduceEqDiff, Nat.reduceBEq, Nat.reduceGT, q0, q1, q2, q3, q4, plenumref28_Change_r5_eq, plenumref28_Change_r4_eq, plenumref28_Change_r3_eq, plenumref28_Change_r2_eq, plenumref28_Change_r1_eq]
          | true =>
            rw [c4] at q4
            by_cases h64 : x.cs.length ≤ 64
            rotate_left
            · have h64' : (x.cs.length : Int) > 64 := by omega
              have e : cgB x = false := by rw [E, decide_eq_false h64]; simp
              rw [e]
              simp (config := {maxSteps := 4000000, implicitDefEqProofs := false}) (disch := omega) only [go_sem, ↓reduceIte, Nat.reduceAdd, Nat.reduceSub, Nat.reduceMul, Nat.reduceLeDiff, Nat.reduceLT, Int.reduceEq, Int.reduceNe, Int.reduceLT, Int.reduceLE, Int.reduceAdd, Int.reduceSub, Int.reduceMul, Int.reduceNeg, Int.reduceToNat, reduceCtorEq, Nat.reduceEqDiff, Nat.reduceBEq, Nat.reduceGT, q0, q1, q2, q3, q4, h64', plenumref28_Change_r5_eq, plenumref28_Change_r4_eq, plenumref28_Change_r3_eq, plenumref28_Change_r2_eq, plenumref28_Change_r1_eq]
            have h64' : ¬ (x.cs.length : Int) > 64 := by omega
            have e : cgB x = x.cs.all ceB := by rw [E, decide_eq_true h64]; simp [c0, c1, c2, c3, c4]
            rw [e]
            simp (config := {maxSteps := 4000000, implicitDefEqProofs := false}) (disch := omega) only [go_sem, ↓reduceIte, Nat.reduceAdd, Nat.reduceSub, Nat.reduceMul, Nat.reduceLeDiff, Nat.reduceLT, Int.reduceEq, Int.reduceNe, Int.reduceLT, Int.reduceLE, Int.reduceAdd, Int.reduceSub, Int.reduceMul, Int.reduceNeg, Int.reduceToNat, reduceCtorEq, Nat.reduceEqDiff, Nat.reduceBEq, Nat.reduceGT, q0, q1, q2, q3, q4, h64', plenumref28_Change_r5_eq, plenumref28_Change_r4_eq, plenumref28_Change_r3_eq, plenumref28_Change_r2_eq, plenumref28_Change_r1_eq]
            generalize hg : x.cs.all ceB = g
            refine iter_go (ι := {k : Nat // k ≤ x.cs.length ∧ (x.cs.drop k).all ceB = g}) (fun k => ⟨[⟨1, ty_api_Change, 0, cgC x⟩], [(1, OP 0 0), (3, nA k.1)]⟩) (fun k => x.cs.length - k.1) (fun _ => some (bA g, [])) ?_ ⟨0, Nat.zero_le _, hg⟩ (by dsimp only; omega)
            clear q0 q1 q2 q3 q4
            rintro kx hkx ⟨k, hk, hG⟩ kc hkc
            dsimp only at hkc hG ⊢
            rw [plenumref28_Change_b1_eq]
            by_cases hlt : k < x.cs.length
            rotate_left
            · have hlt' : ¬ (k : Int) < (x.cs.length : Int) := by omega
              rw [List.drop_of_length_le (by omega)] at hG
              have hG2 : true = g := hG
              subst hG2
              simp (config := {maxSteps := 4000000, implicitDefEqProofs := false}) (disch := omega) only [go_sem, ↓reduceIte, Nat.reduceAdd, Nat.reduceSub, Nat.reduceMul, Nat.reduceLeDiff, Nat.reduceLT, Int.reduceEq, Int.reduceNe, Int.reduceLT, Int.reduceLE, Int.reduceAdd, Int.reduceSub, Int.reduceMul, Int.reduceNeg, Int.reduceToNat, reduceCtorEq, Nat.reduceEqDiff, Nat.reduceBEq, Nat.reduceGT, hlt', hkx, plenumref28_Change_r5_eq, plenumref28_Change_r4_eq, plenumref28_Change_r3_eq, plenumref28_Change_r2_eq, plenumref28_Change_r1_eq]
            have hlt' : (k : Int) < (x.cs.length : Int) := by omega
            rw [List.drop_eq_getElem_cons hlt, List.all_cons] at hG
            obtain ⟨v1, v2⟩ := hv x.cs[k] (List.getElem_mem hlt)
            have q0 := num_s m x.cs[k].sq
            have q1 := num_s m x.cs[k].vw
            have q2 := num_s m x.cs[k].tm
            have q4 := rstmts_s m x.cs[k].vs v1 v2
            generalize hy : x.cs[k] = y at *
            cases d0 : numB y.sq with
            | false =>
              rw [d0] at q0
              have e : ceB y = false := by simp [ceB, d0]
              rw [e] at hG
              have hG2 : false = g := by rw [← hG]; simp
              subst hG2
              simp (config := {maxSteps := 4000000, implicitDefEqProofs := false}) (disch := omega) only [go_sem, ↓reduceIte, Nat.reduceAdd, Nat.reduceSub, Nat.reduceMul, Nat.reduceLeDiff, Nat.reduceLT, Int.reduceEq, Int.reduceNe, Int.reduceLT, Int.reduceLE, Int.reduceAdd, Int.reduceSub, Int.reduceMul, Int.reduceNeg, Int.reduceToNat, reduceCtorEq, Nat.reduceEqDiff, Nat.reduceBEq, Nat.reduceGT, hlt', hy, q0, q1, q2, q4, w_i64, hkx, plenumref28_Change_r5_eq, plenumref28_Change_r4_eq, plenumref28_Change_r3_eq, plenumref28_Change_r2_eq, plenumref28_Change_r1_eq]
            | true =>
              rw [d0] at q0
              cases d1 : numB y.vw with
              | false =>
                rw [d1] at q1
                have e : ceB y = false := by simp [ceB, d0, d1]
                rw [e] at hG
                have hG2 : false = g := by rw [← hG]; simp
                subst hG2
                simp (config := {maxSteps := 4000000, implicitDefEqProofs := false}) (disch := omega) only [go_sem, ↓reduceIte, Nat.reduceAdd, Nat.reduceSub, Nat.reduceMul, Nat.reduceLeDiff, Nat.reduceLT, Int.reduceEq, Int.reduceNe, Int.reduceLT, Int.reduceLE, Int.reduceAdd, Int.reduceSub, Int.reduceMul, Int.reduceNeg, Int.reduceToNat, reduceCtorEq, Nat.reduceEqDiff, Nat.reduceBEq, Nat.reduceGT, hlt', hy, q0, q1, q2, q4, w_i64, hkx, plenumref28_Change_r5_eq, plenumref28_Change_r4_eq, plenumref28_Change_r3_eq, plenumref28_Change_r2_eq, plenumref28_Change_r1_eq]
              | true =>
                rw [d1] at q1
                cases d2 : numB y.tm with
                | false =>
                  rw [d2] at q2
                  have e : ceB y = false := by simp [ceB, d0, d1, d2]
                  rw [e] at hG
                  have hG2 : false = g := by rw [← hG]; simp
                  subst hG2
                  simp (config := {maxSteps := 4000000, implicitDefEqProofs := false}) (disch := omega) only [go_sem, ↓reduceIte, Nat.reduceAdd, Nat.reduceSub, Nat.reduceMul, Nat.reduceLeDiff, Nat.reduceLT, Int.reduceEq, Int.reduceNe, Int.reduceLT, Int.reduceLE, Int.reduceAdd, Int.reduceSub, Int.reduceMul, Int.reduceNeg, Int.reduceToNat, reduceCtorEq, Nat.reduceEqDiff, Nat.reduceBEq, Nat.reduceGT, hlt', hy, q0, q1, q2, q4, w_i64, hkx, plenumref28_Change_r5_eq, plenumref28_Change_r4_eq, plenumref28_Change_r3_eq, plenumref28_Change_r2_eq, plenumref28_Change_r1_eq]
                | true =>
                  rw [d2] at q2
                  by_cases hb : y.body.length ≤ 65536
                  rotate_left
                  · have hb' : (y.body.length : Int) > 65536 := by omega
                    have e : ceB y = false := by simp [ceB, d0, d1, d2, hb]
                    rw [e] at hG
                    have hG2 : false = g := by rw [← hG]; simp
                    subst hG2
                    simp (config := {maxSteps := 4000000, implicitDefEqProofs := false}) (disch := omega) only [go_sem, ↓reduceIte, Nat.reduceAdd, Nat.reduceSub, Nat.reduceMul, Nat.reduceLeDiff, Nat.reduceLT, Int.reduceEq, Int.reduceNe, Int.reduceLT, Int.reduceLE, Int.reduceAdd, Int.reduceSub, Int.reduceMul, Int.reduceNeg, Int.reduceToNat, reduceCtorEq, Nat.reduceEqDiff, Nat.reduceBEq, Nat.reduceGT, hlt', hy, hb', q0, q1, q2, q4, w_i64, hkx, plenumref28_Change_r5_eq, plenumref28_Change_r4_eq, plenumref28_Change_r3_eq, plenumref28_Change_r2_eq, plenumref28_Change_r1_eq]
                  have hb' : ¬ (y.body.length : Int) > 65536 := by omega
                  cases d4 : smsB y.vs with
                  | false =>
                    rw [d4] at q4
                    have e : ceB y = false := by simp [ceB, d0, d1, d2, hb, d4]
                    rw [e] at hG
                    have hG2 : false = g := by rw [← hG]; simp
                    subst hG2
                    simp (config := {maxSteps := 4000000, implicitDefEqProofs := false}) (disch := omega) only [go_sem, ↓reduceIte, Nat.reduceAdd, Nat.reduceSub, Nat.reduceMul, Nat.reduceLeDiff, Nat.reduceLT, Int.reduceEq, Int.reduceNe, Int.reduceLT, Int.reduceLE, Int.reduceAdd, Int.reduceSub, Int.reduceMul, Int.reduceNeg, Int.reduceToNat, reduceCtorEq, Nat.reduceEqDiff, Nat.reduceBEq, Nat.reduceGT, hlt', hy, hb', q0, q1, q2, q4, w_i64, hkx, plenumref28_Change_r5_eq, plenumref28_Change_r4_eq, plenumref28_Change_r3_eq, plenumref28_Change_r2_eq, plenumref28_Change_r1_eq]
                  | true =>
                    rw [d4] at q4
                    have e : ceB y = true := by simp [ceB, d0, d1, d2, hb, d4]
                    rw [e] at hG
                    have step := hkc ⟨k + 1, by omega, hG⟩ (by dsimp only; omega)
                    simp (config := {maxSteps := 4000000, implicitDefEqProofs := false}) (disch := omega) only [go_sem, ↓reduceIte, Nat.reduceAdd, Nat.reduceSub, Nat.reduceMul, Nat.reduceLeDiff, Nat.reduceLT, Int.reduceEq, Int.reduceNe, Int.reduceLT, Int.reduceLE, Int.reduceAdd, Int.reduceSub, Int.reduceMul, Int.reduceNeg, Int.reduceToNat, reduceCtorEq, Nat.reduceEqDiff, Nat.reduceBEq, Nat.reduceGT, hlt', hy, hb', q0, q1, q2, q4, w_i64, plenumref28_Change_r5_eq, plenumref28_Change_r4_eq, plenumref28_Change_r3_eq, plenumref28_Change_r2_eq, plenumref28_Change_r1_eq]
                    exact step
def SzC (m : Nat) (x : Ch) : Prop := x.pf.length < m ∧ x.pf.length ≤ 34359738367 ∧ x.cs.length < m ∧ x.cs.length ≤ 34359738367 ∧ ∀ y ∈ x.cs, y.vs.length < m ∧ y.vs.length ≤ 34359738367
def SzM (m : Nat) (x : Ms) : Prop := x.vs.length < m ∧ x.vs.length ≤ 34359738367 ∧ x.chs.length < m ∧ x.chs.length ≤ 34359738367 ∧ ∀ y ∈ x.chs, SzC m y
theorem rmay_s (m : Nat) (x : Ms) (hz : SzM m x) : plenumref28_May m (msE x) = some (bA (msB x), []) := by
  obtain ⟨z1, z2, z3, z4, z5⟩ := hz
  have E : msB x = (decide (1 ≤ x.kd) && (decide (x.kd ≤ 10) && (parB x.fr && ([x.vw, x.sq, x.tm].all numB && (decide (x.body.length ≤ 65536) && (smsB x.vs && (decide (x.chs.length ≤ 64) && x.chs.all cgB))))))) := rfl
  rw [plenumref28_May_eq, ms_it]
  simp (config := {maxSteps := 4000000, implicitDefEqProofs := false}) (disch := omega) only [go_sem, ↓reduceIte, Nat.reduceAdd, Nat.reduceSub, Nat.reduceMul, Nat.reduceLeDiff, Nat.reduceLT, Int.reduceEq, Int.reduceNe, Int.reduceLT, Int.reduceLE, Int.reduceAdd, Int.reduceSub, Int.reduceMul, Int.reduceNeg, Int.reduceToNat, reduceCtorEq, Nat.reduceEqDiff, Nat.reduceBEq, Nat.reduceGT]
  generalize hg : msB x = g
  rw [E] at hg
  generalize hR : x.chs.all cgB = ga at hg
  refine iter_go (ι := {k : Nat // k ≤ x.chs.length ∧ (x.chs.drop k).all cgB = ga}) (fun k => ⟨[⟨1, ty_api_Msg, 0, msC x⟩], [(1, OP 0 0), (3, nA k.1)]⟩) (fun k => x.chs.length - k.1) (fun _ => some (bA g, [])) ?_ ⟨0, Nat.zero_le _, hR⟩ (by dsimp only; omega)
  clear hR
  rintro kx hkx ⟨k, hk, hG⟩ kc hkc
  dsimp only at hkc hG ⊢
  rw [plenumref28_May_b1_eq]
  by_cases hlt : k < x.chs.length
  · have hlt' : (k : Int) < (x.chs.length : Int) := by omega
    rw [List.drop_eq_getElem_cons hlt, List.all_cons] at hG
    obtain ⟨v1, v2, v3, v4, v5⟩ := z5 x.chs[k] (List.getElem_mem hlt)
    have hV := rchange_s m x.chs[k] v1 v2 v3 v4 v5
    rw [cg_it] at hV
    cases c : cgB x.chs[k] with
    | false =>
      rw [c] at hV hG
      have hG2 : false = ga := hG
      subst hG2
      have hg2 : false = g := by rw [← hg]; simp
      subst hg2
      simp (config := {maxSteps := 4000000, implicitDefEqProofs := false}) (disch := omega) only [go_sem, ↓reduceIte, Nat.reduceAdd, Nat.reduceSub, Nat.reduceMul, Nat.reduceLeDiff, Nat.reduceLT, Int.reduceEq, Int.reduceNe, Int.reduceLT, Int.reduceLE, Int.reduceAdd, Int.reduceSub, Int.reduceMul, Int.reduceNeg, Int.reduceToNat, reduceCtorEq, Nat.reduceEqDiff, Nat.reduceBEq, Nat.reduceGT, hlt', hV, w_i64, hkx, plenumref28_May_r1_eq]
    | true =>
      rw [c] at hV hG
      have step := hkc ⟨k + 1, by omega, hG⟩ (by dsimp only; omega)
      simp (config := {maxSteps := 4000000, implicitDefEqProofs := false}) (disch := omega) only [go_sem, ↓reduceIte, Nat.reduceAdd, Nat.reduceSub, Nat.reduceMul, Nat.reduceLeDiff, Nat.reduceLT, Int.reduceEq, Int.reduceNe, Int.reduceLT, Int.reduceLE, Int.reduceAdd, Int.reduceSub, Int.reduceMul, Int.reduceNeg, Int.reduceToNat, reduceCtorEq, Nat.reduceEqDiff, Nat.reduceBEq, Nat.reduceGT, hlt', hV, w_i64, plenumref28_May_r1_eq]
      exact step
  · have hlt' : ¬ (k : Int) < (x.chs.length : Int) := by omega
    rw [List.drop_of_length_le (by omega)] at hG
    have hG2 : true = ga := hG
    subst hG2
    clear hkc hG
    have q0 := in_s m x.fr
    have q1 := num_s m x.vw
    have q2 := num_s m x.sq
    have q3 := num_s m x.tm
    have q4 := rstmts_s m x.vs z1 z2
    by_cases k1 : 1 ≤ x.kd
    rotate_left
    · have hg2 : false = g := by rw [← hg]; simp [k1]
      subst hg2
      simp (config := {maxSteps := 4000000, implicitDefEqProofs := false}) (disch := omega) only [go_sem, ↓reduceIte, Nat.reduceAdd, Nat.reduceSub, Nat.reduceMul, Nat.reduceLeDiff, Nat.reduceLT, Int.reduceEq, Int.reduceNe, Int.reduceLT, Int.reduceLE, Int.reduceAdd, Int.reduceSub, Int.reduceMul, Int.reduceNeg, Int.reduceToNat, reduceCtorEq, Nat.reduceEqDiff, Nat.reduceBEq, Nat.reduceGT, hlt', k1, hkx, plenumref28_May_r1_eq]
    by_cases k2 : x.kd ≤ 10
    rotate_left
    · have hg2 : false = g := by rw [← hg]; simp [k2]
      subst hg2
      simp (config := {maxSteps := 4000000, implicitDefEqProofs := false}) (disch := omega) only [go_sem, ↓reduceIte, Nat.reduceAdd, Nat.reduceSub, Nat.reduceMul, Nat.reduceLeDiff, Nat.reduceLT, Int.reduceEq, Int.reduceNe, Int.reduceLT, Int.reduceLE, Int.reduceAdd, Int.reduceSub, Int.reduceMul, Int.reduceNeg, Int.reduceToNat, reduceCtorEq, Nat.reduceEqDiff, Nat.reduceBEq, Nat.reduceGT, hlt', k1, k2, hkx, plenumref28_May_r1_eq]
    cases c0 : parB x.fr with
    | false =>
      rw [c0] at q0
      have hg2 : false = g := by rw [← hg]; simp [c0]
      subst hg2
      simp (config := {maxSteps := 4000000, implicitDefEqProofs := false}) (disch := omega) only [go_sem, ↓reduceIte, Nat.reduceAdd, Nat.reduceSub, Nat.reduceMul, Nat.reduceLeDiff, Nat.reduceLT, Int.reduceEq, Int.reduceNe, Int.reduceLT, Int.reduceLE, Int.reduceAdd, Int.reduceSub, Int.reduceMul, Int.reduceNeg, Int.reduceToNat, reduceCtorEq, Nat.reduceEqDiff, Nat.reduceBEq, Nat.reduceGT, hlt', k1, k2, q0, q1, q2, q3, hkx, plenumref28_May_r1_eq]
    | true =>
      rw [c0] at q0
      cases c1 : numB x.vw with
      | false =>
        rw [c1] at q1
        have hg2 : false = g := by rw [← hg]; simp [c0, c1]
        subst hg2
        simp (config := {maxSteps := 4000000, implicitDefEqProofs := false}) (disch := omega) only [go_sem, ↓reduceIte, Nat.reduceAdd, Nat.reduceSub, Nat.reduceMul, Nat.reduceLeDiff, Nat.reduceLT, Int.reduceEq, Int.reduceNe, Int.reduceLT, Int.reduceLE, Int.reduceAdd, Int.reduceSub, Int.reduceMul, Int.reduceNeg, Int.reduceToNat, reduceCtorEq, Nat.reduceEqDiff, Nat.reduceBEq, Nat.reduceGT, hlt', k1, k2, q0, q1, q2, q3, hkx, plenumref28_May_r1_eq]
      | true =>
        rw [c1] at q1
        cases c2 : numB x.sq with
        | false =>
          rw [c2] at q2
          have hg2 : false = g := by rw [← hg]; simp [c0, c1, c2]
          subst hg2
          simp (config := {maxSteps := 4000000, implicitDefEqProofs := false}) (disch := omega) only [go_sem, ↓reduceIte, Nat.reduceAdd, Nat.reduceSub, Nat.reduceMul, Nat.reduceLeDiff, Nat.reduceLT, Int.reduceEq, Int.reduceNe, Int.reduceLT, Int.reduceLE, Int.reduceAdd, Int.reduceSub, Int.reduceMul, Int.reduceNeg, Int.reduceToNat, reduceCtorEq, Nat.reduceEqDiff, Nat.reduceBEq, Nat.reduceGT, hlt', k1, k2, q0, q1, q2, q3, hkx, plenumref28_May_r1_eq]
        | true =>
          rw [c2] at q2
          cases c3 : numB x.tm with
          | false =>
            rw [c3] at q3
            have hg2 : false = g := by rw [← hg]; simp [c0, c1, c2, c3]
            subst hg2
            simp (config := {maxSteps := 4000000, implicitDefEqProofs := false}) (disch := omega) only [go_sem, ↓reduceIte, Nat.reduceAdd, Nat.reduceSub, Nat.reduceMul, Nat.reduceLeDiff, Nat.reduceLT, Int.reduceEq, Int.reduceNe, Int.reduceLT, Int.reduceLE, Int.reduceAdd, Int.reduceSub, Int.reduceMul, Int.reduceNeg, Int.reduceToNat, reduceCtorEq, Nat.reduceEqDiff, Nat.reduceBEq, Nat.reduceGT, hlt', k1, k2, q0, q1, q2, q3, hkx, plenumref28_May_r1_eq]
          | true =>
            rw [c3] at q3
            by_cases hb : x.body.length ≤ 65536
            rotate_left
            · have hb' : ¬ (x.body.length : Int) ≤ 65536 := by omega
              have hg2 : false = g := by rw [← hg]; simp [hb]
              subst hg2
              simp (config := {maxSteps := 4000000, implicitDefEqProofs := false}) (disch := omega) only [go_sem, ↓reduceIte, Nat.reduceAdd, Nat.reduceSub, Nat.reduceMul, Nat.reduceLeDiff, Nat.reduceLT, Int.reduceEq, Int.reduceNe, Int.reduceLT, Int.reduceLE, Int.reduceAdd, Int.reduceSub, Int.reduceMul, Int.reduceNeg, Int.reduceToNat, reduceCtorEq, Nat.reduceEqDiff, Nat.reduceBEq, Nat.reduceGT, hlt', k1, k2, q0, q1, q2, q3, hb', hkx, plenumref28_May_r1_eq]
            have hb' : (x.body.length : Int) ≤ 65536 := by omega
            cases d4 : smsB x.vs with
            | false =>
              rw [d4] at q4
              have hg2 : false = g := by rw [← hg]; simp [d4]
              subst hg2
              simp (config := {maxSteps := 4000000, implicitDefEqProofs := false}) (disch := omega) only [go_sem, ↓reduceIte, Nat.reduceAdd, Nat.reduceSub, Nat.reduceMul, Nat.reduceLeDiff, Nat.reduceLT, Int.reduceEq, Int.reduceNe, Int.reduceLT, Int.reduceLE, Int.reduceAdd, Int.reduceSub, Int.reduceMul, Int.reduceNeg, Int.reduceToNat, reduceCtorEq, Nat.reduceEqDiff, Nat.reduceBEq, Nat.reduceGT, hlt', k1, k2, q0, q1, q2, q3, q4, hb', hkx, plenumref28_May_r1_eq]
            | true =>
              rw [d4] at q4
              have hg2 : decide (x.chs.length ≤ 64) = g := by rw [← hg]; simp [k1, k2, c0, c1, c2, c3, hb, d4]
              subst hg2
              have e : decide ((x.chs.length : Int) ≤ 64) = decide (x.chs.length ≤ 64) := by apply decide_eq_decide.2; omega
              simp (config := {maxSteps := 4000000, implicitDefEqProofs := false}) (disch := omega) only [go_sem, ↓reduceIte, Nat.reduceAdd, Nat.reduceSub, Nat.reduceMul, Nat.reduceLeDiff, Nat.reduceLT, Int.reduceEq, Int.reduceNe, Int.reduceLT, Int.reduceLE, Int.reduceAdd, Int.reduceSub, Int.reduceMul, Int.reduceNeg, Int.reduceToNat, reduceCtorEq, Nat.reduceEqDiff, Nat.reduceBEq, Nat.reduceGT, hlt', k1, k2, q0, q1, q2, q3, q4, hb', e, hkx, plenumref28_May_r1_eq]
end Go.Proofs.Ytbdbmfifclmpcaa

namespace Go.Proofs.Ytbdbmfifclmpcaa
open Go.RowKit
set_option linter.unusedVariables false
set_option linter.unusedSimpArgs false
set_option maxRecDepth 20000
attribute [local go_sem] Nat.zero_add Nat.add_zero Nat.mul_one Int.toNat_natCast Int.natCast_zero Int.cast_ofNat_Int or_false false_or or_true true_or Nat.sub_zero Int.natCast_nonneg Int.toNat_zero Bool.true_and Bool.and_true Bool.false_and Bool.and_false Bool.true_or Bool.or_true Bool.false_or Bool.or_false Bool.not_true Bool.not_false Bool.not_not true_and and_true false_and and_false not_true_eq_false not_false_eq_true eq_self decide_true decide_false ne_eq implies_true forall_const true_implies false_implies Bool.true_eq_false Bool.false_eq_true List.map_cons List.map_nil List.all_cons List.all_nil List.length_cons List.length_nil List.length_map List.length_append List.nil_append List.cons_append List.set_cons_zero List.set_cons_succ List.set_nil List.drop_zero List.drop_succ_cons List.drop_nil List.take_zero List.take_succ_cons List.take_nil Option.map_some Option.map_none Option.isSome_some List.all_append List.all_map Function.comp_def decide_eq_true_eq Bool.and_eq_true beq_self_eq_true or_self and_self ite_true ite_false Nat.le_refl Bool.not_eq_true decide_not Bool.not_eq_true' decide_eq_false_iff_not Bool.not_eq_false Bool.or_eq_true if_true if_false ite_self u_roF u_cvF u_cvC u_ceT u_ceK u_appS sm_it sm_len sm_sure sm_ltA sm_lt1 sm_all1 sm_ro sm_take sm_sl sm_set sm_noT sm_fr sm_st_fr sm_set_fr sm_kd sm_st_kd sm_set_kd sm_vw sm_st_vw sm_set_vw sm_sq sm_st_sq sm_set_sq sm_tm sm_st_tm sm_set_tm zsm_len zsm_sure zsm_lt1 zsm_sl zsm_ro zsm_setz zsm_set zsm_setr zsm_take sms_ltA sms_len ce_it ce_len ce_sure ce_ltA ce_lt1 ce_all1 ce_ro ce_take ce_sl ce_set ce_noT ce_sq ce_st_sq ce_set_sq ce_vw ce_st_vw ce_set_vw ce_tm ce_st_tm ce_set_tm ce_body ce_st_body ce_set_body ce_vs ce_st_vs ce_set_vs zce_len zce_sure zce_lt1 zce_sl zce_ro zce_setz zce_set zce_setr zce_take ces_ltA ces_len cg_it cg_len cg_sure cg_ltA cg_lt1 cg_all1 cg_ro cg_take cg_sl cg_set cg_noT cg_fr cg_st_fr cg_set_fr cg_vw cg_st_vw cg_set_vw cg_st cg_st_st cg_set_st cg_rt cg_st_rt cg_set_rt cg_pf cg_st_pf cg_set_pf cg_cs cg_st_cs cg_set_cs zcg_len zcg_sure zcg_lt1 zcg_sl zcg_ro zcg_setz zcg_set zcg_setr zcg_take cgs_ltA cgs_len ms_it ms_len ms_sure ms_ltA ms_lt1 ms_all1 ms_ro ms_take ms_sl ms_set ms_noT ms_kd ms_st_kd ms_set_kd ms_fr ms_st_fr ms_set_fr ms_vw ms_st_vw ms_set_vw ms_sq ms_st_sq ms_set_sq ms_tm ms_st_tm ms_set_tm ms_body ms_st_body ms_set_body ms_vs ms_st_vs ms_set_vs ms_chs ms_st_chs ms_set_chs zms_len zms_sure zms_lt1 zms_sl zms_ro zms_setz zms_set zms_setr zms_take mss_ltA mss_len natInt u_nthM u_bz u_bi1 u_bi2 u_bi3 u_bi4 u_bi5 u_bi6 u_bi7 bC_length bc_ltA bc_one nthOL ltO_o ltO_r takeL bC_append u_addS List.take_length
end Go.Proofs.Ytbdbmfifclmpcaa
