/-
  Texts laid together, part 4 of 5: laws of a walk over data, contracts of functions, each whole by itself.
-/
import Derived.Test.YtbobfgbjliolmaaMgc
namespace Go.Proofs.Ytbobfgbjliolmaa
open Go.RowKit
set_option linter.unusedVariables false
set_option maxRecDepth 100000
def ty_api_Marks : TypeId := 24
def ty_api_Stmt : TypeId := 38
def zc_api_Marks : List AV := [(V (.int .i64 0)), (V (.int .i64 0)), (V (.slice none 0 0))]
def zc_api_Stmt : List AV := [(V (.int .i64 0)), (V (.int .i64 0)), (V (.int .i64 0)), (V (.int .i64 0)), (V (.int .i64 0))]
def pl_api_Mark : List (Nat × Nat) := [(0, 1), (1, 1), (2, 1)]
def pl_api_Marks : List (Nat × Nat) := [(0, 1), (1, 1), (2, 1)]
def pl_api_Stmt : List (Nat × Nat) := [(0, 1), (1, 1), (2, 1), (3, 1), (4, 1)]
noncomputable def marks_number_c : Code := (Try.f21.body).getD .skip
def marks_number_h : Hint := (.two .n (.two .n .n))
noncomputable def marks_number_env (m : Nat) : Env := []
noncomputable abbrev marks_number_fin : KO (AV × List AObj) := tellFK Try.prog [.tmp 2]
noncomputable def marks_number (m : Nat) (t0 : AV) : RO := exec Try.prog GG (marks_number_env m) m 9 marks_number_c marks_number_h ⟨[], argsT 0 [t0]⟩ (marks_number_fin)
theorem marks_number_eq (m : Nat) (t0 : AV) : marks_number m t0 =
  binE none false false .geq t0 (V (.int .i64 0)) fun t4 =>
  condE t4 (
   binE none false false .leq t0 (V (.int .i64 2147483647)) fun t7 =>
   tellK [] (ro [] t7)) (
   tellK [] (ro [] (V (.bool false)))) := by
  refine (tellX Try.prog GG (marks_number_env m) m 9 marks_number_c marks_number_h ⟨[], argsT 0 [t0]⟩ [.tmp 2]).trans ?_
  kernel_rfl
noncomputable def marks_number_t (m : Nat) : List AV → RO | [t0] => marks_number m t0 | _ => none
theorem marks_number_ok (m : Nat) : ∀ args X H', marks_number_t m args = some (X, H') → ACp Try.prog GG 21 args X := by
  intro args X H' h
  unfold marks_number_t at h
  split at h
  · exact tell_okK MIX (by intro f e h; cases h) (f := 21) (c := marks_number_c) Try.func21 rfl (by kernel_rfl) _ rfl Try.ntmps21 (Nat.le_of_ble_eq_true rfl) marks_number_h h
  · cases h
noncomputable def marks_Due_c : Code := (Try.f15.body).getD .skip
def marks_Due_h : Hint := (.two .n (.two .n .n))
noncomputable def marks_Due_env (m : Nat) : Env := []
noncomputable abbrev marks_Due_fin : KO (AV × List AObj) := tellFK Try.prog [.tmp 2]
noncomputable def marks_Due (m : Nat) (t0 : AV) : RO := exec Try.prog GG (marks_Due_env m) m 10 marks_Due_c marks_Due_h ⟨[], argsT 0 [t0]⟩ (marks_Due_fin)
theorem marks_Due_eq (m : Nat) (t0 : AV) : marks_Due m t0 =
  binE none false false .gtr t0 (V (.int .i64 0)) fun t4 =>
  condE t4 (
   binE none false false .rem t0 (V (.int .i64 4)) fun t7 =>
   binE none false false .eql t7 (V (.int .i64 0)) fun t8 =>
   tellK [] (ro [] t8)) (
   tellK [] (ro [] (V (.bool false)))) := by
  refine (tellX Try.prog GG (marks_Due_env m) m 10 marks_Due_c marks_Due_h ⟨[], argsT 0 [t0]⟩ [.tmp 2]).trans ?_
  kernel_rfl
noncomputable def marks_Due_t (m : Nat) : List AV → RO | [t0] => marks_Due m t0 | _ => none
theorem marks_Due_ok (m : Nat) : ∀ args X H', marks_Due_t m args = some (X, H') → ACp Try.prog GG 15 args X := by
  intro args X H' h
  unfold marks_Due_t at h
  split at h
  · exact tell_okK MIX (by intro f e h; cases h) (f := 15) (c := marks_Due_c) Try.func15 rfl (by kernel_rfl) _ rfl Try.ntmps15 (Nat.le_of_ble_eq_true rfl) marks_Due_h h
  · cases h
noncomputable def marks_in_c : Code := (Try.f22.body).getD .skip
def marks_in_h : Hint := (.two .n (.two .n .n))
noncomputable def marks_in_env (m : Nat) : Env := []
noncomputable abbrev marks_in_fin : KO (AV × List AObj) := tellFK Try.prog [.tmp 4]
noncomputable def marks_in (m : Nat) (t0 t1 : AV) : RO := exec Try.prog GG (marks_in_env m) m 18 marks_in_c marks_in_h ⟨[], argsT 0 [t0, t1]⟩ (marks_in_fin)
theorem marks_in_eq (m : Nat) (t0 t1 : AV) : marks_in m t0 t1 =
  binE none false false .gtr t1 t0 fun t7 =>
  condE t7 (
   binE none false false .sub t1 t0 fun t11 =>
   binE none false false .leq t11 (V (.int .i64 16)) fun t12 =>
   condE t12 (
   binE none false false .leq t1 (V (.int .i64 2147483647)) fun t16 =>
   tellK [] (ro [] t16)) (
   tellK [] (ro [] (V (.bool false))))) (
   tellK [] (ro [] (V (.bool false)))) := by
  refine (tellX Try.prog GG (marks_in_env m) m 18 marks_in_c marks_in_h ⟨[], argsT 0 [t0, t1]⟩ [.tmp 4]).trans ?_
  kernel_rfl
noncomputable def marks_in_t (m : Nat) : List AV → RO | [t0, t1] => marks_in m t0 t1 | _ => none
theorem marks_in_ok (m : Nat) : ∀ args X H', marks_in_t m args = some (X, H') → ACp Try.prog GG 22 args X := by
  intro args X H' h
  unfold marks_in_t at h
  split at h
  · exact tell_okK MIX (by intro f e h; cases h) (f := 22) (c := marks_in_c) Try.func22 rfl (by kernel_rfl) _ rfl Try.ntmps22 (Nat.le_of_ble_eq_true rfl) marks_in_h h
  · cases h
noncomputable def marks_May_c : Code := (Try.f8.body).getD .skip
def marks_May_h : Hint := (.two .n (.join [1] (.join [1, 20] .n (.two (.two .n .n) .n)) (.join [] (.two .n (.one (.lp [] [1, 22, 23, 24] [2] (.two .n (.two (.two .n .n) (.join [1, 22, 23, 24] (.one (.two .n (.join [1, 3, 4, 22, 23, 24] (.join [1, 3, 4, 22, 23, 24, 56] .n (.two (.two .n .n) .n)) (.join [1, 22, 23, 24, 69] .n (.two (.two .n .n) .n))))) .n)))))) (.two .n .n))))
noncomputable def marks_May_env (m : Nat) : Env := [(21, .tell (marks_number_t m)), (15, .tell (marks_Due_t m)), (22, .tell (marks_in_t m)), (24, .tell (marks_order_t m))]
noncomputable abbrev marks_May_fin : KO (AV × List AObj) := tellFK Try.prog [.tmp 2]
noncomputable def marks_May_r9 (m : Nat) (n0 : Nat) (kc : ASt → RO) (kx : KO (AV × List AObj)) (s : ASt) : RO := joinW Try.prog GG (marks_May_env m) m 71 (cdR (cdR (cdR (cdL (cdL (cdR (cdL (cdR (cdR marks_May_c))))))))) marks_May_h.r.r.l.r.c.c.r.r.r s (backW n0 [1, 22, 23, 24] [2] kc kx)
noncomputable def marks_May_r8 (m : Nat) (n0 : Nat) (kc : ASt → RO) (kx : KO (AV × List AObj)) (s : ASt) : RO := joinW Try.prog GG (marks_May_env m) m 71 (cdR (cdR (cdR (cdL (cdL (cdR (cdL (cdR (cdR marks_May_c))))))))) marks_May_h.r.r.l.r.c.c.r.r.r s (backW n0 [1, 22, 23, 24] [2] kc kx)
noncomputable def marks_May_r7 (m : Nat) (n0 : Nat) (kc : ASt → RO) (kx : KO (AV × List AObj)) (s : ASt) : RO := joinW Try.prog GG (marks_May_env m) m 71 (cdR (cdR (cdR (cdL (cdL (cdR (cdR (cdL (cdL (cdR (cdL (cdR (cdR marks_May_c))))))))))))) marks_May_h.r.r.l.r.c.c.r.r.l.c.r.r.r s (blockX 1 (seqX (fun s => marks_May_r9 m n0 kc kx ⟨s.H, [(1, gt s.T 1), (22, gt s.T 22), (23, gt s.T 23), (24, gt s.T 24)]⟩) (backW n0 [1, 22, 23, 24] [2] kc kx)))
noncomputable def marks_May_r6 (m : Nat) (n0 : Nat) (kc : ASt → RO) (kx : KO (AV × List AObj)) (s : ASt) : RO := joinW Try.prog GG (marks_May_env m) m 71 (cdR (cdR (cdR (cdL (cdL (cdR (cdL (cdR (cdR marks_May_c))))))))) marks_May_h.r.r.l.r.c.c.r.r.r s (backW n0 [1, 22, 23, 24] [2] kc kx)
noncomputable def marks_May_r5 (m : Nat) (n0 : Nat) (kc : ASt → RO) (kx : KO (AV × List AObj)) (s : ASt) : RO := joinW Try.prog GG (marks_May_env m) m 71 (cdR (cdR (cdL (cdL (cdR (cdR (cdL (cdL (cdR (cdL (cdR (cdR marks_May_c)))))))))))) marks_May_h.r.r.l.r.c.c.r.r.l.c.r.r s (blockX 1 (seqX (fun s => marks_May_r8 m n0 kc kx ⟨s.H, [(1, gt s.T 1), (22, gt s.T 22), (23, gt s.T 23), (24, gt s.T 24)]⟩) (backW n0 [1, 22, 23, 24] [2] kc kx)))
noncomputable def marks_May_r4 (m : Nat) (n0 : Nat) (kc : ASt → RO) (kx : KO (AV × List AObj)) (s : ASt) : RO := joinW Try.prog GG (marks_May_env m) m 71 (cdR (cdL (cdR (cdL (cdL (cdR (cdR (cdL (cdL (cdR (cdL (cdR (cdR marks_May_c))))))))))))) marks_May_h.r.r.l.r.c.c.r.r.l.c.r.l.r s (seqX (fun s => marks_May_r5 m n0 kc kx ⟨s.H, [(1, gt s.T 1), (3, gt s.T 3), (4, gt s.T 4), (22, gt s.T 22), (23, gt s.T 23), (24, gt s.T 24)]⟩) (blockX 1 (seqX (fun s => marks_May_r6 m n0 kc kx ⟨s.H, [(1, gt s.T 1), (22, gt s.T 22), (23, gt s.T 23), (24, gt s.T 24)]⟩) (backW n0 [1, 22, 23, 24] [2] kc kx))))
noncomputable def marks_May_r3 (m : Nat) (s : ASt) : RO := joinW Try.prog GG (marks_May_env m) m 71 (cdR (cdR (cdR marks_May_c))) marks_May_h.r.r.r s (marks_May_fin)
noncomputable def marks_May_b1 (m : Nat) (s : ASt) (kc : ASt → RO) (kx : KO (AV × List AObj)) : RO := bodyW Try.prog GG (marks_May_env m) m 71 (cdL (cdL (cdR (cdL (cdR (cdR marks_May_c)))))) marks_May_h.r.r.l.r.c.c [1, 22, 23, 24] [2] s kc kx
noncomputable def marks_May_r2 (m : Nat) (s : ASt) : RO := joinW Try.prog GG (marks_May_env m) m 71 (cdR (cdR marks_May_c)) marks_May_h.r.r s (marks_May_fin)
noncomputable def marks_May_r1 (m : Nat) (s : ASt) : RO := joinW Try.prog GG (marks_May_env m) m 71 (cdR (cdL (cdR marks_May_c))) marks_May_h.r.l.r s (seqX (fun s => marks_May_r2 m ⟨s.H, [(1, gt s.T 1)]⟩) (marks_May_fin))
noncomputable def marks_May (m : Nat) (t0 : AV) : RO := exec Try.prog GG (marks_May_env m) m 71 marks_May_c marks_May_h ⟨[], argsT 0 [t0]⟩ (marks_May_fin)
theorem marks_May_r9_eq (m : Nat) (n0 : Nat) (kc : ASt → RO) (kx : KO (AV × List AObj)) (H : List AObj) (t1 t22 t23 t24 : AV) : marks_May_r9 m n0 kc kx ⟨H, [(1, t1), (22, t22), (23, t23), (24, t24)]⟩ =
  binE none false false .add t24 (V (.int .i64 1)) fun t70 =>
  backE n0 H [(1, t1), (22, t22), (23, t23), (24, t70)] kc := by
  refine (joinW_eq Try.prog GG (marks_May_env m) m 71 (cdR (cdR (cdR (cdL (cdL (cdR (cdL (cdR (cdR marks_May_c))))))))) marks_May_h.r.r.l.r.c.c.r.r.r ⟨H, [(1, t1), (22, t22), (23, t23), (24, t24)]⟩ (backW n0 [1, 22, 23, 24] [2] kc kx)).trans ?_
  kernel_rfl
theorem marks_May_r8_eq (m : Nat) (n0 : Nat) (kc : ASt → RO) (kx : KO (AV × List AObj)) (H : List AObj) (t1 t22 t23 t24 : AV) : marks_May_r8 m n0 kc kx ⟨H, [(1, t1), (22, t22), (23, t23), (24, t24)]⟩ =
  binE none false false .add t24 (V (.int .i64 1)) fun t70 =>
  backE n0 H [(1, t1), (22, t22), (23, t23), (24, t70)] kc := by
  refine (joinW_eq Try.prog GG (marks_May_env m) m 71 (cdR (cdR (cdR (cdL (cdL (cdR (cdL (cdR (cdR marks_May_c))))))))) marks_May_h.r.r.l.r.c.c.r.r.r ⟨H, [(1, t1), (22, t22), (23, t23), (24, t24)]⟩ (backW n0 [1, 22, 23, 24] [2] kc kx)).trans ?_
  kernel_rfl
theorem marks_May_r7_eq (m : Nat) (n0 : Nat) (kc : ASt → RO) (kx : KO (AV × List AObj)) (H : List AObj) (t1 t22 t23 t24 t69 : AV) : marks_May_r7 m n0 kc kx ⟨H, [(1, t1), (22, t22), (23, t23), (24, t24), (69, t69)]⟩ =
  condE t69 (
   kx .ret ⟨H, [(2, (V (.bool false)))]⟩) (
   marks_May_r9 m n0 kc kx ⟨H, [(1, t1), (22, t22), (23, t23), (24, t24)]⟩) := by
  refine (joinW_eq Try.prog GG (marks_May_env m) m 71 (cdR (cdR (cdR (cdL (cdL (cdR (cdR (cdL (cdL (cdR (cdL (cdR (cdR marks_May_c))))))))))))) marks_May_h.r.r.l.r.c.c.r.r.l.c.r.r.r ⟨H, [(1, t1), (22, t22), (23, t23), (24, t24), (69, t69)]⟩ (blockX 1 (seqX (fun s => marks_May_r9 m n0 kc kx ⟨s.H, [(1, gt s.T 1), (22, gt s.T 22), (23, gt s.T 23), (24, gt s.T 24)]⟩) (backW n0 [1, 22, 23, 24] [2] kc kx)))).trans ?_
  kernel_rfl
theorem marks_May_r6_eq (m : Nat) (n0 : Nat) (kc : ASt → RO) (kx : KO (AV × List AObj)) (H : List AObj) (t1 t22 t23 t24 : AV) : marks_May_r6 m n0 kc kx ⟨H, [(1, t1), (22, t22), (23, t23), (24, t24)]⟩ =
  binE none false false .add t24 (V (.int .i64 1)) fun t70 =>
  backE n0 H [(1, t1), (22, t22), (23, t23), (24, t70)] kc := by
  refine (joinW_eq Try.prog GG (marks_May_env m) m 71 (cdR (cdR (cdR (cdL (cdL (cdR (cdL (cdR (cdR marks_May_c))))))))) marks_May_h.r.r.l.r.c.c.r.r.r ⟨H, [(1, t1), (22, t22), (23, t23), (24, t24)]⟩ (backW n0 [1, 22, 23, 24] [2] kc kx)).trans ?_
  kernel_rfl
theorem marks_May_r5_eq (m : Nat) (n0 : Nat) (kc : ASt → RO) (kx : KO (AV × List AObj)) (H : List AObj) (t1 t3 t4 t22 t23 t24 : AV) : marks_May_r5 m n0 kc kx ⟨H, [(1, t1), (3, t3), (4, t4), (22, t22), (23, t23), (24, t24)]⟩ =
  binE none false false .gtr t3 (V (.int .i64 0)) fun t58 =>
  condE t58 (
   fieldE (some (2, 1)) t1 fun t60 =>
   loadE 1 H t60 fun t61 =>
   binE none false false .sub t3 (V (.int .i64 1)) fun t63 =>
   idxSE 5 H t61 t63 fun t64 =>
   loadE 5 H t64 fun t65 =>
   loadE 5 H t4 fun t66 =>
   tellE (marks_order m (ro H t65) (ro H t66)) [(ro H t65), (ro H t66)] fun t67 =>
   binE none false false .geq t67 (V (.int .i64 0)) fun t68 =>
   marks_May_r7 m n0 kc kx ⟨H, [(1, t1), (22, t22), (23, t23), (24, t24), (69, t68)]⟩) (
   marks_May_r7 m n0 kc kx ⟨H, [(1, t1), (22, t22), (23, t23), (24, t24), (69, (V (.bool false)))]⟩) := by
  refine (joinW_eq Try.prog GG (marks_May_env m) m 71 (cdR (cdR (cdL (cdL (cdR (cdR (cdL (cdL (cdR (cdL (cdR (cdR marks_May_c)))))))))))) marks_May_h.r.r.l.r.c.c.r.r.l.c.r.r ⟨H, [(1, t1), (3, t3), (4, t4), (22, t22), (23, t23), (24, t24)]⟩ (blockX 1 (seqX (fun s => marks_May_r8 m n0 kc kx ⟨s.H, [(1, gt s.T 1), (22, gt s.T 22), (23, gt s.T 23), (24, gt s.T 24)]⟩) (backW n0 [1, 22, 23, 24] [2] kc kx)))).trans ?_
  kernel_rfl
theorem marks_May_r4_eq (m : Nat) (n0 : Nat) (kc : ASt → RO) (kx : KO (AV × List AObj)) (H : List AObj) (t1 t3 t4 t22 t23 t24 t56 : AV) : marks_May_r4 m n0 kc kx ⟨H, [(1, t1), (3, t3), (4, t4), (22, t22), (23, t23), (24, t24), (56, t56)]⟩ =
  condE t56 (
   kx .ret ⟨H, [(2, (V (.bool false)))]⟩) (
   marks_May_r5 m n0 kc kx ⟨H, [(1, t1), (3, t3), (4, t4), (22, t22), (23, t23), (24, t24)]⟩) := by
  refine (joinW_eq Try.prog GG (marks_May_env m) m 71 (cdR (cdL (cdR (cdL (cdL (cdR (cdR (cdL (cdL (cdR (cdL (cdR (cdR marks_May_c))))))))))))) marks_May_h.r.r.l.r.c.c.r.r.l.c.r.l.r ⟨H, [(1, t1), (3, t3), (4, t4), (22, t22), (23, t23), (24, t24), (56, t56)]⟩ (seqX (fun s => marks_May_r5 m n0 kc kx ⟨s.H, [(1, gt s.T 1), (3, gt s.T 3), (4, gt s.T 4), (22, gt s.T 22), (23, gt s.T 23), (24, gt s.T 24)]⟩) (blockX 1 (seqX (fun s => marks_May_r6 m n0 kc kx ⟨s.H, [(1, gt s.T 1), (22, gt s.T 22), (23, gt s.T 23), (24, gt s.T 24)]⟩) (backW n0 [1, 22, 23, 24] [2] kc kx))))).trans ?_
  kernel_rfl
theorem marks_May_r3_eq (m : Nat) (H : List AObj) : marks_May_r3 m ⟨H, []⟩ =
  tellK H (ro H (V (.bool true))) := by
  refine (joinW_eq Try.prog GG (marks_May_env m) m 71 (cdR (cdR (cdR marks_May_c))) marks_May_h.r.r.r ⟨H, []⟩ (marks_May_fin)).trans ?_
  kernel_rfl
theorem marks_May_b1_eq (m : Nat) (H : List AObj) (t1 t22 t23 t24 : AV) (kc : ASt → RO) (kx : KO (AV × List AObj)) : marks_May_b1 m ⟨H, [(1, t1), (22, t22), (23, t23), (24, t24)]⟩ kc kx =
  binE none false false .lss t24 t23 fun t25 =>
  condE t25 (
   idxSE 5 H t22 t24 fun t27 =>
   loadE 5 H t27 fun t28 =>
   allocE (some zc_api_Mark) ty_api_Mark H fun t4 H2 =>
   storeE 5 H2 t4 t28 fun H3 =>
   fieldE (some (0, 1)) t4 fun t29 =>
   loadE 1 H3 t29 fun t30 =>
   binE none false false .lss t30 (V (.int .i64 0)) fun t31 =>
   condE t31 (
    marks_May_r4 m H.length kc kx ⟨H3, [(1, t1), (3, t24), (4, t4), (22, t22), (23, t23), (24, t24), (56, (V (.bool true)))]⟩) (
    fieldE (some (0, 1)) t4 fun t33 =>
    loadE 1 H3 t33 fun t34 =>
    binE none false false .geq t34 (V (.int .i64 64)) fun t35 =>
    condE t35 (
    marks_May_r4 m H.length kc kx ⟨H3, [(1, t1), (3, t24), (4, t4), (22, t22), (23, t23), (24, t24), (56, (V (.bool true)))]⟩) (
    fieldE (some (1, 1)) t4 fun t38 =>
    loadE 1 H3 t38 fun t39 =>
    tellE (marks_Due m (ro H3 t39)) [(ro H3 t39)] fun t40 =>
    unE .not t40 fun t41 =>
    condE t41 (
    marks_May_r4 m H.length kc kx ⟨H3, [(1, t1), (3, t24), (4, t4), (22, t22), (23, t23), (24, t24), (56, (V (.bool true)))]⟩) (
    fieldE (some (0, 1)) t1 fun t44 =>
    loadE 1 H3 t44 fun t45 =>
    fieldE (some (1, 1)) t4 fun t46 =>
    loadE 1 H3 t46 fun t47 =>
    tellE (marks_in m (ro H3 t45) (ro H3 t47)) [(ro H3 t45), (ro H3 t47)] fun t48 =>
    unE .not t48 fun t49 =>
    condE t49 (
    marks_May_r4 m H.length kc kx ⟨H3, [(1, t1), (3, t24), (4, t4), (22, t22), (23, t23), (24, t24), (56, (V (.bool true)))]⟩) (
    fieldE (some (2, 1)) t4 fun t52 =>
    loadE 1 H3 t52 fun t53 =>
    tellE (marks_number m (ro H3 t53)) [(ro H3 t53)] fun t54 =>
    unE .not t54 fun t55 =>
    marks_May_r4 m H.length kc kx ⟨H3, [(1, t1), (3, t24), (4, t4), (22, t22), (23, t23), (24, t24), (56, t55)]⟩))))) (
   kx (.exit 0) ⟨H, [(2, .nil)]⟩) := by
  refine (bodyW_eq Try.prog GG (marks_May_env m) m 71 (cdL (cdL (cdR (cdL (cdR (cdR marks_May_c)))))) marks_May_h.r.r.l.r.c.c [1, 22, 23, 24] [2] ⟨H, [(1, t1), (22, t22), (23, t23), (24, t24)]⟩ kc kx).trans ?_
  kernel_rfl
theorem marks_May_r2_eq (m : Nat) (H : List AObj) (t1 : AV) : marks_May_r2 m ⟨H, [(1, t1)]⟩ =
  fieldE (some (2, 1)) t1 fun t21 =>
  loadE 1 H t21 fun t22 =>
  lenE false true H t22 fun t23 =>
  iterC m (marks_May_b1 m) ⟨H, [(1, t1), (22, t22), (23, t23), (24, (V (.int .i64 0)))]⟩ (blockX 0 (seqX (fun s => marks_May_r3 m ⟨s.H, []⟩) (marks_May_fin))) := by
  refine (joinW_eq Try.prog GG (marks_May_env m) m 71 (cdR (cdR marks_May_c)) marks_May_h.r.r ⟨H, [(1, t1)]⟩ (marks_May_fin)).trans ?_
  kernel_rfl
theorem marks_May_r1_eq (m : Nat) (H : List AObj) (t1 t20 : AV) : marks_May_r1 m ⟨H, [(1, t1), (20, t20)]⟩ =
  condE t20 (
   tellK H (ro H (V (.bool false)))) (
   marks_May_r2 m ⟨H, [(1, t1)]⟩) := by
  refine (joinW_eq Try.prog GG (marks_May_env m) m 71 (cdR (cdL (cdR marks_May_c))) marks_May_h.r.l.r ⟨H, [(1, t1), (20, t20)]⟩ (seqX (fun s => marks_May_r2 m ⟨s.H, [(1, gt s.T 1)]⟩) (marks_May_fin))).trans ?_
  kernel_rfl
theorem marks_May_eq (m : Nat) (t0 : AV) : marks_May m t0 =
  boxE ty_api_Marks [] t0 fun t1 H1 =>
  fieldE (some (0, 1)) t1 fun t5 =>
  loadE 1 H1 t5 fun t6 =>
  tellE (marks_number m (ro H1 t6)) [(ro H1 t6)] fun t7 =>
  unE .not t7 fun t8 =>
  condE t8 (
   marks_May_r1 m ⟨H1, [(1, t1), (20, (V (.bool true)))]⟩) (
   fieldE (some (0, 1)) t1 fun t10 =>
   loadE 1 H1 t10 fun t11 =>
   binE none false false .rem t11 (V (.int .i64 4)) fun t12 =>
   binE none false false .neq t12 (V (.int .i64 0)) fun t13 =>
   condE t13 (
   marks_May_r1 m ⟨H1, [(1, t1), (20, (V (.bool true)))]⟩) (
   fieldE (some (1, 1)) t1 fun t16 =>
   loadE 1 H1 t16 fun t17 =>
   tellE (marks_number m (ro H1 t17)) [(ro H1 t17)] fun t18 =>
   unE .not t18 fun t19 =>
   marks_May_r1 m ⟨H1, [(1, t1), (20, t19)]⟩)) := by
  refine (tellX Try.prog GG (marks_May_env m) m 71 marks_May_c marks_May_h ⟨[], argsT 0 [t0]⟩ [.tmp 2]).trans ?_
  kernel_rfl
noncomputable def marks_May_t (m : Nat) : List AV → RO | [t0] => marks_May m t0 | _ => none
theorem marks_May_ok (m : Nat) : ∀ args X H', marks_May_t m args = some (X, H') → ACp Try.prog GG 8 args X := by
  intro args X H' h
  unfold marks_May_t at h
  split at h
  · exact tell_okK MIX (by
    intro f e h
    simp only [marks_May_env, Prod.mk.injEq, List.mem_cons, List.not_mem_nil, or_false] at h
    rcases h with ⟨rfl, rfl⟩ | ⟨rfl, rfl⟩ | ⟨rfl, rfl⟩ | ⟨rfl, rfl⟩
    · exact marks_number_ok m
    · exact marks_Due_ok m
    · exact marks_in_ok m
    · exact marks_order_ok m) (f := 8) (c := marks_May_c) Try.func8 rfl (by kernel_rfl) _ rfl Try.ntmps8 (Nat.le_of_ble_eq_true rfl) marks_May_h h
  · cases h
noncomputable def marks_In_c : Code := (Try.f13.body).getD .skip
def marks_In_h : Hint := (.two .n (.two .n .n))
noncomputable def marks_In_env (m : Nat) : Env := [(8, .tell (marks_May_t m)), (22, .tell (marks_in_t m))]
noncomputable abbrev marks_In_fin : KO (AV × List AObj) := tellFK Try.prog [.tmp 4]
noncomputable def marks_In (m : Nat) (t0 t1 : AV) : RO := exec Try.prog GG (marks_In_env m) m 13 marks_In_c marks_In_h ⟨[], argsT 0 [t0, t1]⟩ (marks_In_fin)
theorem marks_In_eq (m : Nat) (t0 t1 : AV) : marks_In m t0 t1 =
  boxE ty_api_Marks [] t0 fun t2 H1 =>
  loadE 5 H1 t2 fun t5 =>
  tellE (marks_May m (ro H1 t5)) [(ro H1 t5)] fun t6 =>
  condE t6 (
   fieldE (some (0, 1)) t2 fun t8 =>
   loadE 1 H1 t8 fun t9 =>
   tellE (marks_in m (ro H1 t9) (ro H1 t1)) [(ro H1 t9), (ro H1 t1)] fun t11 =>
   tellK H1 (ro H1 t11)) (
   tellK H1 (ro H1 (V (.bool false)))) := by
  refine (tellX Try.prog GG (marks_In_env m) m 13 marks_In_c marks_In_h ⟨[], argsT 0 [t0, t1]⟩ [.tmp 4]).trans ?_
  kernel_rfl
noncomputable def marks_In_t (m : Nat) : List AV → RO | [t0, t1] => marks_In m t0 t1 | _ => none
theorem marks_In_ok (m : Nat) : ∀ args X H', marks_In_t m args = some (X, H') → ACp Try.prog GG 13 args X := by
  intro args X H' h
  unfold marks_In_t at h
  split at h
  · exact tell_okK MIX (by
    intro f e h
    simp only [marks_In_env, Prod.mk.injEq, List.mem_cons, List.not_mem_nil, or_false] at h
    rcases h with ⟨rfl, rfl⟩ | ⟨rfl, rfl⟩
    · exact marks_May_ok m
    · exact marks_in_ok m) (f := 13) (c := marks_In_c) Try.func13 rfl (by kernel_rfl) _ rfl Try.ntmps13 (Nat.le_of_ble_eq_true rfl) marks_In_h h
  · cases h
noncomputable def marks_stable_c : Code := (Try.f27.body).getD .skip
def marks_stable_h : Hint := (.two .n (.two .n (.join [2, 7] (.two .n (.one (.lp [] [2, 4, 7, 10, 11, 12] [2, 7] (.two .n (.two (.two .n .n) (.join [2, 4, 7, 10, 11, 12] (.one (.two .n (.join [2, 4, 7, 9, 10, 11, 12, 27] .n (.two .n .n)))) .n)))))) (.two .n .n))))
noncomputable def marks_stable_env (m : Nat) : Env := [(36, .tell (quorum_IsStrong_t m)), (35, .tell (quorum_With_t m))]
noncomputable abbrev marks_stable_fin : KO (AV × List AObj) := tellFK Try.prog [.tmp 6]
noncomputable def marks_stable_r3 (m : Nat) (n0 : Nat) (kc : ASt → RO) (kx : KO (AV × List AObj)) (s : ASt) : RO := joinW Try.prog GG (marks_stable_env m) m 36 (cdR (cdR (cdR (cdL (cdL (cdR (cdL (cdR (cdR marks_stable_c))))))))) marks_stable_h.r.r.l.r.c.c.r.r.r s (backW n0 [2, 4, 7, 10, 11, 12] [2, 7] kc kx)
noncomputable def marks_stable_r2 (m : Nat) (n0 : Nat) (kc : ASt → RO) (kx : KO (AV × List AObj)) (s : ASt) : RO := joinW Try.prog GG (marks_stable_env m) m 36 (cdR (cdR (cdL (cdL (cdR (cdR (cdL (cdL (cdR (cdL (cdR (cdR marks_stable_c)))))))))))) marks_stable_h.r.r.l.r.c.c.r.r.l.c.r.r s (blockX 1 (seqX (fun s => marks_stable_r3 m n0 kc kx ⟨s.H, [(2, gt s.T 2), (4, gt s.T 4), (7, gt s.T 7), (10, gt s.T 10), (11, gt s.T 11), (12, gt s.T 12)]⟩) (backW n0 [2, 4, 7, 10, 11, 12] [2, 7] kc kx)))
noncomputable def marks_stable_r1 (m : Nat) (s : ASt) : RO := joinW Try.prog GG (marks_stable_env m) m 36 (cdR (cdR (cdR marks_stable_c))) marks_stable_h.r.r.r s (marks_stable_fin)
noncomputable def marks_stable_b1 (m : Nat) (s : ASt) (kc : ASt → RO) (kx : KO (AV × List AObj)) : RO := bodyW Try.prog GG (marks_stable_env m) m 36 (cdL (cdL (cdR (cdL (cdR (cdR marks_stable_c)))))) marks_stable_h.r.r.l.r.c.c [2, 4, 7, 10, 11, 12] [2, 7] s kc kx
noncomputable def marks_stable (m : Nat) (t0 t1 t2 : AV) : RO := exec Try.prog GG (marks_stable_env m) m 36 marks_stable_c marks_stable_h ⟨[], argsT 0 [t0, t1, t2]⟩ (marks_stable_fin)
theorem marks_stable_r3_eq (m : Nat) (n0 : Nat) (kc : ASt → RO) (kx : KO (AV × List AObj)) (H : List AObj) (t2 t4 t7 t10 t11 t12 : AV) : marks_stable_r3 m n0 kc kx ⟨H, [(2, t2), (4, t4), (7, t7), (10, t10), (11, t11), (12, t12)]⟩ =
  binE none false false .add t12 (V (.int .i64 1)) fun t32 =>
  backE n0 H [(2, t2), (4, t4), (7, t7), (10, t10), (11, t11), (12, t32)] kc := by
  refine (joinW_eq Try.prog GG (marks_stable_env m) m 36 (cdR (cdR (cdR (cdL (cdL (cdR (cdL (cdR (cdR marks_stable_c))))))))) marks_stable_h.r.r.l.r.c.c.r.r.r ⟨H, [(2, t2), (4, t4), (7, t7), (10, t10), (11, t11), (12, t12)]⟩ (backW n0 [2, 4, 7, 10, 11, 12] [2, 7] kc kx)).trans ?_
  kernel_rfl
theorem marks_stable_r2_eq (m : Nat) (n0 : Nat) (kc : ASt → RO) (kx : KO (AV × List AObj)) (H : List AObj) (t2 t4 t7 t9 t10 t11 t12 t27 : AV) : marks_stable_r2 m n0 kc kx ⟨H, [(2, t2), (4, t4), (7, t7), (9, t9), (10, t10), (11, t11), (12, t12), (27, t27)]⟩ =
  condE t27 (
   fieldE (some (0, 1)) t9 fun t29 =>
   loadE 1 H t29 fun t30 =>
   tellE (quorum_With m (ro H t7) (ro H t30)) [(ro H t7), (ro H t30)] fun t31 =>
   marks_stable_r3 m n0 kc kx ⟨H, [(2, t2), (4, t4), (7, t31), (10, t10), (11, t11), (12, t12)]⟩) (
   marks_stable_r3 m n0 kc kx ⟨H, [(2, t2), (4, t4), (7, t7), (10, t10), (11, t11), (12, t12)]⟩) := by
  refine (joinW_eq Try.prog GG (marks_stable_env m) m 36 (cdR (cdR (cdL (cdL (cdR (cdR (cdL (cdL (cdR (cdL (cdR (cdR marks_stable_c)))))))))))) marks_stable_h.r.r.l.r.c.c.r.r.l.c.r.r ⟨H, [(2, t2), (4, t4), (7, t7), (9, t9), (10, t10), (11, t11), (12, t12), (27, t27)]⟩ (blockX 1 (seqX (fun s => marks_stable_r3 m n0 kc kx ⟨s.H, [(2, gt s.T 2), (4, gt s.T 4), (7, gt s.T 7), (10, gt s.T 10), (11, gt s.T 11), (12, gt s.T 12)]⟩) (backW n0 [2, 4, 7, 10, 11, 12] [2, 7] kc kx)))).trans ?_
  kernel_rfl
theorem marks_stable_r1_eq (m : Nat) (H : List AObj) (t2 t7 : AV) : marks_stable_r1 m ⟨H, [(2, t2), (7, t7)]⟩ =
  tellE (quorum_IsStrong m (ro H t7) (ro H t2)) [(ro H t7), (ro H t2)] fun t35 =>
  tellK H (ro H t35) := by
  refine (joinW_eq Try.prog GG (marks_stable_env m) m 36 (cdR (cdR (cdR marks_stable_c))) marks_stable_h.r.r.r ⟨H, [(2, t2), (7, t7)]⟩ (marks_stable_fin)).trans ?_
  kernel_rfl
theorem marks_stable_b1_eq (m : Nat) (H : List AObj) (t2 t4 t7 t10 t11 t12 : AV) (kc : ASt → RO) (kx : KO (AV × List AObj)) : marks_stable_b1 m ⟨H, [(2, t2), (4, t4), (7, t7), (10, t10), (11, t11), (12, t12)]⟩ kc kx =
  binE none false false .lss t12 t11 fun t13 =>
  condE t13 (
   idxSE 5 H t10 t12 fun t14 =>
   loadE 5 H t14 fun t15 =>
   allocE (some zc_api_Mark) ty_api_Mark H fun t9 H2 =>
   storeE 5 H2 t9 t15 fun H3 =>
   fieldE (some (1, 1)) t9 fun t16 =>
   loadE 1 H3 t16 fun t17 =>
   fieldE (some (1, 1)) t4 fun t18 =>
   loadE 1 H3 t18 fun t19 =>
   binE none false false .eql t17 t19 fun t20 =>
   condE t20 (
    fieldE (some (2, 1)) t9 fun t22 =>
    loadE 1 H3 t22 fun t23 =>
    fieldE (some (2, 1)) t4 fun t24 =>
    loadE 1 H3 t24 fun t25 =>
    binE none false false .eql t23 t25 fun t26 =>
    marks_stable_r2 m H.length kc kx ⟨H3, [(2, t2), (4, t4), (7, t7), (9, t9), (10, t10), (11, t11), (12, t12), (27, t26)]⟩) (
    marks_stable_r2 m H.length kc kx ⟨H3, [(2, t2), (4, t4), (7, t7), (9, t9), (10, t10), (11, t11), (12, t12), (27, (V (.bool false)))]⟩)) (
   kx (.exit 0) ⟨H, [(2, t2), (7, t7)]⟩) := by
  refine (bodyW_eq Try.prog GG (marks_stable_env m) m 36 (cdL (cdL (cdR (cdL (cdR (cdR marks_stable_c)))))) marks_stable_h.r.r.l.r.c.c [2, 4, 7, 10, 11, 12] [2, 7] ⟨H, [(2, t2), (4, t4), (7, t7), (10, t10), (11, t11), (12, t12)]⟩ kc kx).trans ?_
  kernel_rfl
theorem marks_stable_eq (m : Nat) (t0 t1 t2 : AV) : marks_stable m t0 t1 t2 =
  boxE ty_api_Mark [] t1 fun t4 H1 =>
  lenE false true H1 t0 fun t11 =>
  iterC m (marks_stable_b1 m) ⟨H1, [(2, t2), (4, t4), (7, (V (.int .u64 0))), (10, t0), (11, t11), (12, (V (.int .i64 0)))]⟩ (blockX 0 (seqX (fun s => marks_stable_r1 m ⟨s.H, [(2, gt s.T 2), (7, gt s.T 7)]⟩) (marks_stable_fin))) := by
  refine (tellX Try.prog GG (marks_stable_env m) m 36 marks_stable_c marks_stable_h ⟨[], argsT 0 [t0, t1, t2]⟩ [.tmp 6]).trans ?_
  kernel_rfl
noncomputable def marks_stable_t (m : Nat) : List AV → RO | [t0, t1, t2] => marks_stable m t0 t1 t2 | _ => none
theorem marks_stable_ok (m : Nat) : ∀ args X H', marks_stable_t m args = some (X, H') → ACp Try.prog GG 27 args X := by
  intro args X H' h
  unfold marks_stable_t at h
  split at h
  · exact tell_okK MIX (by
    intro f e h
    simp only [marks_stable_env, Prod.mk.injEq, List.mem_cons, List.not_mem_nil, or_false] at h
    rcases h with ⟨rfl, rfl⟩ | ⟨rfl, rfl⟩
    · exact quorum_IsStrong_ok m
    · exact quorum_With_ok m) (f := 27) (c := marks_stable_c) Try.func27 rfl (by kernel_rfl) _ rfl Try.ntmps27 (Nat.le_of_ble_eq_true rfl) marks_stable_h h
  · cases h
noncomputable def marks_moved_c : Code := (Try.f28.body).getD .skip
def marks_moved_h : Hint := (.two .n (.two .n (.two .n .n)))
noncomputable def marks_moved_env (m : Nat) : Env := [(26, .add (slices_Clone_Mark_t m)), (37, .keep (slices_DeleteFuncD_Mark_t m))]
noncomputable abbrev marks_moved_fin : KO (AV × List AObj) := tellFK Try.prog [.cell 6 24]
noncomputable def marks_moved (m : Nat) (t0 t1 t2 : AV) : RO := exec Try.prog GG (marks_moved_env m) m 17 marks_moved_c marks_moved_h ⟨[], argsT 0 [t0, t1, t2]⟩ (marks_moved_fin)
theorem marks_moved_eq (m : Nat) (t0 t1 t2 : AV) : marks_moved m t0 t1 t2 =
  boxE ty_api_Marks [] t0 fun t3 H1 =>
  boxE ty_int H1 t1 fun t4 H2 =>
  allocE (some zc_api_Marks) ty_api_Marks H2 fun t6 H3 =>
  fieldE (some (2, 1)) t3 fun t8 =>
  loadE 1 H3 t8 fun t9 =>
  addE (slices_Clone_Mark_t m [(ro H3 t9)] H3.length) H3 fun t10 H4 =>
  whenE (([t4] : List AV).all cap0) (
  keepE (slices_DeleteFuncD_Mark_t m [(ro H4 t10), (ro H4 (CL (.func 38) 0 [t4]))] H4) fun t12 H5 =>
  loadE 1 H5 t4 fun t13 =>
  buildE (some pl_api_Marks) (some zc_api_Marks) [(0, t13), (1, t2), (2, t12)] fun t16 =>
  storeE 5 H5 t6 t16 fun H6 =>
  loadE 5 H6 t6 fun t9000 =>
  tellK H6 (ro H6 t9000)) := by
  refine (tellX Try.prog GG (marks_moved_env m) m 17 marks_moved_c marks_moved_h ⟨[], argsT 0 [t0, t1, t2]⟩ [.cell 6 24]).trans ?_
  kernel_rfl
noncomputable def marks_moved_t (m : Nat) : List AV → RO | [t0, t1, t2] => marks_moved m t0 t1 t2 | _ => none
theorem marks_moved_ok (m : Nat) : ∀ args X H', marks_moved_t m args = some (X, H') → ACp Try.prog GG 28 args X := by
  intro args X H' h
  unfold marks_moved_t at h
  split at h
  · exact tell_okK MIX (by
    intro f e h
    simp only [marks_moved_env, Prod.mk.injEq, List.mem_cons, List.not_mem_nil, or_false] at h
    rcases h with ⟨rfl, rfl⟩ | ⟨rfl, rfl⟩
    · exact slices_Clone_Mark_ok m
    · exact slices_DeleteFuncD_Mark_ok m) (f := 28) (c := marks_moved_c) Try.func28 rfl (by kernel_rfl) _ rfl Try.ntmps28 (Nat.le_of_ble_eq_true rfl) marks_moved_h h
  · cases h
noncomputable def marks_Say_c : Code := (Try.f7.body).getD .skip
def marks_Say_h : Hint := (.two .n (.two .n (.join [2, 3, 4, 6] (.one (.join [2, 3, 4, 6, 18] .n (.two (.two .n .n) (.two .n (.two (.two .n .n) .n))))) (.two .n (.two (.two .n (.two (.two (.two .n (.two (.two .n .n) .n)) (.two .n .n)) .n)) (.two .n (.two (.two .n (.two (.two .n .n) .n)) (.two .n .n))))))))
noncomputable def marks_Say_env (m : Nat) : Env := [(20, .tell (quorum_Faults_t m)), (8, .tell (marks_May_t m)), (21, .tell (marks_number_t m)), (15, .tell (marks_Due_t m)), (22, .tell (marks_in_t m)), (23, .keep (slices_BinarySearchFuncV_Mark_t m)), (26, .add (slices_Clone_Mark_t m)), (25, .keep (slices_Insert_Mark_t m)), (27, .tell (marks_stable_t m)), (28, .tell (marks_moved_t m))]
noncomputable abbrev marks_Say_fin : KO (AV × List AObj) := tellFK Try.prog [.cell 6 24, .tmp 7, .tmp 8]
noncomputable def marks_Say_r2 (m : Nat) (s : ASt) : RO := joinW Try.prog GG (marks_Say_env m) m 97 (cdR (cdR (cdR marks_Say_c))) marks_Say_h.r.r.r s (marks_Say_fin)
noncomputable def marks_Say_r1 (m : Nat) (s : ASt) : RO := joinW Try.prog GG (marks_Say_env m) m 97 (cdR (cdL (cdL (cdR (cdR marks_Say_c))))) marks_Say_h.r.r.l.c.r s (blockX 0 (seqX (fun s => marks_Say_r2 m ⟨s.H, [(2, gt s.T 2), (3, gt s.T 3), (4, gt s.T 4), (6, gt s.T 6)]⟩) (marks_Say_fin)))
noncomputable def marks_Say (m : Nat) (t0 t1 t2 : AV) : RO := exec Try.prog GG (marks_Say_env m) m 97 marks_Say_c marks_Say_h ⟨[], argsT 0 [t0, t1, t2]⟩ (marks_Say_fin)
theorem marks_Say_r2_eq (m : Nat) (H : List AObj) (t2 t3 t4 t6 : AV) : marks_Say_r2 m ⟨H, [(2, t2), (3, t3), (4, t4), (6, t6)]⟩ =
  fieldE (some (2, 1)) t3 fun t59 =>
  loadE 1 H t59 fun t60 =>
  loadE 5 H t4 fun t61 =>
  keepE (slices_BinarySearchFuncV_Mark_t m [(ro H t60), (ro H t61), (ro H (V (.func (.func 24) #[] #[])))] H) fun t62 H2 =>
  extE t62 0 fun t63 =>
  extE t62 1 fun t64 =>
  condE t64 (
   fieldE (some (2, 1)) t3 fun t66 =>
   loadE 1 H2 t66 fun t67 =>
   idxSE 5 H2 t67 t63 fun t69 =>
   fieldE (some (2, 1)) t69 fun t70 =>
   loadE 1 H2 t70 fun t71 =>
   fieldE (some (2, 1)) t4 fun t72 =>
   loadE 1 H2 t72 fun t73 =>
   binE none false false .eql t71 t73 fun t74 =>
   condE t74 (
    buildE (some pl_api_Marks) (some zc_api_Marks) [] fun t75 =>
    storeE 5 H2 t6 t75 fun H3 =>
    loadE 5 H3 t6 fun t9000 =>
    tellK H3 (ro H3 (TU [noT t9000, noT (V (.bool false)), noT (V (.int .i64 16))]))) (
    buildE (some pl_api_Marks) (some zc_api_Marks) [] fun t76 =>
    storeE 5 H2 t6 t76 fun H3 =>
    loadE 5 H3 t6 fun t9000 =>
    tellK H3 (ro H3 (TU [noT t9000, noT (V (.bool false)), noT (V (.int .i64 23))])))) (
   fieldE (some (2, 1)) t3 fun t77 =>
   loadE 1 H2 t77 fun t78 =>
   addE (slices_Clone_Mark_t m [(ro H2 t78)] H2.length) H2 fun t79 H3 =>
   loadE 5 H2 t4 fun t81 =>
   buildSE (some (ty_api_Mark, 3)) 1 [(0, t81)] fun t82 =>
   keepE (slices_Insert_Mark_t m [(ro H3 t79), (ro H3 t63), (ro H3 t82)] H3) fun t83 H4 =>
   fieldE (some (2, 1)) t3 fun t84 =>
   storeE 1 H4 t84 t83 fun H5 =>
   fieldE (some (2, 1)) t3 fun t85 =>
   loadE 1 H5 t85 fun t86 =>
   loadE 5 H5 t4 fun t87 =>
   tellE (marks_stable m (ro H5 t86) (ro H5 t87) (ro H5 t2)) [(ro H5 t86), (ro H5 t87), (ro H5 t2)] fun t89 =>
   condE t89 (
    loadE 5 H5 t3 fun t90 =>
    fieldE (some (1, 1)) t4 fun t91 =>
    loadE 1 H5 t91 fun t92 =>
    fieldE (some (2, 1)) t4 fun t93 =>
    loadE 1 H5 t93 fun t94 =>
    tellE (marks_moved m (ro H5 t90) (ro H5 t92) (ro H5 t94)) [(ro H5 t90), (ro H5 t92), (ro H5 t94)] fun t95 =>
    storeE 5 H5 t6 t95 fun H6 =>
    loadE 5 H6 t6 fun t9000 =>
    tellK H6 (ro H6 (TU [noT t9000, noT (V (.bool true)), noT (V (.int .i64 0))]))) (
    loadE 5 H5 t3 fun t96 =>
    storeE 5 H5 t6 t96 fun H6 =>
    loadE 5 H6 t6 fun t9000 =>
    tellK H6 (ro H6 (TU [noT t9000, noT (V (.bool false)), noT (V (.int .i64 0))])))) := by
  refine (joinW_eq Try.prog GG (marks_Say_env m) m 97 (cdR (cdR (cdR marks_Say_c))) marks_Say_h.r.r.r ⟨H, [(2, t2), (3, t3), (4, t4), (6, t6)]⟩ (marks_Say_fin)).trans ?_
  kernel_rfl
theorem marks_Say_r1_eq (m : Nat) (H : List AObj) (t2 t3 t4 t6 t18 : AV) : marks_Say_r1 m ⟨H, [(2, t2), (3, t3), (4, t4), (6, t6), (18, t18)]⟩ =
  condE t18 (
   buildE (some pl_api_Marks) (some zc_api_Marks) [] fun t49 =>
   storeE 5 H t6 t49 fun H2 =>
   loadE 5 H2 t6 fun t9000 =>
   tellK H2 (ro H2 (TU [noT t9000, noT (V (.bool false)), noT (V (.int .i64 1))]))) (
   fieldE (some (0, 1)) t3 fun t51 =>
   loadE 1 H t51 fun t52 =>
   fieldE (some (1, 1)) t4 fun t53 =>
   loadE 1 H t53 fun t54 =>
   tellE (marks_in m (ro H t52) (ro H t54)) [(ro H t52), (ro H t54)] fun t55 =>
   unE .not t55 fun t56 =>
   condE t56 (
    buildE (some pl_api_Marks) (some zc_api_Marks) [] fun t57 =>
    storeE 5 H t6 t57 fun H2 =>
    loadE 5 H2 t6 fun t9000 =>
    tellK H2 (ro H2 (TU [noT t9000, noT (V (.bool false)), noT (V (.int .i64 22))]))) (
    marks_Say_r2 m ⟨H, [(2, t2), (3, t3), (4, t4), (6, t6)]⟩)) := by
  refine (joinW_eq Try.prog GG (marks_Say_env m) m 97 (cdR (cdL (cdL (cdR (cdR marks_Say_c))))) marks_Say_h.r.r.l.c.r ⟨H, [(2, t2), (3, t3), (4, t4), (6, t6), (18, t18)]⟩ (blockX 0 (seqX (fun s => marks_Say_r2 m ⟨s.H, [(2, gt s.T 2), (3, gt s.T 3), (4, gt s.T 4), (6, gt s.T 6)]⟩) (marks_Say_fin)))).trans ?_
  kernel_rfl
theorem marks_Say_eq (m : Nat) (t0 t1 t2 : AV) : marks_Say m t0 t1 t2 =
  boxE ty_api_Marks [] t0 fun t3 H1 =>
  boxE ty_api_Mark H1 t1 fun t4 H2 =>
  allocE (some zc_api_Marks) ty_api_Marks H2 fun t6 H3 =>
  tellE (quorum_Faults m (ro H3 t2)) [(ro H3 t2)] fun t15 =>
  extE t15 0 fun t16 =>
  extE t15 1 fun t17 =>
  loadE 5 H3 t3 fun t19 =>
  tellE (marks_May m (ro H3 t19)) [(ro H3 t19)] fun t20 =>
  unE .not t20 fun t21 =>
  condE t21 (
   marks_Say_r1 m ⟨H3, [(2, t2), (3, t3), (4, t4), (6, t6), (18, (V (.bool true)))]⟩) (
   binE none false false .neq t17 (V (.int .i64 0)) fun t24 =>
   condE t24 (
   marks_Say_r1 m ⟨H3, [(2, t2), (3, t3), (4, t4), (6, t6), (18, (V (.bool true)))]⟩) (
   fieldE (some (0, 1)) t4 fun t27 =>
   loadE 1 H3 t27 fun t28 =>
   binE none false false .lss t28 (V (.int .i64 0)) fun t29 =>
   condE t29 (
   marks_Say_r1 m ⟨H3, [(2, t2), (3, t3), (4, t4), (6, t6), (18, (V (.bool true)))]⟩) (
   fieldE (some (0, 1)) t4 fun t32 =>
   loadE 1 H3 t32 fun t33 =>
   binE none false false .geq t33 t2 fun t35 =>
   condE t35 (
   marks_Say_r1 m ⟨H3, [(2, t2), (3, t3), (4, t4), (6, t6), (18, (V (.bool true)))]⟩) (
   fieldE (some (2, 1)) t4 fun t38 =>
   loadE 1 H3 t38 fun t39 =>
   tellE (marks_number m (ro H3 t39)) [(ro H3 t39)] fun t40 =>
   unE .not t40 fun t41 =>
   condE t41 (
   marks_Say_r1 m ⟨H3, [(2, t2), (3, t3), (4, t4), (6, t6), (18, (V (.bool true)))]⟩) (
   fieldE (some (1, 1)) t4 fun t44 =>
   loadE 1 H3 t44 fun t45 =>
   tellE (marks_Due m (ro H3 t45)) [(ro H3 t45)] fun t46 =>
   unE .not t46 fun t47 =>
   marks_Say_r1 m ⟨H3, [(2, t2), (3, t3), (4, t4), (6, t6), (18, t47)]⟩))))) := by
  refine (tellX Try.prog GG (marks_Say_env m) m 97 marks_Say_c marks_Say_h ⟨[], argsT 0 [t0, t1, t2]⟩ [.cell 6 24, .tmp 7, .tmp 8]).trans ?_
  kernel_rfl
noncomputable def marks_Say_t (m : Nat) : List AV → RO | [t0, t1, t2] => marks_Say m t0 t1 t2 | _ => none
theorem marks_Say_ok (m : Nat) : ∀ args X H', marks_Say_t m args = some (X, H') → ACp Try.prog GG 7 args X := by
  intro args X H' h
  unfold marks_Say_t at h
  split at h
  · exact tell_okK MIX (by
    intro f e h
    simp only [marks_Say_env, Prod.mk.injEq, List.mem_cons, List.not_mem_nil, or_false] at h
    rcases h with ⟨rfl, rfl⟩ | ⟨rfl, rfl⟩ | ⟨rfl, rfl⟩ | ⟨rfl, rfl⟩ | ⟨rfl, rfl⟩ | ⟨rfl, rfl⟩ | ⟨rfl, rfl⟩ | ⟨rfl, rfl⟩ | ⟨rfl, rfl⟩ | ⟨rfl, rfl⟩
    · exact quorum_Faults_ok m
    · exact marks_May_ok m
    · exact marks_number_ok m
    · exact marks_Due_ok m
    · exact marks_in_ok m
    · exact slices_BinarySearchFuncV_Mark_ok m
    · exact slices_Clone_Mark_ok m
    · exact slices_Insert_Mark_ok m
    · exact marks_stable_ok m
    · exact marks_moved_ok m) (f := 7) (c := marks_Say_c) Try.func7 rfl (by kernel_rfl) _ rfl Try.ntmps7 (Nat.le_of_ble_eq_true rfl) marks_Say_h h
  · cases h
noncomputable def marks_Voices_c : Code := (Try.f11.body).getD .skip
def marks_Voices_h : Hint := (.two .n (.two (.two .n (.two (.two .n .n) .n)) (.two .n (.join [7] (.two .n (.one (.lp [(7, ty_api_Stmt, 5)] [1, 2, 7, 14, 15, 16] [7] (.two .n (.two (.two .n .n) (.join [1, 2, 7, 14, 15, 16] (.one (.two .n (.join [1, 2, 7, 9, 14, 15, 16, 29] .n (.two .n .n)))) .n)))))) (.two .n .n)))))
noncomputable def marks_Voices_env (m : Nat) : Env := [(8, .tell (marks_May_t m))]
noncomputable abbrev marks_Voices_fin : KO (AV × List AObj) := tellFK Try.prog [.tmp 6]
noncomputable def marks_Voices_r3 (m : Nat) (n0 : Nat) (kc : ASt → RO) (kx : KO (AV × List AObj)) (s : ASt) : RO := joinW Try.prog GG (marks_Voices_env m) m 40 (cdR (cdR (cdR (cdL (cdL (cdR (cdL (cdR (cdR (cdR marks_Voices_c)))))))))) marks_Voices_h.r.r.r.l.r.c.c.r.r.r s (backW n0 [1, 2, 7, 14, 15, 16] [7] kc kx)
noncomputable def marks_Voices_r2 (m : Nat) (n0 : Nat) (kc : ASt → RO) (kx : KO (AV × List AObj)) (s : ASt) : RO := joinW Try.prog GG (marks_Voices_env m) m 40 (cdR (cdR (cdL (cdL (cdR (cdR (cdL (cdL (cdR (cdL (cdR (cdR (cdR marks_Voices_c))))))))))))) marks_Voices_h.r.r.r.l.r.c.c.r.r.l.c.r.r s (blockX 1 (seqX (fun s => marks_Voices_r3 m n0 kc kx ⟨s.H, [(1, gt s.T 1), (2, gt s.T 2), (7, gt s.T 7), (14, gt s.T 14), (15, gt s.T 15), (16, gt s.T 16)]⟩) (backW n0 [1, 2, 7, 14, 15, 16] [7] kc kx)))
noncomputable def marks_Voices_r1 (m : Nat) (s : ASt) : RO := joinW Try.prog GG (marks_Voices_env m) m 40 (cdR (cdR (cdR (cdR marks_Voices_c)))) marks_Voices_h.r.r.r.r s (marks_Voices_fin)
noncomputable def marks_Voices_b1 (m : Nat) (s : ASt) (kc : ASt → RO) (kx : KO (AV × List AObj)) : RO := bodyW Try.prog GG (marks_Voices_env m) m 40 (cdL (cdL (cdR (cdL (cdR (cdR (cdR marks_Voices_c))))))) marks_Voices_h.r.r.r.l.r.c.c [1, 2, 7, 14, 15, 16] [7] s kc kx
noncomputable def marks_Voices (m : Nat) (t0 t1 t2 : AV) : RO := exec Try.prog GG (marks_Voices_env m) m 40 marks_Voices_c marks_Voices_h ⟨[], argsT 0 [t0, t1, t2]⟩ (marks_Voices_fin)
theorem marks_Voices_r3_eq (m : Nat) (n0 : Nat) (kc : ASt → RO) (kx : KO (AV × List AObj)) (H : List AObj) (t1 t2 t7 t14 t15 t16 : AV) : marks_Voices_r3 m n0 kc kx ⟨H, [(1, t1), (2, t2), (7, t7), (14, t14), (15, t15), (16, t16)]⟩ =
  binE none false false .add t16 (V (.int .i64 1)) fun t38 =>
  backE n0 H [(1, t1), (2, t2), (7, t7), (14, t14), (15, t15), (16, t38)] kc := by
  refine (joinW_eq Try.prog GG (marks_Voices_env m) m 40 (cdR (cdR (cdR (cdL (cdL (cdR (cdL (cdR (cdR (cdR marks_Voices_c)))))))))) marks_Voices_h.r.r.r.l.r.c.c.r.r.r ⟨H, [(1, t1), (2, t2), (7, t7), (14, t14), (15, t15), (16, t16)]⟩ (backW n0 [1, 2, 7, 14, 15, 16] [7] kc kx)).trans ?_
  kernel_rfl
theorem marks_Voices_r2_eq (m : Nat) (n0 : Nat) (kc : ASt → RO) (kx : KO (AV × List AObj)) (H : List AObj) (t1 t2 t7 t9 t14 t15 t16 t29 : AV) : marks_Voices_r2 m n0 kc kx ⟨H, [(1, t1), (2, t2), (7, t7), (9, t9), (14, t14), (15, t15), (16, t16), (29, t29)]⟩ =
  condE t29 (
   fieldE (some (0, 1)) t9 fun t31 =>
   loadE 1 H t31 fun t32 =>
   buildE (some pl_api_Stmt) (some zc_api_Stmt) [(0, t32), (1, (V (.int .i64 5))), (3, t1), (4, t2)] fun t35 =>
   buildSE (some (ty_api_Stmt, 5)) 1 [(0, t35)] fun t36 =>
   appE (some (ty_api_Stmt, 5)) H t7 t36 fun t37 H2 =>
   marks_Voices_r3 m n0 kc kx ⟨H2, [(1, t1), (2, t2), (7, t37), (14, t14), (15, t15), (16, t16)]⟩) (
   marks_Voices_r3 m n0 kc kx ⟨H, [(1, t1), (2, t2), (7, t7), (14, t14), (15, t15), (16, t16)]⟩) := by
  refine (joinW_eq Try.prog GG (marks_Voices_env m) m 40 (cdR (cdR (cdL (cdL (cdR (cdR (cdL (cdL (cdR (cdL (cdR (cdR (cdR marks_Voices_c))))))))))))) marks_Voices_h.r.r.r.l.r.c.c.r.r.l.c.r.r ⟨H, [(1, t1), (2, t2), (7, t7), (9, t9), (14, t14), (15, t15), (16, t16), (29, t29)]⟩ (blockX 1 (seqX (fun s => marks_Voices_r3 m n0 kc kx ⟨s.H, [(1, gt s.T 1), (2, gt s.T 2), (7, gt s.T 7), (14, gt s.T 14), (15, gt s.T 15), (16, gt s.T 16)]⟩) (backW n0 [1, 2, 7, 14, 15, 16] [7] kc kx)))).trans ?_
  kernel_rfl
theorem marks_Voices_r1_eq (m : Nat) (H : List AObj) (t7 : AV) : marks_Voices_r1 m ⟨H, [(7, t7)]⟩ =
  tellK H (ro H t7) := by
  refine (joinW_eq Try.prog GG (marks_Voices_env m) m 40 (cdR (cdR (cdR (cdR marks_Voices_c)))) marks_Voices_h.r.r.r.r ⟨H, [(7, t7)]⟩ (marks_Voices_fin)).trans ?_
  kernel_rfl
theorem marks_Voices_b1_eq (m : Nat) (H : List AObj) (t1 t2 t7 t14 t15 t16 : AV) (kc : ASt → RO) (kx : KO (AV × List AObj)) : marks_Voices_b1 m ⟨H, [(1, t1), (2, t2), (7, t7), (14, t14), (15, t15), (16, t16)]⟩ kc kx =
  binE none false false .lss t16 t15 fun t17 =>
  condE t17 (
   idxSE 5 H t14 t16 fun t18 =>
   loadE 5 H t18 fun t19 =>
   allocE (some zc_api_Mark) ty_api_Mark H fun t9 H2 =>
   storeE 5 H2 t9 t19 fun H3 =>
   fieldE (some (1, 1)) t9 fun t20 =>
   loadE 1 H3 t20 fun t21 =>
   binE none false false .eql t21 t1 fun t23 =>
   condE t23 (
    fieldE (some (2, 1)) t9 fun t25 =>
    loadE 1 H3 t25 fun t26 =>
    binE none false false .eql t26 t2 fun t28 =>
    marks_Voices_r2 m H.length kc kx ⟨H3, [(1, t1), (2, t2), (7, t7), (9, t9), (14, t14), (15, t15), (16, t16), (29, t28)]⟩) (
    marks_Voices_r2 m H.length kc kx ⟨H3, [(1, t1), (2, t2), (7, t7), (9, t9), (14, t14), (15, t15), (16, t16), (29, (V (.bool false)))]⟩)) (
   kx (.exit 0) ⟨H, [(7, t7)]⟩) := by
  refine (bodyW_eq Try.prog GG (marks_Voices_env m) m 40 (cdL (cdL (cdR (cdL (cdR (cdR (cdR marks_Voices_c))))))) marks_Voices_h.r.r.r.l.r.c.c [1, 2, 7, 14, 15, 16] [7] ⟨H, [(1, t1), (2, t2), (7, t7), (14, t14), (15, t15), (16, t16)]⟩ kc kx).trans ?_
  kernel_rfl
theorem marks_Voices_eq (m : Nat) (t0 t1 t2 : AV) : marks_Voices m t0 t1 t2 =
  boxE ty_api_Marks [] t0 fun t3 H1 =>
  loadE 5 H1 t3 fun t10 =>
  tellE (marks_May m (ro H1 t10)) [(ro H1 t10)] fun t11 =>
  unE .not t11 fun t12 =>
  condE t12 (
   tellK H1 (ro H1 (V (.slice none 0 0)))) (
   fieldE (some (2, 1)) t3 fun t13 =>
   loadE 1 H1 t13 fun t14 =>
   lenE false true H1 t14 fun t15 =>
   rowE (V (.slice none 0 0)) ty_api_Stmt 5 H1 fun t7 H2 =>
   iterC m (marks_Voices_b1 m) ⟨H2, [(1, t1), (2, t2), (7, t7), (14, t14), (15, t15), (16, (V (.int .i64 0)))]⟩ (blockX 0 (seqX (fun s => marks_Voices_r1 m ⟨s.H, [(7, gt s.T 7)]⟩) (marks_Voices_fin)))) := by
  refine (tellX Try.prog GG (marks_Voices_env m) m 40 marks_Voices_c marks_Voices_h ⟨[], argsT 0 [t0, t1, t2]⟩ [.tmp 6]).trans ?_
  kernel_rfl
noncomputable def marks_Voices_t (m : Nat) : List AV → RO | [t0, t1, t2] => marks_Voices m t0 t1 t2 | _ => none
theorem marks_Voices_ok (m : Nat) : ∀ args X H', marks_Voices_t m args = some (X, H') → ACp Try.prog GG 11 args X := by
  intro args X H' h
  unfold marks_Voices_t at h
  split at h
  · exact tell_okK MIX (by
    intro f e h
    simp only [marks_Voices_env, Prod.mk.injEq, List.mem_cons, List.not_mem_nil, or_false] at h
    obtain ⟨rfl, rfl⟩ := h
    · exact marks_May_ok m) (f := 11) (c := marks_Voices_c) Try.func11 rfl (by kernel_rfl) _ rfl Try.ntmps11 (Nat.le_of_ble_eq_true rfl) marks_Voices_h h
  · cases h
noncomputable def marks_Move_c : Code := (Try.f17.body).getD .skip
def marks_Move_h : Hint := (.two .n (.join [1, 2, 3, 6] (.one (.join [1, 2, 3, 6, 8] .n (.two (.two .n .n) (.two .n (.two (.two .n .n) .n))))) (.two .n .n)))
noncomputable def marks_Move_env (m : Nat) : Env := [(8, .tell (marks_May_t m)), (15, .tell (marks_Due_t m)), (21, .tell (marks_number_t m)), (28, .tell (marks_moved_t m))]
noncomputable abbrev marks_Move_fin : KO (AV × List AObj) := tellFK Try.prog [.cell 6 24, .tmp 7]
noncomputable def marks_Move_r2 (m : Nat) (s : ASt) : RO := joinW Try.prog GG (marks_Move_env m) m 37 (cdR (cdR marks_Move_c)) marks_Move_h.r.r s (marks_Move_fin)
noncomputable def marks_Move_r1 (m : Nat) (s : ASt) : RO := joinW Try.prog GG (marks_Move_env m) m 37 (cdR (cdL (cdL (cdR marks_Move_c)))) marks_Move_h.r.l.c.r s (blockX 0 (seqX (fun s => marks_Move_r2 m ⟨s.H, [(1, gt s.T 1), (2, gt s.T 2), (3, gt s.T 3), (6, gt s.T 6)]⟩) (marks_Move_fin)))
noncomputable def marks_Move (m : Nat) (t0 t1 t2 : AV) : RO := exec Try.prog GG (marks_Move_env m) m 37 marks_Move_c marks_Move_h ⟨[], argsT 0 [t0, t1, t2]⟩ (marks_Move_fin)
theorem marks_Move_r2_eq (m : Nat) (H : List AObj) (t1 t2 t3 t6 : AV) : marks_Move_r2 m ⟨H, [(1, t1), (2, t2), (3, t3), (6, t6)]⟩ =
  loadE 5 H t3 fun t33 =>
  tellE (marks_moved m (ro H t33) (ro H t1) (ro H t2)) [(ro H t33), (ro H t1), (ro H t2)] fun t36 =>
  storeE 5 H t6 t36 fun H2 =>
  loadE 5 H2 t6 fun t9000 =>
  tellK H2 (ro H2 (TU [noT t9000, noT (V (.int .i64 0))])) := by
  refine (joinW_eq Try.prog GG (marks_Move_env m) m 37 (cdR (cdR marks_Move_c)) marks_Move_h.r.r ⟨H, [(1, t1), (2, t2), (3, t3), (6, t6)]⟩ (marks_Move_fin)).trans ?_
  kernel_rfl
theorem marks_Move_r1_eq (m : Nat) (H : List AObj) (t1 t2 t3 t6 t8 : AV) : marks_Move_r1 m ⟨H, [(1, t1), (2, t2), (3, t3), (6, t6), (8, t8)]⟩ =
  condE t8 (
   buildE (some pl_api_Marks) (some zc_api_Marks) [] fun t26 =>
   storeE 5 H t6 t26 fun H2 =>
   loadE 5 H2 t6 fun t9000 =>
   tellK H2 (ro H2 (TU [noT t9000, noT (V (.int .i64 1))]))) (
   fieldE (some (0, 1)) t3 fun t29 =>
   loadE 1 H t29 fun t30 =>
   binE none false false .leq t1 t30 fun t31 =>
   condE t31 (
    buildE (some pl_api_Marks) (some zc_api_Marks) [] fun t32 =>
    storeE 5 H t6 t32 fun H2 =>
    loadE 5 H2 t6 fun t9000 =>
    tellK H2 (ro H2 (TU [noT t9000, noT (V (.int .i64 18))]))) (
    marks_Move_r2 m ⟨H, [(1, t1), (2, t2), (3, t3), (6, t6)]⟩)) := by
  refine (joinW_eq Try.prog GG (marks_Move_env m) m 37 (cdR (cdL (cdL (cdR marks_Move_c)))) marks_Move_h.r.l.c.r ⟨H, [(1, t1), (2, t2), (3, t3), (6, t6), (8, t8)]⟩ (blockX 0 (seqX (fun s => marks_Move_r2 m ⟨s.H, [(1, gt s.T 1), (2, gt s.T 2), (3, gt s.T 3), (6, gt s.T 6)]⟩) (marks_Move_fin)))).trans ?_
  kernel_rfl
theorem marks_Move_eq (m : Nat) (t0 t1 t2 : AV) : marks_Move m t0 t1 t2 =
  boxE ty_api_Marks [] t0 fun t3 H1 =>
  allocE (some zc_api_Marks) ty_api_Marks H1 fun t6 H2 =>
  loadE 5 H2 t3 fun t9 =>
  tellE (marks_May m (ro H2 t9)) [(ro H2 t9)] fun t10 =>
  unE .not t10 fun t11 =>
  condE t11 (
   marks_Move_r1 m ⟨H2, [(1, t1), (2, t2), (3, t3), (6, t6), (8, (V (.bool true)))]⟩) (
   tellE (marks_Due m (ro H2 t1)) [(ro H2 t1)] fun t14 =>
   unE .not t14 fun t15 =>
   condE t15 (
   marks_Move_r1 m ⟨H2, [(1, t1), (2, t2), (3, t3), (6, t6), (8, (V (.bool true)))]⟩) (
   binE none false false .gtr t1 (V (.int .i64 2147483647)) fun t19 =>
   condE t19 (
   marks_Move_r1 m ⟨H2, [(1, t1), (2, t2), (3, t3), (6, t6), (8, (V (.bool true)))]⟩) (
   tellE (marks_number m (ro H2 t2)) [(ro H2 t2)] fun t23 =>
   unE .not t23 fun t24 =>
   marks_Move_r1 m ⟨H2, [(1, t1), (2, t2), (3, t3), (6, t6), (8, t24)]⟩))) := by
  refine (tellX Try.prog GG (marks_Move_env m) m 37 marks_Move_c marks_Move_h ⟨[], argsT 0 [t0, t1, t2]⟩ [.cell 6 24, .tmp 7]).trans ?_
  kernel_rfl
noncomputable def marks_Move_t (m : Nat) : List AV → RO | [t0, t1, t2] => marks_Move m t0 t1 t2 | _ => none
theorem marks_Move_ok (m : Nat) : ∀ args X H', marks_Move_t m args = some (X, H') → ACp Try.prog GG 17 args X := by
  intro args X H' h
  unfold marks_Move_t at h
  split at h
  · exact tell_okK MIX (by
    intro f e h
    simp only [marks_Move_env, Prod.mk.injEq, List.mem_cons, List.not_mem_nil, or_false] at h
    rcases h with ⟨rfl, rfl⟩ | ⟨rfl, rfl⟩ | ⟨rfl, rfl⟩ | ⟨rfl, rfl⟩
    · exact marks_May_ok m
    · exact marks_Due_ok m
    · exact marks_number_ok m
    · exact marks_moved_ok m) (f := 17) (c := marks_Move_c) Try.func17 rfl (by kernel_rfl) _ rfl Try.ntmps17 (Nat.le_of_ble_eq_true rfl) marks_Move_h h
  · cases h
noncomputable def plenumref30_num_c : Code := (Try.f29.body).getD .skip
def plenumref30_num_h : Hint := (.two .n (.two .n .n))
noncomputable def plenumref30_num_env (m : Nat) : Env := []
noncomputable abbrev plenumref30_num_fin : KO (AV × List AObj) := tellFK Try.prog [.tmp 2]
noncomputable def plenumref30_num (m : Nat) (t0 : AV) : RO := exec Try.prog GG (plenumref30_num_env m) m 9 plenumref30_num_c plenumref30_num_h ⟨[], argsT 0 [t0]⟩ (plenumref30_num_fin)
theorem plenumref30_num_eq (m : Nat) (t0 : AV) : plenumref30_num m t0 =
  binE none false false .leq (V (.int .i64 0)) t0 fun t4 =>
  condE t4 (
   binE none false false .leq t0 (V (.int .i64 2147483647)) fun t7 =>
   tellK [] (ro [] t7)) (
   tellK [] (ro [] (V (.bool false)))) := by
  refine (tellX Try.prog GG (plenumref30_num_env m) m 9 plenumref30_num_c plenumref30_num_h ⟨[], argsT 0 [t0]⟩ [.tmp 2]).trans ?_
  kernel_rfl
noncomputable def plenumref30_num_t (m : Nat) : List AV → RO | [t0] => plenumref30_num m t0 | _ => none
theorem plenumref30_num_ok (m : Nat) : ∀ args X H', plenumref30_num_t m args = some (X, H') → ACp Try.prog GG 29 args X := by
  intro args X H' h
  unfold plenumref30_num_t at h
  split at h
  · exact tell_okK MIX (by intro f e h; cases h) (f := 29) (c := plenumref30_num_c) Try.func29 rfl (by kernel_rfl) _ rfl Try.ntmps29 (Nat.le_of_ble_eq_true rfl) plenumref30_num_h h
  · cases h
noncomputable def plenumref30_Due_c : Code := (Try.f16.body).getD .skip
def plenumref30_Due_h : Hint := (.two .n (.two .n .n))
noncomputable def plenumref30_Due_env (m : Nat) : Env := []
noncomputable abbrev plenumref30_Due_fin : KO (AV × List AObj) := tellFK Try.prog [.tmp 2]
noncomputable def plenumref30_Due (m : Nat) (t0 : AV) : RO := exec Try.prog GG (plenumref30_Due_env m) m 10 plenumref30_Due_c plenumref30_Due_h ⟨[], argsT 0 [t0]⟩ (plenumref30_Due_fin)
theorem plenumref30_Due_eq (m : Nat) (t0 : AV) : plenumref30_Due m t0 =
  binE none false false .gtr t0 (V (.int .i64 0)) fun t4 =>
  condE t4 (
   binE none false false .rem t0 (V (.int .i64 4)) fun t7 =>
   binE none false false .eql t7 (V (.int .i64 0)) fun t8 =>
   tellK [] (ro [] t8)) (
   tellK [] (ro [] (V (.bool false)))) := by
  refine (tellX Try.prog GG (plenumref30_Due_env m) m 10 plenumref30_Due_c plenumref30_Due_h ⟨[], argsT 0 [t0]⟩ [.tmp 2]).trans ?_
  kernel_rfl
noncomputable def plenumref30_Due_t (m : Nat) : List AV → RO | [t0] => plenumref30_Due m t0 | _ => none
theorem plenumref30_Due_ok (m : Nat) : ∀ args X H', plenumref30_Due_t m args = some (X, H') → ACp Try.prog GG 16 args X := by
  intro args X H' h
  unfold plenumref30_Due_t at h
  split at h
  · exact tell_okK MIX (by intro f e h; cases h) (f := 16) (c := plenumref30_Due_c) Try.func16 rfl (by kernel_rfl) _ rfl Try.ntmps16 (Nat.le_of_ble_eq_true rfl) plenumref30_Due_h h
  · cases h
noncomputable def plenumref30_Within_c : Code := (Try.f14.body).getD .skip
def plenumref30_Within_h : Hint := (.two .n (.two .n .n))
noncomputable def plenumref30_Within_env (m : Nat) : Env := []
noncomputable abbrev plenumref30_Within_fin : KO (AV × List AObj) := tellFK Try.prog [.tmp 4]
noncomputable def plenumref30_Within (m : Nat) (t0 t1 : AV) : RO := exec Try.prog GG (plenumref30_Within_env m) m 18 plenumref30_Within_c plenumref30_Within_h ⟨[], argsT 0 [t0, t1]⟩ (plenumref30_Within_fin)
theorem plenumref30_Within_eq (m : Nat) (t0 t1 : AV) : plenumref30_Within m t0 t1 =
  binE none false false .lss t0 t1 fun t7 =>
  condE t7 (
   binE none false false .leq t1 (V (.int .i64 2147483647)) fun t10 =>
   condE t10 (
   binE none false false .sub t1 (V (.int .i64 16)) fun t14 =>
   binE none false false .leq t14 t0 fun t16 =>
   tellK [] (ro [] t16)) (
   tellK [] (ro [] (V (.bool false))))) (
   tellK [] (ro [] (V (.bool false)))) := by
  refine (tellX Try.prog GG (plenumref30_Within_env m) m 18 plenumref30_Within_c plenumref30_Within_h ⟨[], argsT 0 [t0, t1]⟩ [.tmp 4]).trans ?_
  kernel_rfl
noncomputable def plenumref30_Within_t (m : Nat) : List AV → RO | [t0, t1] => plenumref30_Within m t0 t1 | _ => none
theorem plenumref30_Within_ok (m : Nat) : ∀ args X H', plenumref30_Within_t m args = some (X, H') → ACp Try.prog GG 14 args X := by
  intro args X H' h
  unfold plenumref30_Within_t at h
  split at h
  · exact tell_okK MIX (by intro f e h; cases h) (f := 14) (c := plenumref30_Within_c) Try.func14 rfl (by kernel_rfl) _ rfl Try.ntmps14 (Nat.le_of_ble_eq_true rfl) plenumref30_Within_h h
  · cases h
noncomputable def plenumref30_ahead_c : Code := (Try.f30.body).getD .skip
def plenumref30_ahead_h : Hint := (.two .n (.two .n .n))
noncomputable def plenumref30_ahead_env (m : Nat) : Env := []
noncomputable abbrev plenumref30_ahead_fin : KO (AV × List AObj) := tellFK Try.prog [.tmp 4]
noncomputable def plenumref30_ahead (m : Nat) (t0 t1 : AV) : RO := exec Try.prog GG (plenumref30_ahead_env m) m 24 plenumref30_ahead_c plenumref30_ahead_h ⟨[], argsT 0 [t0, t1]⟩ (plenumref30_ahead_fin)
theorem plenumref30_ahead_eq (m : Nat) (t0 t1 : AV) : plenumref30_ahead m t0 t1 =
  boxE ty_api_Mark [] t0 fun t2 H1 =>
  boxE ty_api_Mark H1 t1 fun t3 H2 =>
  fieldE (some (1, 1)) t2 fun t5 =>
  loadE 1 H2 t5 fun t6 =>
  fieldE (some (1, 1)) t3 fun t7 =>
  loadE 1 H2 t7 fun t8 =>
  binE none false false .lss t6 t8 fun t9 =>
  condE t9 (
   tellK H2 (ro H2 (V (.bool true)))) (
   fieldE (some (1, 1)) t2 fun t11 =>
   loadE 1 H2 t11 fun t12 =>
   fieldE (some (1, 1)) t3 fun t13 =>
   loadE 1 H2 t13 fun t14 =>
   binE none false false .eql t12 t14 fun t15 =>
   condE t15 (
   fieldE (some (0, 1)) t2 fun t17 =>
   loadE 1 H2 t17 fun t18 =>
   fieldE (some (0, 1)) t3 fun t19 =>
   loadE 1 H2 t19 fun t20 =>
   binE none false false .lss t18 t20 fun t21 =>
   tellK H2 (ro H2 t21)) (
   tellK H2 (ro H2 (V (.bool false))))) := by
  refine (tellX Try.prog GG (plenumref30_ahead_env m) m 24 plenumref30_ahead_c plenumref30_ahead_h ⟨[], argsT 0 [t0, t1]⟩ [.tmp 4]).trans ?_
  kernel_rfl
noncomputable def plenumref30_ahead_t (m : Nat) : List AV → RO | [t0, t1] => plenumref30_ahead m t0 t1 | _ => none
theorem plenumref30_ahead_ok (m : Nat) : ∀ args X H', plenumref30_ahead_t m args = some (X, H') → ACp Try.prog GG 30 args X := by
  intro args X H' h
  unfold plenumref30_ahead_t at h
  split at h
  · exact tell_okK MIX (by intro f e h; cases h) (f := 30) (c := plenumref30_ahead_c) Try.func30 rfl (by kernel_rfl) _ rfl Try.ntmps30 (Nat.le_of_ble_eq_true rfl) plenumref30_ahead_h h
  · cases h
noncomputable def plenumref30_May_c : Code := (Try.f12.body).getD .skip
def plenumref30_May_h : Hint := (.two .n (.join [1] (.join [1, 20] .n (.two (.two .n .n) .n)) (.join [] (.two .n (.one (.lp [] [1, 3] [2] (.two (.two .n (.two .n .n)) (.join [1, 3] (.one (.two .n (.join [1, 3, 4] (.join [1, 3, 4, 60] .n (.two (.two .n .n) .n)) (.join [1, 3, 73] .n (.two (.two .n .n) .n))))) .n))))) (.two .n .n))))
noncomputable def plenumref30_May_env (m : Nat) : Env := [(29, .tell (plenumref30_num_t m)), (16, .tell (plenumref30_Due_t m)), (14, .tell (plenumref30_Within_t m)), (30, .tell (plenumref30_ahead_t m))]
noncomputable abbrev plenumref30_May_fin : KO (AV × List AObj) := tellFK Try.prog [.tmp 2]
noncomputable def plenumref30_May_r9 (m : Nat) (n0 : Nat) (kc : ASt → RO) (kx : KO (AV × List AObj)) (s : ASt) : RO := joinW Try.prog GG (plenumref30_May_env m) m 74 (cdR (cdR (cdL (cdL (cdR (cdL (cdR (cdR plenumref30_May_c)))))))) plenumref30_May_h.r.r.l.r.c.c.r.r s (backW n0 [1, 3] [2] kc kx)
noncomputable def plenumref30_May_r8 (m : Nat) (n0 : Nat) (kc : ASt → RO) (kx : KO (AV × List AObj)) (s : ASt) : RO := joinW Try.prog GG (plenumref30_May_env m) m 74 (cdR (cdR (cdL (cdL (cdR (cdL (cdR (cdR plenumref30_May_c)))))))) plenumref30_May_h.r.r.l.r.c.c.r.r s (backW n0 [1, 3] [2] kc kx)
noncomputable def plenumref30_May_r7 (m : Nat) (n0 : Nat) (kc : ASt → RO) (kx : KO (AV × List AObj)) (s : ASt) : RO := joinW Try.prog GG (plenumref30_May_env m) m 74 (cdR (cdR (cdR (cdL (cdL (cdR (cdL (cdL (cdR (cdL (cdR (cdR plenumref30_May_c)))))))))))) plenumref30_May_h.r.r.l.r.c.c.r.l.c.r.r.r s (blockX 1 (seqX (fun s => plenumref30_May_r9 m n0 kc kx ⟨s.H, [(1, gt s.T 1), (3, gt s.T 3)]⟩) (backW n0 [1, 3] [2] kc kx)))
noncomputable def plenumref30_May_r6 (m : Nat) (n0 : Nat) (kc : ASt → RO) (kx : KO (AV × List AObj)) (s : ASt) : RO := joinW Try.prog GG (plenumref30_May_env m) m 74 (cdR (cdR (cdL (cdL (cdR (cdL (cdR (cdR plenumref30_May_c)))))))) plenumref30_May_h.r.r.l.r.c.c.r.r s (backW n0 [1, 3] [2] kc kx)
noncomputable def plenumref30_May_r5 (m : Nat) (n0 : Nat) (kc : ASt → RO) (kx : KO (AV × List AObj)) (s : ASt) : RO := joinW Try.prog GG (plenumref30_May_env m) m 74 (cdR (cdR (cdL (cdL (cdR (cdL (cdL (cdR (cdL (cdR (cdR plenumref30_May_c))))))))))) plenumref30_May_h.r.r.l.r.c.c.r.l.c.r.r s (blockX 1 (seqX (fun s => plenumref30_May_r8 m n0 kc kx ⟨s.H, [(1, gt s.T 1), (3, gt s.T 3)]⟩) (backW n0 [1, 3] [2] kc kx)))
noncomputable def plenumref30_May_r4 (m : Nat) (n0 : Nat) (kc : ASt → RO) (kx : KO (AV × List AObj)) (s : ASt) : RO := joinW Try.prog GG (plenumref30_May_env m) m 74 (cdR (cdL (cdR (cdL (cdL (cdR (cdL (cdL (cdR (cdL (cdR (cdR plenumref30_May_c)))))))))))) plenumref30_May_h.r.r.l.r.c.c.r.l.c.r.l.r s (seqX (fun s => plenumref30_May_r5 m n0 kc kx ⟨s.H, [(1, gt s.T 1), (3, gt s.T 3), (4, gt s.T 4)]⟩) (blockX 1 (seqX (fun s => plenumref30_May_r6 m n0 kc kx ⟨s.H, [(1, gt s.T 1), (3, gt s.T 3)]⟩) (backW n0 [1, 3] [2] kc kx))))
noncomputable def plenumref30_May_r3 (m : Nat) (s : ASt) : RO := joinW Try.prog GG (plenumref30_May_env m) m 74 (cdR (cdR (cdR plenumref30_May_c))) plenumref30_May_h.r.r.r s (plenumref30_May_fin)
noncomputable def plenumref30_May_b1 (m : Nat) (s : ASt) (kc : ASt → RO) (kx : KO (AV × List AObj)) : RO := bodyW Try.prog GG (plenumref30_May_env m) m 74 (cdL (cdL (cdR (cdL (cdR (cdR plenumref30_May_c)))))) plenumref30_May_h.r.r.l.r.c.c [1, 3] [2] s kc kx
noncomputable def plenumref30_May_r2 (m : Nat) (s : ASt) : RO := joinW Try.prog GG (plenumref30_May_env m) m 74 (cdR (cdR plenumref30_May_c)) plenumref30_May_h.r.r s (plenumref30_May_fin)
noncomputable def plenumref30_May_r1 (m : Nat) (s : ASt) : RO := joinW Try.prog GG (plenumref30_May_env m) m 74 (cdR (cdL (cdR plenumref30_May_c))) plenumref30_May_h.r.l.r s (seqX (fun s => plenumref30_May_r2 m ⟨s.H, [(1, gt s.T 1)]⟩) (plenumref30_May_fin))
noncomputable def plenumref30_May (m : Nat) (t0 : AV) : RO := exec Try.prog GG (plenumref30_May_env m) m 74 plenumref30_May_c plenumref30_May_h ⟨[], argsT 0 [t0]⟩ (plenumref30_May_fin)
theorem plenumref30_May_r9_eq (m : Nat) (n0 : Nat) (kc : ASt → RO) (kx : KO (AV × List AObj)) (H : List AObj) (t1 t3 : AV) : plenumref30_May_r9 m n0 kc kx ⟨H, [(1, t1), (3, t3)]⟩ =
  binE none false false .add t3 (V (.int .i64 1)) fun t27 =>
  backE n0 H [(1, t1), (3, t27)] kc := by
  refine (joinW_eq Try.prog GG (plenumref30_May_env m) m 74 (cdR (cdR (cdL (cdL (cdR (cdL (cdR (cdR plenumref30_May_c)))))))) plenumref30_May_h.r.r.l.r.c.c.r.r ⟨H, [(1, t1), (3, t3)]⟩ (backW n0 [1, 3] [2] kc kx)).trans ?_
  kernel_rfl
theorem plenumref30_May_r8_eq (m : Nat) (n0 : Nat) (kc : ASt → RO) (kx : KO (AV × List AObj)) (H : List AObj) (t1 t3 : AV) : plenumref30_May_r8 m n0 kc kx ⟨H, [(1, t1), (3, t3)]⟩ =
  binE none false false .add t3 (V (.int .i64 1)) fun t27 =>
  backE n0 H [(1, t1), (3, t27)] kc := by
  refine (joinW_eq Try.prog GG (plenumref30_May_env m) m 74 (cdR (cdR (cdL (cdL (cdR (cdL (cdR (cdR plenumref30_May_c)))))))) plenumref30_May_h.r.r.l.r.c.c.r.r ⟨H, [(1, t1), (3, t3)]⟩ (backW n0 [1, 3] [2] kc kx)).trans ?_
  kernel_rfl
theorem plenumref30_May_r7_eq (m : Nat) (n0 : Nat) (kc : ASt → RO) (kx : KO (AV × List AObj)) (H : List AObj) (t1 t3 t73 : AV) : plenumref30_May_r7 m n0 kc kx ⟨H, [(1, t1), (3, t3), (73, t73)]⟩ =
  condE t73 (
   kx .ret ⟨H, [(2, (V (.bool false)))]⟩) (
   plenumref30_May_r9 m n0 kc kx ⟨H, [(1, t1), (3, t3)]⟩) := by
  refine (joinW_eq Try.prog GG (plenumref30_May_env m) m 74 (cdR (cdR (cdR (cdL (cdL (cdR (cdL (cdL (cdR (cdL (cdR (cdR plenumref30_May_c)))))))))))) plenumref30_May_h.r.r.l.r.c.c.r.l.c.r.r.r ⟨H, [(1, t1), (3, t3), (73, t73)]⟩ (blockX 1 (seqX (fun s => plenumref30_May_r9 m n0 kc kx ⟨s.H, [(1, gt s.T 1), (3, gt s.T 3)]⟩) (backW n0 [1, 3] [2] kc kx)))).trans ?_
  kernel_rfl
theorem plenumref30_May_r6_eq (m : Nat) (n0 : Nat) (kc : ASt → RO) (kx : KO (AV × List AObj)) (H : List AObj) (t1 t3 : AV) : plenumref30_May_r6 m n0 kc kx ⟨H, [(1, t1), (3, t3)]⟩ =
  binE none false false .add t3 (V (.int .i64 1)) fun t27 =>
  backE n0 H [(1, t1), (3, t27)] kc := by
  refine (joinW_eq Try.prog GG (plenumref30_May_env m) m 74 (cdR (cdR (cdL (cdL (cdR (cdL (cdR (cdR plenumref30_May_c)))))))) plenumref30_May_h.r.r.l.r.c.c.r.r ⟨H, [(1, t1), (3, t3)]⟩ (backW n0 [1, 3] [2] kc kx)).trans ?_
  kernel_rfl
theorem plenumref30_May_r5_eq (m : Nat) (n0 : Nat) (kc : ASt → RO) (kx : KO (AV × List AObj)) (H : List AObj) (t1 t3 t4 : AV) : plenumref30_May_r5 m n0 kc kx ⟨H, [(1, t1), (3, t3), (4, t4)]⟩ =
  binE none false false .gtr t3 (V (.int .i64 0)) fun t62 =>
  condE t62 (
   fieldE (some (2, 1)) t1 fun t64 =>
   loadE 1 H t64 fun t65 =>
   binE none false false .sub t3 (V (.int .i64 1)) fun t67 =>
   idxSE 5 H t65 t67 fun t68 =>
   loadE 5 H t68 fun t69 =>
   loadE 5 H t4 fun t70 =>
   tellE (plenumref30_ahead m (ro H t69) (ro H t70)) [(ro H t69), (ro H t70)] fun t71 =>
   unE .not t71 fun t72 =>
   plenumref30_May_r7 m n0 kc kx ⟨H, [(1, t1), (3, t3), (73, t72)]⟩) (
   plenumref30_May_r7 m n0 kc kx ⟨H, [(1, t1), (3, t3), (73, (V (.bool false)))]⟩) := by
  refine (joinW_eq Try.prog GG (plenumref30_May_env m) m 74 (cdR (cdR (cdL (cdL (cdR (cdL (cdL (cdR (cdL (cdR (cdR plenumref30_May_c))))))))))) plenumref30_May_h.r.r.l.r.c.c.r.l.c.r.r ⟨H, [(1, t1), (3, t3), (4, t4)]⟩ (blockX 1 (seqX (fun s => plenumref30_May_r8 m n0 kc kx ⟨s.H, [(1, gt s.T 1), (3, gt s.T 3)]⟩) (backW n0 [1, 3] [2] kc kx)))).trans ?_
  kernel_rfl
theorem plenumref30_May_r4_eq (m : Nat) (n0 : Nat) (kc : ASt → RO) (kx : KO (AV × List AObj)) (H : List AObj) (t1 t3 t4 t60 : AV) : plenumref30_May_r4 m n0 kc kx ⟨H, [(1, t1), (3, t3), (4, t4), (60, t60)]⟩ =
  condE t60 (
   kx .ret ⟨H, [(2, (V (.bool false)))]⟩) (
   plenumref30_May_r5 m n0 kc kx ⟨H, [(1, t1), (3, t3), (4, t4)]⟩) := by
  refine (joinW_eq Try.prog GG (plenumref30_May_env m) m 74 (cdR (cdL (cdR (cdL (cdL (cdR (cdL (cdL (cdR (cdL (cdR (cdR plenumref30_May_c)))))))))))) plenumref30_May_h.r.r.l.r.c.c.r.l.c.r.l.r ⟨H, [(1, t1), (3, t3), (4, t4), (60, t60)]⟩ (seqX (fun s => plenumref30_May_r5 m n0 kc kx ⟨s.H, [(1, gt s.T 1), (3, gt s.T 3), (4, gt s.T 4)]⟩) (blockX 1 (seqX (fun s => plenumref30_May_r6 m n0 kc kx ⟨s.H, [(1, gt s.T 1), (3, gt s.T 3)]⟩) (backW n0 [1, 3] [2] kc kx))))).trans ?_
  kernel_rfl
theorem plenumref30_May_r3_eq (m : Nat) (H : List AObj) : plenumref30_May_r3 m ⟨H, []⟩ =
  tellK H (ro H (V (.bool true))) := by
  refine (joinW_eq Try.prog GG (plenumref30_May_env m) m 74 (cdR (cdR (cdR plenumref30_May_c))) plenumref30_May_h.r.r.r ⟨H, []⟩ (plenumref30_May_fin)).trans ?_
  kernel_rfl
theorem plenumref30_May_b1_eq (m : Nat) (H : List AObj) (t1 t3 : AV) (kc : ASt → RO) (kx : KO (AV × List AObj)) : plenumref30_May_b1 m ⟨H, [(1, t1), (3, t3)]⟩ kc kx =
  fieldE (some (2, 1)) t1 fun t22 =>
  loadE 1 H t22 fun t23 =>
  lenE false true H t23 fun t24 =>
  binE none false false .lss t3 t24 fun t25 =>
  condE t25 (
   fieldE (some (2, 1)) t1 fun t28 =>
   loadE 1 H t28 fun t29 =>
   idxSE 5 H t29 t3 fun t31 =>
   loadE 5 H t31 fun t32 =>
   allocE (some zc_api_Mark) ty_api_Mark H fun t4 H2 =>
   storeE 5 H2 t4 t32 fun H3 =>
   fieldE (some (0, 1)) t4 fun t33 =>
   loadE 1 H3 t33 fun t34 =>
   binE none false false .lss t34 (V (.int .i64 0)) fun t35 =>
   condE t35 (
    plenumref30_May_r4 m H.length kc kx ⟨H3, [(1, t1), (3, t3), (4, t4), (60, (V (.bool true)))]⟩) (
    fieldE (some (0, 1)) t4 fun t37 =>
    loadE 1 H3 t37 fun t38 =>
    binE none false false .gtr t38 (V (.int .i64 63)) fun t39 =>
    condE t39 (
    plenumref30_May_r4 m H.length kc kx ⟨H3, [(1, t1), (3, t3), (4, t4), (60, (V (.bool true)))]⟩) (
    fieldE (some (2, 1)) t4 fun t42 =>
    loadE 1 H3 t42 fun t43 =>
    tellE (plenumref30_num m (ro H3 t43)) [(ro H3 t43)] fun t44 =>
    unE .not t44 fun t45 =>
    condE t45 (
    plenumref30_May_r4 m H.length kc kx ⟨H3, [(1, t1), (3, t3), (4, t4), (60, (V (.bool true)))]⟩) (
    fieldE (some (1, 1)) t4 fun t48 =>
    loadE 1 H3 t48 fun t49 =>
    tellE (plenumref30_Due m (ro H3 t49)) [(ro H3 t49)] fun t50 =>
    unE .not t50 fun t51 =>
    condE t51 (
    plenumref30_May_r4 m H.length kc kx ⟨H3, [(1, t1), (3, t3), (4, t4), (60, (V (.bool true)))]⟩) (
    fieldE (some (0, 1)) t1 fun t54 =>
    loadE 1 H3 t54 fun t55 =>
    fieldE (some (1, 1)) t4 fun t56 =>
    loadE 1 H3 t56 fun t57 =>
    tellE (plenumref30_Within m (ro H3 t55) (ro H3 t57)) [(ro H3 t55), (ro H3 t57)] fun t58 =>
    unE .not t58 fun t59 =>
    plenumref30_May_r4 m H.length kc kx ⟨H3, [(1, t1), (3, t3), (4, t4), (60, t59)]⟩))))) (
   kx (.exit 0) ⟨H, [(2, .nil)]⟩) := by
  refine (bodyW_eq Try.prog GG (plenumref30_May_env m) m 74 (cdL (cdL (cdR (cdL (cdR (cdR plenumref30_May_c)))))) plenumref30_May_h.r.r.l.r.c.c [1, 3] [2] ⟨H, [(1, t1), (3, t3)]⟩ kc kx).trans ?_
  kernel_rfl
theorem plenumref30_May_r2_eq (m : Nat) (H : List AObj) (t1 : AV) : plenumref30_May_r2 m ⟨H, [(1, t1)]⟩ =
  iterC m (plenumref30_May_b1 m) ⟨H, [(1, t1), (3, (V (.int .i64 0)))]⟩ (blockX 0 (seqX (fun s => plenumref30_May_r3 m ⟨s.H, []⟩) (plenumref30_May_fin))) := by
  refine (joinW_eq Try.prog GG (plenumref30_May_env m) m 74 (cdR (cdR plenumref30_May_c)) plenumref30_May_h.r.r ⟨H, [(1, t1)]⟩ (plenumref30_May_fin)).trans ?_
  kernel_rfl
theorem plenumref30_May_r1_eq (m : Nat) (H : List AObj) (t1 t20 : AV) : plenumref30_May_r1 m ⟨H, [(1, t1), (20, t20)]⟩ =
  condE t20 (
   tellK H (ro H (V (.bool false)))) (
   plenumref30_May_r2 m ⟨H, [(1, t1)]⟩) := by
  refine (joinW_eq Try.prog GG (plenumref30_May_env m) m 74 (cdR (cdL (cdR plenumref30_May_c))) plenumref30_May_h.r.l.r ⟨H, [(1, t1), (20, t20)]⟩ (seqX (fun s => plenumref30_May_r2 m ⟨s.H, [(1, gt s.T 1)]⟩) (plenumref30_May_fin))).trans ?_
  kernel_rfl
theorem plenumref30_May_eq (m : Nat) (t0 : AV) : plenumref30_May m t0 =
  boxE ty_api_Marks [] t0 fun t1 H1 =>
  fieldE (some (0, 1)) t1 fun t5 =>
  loadE 1 H1 t5 fun t6 =>
  tellE (plenumref30_num m (ro H1 t6)) [(ro H1 t6)] fun t7 =>
  unE .not t7 fun t8 =>
  condE t8 (
   plenumref30_May_r1 m ⟨H1, [(1, t1), (20, (V (.bool true)))]⟩) (
   fieldE (some (0, 1)) t1 fun t10 =>
   loadE 1 H1 t10 fun t11 =>
   binE none false false .rem t11 (V (.int .i64 4)) fun t12 =>
   binE none false false .neq t12 (V (.int .i64 0)) fun t13 =>
   condE t13 (
   plenumref30_May_r1 m ⟨H1, [(1, t1), (20, (V (.bool true)))]⟩) (
   fieldE (some (1, 1)) t1 fun t16 =>
   loadE 1 H1 t16 fun t17 =>
   tellE (plenumref30_num m (ro H1 t17)) [(ro H1 t17)] fun t18 =>
   unE .not t18 fun t19 =>
   plenumref30_May_r1 m ⟨H1, [(1, t1), (20, t19)]⟩)) := by
  refine (tellX Try.prog GG (plenumref30_May_env m) m 74 plenumref30_May_c plenumref30_May_h ⟨[], argsT 0 [t0]⟩ [.tmp 2]).trans ?_
  kernel_rfl
noncomputable def plenumref30_May_t (m : Nat) : List AV → RO | [t0] => plenumref30_May m t0 | _ => none
theorem plenumref30_May_ok (m : Nat) : ∀ args X H', plenumref30_May_t m args = some (X, H') → ACp Try.prog GG 12 args X := by
  intro args X H' h
  unfold plenumref30_May_t at h
  split at h
  · exact tell_okK MIX (by
    intro f e h
    simp only [plenumref30_May_env, Prod.mk.injEq, List.mem_cons, List.not_mem_nil, or_false] at h
    rcases h with ⟨rfl, rfl⟩ | ⟨rfl, rfl⟩ | ⟨rfl, rfl⟩ | ⟨rfl, rfl⟩
    · exact plenumref30_num_ok m
    · exact plenumref30_Due_ok m
    · exact plenumref30_Within_ok m
    · exact plenumref30_ahead_ok m) (f := 12) (c := plenumref30_May_c) Try.func12 rfl (by kernel_rfl) _ rfl Try.ntmps12 (Nat.le_of_ble_eq_true rfl) plenumref30_May_h h
  · cases h
noncomputable def plenumref30_Later_c : Code := (Try.f31.body).getD .skip
def plenumref30_Later_h : Hint := (.two .n (.two .n (.join [5] (.two .n (.one (.lp [(5, ty_api_Mark, 3)] [0, 1, 5, 6] [5] (.two (.two .n (.two .n .n)) (.join [0, 1, 5, 6] (.one (.two .n (.two .n .n))) .n))))) (.two .n .n))))
noncomputable def plenumref30_Later_env (m : Nat) : Env := []
noncomputable abbrev plenumref30_Later_fin : KO (AV × List AObj) := tellFK Try.prog [.tmp 4]
noncomputable def plenumref30_Later_r2 (m : Nat) (n0 : Nat) (kc : ASt → RO) (kx : KO (AV × List AObj)) (s : ASt) : RO := joinW Try.prog GG (plenumref30_Later_env m) m 28 (cdR (cdR (cdL (cdL (cdR (cdL (cdR (cdR plenumref30_Later_c)))))))) plenumref30_Later_h.r.r.l.r.c.c.r.r s (backW n0 [0, 1, 5, 6] [5] kc kx)
noncomputable def plenumref30_Later_r1 (m : Nat) (s : ASt) : RO := joinW Try.prog GG (plenumref30_Later_env m) m 28 (cdR (cdR (cdR plenumref30_Later_c))) plenumref30_Later_h.r.r.r s (plenumref30_Later_fin)
noncomputable def plenumref30_Later_b1 (m : Nat) (s : ASt) (kc : ASt → RO) (kx : KO (AV × List AObj)) : RO := bodyW Try.prog GG (plenumref30_Later_env m) m 28 (cdL (cdL (cdR (cdL (cdR (cdR plenumref30_Later_c)))))) plenumref30_Later_h.r.r.l.r.c.c [0, 1, 5, 6] [5] s kc kx
noncomputable def plenumref30_Later (m : Nat) (t0 t1 : AV) : RO := exec Try.prog GG (plenumref30_Later_env m) m 28 plenumref30_Later_c plenumref30_Later_h ⟨[], argsT 0 [t0, t1]⟩ (plenumref30_Later_fin)
theorem plenumref30_Later_r2_eq (m : Nat) (n0 : Nat) (kc : ASt → RO) (kx : KO (AV × List AObj)) (H : List AObj) (t0 t1 t5 t6 : AV) : plenumref30_Later_r2 m n0 kc kx ⟨H, [(0, t0), (1, t1), (5, t5), (6, t6)]⟩ =
  binE none false false .add t6 (V (.int .i64 1)) fun t12 =>
  backE n0 H [(0, t0), (1, t1), (5, t5), (6, t12)] kc := by
  refine (joinW_eq Try.prog GG (plenumref30_Later_env m) m 28 (cdR (cdR (cdL (cdL (cdR (cdL (cdR (cdR plenumref30_Later_c)))))))) plenumref30_Later_h.r.r.l.r.c.c.r.r ⟨H, [(0, t0), (1, t1), (5, t5), (6, t6)]⟩ (backW n0 [0, 1, 5, 6] [5] kc kx)).trans ?_
  kernel_rfl
theorem plenumref30_Later_r1_eq (m : Nat) (H : List AObj) (t5 : AV) : plenumref30_Later_r1 m ⟨H, [(5, t5)]⟩ =
  tellK H (ro H t5) := by
  refine (joinW_eq Try.prog GG (plenumref30_Later_env m) m 28 (cdR (cdR (cdR plenumref30_Later_c))) plenumref30_Later_h.r.r.r ⟨H, [(5, t5)]⟩ (plenumref30_Later_fin)).trans ?_
  kernel_rfl
theorem plenumref30_Later_b1_eq (m : Nat) (H : List AObj) (t0 t1 t5 t6 : AV) (kc : ASt → RO) (kx : KO (AV × List AObj)) : plenumref30_Later_b1 m ⟨H, [(0, t0), (1, t1), (5, t5), (6, t6)]⟩ kc kx =
  lenE false true H t0 fun t9 =>
  binE none false false .lss t6 t9 fun t10 =>
  condE t10 (
   idxSE 5 H t0 t6 fun t15 =>
   fieldE (some (1, 1)) t15 fun t16 =>
   loadE 1 H t16 fun t17 =>
   binE none false false .gtr t17 t1 fun t19 =>
   condE t19 (
    idxSE 5 H t0 t6 fun t23 =>
    loadE 5 H t23 fun t24 =>
    buildSE (some (ty_api_Mark, 3)) 1 [(0, t24)] fun t25 =>
    appE (some (ty_api_Mark, 3)) H t5 t25 fun t26 H2 =>
    plenumref30_Later_r2 m H.length kc kx ⟨H2, [(0, t0), (1, t1), (5, t26), (6, t6)]⟩) (
    plenumref30_Later_r2 m H.length kc kx ⟨H, [(0, t0), (1, t1), (5, t5), (6, t6)]⟩)) (
   kx (.exit 0) ⟨H, [(5, t5)]⟩) := by
  refine (bodyW_eq Try.prog GG (plenumref30_Later_env m) m 28 (cdL (cdL (cdR (cdL (cdR (cdR plenumref30_Later_c)))))) plenumref30_Later_h.r.r.l.r.c.c [0, 1, 5, 6] [5] ⟨H, [(0, t0), (1, t1), (5, t5), (6, t6)]⟩ kc kx).trans ?_
  kernel_rfl
theorem plenumref30_Later_eq (m : Nat) (t0 t1 : AV) : plenumref30_Later m t0 t1 =
  rowE (V (.slice none 0 0)) ty_api_Mark 3 [] fun t5 H1 =>
  iterC m (plenumref30_Later_b1 m) ⟨H1, [(0, t0), (1, t1), (5, t5), (6, (V (.int .i64 0)))]⟩ (blockX 0 (seqX (fun s => plenumref30_Later_r1 m ⟨s.H, [(5, gt s.T 5)]⟩) (plenumref30_Later_fin))) := by
  refine (tellX Try.prog GG (plenumref30_Later_env m) m 28 plenumref30_Later_c plenumref30_Later_h ⟨[], argsT 0 [t0, t1]⟩ [.tmp 4]).trans ?_
  kernel_rfl
noncomputable def plenumref30_Later_t (m : Nat) : List AV → RO | [t0, t1] => plenumref30_Later m t0 t1 | _ => none
theorem plenumref30_Later_ok (m : Nat) : ∀ args X H', plenumref30_Later_t m args = some (X, H') → ACp Try.prog GG 31 args X := by
  intro args X H' h
  unfold plenumref30_Later_t at h
  split at h
  · exact tell_okK MIX (by intro f e h; cases h) (f := 31) (c := plenumref30_Later_c) Try.func31 rfl (by kernel_rfl) _ rfl Try.ntmps31 (Nat.le_of_ble_eq_true rfl) plenumref30_Later_h h
  · cases h
noncomputable def plenumref30_Move_c : Code := (Try.f18.body).getD .skip
def plenumref30_Move_h : Hint := (.two .n (.join [1, 2, 3, 6] (.join [1, 2, 3, 6, 24] .n (.two (.two .n .n) .n)) (.two (.two .n (.two (.two .n .n) .n)) (.two .n .n))))
noncomputable def plenumref30_Move_env (m : Nat) : Env := [(12, .tell (plenumref30_May_t m)), (16, .tell (plenumref30_Due_t m)), (29, .tell (plenumref30_num_t m)), (31, .tell (plenumref30_Later_t m))]
noncomputable abbrev plenumref30_Move_fin : KO (AV × List AObj) := tellFK Try.prog [.cell 6 24, .tmp 7]
noncomputable def plenumref30_Move_r2 (m : Nat) (s : ASt) : RO := joinW Try.prog GG (plenumref30_Move_env m) m 38 (cdR (cdR plenumref30_Move_c)) plenumref30_Move_h.r.r s (plenumref30_Move_fin)
noncomputable def plenumref30_Move_r1 (m : Nat) (s : ASt) : RO := joinW Try.prog GG (plenumref30_Move_env m) m 38 (cdR (cdL (cdR plenumref30_Move_c))) plenumref30_Move_h.r.l.r s (seqX (fun s => plenumref30_Move_r2 m ⟨s.H, [(1, gt s.T 1), (2, gt s.T 2), (3, gt s.T 3), (6, gt s.T 6)]⟩) (plenumref30_Move_fin))
noncomputable def plenumref30_Move (m : Nat) (t0 t1 t2 : AV) : RO := exec Try.prog GG (plenumref30_Move_env m) m 38 plenumref30_Move_c plenumref30_Move_h ⟨[], argsT 0 [t0, t1, t2]⟩ (plenumref30_Move_fin)
theorem plenumref30_Move_r2_eq (m : Nat) (H : List AObj) (t1 t2 t3 t6 : AV) : plenumref30_Move_r2 m ⟨H, [(1, t1), (2, t2), (3, t3), (6, t6)]⟩ =
  fieldE (some (0, 1)) t3 fun t27 =>
  loadE 1 H t27 fun t28 =>
  binE none false false .leq t1 t28 fun t29 =>
  condE t29 (
   buildE (some pl_api_Marks) (some zc_api_Marks) [] fun t30 =>
   storeE 5 H t6 t30 fun H2 =>
   loadE 5 H2 t6 fun t9000 =>
   tellK H2 (ro H2 (TU [noT t9000, noT (V (.int .i64 18))]))) (
   fieldE (some (2, 1)) t3 fun t33 =>
   loadE 1 H t33 fun t34 =>
   tellE (plenumref30_Later m (ro H t34) (ro H t1)) [(ro H t34), (ro H t1)] fun t36 =>
   buildE (some pl_api_Marks) (some zc_api_Marks) [(0, t1), (1, t2), (2, t36)] fun t37 =>
   storeE 5 H t6 t37 fun H2 =>
   loadE 5 H2 t6 fun t9000 =>
   tellK H2 (ro H2 (TU [noT t9000, noT (V (.int .i64 0))]))) := by
  refine (joinW_eq Try.prog GG (plenumref30_Move_env m) m 38 (cdR (cdR plenumref30_Move_c)) plenumref30_Move_h.r.r ⟨H, [(1, t1), (2, t2), (3, t3), (6, t6)]⟩ (plenumref30_Move_fin)).trans ?_
  kernel_rfl
theorem plenumref30_Move_r1_eq (m : Nat) (H : List AObj) (t1 t2 t3 t6 t24 : AV) : plenumref30_Move_r1 m ⟨H, [(1, t1), (2, t2), (3, t3), (6, t6), (24, t24)]⟩ =
  condE t24 (
   buildE (some pl_api_Marks) (some zc_api_Marks) [] fun t25 =>
   storeE 5 H t6 t25 fun H2 =>
   loadE 5 H2 t6 fun t9000 =>
   tellK H2 (ro H2 (TU [noT t9000, noT (V (.int .i64 1))]))) (
   plenumref30_Move_r2 m ⟨H, [(1, t1), (2, t2), (3, t3), (6, t6)]⟩) := by
  refine (joinW_eq Try.prog GG (plenumref30_Move_env m) m 38 (cdR (cdL (cdR plenumref30_Move_c))) plenumref30_Move_h.r.l.r ⟨H, [(1, t1), (2, t2), (3, t3), (6, t6), (24, t24)]⟩ (seqX (fun s => plenumref30_Move_r2 m ⟨s.H, [(1, gt s.T 1), (2, gt s.T 2), (3, gt s.T 3), (6, gt s.T 6)]⟩) (plenumref30_Move_fin))).trans ?_
  kernel_rfl
theorem plenumref30_Move_eq (m : Nat) (t0 t1 t2 : AV) : plenumref30_Move m t0 t1 t2 =
  boxE ty_api_Marks [] t0 fun t3 H1 =>
  allocE (some zc_api_Marks) ty_api_Marks H1 fun t6 H2 =>
  loadE 5 H2 t3 fun t8 =>
  tellE (plenumref30_May m (ro H2 t8)) [(ro H2 t8)] fun t9 =>
  unE .not t9 fun t10 =>
  condE t10 (
   plenumref30_Move_r1 m ⟨H2, [(1, t1), (2, t2), (3, t3), (6, t6), (24, (V (.bool true)))]⟩) (
   tellE (plenumref30_Due m (ro H2 t1)) [(ro H2 t1)] fun t13 =>
   unE .not t13 fun t14 =>
   condE t14 (
   plenumref30_Move_r1 m ⟨H2, [(1, t1), (2, t2), (3, t3), (6, t6), (24, (V (.bool true)))]⟩) (
   binE none false false .gtr t1 (V (.int .i64 2147483647)) fun t18 =>
   condE t18 (
   plenumref30_Move_r1 m ⟨H2, [(1, t1), (2, t2), (3, t3), (6, t6), (24, (V (.bool true)))]⟩) (
   tellE (plenumref30_num m (ro H2 t2)) [(ro H2 t2)] fun t22 =>
   unE .not t22 fun t23 =>
   plenumref30_Move_r1 m ⟨H2, [(1, t1), (2, t2), (3, t3), (6, t6), (24, t23)]⟩))) := by
  refine (tellX Try.prog GG (plenumref30_Move_env m) m 38 plenumref30_Move_c plenumref30_Move_h ⟨[], argsT 0 [t0, t1, t2]⟩ [.cell 6 24, .tmp 7]).trans ?_
  kernel_rfl
noncomputable def plenumref30_Move_t (m : Nat) : List AV → RO | [t0, t1, t2] => plenumref30_Move m t0 t1 t2 | _ => none
theorem plenumref30_Move_ok (m : Nat) : ∀ args X H', plenumref30_Move_t m args = some (X, H') → ACp Try.prog GG 18 args X := by
  intro args X H' h
  unfold plenumref30_Move_t at h
  split at h
  · exact tell_okK MIX (by
    intro f e h
    simp only [plenumref30_Move_env, Prod.mk.injEq, List.mem_cons, List.not_mem_nil, or_false] at h
    rcases h with ⟨rfl, rfl⟩ | ⟨rfl, rfl⟩ | ⟨rfl, rfl⟩ | ⟨rfl, rfl⟩
    · exact plenumref30_May_ok m
    · exact plenumref30_Due_ok m
    · exact plenumref30_num_ok m
    · exact plenumref30_Later_ok m) (f := 18) (c := plenumref30_Move_c) Try.func18 rfl (by kernel_rfl) _ rfl Try.ntmps18 (Nat.le_of_ble_eq_true rfl) plenumref30_Move_h h
  · cases h
noncomputable def plenumref30_Same_c : Code := (Try.f19.body).getD .skip
def plenumref30_Same_h : Hint := (.two .n (.join [2, 3] (.join [2, 3, 26] .n (.two (.two .n .n) .n)) (.join [] (.two .n (.one (.lp [] [2, 3, 5] [4] (.two (.two .n (.two .n .n)) (.two (.one (.two .n (.two (.two .n .n) .n))) .n))))) (.two .n .n))))
noncomputable def plenumref30_Same_env (m : Nat) : Env := []
noncomputable abbrev plenumref30_Same_fin : KO (AV × List AObj) := tellFK Try.prog [.tmp 4]
noncomputable def plenumref30_Same_r3 (m : Nat) (s : ASt) : RO := joinW Try.prog GG (plenumref30_Same_env m) m 45 (cdR (cdR (cdR plenumref30_Same_c))) plenumref30_Same_h.r.r.r s (plenumref30_Same_fin)
noncomputable def plenumref30_Same_b1 (m : Nat) (s : ASt) (kc : ASt → RO) (kx : KO (AV × List AObj)) : RO := bodyW Try.prog GG (plenumref30_Same_env m) m 45 (cdL (cdL (cdR (cdL (cdR (cdR plenumref30_Same_c)))))) plenumref30_Same_h.r.r.l.r.c.c [2, 3, 5] [4] s kc kx
noncomputable def plenumref30_Same_r2 (m : Nat) (s : ASt) : RO := joinW Try.prog GG (plenumref30_Same_env m) m 45 (cdR (cdR plenumref30_Same_c)) plenumref30_Same_h.r.r s (plenumref30_Same_fin)
noncomputable def plenumref30_Same_r1 (m : Nat) (s : ASt) : RO := joinW Try.prog GG (plenumref30_Same_env m) m 45 (cdR (cdL (cdR plenumref30_Same_c))) plenumref30_Same_h.r.l.r s (seqX (fun s => plenumref30_Same_r2 m ⟨s.H, [(2, gt s.T 2), (3, gt s.T 3)]⟩) (plenumref30_Same_fin))
noncomputable def plenumref30_Same (m : Nat) (t0 t1 : AV) : RO := exec Try.prog GG (plenumref30_Same_env m) m 45 plenumref30_Same_c plenumref30_Same_h ⟨[], argsT 0 [t0, t1]⟩ (plenumref30_Same_fin)
theorem plenumref30_Same_r3_eq (m : Nat) (H : List AObj) : plenumref30_Same_r3 m ⟨H, []⟩ =
  tellK H (ro H (V (.bool true))) := by
  refine (joinW_eq Try.prog GG (plenumref30_Same_env m) m 45 (cdR (cdR (cdR plenumref30_Same_c))) plenumref30_Same_h.r.r.r ⟨H, []⟩ (plenumref30_Same_fin)).trans ?_
  kernel_rfl
theorem plenumref30_Same_b1_eq (m : Nat) (H : List AObj) (t2 t3 t5 : AV) (kc : ASt → RO) (kx : KO (AV × List AObj)) : plenumref30_Same_b1 m ⟨H, [(2, t2), (3, t3), (5, t5)]⟩ kc kx =
  fieldE (some (2, 1)) t2 fun t28 =>
  loadE 1 H t28 fun t29 =>
  lenE false true H t29 fun t30 =>
  binE none false false .lss t5 t30 fun t31 =>
  condE t31 (
   fieldE (some (2, 1)) t2 fun t34 =>
   loadE 1 H t34 fun t35 =>
   idxSE 5 H t35 t5 fun t37 =>
   loadE 5 H t37 fun t38 =>
   fieldE (some (2, 1)) t3 fun t39 =>
   loadE 1 H t39 fun t40 =>
   idxSE 5 H t40 t5 fun t42 =>
   loadE 5 H t42 fun t43 =>
   binE (some [.i .i64, .i .i64, .i .i64]) false false .neq t38 t43 fun t44 =>
   condE t44 (
    kx .ret ⟨H, [(4, (V (.bool false)))]⟩) (
    binE none false false .add t5 (V (.int .i64 1)) fun t33 =>
    backE H.length H [(2, t2), (3, t3), (5, t33)] kc)) (
   kx (.exit 0) ⟨H, [(4, .nil)]⟩) := by
  refine (bodyW_eq Try.prog GG (plenumref30_Same_env m) m 45 (cdL (cdL (cdR (cdL (cdR (cdR plenumref30_Same_c)))))) plenumref30_Same_h.r.r.l.r.c.c [2, 3, 5] [4] ⟨H, [(2, t2), (3, t3), (5, t5)]⟩ kc kx).trans ?_
  kernel_rfl
theorem plenumref30_Same_r2_eq (m : Nat) (H : List AObj) (t2 t3 : AV) : plenumref30_Same_r2 m ⟨H, [(2, t2), (3, t3)]⟩ =
  iterC m (plenumref30_Same_b1 m) ⟨H, [(2, t2), (3, t3), (5, (V (.int .i64 0)))]⟩ (blockX 0 (seqX (fun s => plenumref30_Same_r3 m ⟨s.H, []⟩) (plenumref30_Same_fin))) := by
  refine (joinW_eq Try.prog GG (plenumref30_Same_env m) m 45 (cdR (cdR plenumref30_Same_c)) plenumref30_Same_h.r.r ⟨H, [(2, t2), (3, t3)]⟩ (plenumref30_Same_fin)).trans ?_
  kernel_rfl
theorem plenumref30_Same_r1_eq (m : Nat) (H : List AObj) (t2 t3 t26 : AV) : plenumref30_Same_r1 m ⟨H, [(2, t2), (3, t3), (26, t26)]⟩ =
  condE t26 (
   tellK H (ro H (V (.bool false)))) (
   plenumref30_Same_r2 m ⟨H, [(2, t2), (3, t3)]⟩) := by
  refine (joinW_eq Try.prog GG (plenumref30_Same_env m) m 45 (cdR (cdL (cdR plenumref30_Same_c))) plenumref30_Same_h.r.l.r ⟨H, [(2, t2), (3, t3), (26, t26)]⟩ (seqX (fun s => plenumref30_Same_r2 m ⟨s.H, [(2, gt s.T 2), (3, gt s.T 3)]⟩) (plenumref30_Same_fin))).trans ?_
  kernel_rfl
theorem plenumref30_Same_eq (m : Nat) (t0 t1 : AV) : plenumref30_Same m t0 t1 =
  boxE ty_api_Marks [] t0 fun t2 H1 =>
  boxE ty_api_Marks H1 t1 fun t3 H2 =>
  fieldE (some (0, 1)) t2 fun t6 =>
  loadE 1 H2 t6 fun t7 =>
  fieldE (some (0, 1)) t3 fun t8 =>
  loadE 1 H2 t8 fun t9 =>
  binE none false false .neq t7 t9 fun t10 =>
  condE t10 (
   plenumref30_Same_r1 m ⟨H2, [(2, t2), (3, t3), (26, (V (.bool true)))]⟩) (
   fieldE (some (1, 1)) t2 fun t12 =>
   loadE 1 H2 t12 fun t13 =>
   fieldE (some (1, 1)) t3 fun t14 =>
   loadE 1 H2 t14 fun t15 =>
   binE none false false .neq t13 t15 fun t16 =>
   condE t16 (
   plenumref30_Same_r1 m ⟨H2, [(2, t2), (3, t3), (26, (V (.bool true)))]⟩) (
   fieldE (some (2, 1)) t2 fun t19 =>
   loadE 1 H2 t19 fun t20 =>
   lenE false true H2 t20 fun t21 =>
   fieldE (some (2, 1)) t3 fun t22 =>
   loadE 1 H2 t22 fun t23 =>
   lenE false true H2 t23 fun t24 =>
   binE none false false .neq t21 t24 fun t25 =>
   plenumref30_Same_r1 m ⟨H2, [(2, t2), (3, t3), (26, t25)]⟩)) := by
  refine (tellX Try.prog GG (plenumref30_Same_env m) m 45 plenumref30_Same_c plenumref30_Same_h ⟨[], argsT 0 [t0, t1]⟩ [.tmp 4]).trans ?_
  kernel_rfl
noncomputable def plenumref30_Same_t (m : Nat) : List AV → RO | [t0, t1] => plenumref30_Same m t0 t1 | _ => none
theorem plenumref30_Same_ok (m : Nat) : ∀ args X H', plenumref30_Same_t m args = some (X, H') → ACp Try.prog GG 19 args X := by
  intro args X H' h
  unfold plenumref30_Same_t at h
  split at h
  · exact tell_okK MIX (by intro f e h; cases h) (f := 19) (c := plenumref30_Same_c) Try.func19 rfl (by kernel_rfl) _ rfl Try.ntmps19 (Nat.le_of_ble_eq_true rfl) plenumref30_Same_h h
  · cases h
noncomputable def plenumlaw30_Few_c : Code := (Try.f10.body).getD .skip
def plenumlaw30_Few_h : Hint := (.two .n (.join [1, 2] (.two .n (.two .n .n)) (.two .n .n)))
noncomputable def plenumlaw30_Few_env (m : Nat) : Env := []
noncomputable abbrev plenumlaw30_Few_fin : KO (AV × List AObj) := tellFK Try.prog [.cell 2 24]
noncomputable def plenumlaw30_Few_r1 (m : Nat) (s : ASt) : RO := joinW Try.prog GG (plenumlaw30_Few_env m) m 12 (cdR (cdR plenumlaw30_Few_c)) plenumlaw30_Few_h.r.r s (plenumlaw30_Few_fin)
noncomputable def plenumlaw30_Few (m : Nat) (t0 : AV) : RO := exec Try.prog GG (plenumlaw30_Few_env m) m 12 plenumlaw30_Few_c plenumlaw30_Few_h ⟨[], argsT 0 [t0]⟩ (plenumlaw30_Few_fin)
theorem plenumlaw30_Few_r1_eq (m : Nat) (H : List AObj) (t1 t2 : AV) : plenumlaw30_Few_r1 m ⟨H, [(1, t1), (2, t2)]⟩ =
  loadE 5 H t1 fun t11 =>
  storeE 5 H t2 t11 fun H2 =>
  loadE 5 H2 t2 fun t9000 =>
  tellK H2 (ro H2 t9000) := by
  refine (joinW_eq Try.prog GG (plenumlaw30_Few_env m) m 12 (cdR (cdR plenumlaw30_Few_c)) plenumlaw30_Few_h.r.r ⟨H, [(1, t1), (2, t2)]⟩ (plenumlaw30_Few_fin)).trans ?_
  kernel_rfl
theorem plenumlaw30_Few_eq (m : Nat) (t0 : AV) : plenumlaw30_Few m t0 =
  boxE ty_api_Marks [] t0 fun t1 H1 =>
  allocE (some zc_api_Marks) ty_api_Marks H1 fun t2 H2 =>
  fieldE (some (2, 1)) t1 fun t3 =>
  loadE 1 H2 t3 fun t4 =>
  lenE false true H2 t4 fun t5 =>
  binE none false false .gtr t5 (V (.int .i64 260)) fun t6 =>
  condE t6 (
   fieldE (some (2, 1)) t1 fun t7 =>
   loadE 1 H2 t7 fun t8 =>
   sliceE false (some (ty_api_Mark, 5)) H2 t8 none (some (V (.int .i64 260))) fun t9 =>
   fieldE (some (2, 1)) t1 fun t10 =>
   storeE 1 H2 t10 t9 fun H3 =>
   plenumlaw30_Few_r1 m ⟨H3, [(1, t1), (2, t2)]⟩) (
   plenumlaw30_Few_r1 m ⟨H2, [(1, t1), (2, t2)]⟩) := by
  refine (tellX Try.prog GG (plenumlaw30_Few_env m) m 12 plenumlaw30_Few_c plenumlaw30_Few_h ⟨[], argsT 0 [t0]⟩ [.cell 2 24]).trans ?_
  kernel_rfl
noncomputable def plenumlaw30_Few_t (m : Nat) : List AV → RO | [t0] => plenumlaw30_Few m t0 | _ => none
theorem plenumlaw30_Few_ok (m : Nat) : ∀ args X H', plenumlaw30_Few_t m args = some (X, H') → ACp Try.prog GG 10 args X := by
  intro args X H' h
  unfold plenumlaw30_Few_t at h
  split at h
  · exact tell_okK MIX (by intro f e h; cases h) (f := 10) (c := plenumlaw30_Few_c) Try.func10 rfl (by kernel_rfl) _ rfl Try.ntmps10 (Nat.le_of_ble_eq_true rfl) plenumlaw30_Few_h h
  · cases h
noncomputable def plenumlaw30_awake_c : Code := (Try.f9.body).getD .skip
def plenumlaw30_awake_h : Hint := (.two .n (.two .n (.two .n (.two .n (.two .n (.two .n (.two .n (.two .n .n))))))))
noncomputable def plenumlaw30_awake_env (m : Nat) : Env := [(7, .tell (marks_Say_t m)), (11, .tell (marks_Voices_t m))]
noncomputable abbrev plenumlaw30_awake_fin : KO (AV × List AObj) := tellFK Try.prog [.tmp 0]
noncomputable def plenumlaw30_awake (m : Nat) : RO := exec Try.prog GG (plenumlaw30_awake_env m) m 111 plenumlaw30_awake_c plenumlaw30_awake_h ⟨[], argsT 0 []⟩ (plenumlaw30_awake_fin)
theorem plenumlaw30_awake_eq (m : Nat) : plenumlaw30_awake m =
  buildE (some pl_api_Marks) (some zc_api_Marks) [] fun t16 =>
  buildE (some pl_api_Mark) (some zc_api_Mark) [(1, (V (.int .i64 4))), (2, (V (.int .i64 7)))] fun t17 =>
  tellE (marks_Say m (ro [] t16) (ro [] t17) (V (.int .i64 4))) [(ro [] t16), (ro [] t17), (V (.int .i64 4))] fun t18 =>
  extE t18 0 fun t19 =>
  extE t18 1 fun t20 =>
  extE t18 2 fun t21 =>
  allocE (some zc_api_Marks) ty_api_Marks [] fun t1 H1 =>
  storeE 5 H1 t1 t19 fun H2 =>
  loadE 5 H2 t1 fun t23 =>
  buildE (some pl_api_Mark) (some zc_api_Mark) [(0, (V (.int .i64 1))), (1, (V (.int .i64 4))), (2, (V (.int .i64 7)))] fun t24 =>
  tellE (marks_Say m (ro H2 t23) (ro H2 t24) (V (.int .i64 4))) [(ro H2 t23), (ro H2 t24), (V (.int .i64 4))] fun t25 =>
  extE t25 0 fun t26 =>
  extE t25 1 fun t27 =>
  extE t25 2 fun t28 =>
  storeE 5 H2 t1 t26 fun H3 =>
  loadE 5 H3 t1 fun t29 =>
  tellE (marks_Voices m (ro H3 t29) (V (.int .i64 4)) (V (.int .i64 7))) [(ro H3 t29), (V (.int .i64 4)), (V (.int .i64 7))] fun t30 =>
  loadE 5 H3 t1 fun t32 =>
  buildE (some pl_api_Mark) (some zc_api_Mark) [(0, (V (.int .i64 2))), (1, (V (.int .i64 4))), (2, (V (.int .i64 7)))] fun t33 =>
  tellE (marks_Say m (ro H3 t32) (ro H3 t33) (V (.int .i64 4))) [(ro H3 t32), (ro H3 t33), (V (.int .i64 4))] fun t34 =>
  extE t34 0 fun t35 =>
  extE t34 1 fun t36 =>
  extE t34 2 fun t37 =>
  storeE 5 H3 t1 t35 fun H4 =>
  loadE 5 H4 t1 fun t39 =>
  buildE (some pl_api_Mark) (some zc_api_Mark) [(0, (V (.int .i64 3))), (1, (V (.int .i64 4))), (2, (V (.int .i64 7)))] fun t40 =>
  tellE (marks_Say m (ro H4 t39) (ro H4 t40) (V (.int .i64 4))) [(ro H4 t39), (ro H4 t40), (V (.int .i64 4))] fun t41 =>
  extE t41 0 fun t42 =>
  extE t41 1 fun t43 =>
  extE t41 2 fun t44 =>
  allocE (some zc_api_Marks) ty_api_Marks H4 fun t9 H5 =>
  storeE 5 H5 t9 t42 fun H6 =>
  loadE 5 H6 t1 fun t46 =>
  buildE (some pl_api_Mark) (some zc_api_Mark) [(0, (V (.int .i64 3))), (1, (V (.int .i64 24))), (2, (V (.int .i64 7)))] fun t47 =>
  tellE (marks_Say m (ro H6 t46) (ro H6 t47) (V (.int .i64 4))) [(ro H6 t46), (ro H6 t47), (V (.int .i64 4))] fun t48 =>
  extE t48 0 fun t49 =>
  extE t48 1 fun t50 =>
  extE t48 2 fun t51 =>
  allocE (some zc_api_Marks) ty_api_Marks H6 fun t12 H7 =>
  storeE 5 H7 t12 t49 fun H8 =>
  binE none false false .eql t21 (V (.int .i64 0)) fun t53 =>
  condE t53 (
   unE .not t27 fun t56 =>
   condE t56 (
   binE none false false .eql t28 (V (.int .i64 0)) fun t60 =>
   condE t60 (
   lenE false true H8 t30 fun t64 =>
   binE none false false .eql t64 (V (.int .i64 2)) fun t65 =>
   condE t65 (
   idxSE 7 H8 t30 (V (.int .i64 1)) fun t69 =>
   loadE 7 H8 t69 fun t70 =>
   buildE (some pl_api_Stmt) (some zc_api_Stmt) [(0, (V (.int .i64 1))), (1, (V (.int .i64 5))), (3, (V (.int .i64 4))), (4, (V (.int .i64 7)))] fun t71 =>
   binE (some [.i .i64, .i .i64, .i .i64, .i .i64, .i .i64]) false false .eql t70 t71 fun t72 =>
   condE t72 (
   condE t36 (
   binE none false false .eql t37 (V (.int .i64 0)) fun t79 =>
   condE t79 (
   fieldE (some (0, 1)) t1 fun t82 =>
   loadE 1 H8 t82 fun t83 =>
   binE none false false .eql t83 (V (.int .i64 4)) fun t84 =>
   condE t84 (
   fieldE (some (1, 1)) t1 fun t87 =>
   loadE 1 H8 t87 fun t88 =>
   binE none false false .eql t88 (V (.int .i64 7)) fun t89 =>
   condE t89 (
   fieldE (some (2, 1)) t1 fun t92 =>
   loadE 1 H8 t92 fun t93 =>
   lenE false true H8 t93 fun t94 =>
   binE none false false .eql t94 (V (.int .i64 0)) fun t95 =>
   condE t95 (
   binE none false false .eql t44 (V (.int .i64 22)) fun t99 =>
   condE t99 (
   binE none false false .eql t51 (V (.int .i64 22)) fun t103 =>
   pickE t103 (V (.bool true)) (V (.bool false)) fun t106 =>
  pickE t106 (V (.bool true)) (V (.bool false)) fun t108 =>
  pickE t108 (V (.bool true)) (V (.bool false)) fun t110 =>
  tellK H8 (ro H8 t110)) (
   tellK H8 (ro H8 (V (.bool false))))) (
   tellK H8 (ro H8 (V (.bool false))))) (
   tellK H8 (ro H8 (V (.bool false))))) (
   tellK H8 (ro H8 (V (.bool false))))) (
   tellK H8 (ro H8 (V (.bool false))))) (
   tellK H8 (ro H8 (V (.bool false))))) (
   tellK H8 (ro H8 (V (.bool false))))) (
   tellK H8 (ro H8 (V (.bool false))))) (
   tellK H8 (ro H8 (V (.bool false))))) (
   tellK H8 (ro H8 (V (.bool false))))) (
   tellK H8 (ro H8 (V (.bool false)))) := by
  refine (tellX Try.prog GG (plenumlaw30_awake_env m) m 111 plenumlaw30_awake_c plenumlaw30_awake_h ⟨[], argsT 0 []⟩ [.tmp 0]).trans ?_
  kernel_rfl
noncomputable def plenumlaw30_awake_t (m : Nat) : List AV → RO | [] => plenumlaw30_awake m | _ => none
theorem plenumlaw30_awake_ok (m : Nat) : ∀ args X H', plenumlaw30_awake_t m args = some (X, H') → ACp Try.prog GG 9 args X := by
  intro args X H' h
  unfold plenumlaw30_awake_t at h
  split at h
  · exact tell_okK MIX (by
    intro f e h
    simp only [plenumlaw30_awake_env, Prod.mk.injEq, List.mem_cons, List.not_mem_nil, or_false] at h
    rcases h with ⟨rfl, rfl⟩ | ⟨rfl, rfl⟩
    · exact marks_Say_ok m
    · exact marks_Voices_ok m) (f := 9) (c := plenumlaw30_awake_c) Try.func9 rfl (by kernel_rfl) _ rfl Try.ntmps9 (Nat.le_of_ble_eq_true rfl) plenumlaw30_awake_h h
  · cases h
end Go.Proofs.Ytbobfgbjliolmaa

namespace Go.Proofs.Ytbobfgbjliolmaa
open Go.RowKit
set_option linter.unusedVariables false
set_option linter.unusedSimpArgs false
set_option maxRecDepth 20000
theorem natInt (k : Nat) : ((k : Int)).toNat = k := Int.toNat_natCast k
theorem u_addS {R : Type} {X : AV} {Y H : List AObj} {K : AV → List AObj → Option R} : addE (some (X, Y)) H K = K X (H ++ Y) := _root_.id rfl
structure Mk where
  fr : Int
  sq : Int
  tm : Int
deriving DecidableEq
structure Ms where
  low : Int
  root : Int
  l : List Mk
deriving DecidableEq
def Mk.zero : Mk := ⟨0, 0, 0⟩
def mC (x : Mk) : List AV := [nA x.fr, nA x.sq, nA x.tm]
def mE (x : Mk) : AV := .agg (mC x)
def MC (s : Ms) : List AV := [nA s.low, nA s.root, SL (s.l.map mE)]
def ME (s : Ms) : AV := .agg (MC s)
theorem mE_it (x : Mk) : mE x = .agg (mC x) := _root_.id rfl
theorem ME_it (s : Ms) : ME s = .agg (MC s) := _root_.id rfl
section
variable {R : Type} {x y : Mk} {s t : Ms} {n : Nat} {H : List AObj} {K1 : AV → Option R} {a b : Int} {l : List Mk}
theorem mc_len : (mC x).length = 3 := _root_.id rfl
theorem mc_sure : (mC x).all sure = true := _root_.id rfl
theorem mc_ltA : (mC x).all (ltA n) = true := _root_.id rfl
theorem mc_lt1 : (mC x).all (lt1 n) = true := _root_.id rfl
theorem mc_all1 : ((mC x).all fun y => lt1 n (ro1 H y)) = true := _root_.id rfl
theorem mc_ro : (mC x).map (ro1 H) = mC x := _root_.id rfl
theorem mc_take : (mC x).take 3 = mC x := _root_.id rfl
theorem mc_sl : ((mC x).all fun y => sure y && lt1 n y) = true := _root_.id rfl
theorem mc_set : setCells (mC y) 0 (mC x) = mC x := _root_.id rfl
theorem mc_fr : nthE (mC x) 0 K1 = K1 (nA x.fr) := _root_.id rfl
theorem mc_sq : nthE (mC x) 1 K1 = K1 (nA x.sq) := _root_.id rfl
theorem mc_tm : nthE (mC x) 2 K1 = K1 (nA x.tm) := _root_.id rfl
theorem zcM_eq : zc_api_Mark = mC Mk.zero := _root_.id rfl
theorem ms_len : (MC s).length = 3 := _root_.id rfl
theorem ms_sure : (MC s).all sure = true := _root_.id rfl
theorem ms_ltA : (MC s).all (ltA n) = true := _root_.id rfl
theorem ms_lt1 : (MC s).all (lt1 n) = true := _root_.id rfl
theorem ms_all1 : ((MC s).all fun y => lt1 n (ro1 H y)) = true := _root_.id rfl
theorem ms_ro : (MC s).map (ro1 H) = MC s := _root_.id rfl
theorem ms_take : (MC s).take 3 = MC s := _root_.id rfl
theorem ms_set : setCells (MC t) 0 (MC s) = MC s := _root_.id rfl
theorem ms_setL : setCells (MC s) 2 [SL (l.map mE)] = MC ⟨s.low, s.root, l⟩ := _root_.id rfl
theorem ms_low : nthE (MC s) 0 K1 = K1 (nA s.low) := _root_.id rfl
theorem ms_root : nthE (MC s) 1 K1 = K1 (nA s.root) := _root_.id rfl
theorem ms_l : nthE (MC s) 2 K1 = K1 (SL (s.l.map mE)) := _root_.id rfl
def MZ : Ms := ⟨0, 0, []⟩
theorem zs_len : zc_api_Marks.length = 3 := _root_.id rfl
theorem zs_sure : zc_api_Marks.all sure = true := _root_.id rfl
theorem zs_ltA : zc_api_Marks.all (lt1 n) = true := _root_.id rfl
theorem zs_ro : zc_api_Marks.map (ro1 H) = MC MZ := _root_.id rfl
theorem zs_set : setCells zc_api_Marks 0 zc_api_Marks = zc_api_Marks := _root_.id rfl
theorem zs_set2 : setCells zc_api_Marks 0 (MC s) = MC s := _root_.id rfl
theorem zs_take : zc_api_Marks.take 3 = zc_api_Marks := _root_.id rfl
theorem zs_b : buildE (some pl_api_Marks) (some zc_api_Marks) [] K1 = K1 (.agg zc_api_Marks) := _root_.id rfl
theorem ms_b : buildE (some pl_api_Marks) (some zc_api_Marks) [(0, nA a), (1, nA b), (2, SL (l.map mE))] K1 = K1 (.agg (MC ⟨a, b, l⟩)) := _root_.id rfl
theorem me_ltA {l : List Mk} : (l.all fun x => ltA n (mE x)) = true := List.all_eq_true.2 fun _ _ => rfl
theorem me_len3 {l : List Mk} : (l.all fun x => decide ((cellsOf (mE x)).length = 3)) = true := List.all_eq_true.2 fun _ _ => rfl
end
def numB (v : Int) : Bool := decide (0 ≤ v) && decide (v ≤ 2147483647)
def dueB (q : Int) : Bool := decide (0 < q) && decide (q % 4 = 0)
def inB (low q : Int) : Bool := decide (low < q) && (decide (q - low ≤ 16) && decide (q ≤ 2147483647))
def ordI (a b : Mk) : Int := if a.sq = b.sq then a.fr - b.fr else a.sq - b.sq
def aheadB (a b : Mk) : Bool := decide (a.sq < b.sq) || (decide (a.sq = b.sq) && decide (a.fr < b.fr))
theorem number_s (m : Nat) (v : Int) : marks_number m (nA v) = some (bA (numB v), []) := by
  rw [marks_number_eq]
  unfold numB
  by_cases h1 : 0 ≤ v
  · simp (config := {maxSteps := 4000000, implicitDefEqProofs := false}) (disch := omega) only [go_sem, ↓reduceIte, Nat.reduceAdd, Nat.reduceSub, Nat.reduceMul, Nat.reduceLeDiff, Nat.reduceLT, Int.reduceEq, Int.reduceNe, Int.reduceLT, Int.reduceLE, Int.reduceAdd, Int.reduceSub, Int.reduceMul, Int.reduceNeg, Nat.zero_add, Nat.add_zero, Nat.mul_one, Int.toNat_natCast, Int.natCast_zero, Int.cast_ofNat_Int, or_false, false_or, or_true, true_or, Int.reduceToNat, Nat.sub_zero, Int.natCast_nonneg, Int.toNat_zero, Bool.true_and, Bool.and_true, Bool.false_and, Bool.and_false, Bool.true_or, Bool.or_true, Bool.false_or, Bool.or_false, Bool.not_true, Bool.not_false, Bool.not_not, true_and, and_true, false_and, and_false, not_true_eq_false, not_false_eq_true, eq_self, decide_true, decide_false, ne_eq, implies_true, forall_const, true_implies, false_implies, Bool.true_eq_false, Bool.false_eq_true, reduceCtorEq, List.map_cons, List.map_nil, List.all_cons, List.all_nil, List.length_cons, List.length_nil, List.length_map, List.length_append, List.nil_append, List.cons_append, List.set_cons_zero, List.set_cons_succ, List.set_nil, List.drop_zero, List.drop_succ_cons, List.drop_nil, List.take_zero, List.take_succ_cons, List.take_nil, Option.map_some, Option.map_none, Option.isSome_some, Nat.reduceEqDiff, Nat.reduceBEq, Nat.reduceGT, List.all_append, List.all_map, Function.comp_def, decide_eq_true_eq, Bool.and_eq_true, beq_self_eq_true, or_self, and_self, ite_true, ite_false, Nat.le_refl, Bool.not_eq_true, decide_not, Bool.not_eq_true', decide_eq_false_iff_not, Bool.not_eq_false, Bool.or_eq_true, if_true, if_false, ite_self, h1]
  · simp (config := {maxSteps := 4000000, implicitDefEqProofs := false}) (disch := omega) only [go_sem, ↓reduceIte, Nat.reduceAdd, Nat.reduceSub, Nat.reduceMul, Nat.reduceLeDiff, Nat.reduceLT, Int.reduceEq, Int.reduceNe, Int.reduceLT, Int.reduceLE, Int.reduceAdd, Int.reduceSub, Int.reduceMul, Int.reduceNeg, Nat.zero_add, Nat.add_zero, Nat.mul_one, Int.toNat_natCast, Int.natCast_zero, Int.cast_ofNat_Int, or_false, false_or, or_true, true_or, Int.reduceToNat, Nat.sub_zero, Int.natCast_nonneg, Int.toNat_zero, Bool.true_and, Bool.and_true, Bool.false_and, Bool.and_false, Bool.true_or, Bool.or_true, Bool.false_or, Bool.or_false, Bool.not_true, Bool.not_false, Bool.not_not, true_and, and_true, false_and, and_false, not_true_eq_false, not_false_eq_true, eq_self, decide_true, decide_false, ne_eq, implies_true, forall_const, true_implies, false_implies, Bool.true_eq_false, Bool.false_eq_true, reduceCtorEq, List.map_cons, List.map_nil, List.all_cons, List.all_nil, List.length_cons, List.length_nil, List.length_map, List.length_append, List.nil_append, List.cons_append, List.set_cons_zero, List.set_cons_succ, List.set_nil, List.drop_zero, List.drop_succ_cons, List.drop_nil, List.take_zero, List.take_succ_cons, List.take_nil, Option.map_some, Option.map_none, Option.isSome_some, Nat.reduceEqDiff, Nat.reduceBEq, Nat.reduceGT, List.all_append, List.all_map, Function.comp_def, decide_eq_true_eq, Bool.and_eq_true, beq_self_eq_true, or_self, and_self, ite_true, ite_false, Nat.le_refl, Bool.not_eq_true, decide_not, Bool.not_eq_true', decide_eq_false_iff_not, Bool.not_eq_false, Bool.or_eq_true, if_true, if_false, ite_self, h1]
theorem num_s (m : Nat) (v : Int) : plenumref30_num m (nA v) = some (bA (numB v), []) := by
  rw [plenumref30_num_eq]
  unfold numB
  by_cases h1 : 0 ≤ v
  · simp (config := {maxSteps := 4000000, implicitDefEqProofs := false}) (disch := omega) only [go_sem, ↓reduceIte, Nat.reduceAdd, Nat.reduceSub, Nat.reduceMul, Nat.reduceLeDiff, Nat.reduceLT, Int.reduceEq, Int.reduceNe, Int.reduceLT, Int.reduceLE, Int.reduceAdd, Int.reduceSub, Int.reduceMul, Int.reduceNeg, Nat.zero_add, Nat.add_zero, Nat.mul_one, Int.toNat_natCast, Int.natCast_zero, Int.cast_ofNat_Int, or_false, false_or, or_true, true_or, Int.reduceToNat, Nat.sub_zero, Int.natCast_nonneg, Int.toNat_zero, Bool.true_and, Bool.and_true, Bool.false_and, Bool.and_false, Bool.true_or, Bool.or_true, Bool.false_or, Bool.or_false, Bool.not_true, Bool.not_false, Bool.not_not, true_and, and_true, false_and, and_false, not_true_eq_false, not_false_eq_true, eq_self, decide_true, decide_false, ne_eq, implies_true, forall_const, true_implies, false_implies, Bool.true_eq_false, Bool.false_eq_true, reduceCtorEq, List.map_cons, List.map_nil, List.all_cons, List.all_nil, List.length_cons, List.length_nil, List.length_map, List.length_append, List.nil_append, List.cons_append, List.set_cons_zero, List.set_cons_succ, List.set_nil, List.drop_zero, List.drop_succ_cons, List.drop_nil, List.take_zero, List.take_succ_cons, List.take_nil, Option.map_some, Option.map_none, Option.isSome_some, Nat.reduceEqDiff, Nat.reduceBEq, Nat.reduceGT, List.all_append, List.all_map, Function.comp_def, decide_eq_true_eq, Bool.and_eq_true, beq_self_eq_true, or_self, and_self, ite_true, ite_false, Nat.le_refl, Bool.not_eq_true, decide_not, Bool.not_eq_true', decide_eq_false_iff_not, Bool.not_eq_false, Bool.or_eq_true, if_true, if_false, ite_self, h1]
  · simp (config := {maxSteps := 4000000, implicitDefEqProofs := false}) (disch := omega) only [go_sem, ↓reduceIte, Nat.reduceAdd, Nat.reduceSub, Nat.reduceMul, Nat.reduceLeDiff, Nat.reduceLT, Int.reduceEq, Int.reduceNe, Int.reduceLT, Int.reduceLE, Int.reduceAdd, Int.reduceSub, Int.reduceMul, Int.reduceNeg, Nat.zero_add, Nat.add_zero, Nat.mul_one, Int.toNat_natCast, Int.natCast_zero, Int.cast_ofNat_Int, or_false, false_or, or_true, true_or, Int.reduceToNat, Nat.sub_zero, Int.natCast_nonneg, Int.toNat_zero, Bool.true_and, Bool.and_true, Bool.false_and, Bool.and_false, Bool.true_or, Bool.or_true, Bool.false_or, Bool.or_false, Bool.not_true, Bool.not_false, Bool.not_not, true_and, and_true, false_and, and_false, not_true_eq_false, not_false_eq_true, eq_self, decide_true, decide_false, ne_eq, implies_true, forall_const, true_implies, false_implies, Bool.true_eq_false, Bool.false_eq_true, reduceCtorEq, List.map_cons, List.map_nil, List.all_cons, List.all_nil, List.length_cons, List.length_nil, List.length_map, List.length_append, List.nil_append, List.cons_append, List.set_cons_zero, List.set_cons_succ, List.set_nil, List.drop_zero, List.drop_succ_cons, List.drop_nil, List.take_zero, List.take_succ_cons, List.take_nil, Option.map_some, Option.map_none, Option.isSome_some, Nat.reduceEqDiff, Nat.reduceBEq, Nat.reduceGT, List.all_append, List.all_map, Function.comp_def, decide_eq_true_eq, Bool.and_eq_true, beq_self_eq_true, or_self, and_self, ite_true, ite_false, Nat.le_refl, Bool.not_eq_true, decide_not, Bool.not_eq_true', decide_eq_false_iff_not, Bool.not_eq_false, Bool.or_eq_true, if_true, if_false, ite_self, h1]
theorem due_s (m : Nat) (q : Int) : marks_Due m (nA q) = some (bA (dueB q), []) := by
  rw [marks_Due_eq]
  unfold dueB
  by_cases h1 : 0 < q
  · have h2 : q.tmod 4 = q % 4 := tmod_pos (by omega)
    simp (config := {maxSteps := 4000000, implicitDefEqProofs := false}) (disch := omega) only [go_sem, ↓reduceIte, Nat.reduceAdd, Nat.reduceSub, Nat.reduceMul, Nat.reduceLeDiff, Nat.reduceLT, Int.reduceEq, Int.reduceNe, Int.reduceLT, Int.reduceLE, Int.reduceAdd, Int.reduceSub, Int.reduceMul, Int.reduceNeg, Nat.zero_add, Nat.add_zero, Nat.mul_one, Int.toNat_natCast, Int.natCast_zero, Int.cast_ofNat_Int, or_false, false_or, or_true, true_or, Int.reduceToNat, Nat.sub_zero, Int.natCast_nonneg, Int.toNat_zero, Bool.true_and, Bool.and_true, Bool.false_and, Bool.and_false, Bool.true_or, Bool.or_true, Bool.false_or, Bool.or_false, Bool.not_true, Bool.not_false, Bool.not_not, true_and, and_true, false_and, and_false, not_true_eq_false, not_false_eq_true, eq_self, decide_true, decide_false, ne_eq, implies_true, forall_const, true_implies, false_implies, Bool.true_eq_false, Bool.false_eq_true, reduceCtorEq, List.map_cons, List.map_nil, List.all_cons, List.all_nil, List.length_cons, List.length_nil, List.length_map, List.length_append, List.nil_append, List.cons_append, List.set_cons_zero, List.set_cons_succ, List.set_nil, List.drop_zero, List.drop_succ_cons, List.drop_nil, List.take_zero, List.take_succ_cons, List.take_nil, Option.map_some, Option.map_none, Option.isSome_some, Nat.reduceEqDiff, Nat.reduceBEq, Nat.reduceGT, List.all_append, List.all_map, Function.comp_def, decide_eq_true_eq, Bool.and_eq_true, beq_self_eq_true, or_self, and_self, ite_true, ite_false, Nat.le_refl, Bool.not_eq_true, decide_not, Bool.not_eq_true', decide_eq_false_iff_not, Bool.not_eq_false, Bool.or_eq_true, if_true, if_false, ite_self, h1, h2]
  · simp (config := {maxSteps := 4000000, implicitDefEqProofs := false}) (disch := omega) only [go_sem, ↓reduceIte, Nat.reduceAdd, Nat.reduceSub, Nat.reduceMul, Nat.reduceLeDiff, Nat.reduceLT, Int.reduceEq, Int.reduceNe, Int.reduceLT, Int.reduceLE, Int.reduceAdd, Int.reduceSub, Int.reduceMul, Int.reduceNeg, Nat.zero_add, Nat.add_zero, Nat.mul_one, Int.toNat_natCast, Int.natCast_zero, Int.cast_ofNat_Int, or_false, false_or, or_true, true_or, Int.reduceToNat, Nat.sub_zero, Int.natCast_nonneg, Int.toNat_zero, Bool.true_and, Bool.and_true, Bool.false_and, Bool.and_false, Bool.true_or, Bool.or_true, Bool.false_or, Bool.or_false, Bool.not_true, Bool.not_false, Bool.not_not, true_and, and_true, false_and, and_false, not_true_eq_false, not_false_eq_true, eq_self, decide_true, decide_false, ne_eq, implies_true, forall_const, true_implies, false_implies, Bool.true_eq_false, Bool.false_eq_true, reduceCtorEq, List.map_cons, List.map_nil, List.all_cons, List.all_nil, List.length_cons, List.length_nil, List.length_map, List.length_append, List.nil_append, List.cons_append, List.set_cons_zero, List.set_cons_succ, List.set_nil, List.drop_zero, List.drop_succ_cons, List.drop_nil, List.take_zero, List.take_succ_cons, List.take_nil, Option.map_some, Option.map_none, Option.isSome_some, Nat.reduceEqDiff, Nat.reduceBEq, Nat.reduceGT, List.all_append, List.all_map, Function.comp_def, decide_eq_true_eq, Bool.and_eq_true, beq_self_eq_true, or_self, and_self, ite_true, ite_false, Nat.le_refl, Bool.not_eq_true, decide_not, Bool.not_eq_true', decide_eq_false_iff_not, Bool.not_eq_false, Bool.or_eq_true, if_true, if_false, ite_self, h1]
theorem rdue_s (m : Nat) (q : Int) : plenumref30_Due m (nA q) = some (bA (dueB q), []) := by
  rw [plenumref30_Due_eq]
  unfold dueB
  by_cases h1 : 0 < q
  · have h2 : q.tmod 4 = q % 4 := tmod_pos (by omega)
    simp (config := {maxSteps := 4000000, implicitDefEqProofs := false}) (disch := omega) only [go_sem, ↓reduceIte, Nat.reduceAdd, Nat.reduceSub, Nat.reduceMul, Nat.reduceLeDiff, Nat.reduceLT, Int.reduceEq, Int.reduceNe, Int.reduceLT, Int.reduceLE, Int.reduceAdd, Int.reduceSub, Int.reduceMul, Int.reduceNeg, Nat.zero_add, Nat.add_zero, Nat.mul_one, Int.toNat_natCast, Int.natCast_zero, Int.cast_ofNat_Int, or_false, false_or, or_true, true_or, Int.reduceToNat, Nat.sub_zero, Int.natCast_nonneg, Int.toNat_zero, Bool.true_and, Bool.and_true, Bool.false_and, Bool.and_false, Bool.true_or, Bool.or_true, Bool.false_or, Bool.or_false, Bool.not_true, Bool.not_false, Bool.not_not, true_and, and_true, false_and, and_false, not_true_eq_false, not_false_eq_true, eq_self, decide_true, decide_false, ne_eq, implies_true, forall_const, true_implies, false_implies, Bool.true_eq_false, Bool.false_eq_true, reduceCtorEq, List.map_cons, List.map_nil, List.all_cons, List.all_nil, List.length_cons, List.length_nil, List.length_map, List.length_append, List.nil_append, List.cons_append, List.set_cons_zero, List.set_cons_succ, List.set_nil, List.drop_zero, List.drop_succ_cons, List.drop_nil, List.take_zero, List.take_succ_cons, List.take_nil, Option.map_some, Option.map_none, Option.isSome_some, Nat.reduceEqDiff, Nat.reduceBEq, Nat.reduceGT, List.all_append, List.all_map, Function.comp_def, decide_eq_true_eq, Bool.and_eq_true, beq_self_eq_true, or_self, and_self, ite_true, ite_false, Nat.le_refl, Bool.not_eq_true, decide_not, Bool.not_eq_true', decide_eq_false_iff_not, Bool.not_eq_false, Bool.or_eq_true, if_true, if_false, ite_self, h1, h2]
  · simp (config := {maxSteps := 4000000, implicitDefEqProofs := false}) (disch := omega) only [go_sem, ↓reduceIte, Nat.reduceAdd, Nat.reduceSub, Nat.reduceMul, Nat.reduceLeDiff, Nat.reduceLT, Int.reduceEq, Int.reduceNe, Int.reduceLT, Int.reduceLE, Int.reduceAdd, Int.reduceSub, Int.reduceMul, Int.reduceNeg, Nat.zero_add, Nat.add_zero, Nat.mul_one, Int.toNat_natCast, Int.natCast_zero, Int.cast_ofNat_Int, or_false, false_or, or_true, true_or, Int.reduceToNat, Nat.sub_zero, Int.natCast_nonneg, Int.toNat_zero, Bool.true_and, Bool.and_true, Bool.false_and, Bool.and_false, Bool.true_or, Bool.or_true, Bool.false_or, Bool.or_false, Bool.not_true, Bool.not_false, Bool.not_not, true_and, and_true, false_and, and_false, not_true_eq_false, not_false_eq_true, eq_self, decide_true, decide_false, ne_eq, implies_true, forall_const, true_implies, false_implies, Bool.true_eq_false, Bool.false_eq_true, reduceCtorEq, List.map_cons, List.map_nil, List.all_cons, List.all_nil, List.length_cons, List.length_nil, List.length_map, List.length_append, List.nil_append, List.cons_append, List.set_cons_zero, List.set_cons_succ, List.set_nil, List.drop_zero, List.drop_succ_cons, List.drop_nil, List.take_zero, List.take_succ_cons, List.take_nil, Option.map_some, Option.map_none, Option.isSome_some, Nat.reduceEqDiff, Nat.reduceBEq, Nat.reduceGT, List.all_append, List.all_map, Function.comp_def, decide_eq_true_eq, Bool.and_eq_true, beq_self_eq_true, or_self, and_self, ite_true, ite_false, Nat.le_refl, Bool.not_eq_true, decide_not, Bool.not_eq_true', decide_eq_false_iff_not, Bool.not_eq_false, Bool.or_eq_true, if_true, if_false, ite_self, h1]
theorem in_s (m : Nat) (low q : Int) (h0 : 0 ≤ low) (hq : q < 9223372036854775808) : marks_in m (nA low) (nA q) = some (bA (inB low q), []) := by
  rw [marks_in_eq]
  unfold inB
  by_cases h1 : low < q
  · by_cases h2 : q - low ≤ 16
    · simp (config := {maxSteps := 4000000, implicitDefEqProofs := false}) (disch := omega) only [go_sem, ↓reduceIte, Nat.reduceAdd, Nat.reduceSub, Nat.reduceMul, Nat.reduceLeDiff, Nat.reduceLT, Int.reduceEq, Int.reduceNe, Int.reduceLT, Int.reduceLE, Int.reduceAdd, Int.reduceSub, Int.reduceMul, Int.reduceNeg, Nat.zero_add, Nat.add_zero, Nat.mul_one, Int.toNat_natCast, Int.natCast_zero, Int.cast_ofNat_Int, or_false, false_or, or_true, true_or, Int.reduceToNat, Nat.sub_zero, Int.natCast_nonneg, Int.toNat_zero, Bool.true_and, Bool.and_true, Bool.false_and, Bool.and_false, Bool.true_or, Bool.or_true, Bool.false_or, Bool.or_false, Bool.not_true, Bool.not_false, Bool.not_not, true_and, and_true, false_and, and_false, not_true_eq_false, not_false_eq_true, eq_self, decide_true, decide_false, ne_eq, implies_true, forall_const, true_implies, false_implies, Bool.true_eq_false, Bool.false_eq_true, reduceCtorEq, List.map_cons, List.map_nil, List.all_cons, List.all_nil, List.length_cons, List.length_nil, List.length_map, List.length_append, List.nil_append, List.cons_append, List.set_cons_zero, List.set_cons_succ, List.set_nil, List.drop_zero, List.drop_succ_cons, List.drop_nil, List.take_zero, List.take_succ_cons, List.take_nil, Option.map_some, Option.map_none, Option.isSome_some, Nat.reduceEqDiff, Nat.reduceBEq, Nat.reduceGT, List.all_append, List.all_map, Function.comp_def, decide_eq_true_eq, Bool.and_eq_true, beq_self_eq_true, or_self, and_self, ite_true, ite_false, Nat.le_refl, Bool.not_eq_true, decide_not, Bool.not_eq_true', decide_eq_false_iff_not, Bool.not_eq_false, Bool.or_eq_true, if_true, if_false, ite_self, h1, h2, w_i64]
    · simp (config := {maxSteps := 4000000, implicitDefEqProofs := false}) (disch := omega) only [go_sem, ↓reduceIte, Nat.reduceAdd, Nat.reduceSub, Nat.reduceMul, Nat.reduceLeDiff, Nat.reduceLT, Int.reduceEq, Int.reduceNe, Int.reduceLT, Int.reduceLE, Int.reduceAdd, Int.reduceSub, Int.reduceMul, Int.reduceNeg, Nat.zero_add, Nat.add_zero, Nat.mul_one, Int.toNat_natCast, Int.natCast_zero, Int.cast_ofNat_Int, or_false, false_or, or_true, true_or, Int.reduceToNat, Nat.sub_zero, Int.natCast_nonneg, Int.toNat_zero, Bool.true_and, Bool.and_true, Bool.false_and, Bool.and_false, Bool.true_or, Bool.or_true, Bool.false_or, Bool.or_false, Bool.not_true, Bool.not_false, Bool.not_not, true_and, and_true, false_and, and_false, not_true_eq_false, not_false_eq_true, eq_self, decide_true, decide_false, ne_eq, implies_true, forall_const, true_implies, false_implies, Bool.true_eq_false, Bool.false_eq_true, reduceCtorEq, List.map_cons, List.map_nil, List.all_cons, List.all_nil, List.length_cons, List.length_nil, List.length_map, List.length_append, List.nil_append, List.cons_append, List.set_cons_zero, List.set_cons_succ, List.set_nil, List.drop_zero, List.drop_succ_cons, List.drop_nil, List.take_zero, List.take_succ_cons, List.take_nil, Option.map_some, Option.map_none, Option.isSome_some, Nat.reduceEqDiff, Nat.reduceBEq, Nat.reduceGT, List.all_append, List.all_map, Function.comp_def, decide_eq_true_eq, Bool.and_eq_true, beq_self_eq_true, or_self, and_self, ite_true, ite_false, Nat.le_refl, Bool.not_eq_true, decide_not, Bool.not_eq_true', decide_eq_false_iff_not, Bool.not_eq_false, Bool.or_eq_true, if_true, if_false, ite_self, h1, h2, w_i64]
  · simp (config := {maxSteps := 4000000, implicitDefEqProofs := false}) (disch := omega) only [go_sem, ↓reduceIte, Nat.reduceAdd, Nat.reduceSub, Nat.reduceMul, Nat.reduceLeDiff, Nat.reduceLT, Int.reduceEq, Int.reduceNe, Int.reduceLT, Int.reduceLE, Int.reduceAdd, Int.reduceSub, Int.reduceMul, Int.reduceNeg, Nat.zero_add, Nat.add_zero, Nat.mul_one, Int.toNat_natCast, Int.natCast_zero, Int.cast_ofNat_Int, or_false, false_or, or_true, true_or, Int.reduceToNat, Nat.sub_zero, Int.natCast_nonneg, Int.toNat_zero, Bool.true_and, Bool.and_true, Bool.false_and, Bool.and_false, Bool.true_or, Bool.or_true, Bool.false_or, Bool.or_false, Bool.not_true, Bool.not_false, Bool.not_not, true_and, and_true, false_and, and_false, not_true_eq_false, not_false_eq_true, eq_self, decide_true, decide_false, ne_eq, implies_true, forall_const, true_implies, false_implies, Bool.true_eq_false, Bool.false_eq_true, reduceCtorEq, List.map_cons, List.map_nil, List.all_cons, List.all_nil, List.length_cons, List.length_nil, List.length_map, List.length_append, List.nil_append, List.cons_append, List.set_cons_zero, List.set_cons_succ, List.set_nil, List.drop_zero, List.drop_succ_cons, List.drop_nil, List.take_zero, List.take_succ_cons, List.take_nil, Option.map_some, Option.map_none, Option.isSome_some, Nat.reduceEqDiff, Nat.reduceBEq, Nat.reduceGT, List.all_append, List.all_map, Function.comp_def, decide_eq_true_eq, Bool.and_eq_true, beq_self_eq_true, or_self, and_self, ite_true, ite_false, Nat.le_refl, Bool.not_eq_true, decide_not, Bool.not_eq_true', decide_eq_false_iff_not, Bool.not_eq_false, Bool.or_eq_true, if_true, if_false, ite_self, h1]
theorem within_s (m : Nat) (low q : Int) (h0 : 0 ≤ low) : plenumref30_Within m (nA low) (nA q) = some (bA (inB low q), []) := by
  rw [plenumref30_Within_eq]
  unfold inB
  by_cases h1 : low < q
  · by_cases h2 : q ≤ 2147483647
    · have h3 : (q - 16 ≤ low) = (q - low ≤ 16) := by simp; omega
      simp (config := {maxSteps := 4000000, implicitDefEqProofs := false}) (disch := omega) only [go_sem, ↓reduceIte, Nat.reduceAdd, Nat.reduceSub, Nat.reduceMul, Nat.reduceLeDiff, Nat.reduceLT, Int.reduceEq, Int.reduceNe, Int.reduceLT, Int.reduceLE, Int.reduceAdd, Int.reduceSub, Int.reduceMul, Int.reduceNeg, Nat.zero_add, Nat.add_zero, Nat.mul_one, Int.toNat_natCast, Int.natCast_zero, Int.cast_ofNat_Int, or_false, false_or, or_true, true_or, Int.reduceToNat, Nat.sub_zero, Int.natCast_nonneg, Int.toNat_zero, Bool.true_and, Bool.and_true, Bool.false_and, Bool.and_false, Bool.true_or, Bool.or_true, Bool.false_or, Bool.or_false, Bool.not_true, Bool.not_false, Bool.not_not, true_and, and_true, false_and, and_false, not_true_eq_false, not_false_eq_true, eq_self, decide_true, decide_false, ne_eq, implies_true, forall_const, true_implies, false_implies, Bool.true_eq_false, Bool.false_eq_true, reduceCtorEq, List.map_cons, List.map_nil, List.all_cons, List.all_nil, List.length_cons, List.length_nil, List.length_map, List.length_append, List.nil_append, List.cons_append, List.set_cons_zero, List.set_cons_succ, List.set_nil, List.drop_zero, List.drop_succ_cons, List.drop_nil, List.take_zero, List.take_succ_cons, List.take_nil, Option.map_some, Option.map_none, Option.isSome_some, Nat.reduceEqDiff, Nat.reduceBEq, Nat.reduceGT, List.all_append, List.all_map, Function.comp_def, decide_eq_true_eq, Bool.and_eq_true, beq_self_eq_true, or_self, and_self, ite_true, ite_false, Nat.le_refl, Bool.not_eq_true, decide_not, Bool.not_eq_true', decide_eq_false_iff_not, Bool.not_eq_false, Bool.or_eq_true, if_true, if_false, ite_self, h1, h2, h3, w_i64]
    · simp (config := {maxSteps := 4000000, implicitDefEqProofs := false}) (disch := omega) only [go_sem, ↓reduceIte, Nat.reduceAdd, Nat.reduceSub, Nat.reduceMul, Nat.reduceLeDiff, Nat.reduceLT, Int.reduceEq, Int.reduceNe, Int.reduceLT, Int.reduceLE, Int.reduceAdd, Int.reduceSub, Int.reduceMul, Int.reduceNeg, Nat.zero_add, Nat.add_zero, Nat.mul_one, Int.toNat_natCast, Int.natCast_zero, Int.cast_ofNat_Int, or_false, false_or, or_true, true_or, Int.reduceToNat, Nat.sub_zero, Int.natCast_nonneg, Int.toNat_zero, Bool.true_and, Bool.and_true, Bool.false_and, Bool.and_false, Bool.true_or, Bool.or_true, Bool.false_or, Bool.or_false, Bool.not_true, Bool.not_false, Bool.not_not, true_and, and_true, false_and, and_false, not_true_eq_false, not_false_eq_true, eq_self, decide_true, decide_false, ne_eq, implies_true, forall_const, true_implies, false_implies, Bool.true_eq_false, Bool.false_eq_true, reduceCtorEq, List.map_cons, List.map_nil, List.all_cons, List.all_nil, List.length_cons, List.length_nil, List.length_map, List.length_append, List.nil_append, List.cons_append, List.set_cons_zero, List.set_cons_succ, List.set_nil, List.drop_zero, List.drop_succ_cons, List.drop_nil, List.take_zero, List.take_succ_cons, List.take_nil, Option.map_some, Option.map_none, Option.isSome_some, Nat.reduceEqDiff, Nat.reduceBEq, Nat.reduceGT, List.all_append, List.all_map, Function.comp_def, decide_eq_true_eq, Bool.and_eq_true, beq_self_eq_true, or_self, and_self, ite_true, ite_false, Nat.le_refl, Bool.not_eq_true, decide_not, Bool.not_eq_true', decide_eq_false_iff_not, Bool.not_eq_false, Bool.or_eq_true, if_true, if_false, ite_self, h1, h2]
  · simp (config := {maxSteps := 4000000, implicitDefEqProofs := false}) (disch := omega) only [go_sem, ↓reduceIte, Nat.reduceAdd, Nat.reduceSub, Nat.reduceMul, Nat.reduceLeDiff, Nat.reduceLT, Int.reduceEq, Int.reduceNe, Int.reduceLT, Int.reduceLE, Int.reduceAdd, Int.reduceSub, Int.reduceMul, Int.reduceNeg, Nat.zero_add, Nat.add_zero, Nat.mul_one, Int.toNat_natCast, Int.natCast_zero, Int.cast_ofNat_Int, or_false, false_or, or_true, true_or, Int.reduceToNat, Nat.sub_zero, Int.natCast_nonneg, Int.toNat_zero, Bool.true_and, Bool.and_true, Bool.false_and, Bool.and_false, Bool.true_or, Bool.or_true, Bool.false_or, Bool.or_false, Bool.not_true, Bool.not_false, Bool.not_not, true_and, and_true, false_and, and_false, not_true_eq_false, not_false_eq_true, eq_self, decide_true, decide_false, ne_eq, implies_true, forall_const, true_implies, false_implies, Bool.true_eq_false, Bool.false_eq_true, reduceCtorEq, List.map_cons, List.map_nil, List.all_cons, List.all_nil, List.length_cons, List.length_nil, List.length_map, List.length_append, List.nil_append, List.cons_append, List.set_cons_zero, List.set_cons_succ, List.set_nil, List.drop_zero, List.drop_succ_cons, List.drop_nil, List.take_zero, List.take_succ_cons, List.take_nil, Option.map_some, Option.map_none, Option.isSome_some, Nat.reduceEqDiff, Nat.reduceBEq, Nat.reduceGT, List.all_append, List.all_map, Function.comp_def, decide_eq_true_eq, Bool.and_eq_true, beq_self_eq_true, or_self, and_self, ite_true, ite_false, Nat.le_refl, Bool.not_eq_true, decide_not, Bool.not_eq_true', decide_eq_false_iff_not, Bool.not_eq_false, Bool.or_eq_true, if_true, if_false, ite_self, h1]
def Mk.Sm (x : Mk) : Prop := (0 ≤ x.fr ∧ x.fr < 64) ∧ 0 < x.sq ∧ x.sq ≤ 2147483647
theorem u_bs2 {R : Type} {t : TypeId} {a b : Int} {K1 : AV → Option R} : buildSE (some (t, 1)) 2 [(0, V (.int .i64 a)), (1, V (.int .i64 b))] K1 = K1 (SL [nA a, nA b]) := by
  simp [buildSE, whenE]
  rfl
theorem or_s (m : Nat) (a b : Int) (hm : 2 < m) : cmp_Or_int m (SL [nA a, nA b]) = some (nA (if a = 0 then b else a), []) := by
  rw [cmp_Or_int_eq]
  obtain ⟨m, rfl⟩ : ∃ k, m = k + 1 + 1 + 1 := ⟨m - 3, by omega⟩
  by_cases h1 : a = 0
  · subst h1
    by_cases h2 : b = 0
    · subst h2
      simp (config := {maxSteps := 4000000, implicitDefEqProofs := false}) (disch := omega) only [go_sem, ↓reduceIte, Nat.reduceAdd, Nat.reduceSub, Nat.reduceMul, Nat.reduceLeDiff, Nat.reduceLT, Int.reduceEq, Int.reduceNe, Int.reduceLT, Int.reduceLE, Int.reduceAdd, Int.reduceSub, Int.reduceMul, Int.reduceNeg, Nat.zero_add, Nat.add_zero, Nat.mul_one, Int.toNat_natCast, Int.natCast_zero, Int.cast_ofNat_Int, or_false, false_or, or_true, true_or, Int.reduceToNat, Nat.sub_zero, Int.natCast_nonneg, Int.toNat_zero, Bool.true_and, Bool.and_true, Bool.false_and, Bool.and_false, Bool.true_or, Bool.or_true, Bool.false_or, Bool.or_false, Bool.not_true, Bool.not_false, Bool.not_not, true_and, and_true, false_and, and_false, not_true_eq_false, not_false_eq_true, eq_self, decide_true, decide_false, ne_eq, implies_true, forall_const, true_implies, false_implies, Bool.true_eq_false, Bool.false_eq_true, reduceCtorEq, List.map_cons, List.map_nil, List.all_cons, List.all_nil, List.length_cons, List.length_nil, List.length_map, List.length_append, List.nil_append, List.cons_append, List.set_cons_zero, List.set_cons_succ, List.set_nil, List.drop_zero, List.drop_succ_cons, List.drop_nil, List.take_zero, List.take_succ_cons, List.take_nil, Option.map_some, Option.map_none, Option.isSome_some, Nat.reduceEqDiff, Nat.reduceBEq, Nat.reduceGT, List.all_append, List.all_map, Function.comp_def, decide_eq_true_eq, Bool.and_eq_true, beq_self_eq_true, or_self, and_self, ite_true, ite_false, Nat.le_refl, Bool.not_eq_true, decide_not, Bool.not_eq_true', decide_eq_false_iff_not, Bool.not_eq_false, Bool.or_eq_true, if_true, if_false, ite_self, iterC, cmp_Or_int_b1_eq, cmp_Or_int_r1_eq, w_i64]
    · simp (config := {maxSteps := 4000000, implicitDefEqProofs := false}) (disch := omega) only [go_sem, ↓reduceIte, Nat.reduceAdd, Nat.reduceSub, Nat.reduceMul, Nat.reduceLeDiff, Nat.reduceLT, Int.reduceEq, Int.reduceNe, Int.reduceLT, Int.reduceLE, Int.reduceAdd, Int.reduceSub, Int.reduceMul, Int.reduceNeg, Nat.zero_add, Nat.add_zero, Nat.mul_one, Int.toNat_natCast, Int.natCast_zero, Int.cast_ofNat_Int, or_false, false_or, or_true, true_or, Int.reduceToNat, Nat.sub_zero, Int.natCast_nonneg, Int.toNat_zero, Bool.true_and, Bool.and_true, Bool.false_and, Bool.and_false, Bool.true_or, Bool.or_true, Bool.false_or, Bool.or_false, Bool.not_true, Bool.not_false, Bool.not_not, true_and, and_true, false_and, and_false, not_true_eq_false, not_false_eq_true, eq_self, decide_true, decide_false, ne_eq, implies_true, forall_const, true_implies, false_implies, Bool.true_eq_false, Bool.false_eq_true, reduceCtorEq, List.map_cons, List.map_nil, List.all_cons, List.all_nil, List.length_cons, List.length_nil, List.length_map, List.length_append, List.nil_append, List.cons_append, List.set_cons_zero, List.set_cons_succ, List.set_nil, List.drop_zero, List.drop_succ_cons, List.drop_nil, List.take_zero, List.take_succ_cons, List.take_nil, Option.map_some, Option.map_none, Option.isSome_some, Nat.reduceEqDiff, Nat.reduceBEq, Nat.reduceGT, List.all_append, List.all_map, Function.comp_def, decide_eq_true_eq, Bool.and_eq_true, beq_self_eq_true, or_self, and_self, ite_true, ite_false, Nat.le_refl, Bool.not_eq_true, decide_not, Bool.not_eq_true', decide_eq_false_iff_not, Bool.not_eq_false, Bool.or_eq_true, if_true, if_false, ite_self, iterC, cmp_Or_int_b1_eq, cmp_Or_int_r1_eq, h2, w_i64]
  · simp (config := {maxSteps := 4000000, implicitDefEqProofs := false}) (disch := omega) only [go_sem, ↓reduceIte, Nat.reduceAdd, Nat.reduceSub, Nat.reduceMul, Nat.reduceLeDiff, Nat.reduceLT, Int.reduceEq, Int.reduceNe, Int.reduceLT, Int.reduceLE, Int.reduceAdd, Int.reduceSub, Int.reduceMul, Int.reduceNeg, Nat.zero_add, Nat.add_zero, Nat.mul_one, Int.toNat_natCast, Int.natCast_zero, Int.cast_ofNat_Int, or_false, false_or, or_true, true_or, Int.reduceToNat, Nat.sub_zero, Int.natCast_nonneg, Int.toNat_zero, Bool.true_and, Bool.and_true, Bool.false_and, Bool.and_false, Bool.true_or, Bool.or_true, Bool.false_or, Bool.or_false, Bool.not_true, Bool.not_false, Bool.not_not, true_and, and_true, false_and, and_false, not_true_eq_false, not_false_eq_true, eq_self, decide_true, decide_false, ne_eq, implies_true, forall_const, true_implies, false_implies, Bool.true_eq_false, Bool.false_eq_true, reduceCtorEq, List.map_cons, List.map_nil, List.all_cons, List.all_nil, List.length_cons, List.length_nil, List.length_map, List.length_append, List.nil_append, List.cons_append, List.set_cons_zero, List.set_cons_succ, List.set_nil, List.drop_zero, List.drop_succ_cons, List.drop_nil, List.take_zero, List.take_succ_cons, List.take_nil, Option.map_some, Option.map_none, Option.isSome_some, Nat.reduceEqDiff, Nat.reduceBEq, Nat.reduceGT, List.all_append, List.all_map, Function.comp_def, decide_eq_true_eq, Bool.and_eq_true, beq_self_eq_true, or_self, and_self, ite_true, ite_false, Nat.le_refl, Bool.not_eq_true, decide_not, Bool.not_eq_true', decide_eq_false_iff_not, Bool.not_eq_false, Bool.or_eq_true, if_true, if_false, ite_self, iterC, cmp_Or_int_b1_eq, cmp_Or_int_r1_eq, h1, w_i64]
theorem order_s (m : Nat) (a b : Mk) (hm : 2 < m) (ha : a.Sm) (hb : b.Sm) : marks_order m (mE a) (mE b) = some (nA (ordI a b), []) := by
  obtain ⟨⟨a1, a2⟩, a3, a4⟩ := ha
  obtain ⟨⟨b1, b2⟩, b3, b4⟩ := hb
  have hO := or_s m (a.sq - b.sq) (a.fr - b.fr) hm
  rw [marks_order_eq, mE_it, mE_it]
  simp (config := {maxSteps := 4000000, implicitDefEqProofs := false}) (disch := omega) only [go_sem, ↓reduceIte, Nat.reduceAdd, Nat.reduceSub, Nat.reduceMul, Nat.reduceLeDiff, Nat.reduceLT, Int.reduceEq, Int.reduceNe, Int.reduceLT, Int.reduceLE, Int.reduceAdd, Int.reduceSub, Int.reduceMul, Int.reduceNeg, Nat.zero_add, Nat.add_zero, Nat.mul_one, Int.toNat_natCast, Int.natCast_zero, Int.cast_ofNat_Int, or_false, false_or, or_true, true_or, Int.reduceToNat, Nat.sub_zero, Int.natCast_nonneg, Int.toNat_zero, Bool.true_and, Bool.and_true, Bool.false_and, Bool.and_false, Bool.true_or, Bool.or_true, Bool.false_or, Bool.or_false, Bool.not_true, Bool.not_false, Bool.not_not, true_and, and_true, false_and, and_false, not_true_eq_false, not_false_eq_true, eq_self, decide_true, decide_false, ne_eq, implies_true, forall_const, true_implies, false_implies, Bool.true_eq_false, Bool.false_eq_true, reduceCtorEq, List.map_cons, List.map_nil, List.all_cons, List.all_nil, List.length_cons, List.length_nil, List.length_map, List.length_append, List.nil_append, List.cons_append, List.set_cons_zero, List.set_cons_succ, List.set_nil, List.drop_zero, List.drop_succ_cons, List.drop_nil, List.take_zero, List.take_succ_cons, List.take_nil, Option.map_some, Option.map_none, Option.isSome_some, Nat.reduceEqDiff, Nat.reduceBEq, Nat.reduceGT, List.all_append, List.all_map, Function.comp_def, decide_eq_true_eq, Bool.and_eq_true, beq_self_eq_true, or_self, and_self, ite_true, ite_false, Nat.le_refl, Bool.not_eq_true, decide_not, Bool.not_eq_true', decide_eq_false_iff_not, Bool.not_eq_false, Bool.or_eq_true, if_true, if_false, ite_self, mE_it, mc_len, mc_sure, mc_ltA, mc_lt1, mc_all1, mc_ro, mc_take, mc_sl, mc_set, mc_fr, mc_sq, mc_tm, zcM_eq, ms_len, ms_sure, ms_ltA, ms_lt1, ms_all1, ms_ro, ms_take, ms_set, ms_low, ms_root, ms_l, zs_len, zs_sure, zs_ltA, zs_ro, zs_set, zs_set2, zs_take, zs_b, me_ltA, me_len3, natInt, u_nthM, all_tt, hO, u_bs2, w_i64]
  unfold ordI
  by_cases h : a.sq = b.sq
  · rw [if_pos (by omega), if_pos h]
  · rw [if_neg (by omega), if_neg h]
theorem ahead_s (m : Nat) (a b : Mk) : plenumref30_ahead m (mE a) (mE b) = some (bA (aheadB a b), []) := by
  rw [plenumref30_ahead_eq, mE_it, mE_it]
  unfold aheadB
  by_cases h1 : a.sq < b.sq
  · simp (config := {maxSteps := 4000000, implicitDefEqProofs := false}) (disch := omega) only [go_sem, ↓reduceIte, Nat.reduceAdd, Nat.reduceSub, Nat.reduceMul, Nat.reduceLeDiff, Nat.reduceLT, Int.reduceEq, Int.reduceNe, Int.reduceLT, Int.reduceLE, Int.reduceAdd, Int.reduceSub, Int.reduceMul, Int.reduceNeg, Nat.zero_add, Nat.add_zero, Nat.mul_one, Int.toNat_natCast, Int.natCast_zero, Int.cast_ofNat_Int, or_false, false_or, or_true, true_or, Int.reduceToNat, Nat.sub_zero, Int.natCast_nonneg, Int.toNat_zero, Bool.true_and, Bool.and_true, Bool.false_and, Bool.and_false, Bool.true_or, Bool.or_true, Bool.false_or, Bool.or_false, Bool.not_true, Bool.not_false, Bool.not_not, true_and, and_true, false_and, and_false, not_true_eq_false, not_false_eq_true, eq_self, decide_true, decide_false, ne_eq, implies_true, forall_const, true_implies, false_implies, Bool.true_eq_false, Bool.false_eq_true, reduceCtorEq, List.map_cons, List.map_nil, List.all_cons, List.all_nil, List.length_cons, List.length_nil, List.length_map, List.length_append, List.nil_append, List.cons_append, List.set_cons_zero, List.set_cons_succ, List.set_nil, List.drop_zero, List.drop_succ_cons, List.drop_nil, List.take_zero, List.take_succ_cons, List.take_nil, Option.map_some, Option.map_none, Option.isSome_some, Nat.reduceEqDiff, Nat.reduceBEq, Nat.reduceGT, List.all_append, List.all_map, Function.comp_def, decide_eq_true_eq, Bool.and_eq_true, beq_self_eq_true, or_self, and_self, ite_true, ite_false, Nat.le_refl, Bool.not_eq_true, decide_not, Bool.not_eq_true', decide_eq_false_iff_not, Bool.not_eq_false, Bool.or_eq_true, if_true, if_false, ite_self, mE_it, mc_len, mc_sure, mc_ltA, mc_lt1, mc_all1, mc_ro, mc_take, mc_sl, mc_set, mc_fr, mc_sq, mc_tm, zcM_eq, ms_len, ms_sure, ms_ltA, ms_lt1, ms_all1, ms_ro, ms_take, ms_set, ms_low, ms_root, ms_l, zs_len, zs_sure, zs_ltA, zs_ro, zs_set, zs_set2, zs_take, zs_b, me_ltA, me_len3, natInt, u_nthM, all_tt, h1]
  · by_cases h2 : a.sq = b.sq
    · have h3 : ¬ b.sq < b.sq := by omega
      simp (config := {maxSteps := 4000000, implicitDefEqProofs := false}) (disch := omega) only [go_sem, ↓reduceIte, Nat.reduceAdd, Nat.reduceSub, Nat.reduceMul, Nat.reduceLeDiff, Nat.reduceLT, Int.reduceEq, Int.reduceNe, Int.reduceLT, Int.reduceLE, Int.reduceAdd, Int.reduceSub, Int.reduceMul, Int.reduceNeg, Nat.zero_add, Nat.add_zero, Nat.mul_one, Int.toNat_natCast, Int.natCast_zero, Int.cast_ofNat_Int, or_false, false_or, or_true, true_or, Int.reduceToNat, Nat.sub_zero, Int.natCast_nonneg, Int.toNat_zero, Bool.true_and, Bool.and_true, Bool.false_and, Bool.and_false, Bool.true_or, Bool.or_true, Bool.false_or, Bool.or_false, Bool.not_true, Bool.not_false, Bool.not_not, true_and, and_true, false_and, and_false, not_true_eq_false, not_false_eq_true, eq_self, decide_true, decide_false, ne_eq, implies_true, forall_const, true_implies, false_implies, Bool.true_eq_false, Bool.false_eq_true, reduceCtorEq, List.map_cons, List.map_nil, List.all_cons, List.all_nil, List.length_cons, List.length_nil, List.length_map, List.length_append, List.nil_append, List.cons_append, List.set_cons_zero, List.set_cons_succ, List.set_nil, List.drop_zero, List.drop_succ_cons, List.drop_nil, List.take_zero, List.take_succ_cons, List.take_nil, Option.map_some, Option.map_none, Option.isSome_some, Nat.reduceEqDiff, Nat.reduceBEq, Nat.reduceGT, List.all_append, List.all_map, Function.comp_def, decide_eq_true_eq, Bool.and_eq_true, beq_self_eq_true, or_self, and_self, ite_true, ite_false, Nat.le_refl, Bool.not_eq_true, decide_not, Bool.not_eq_true', decide_eq_false_iff_not, Bool.not_eq_false, Bool.or_eq_true, if_true, if_false, ite_self, mE_it, mc_len, mc_sure, mc_ltA, mc_lt1, mc_all1, mc_ro, mc_take, mc_sl, mc_set, mc_fr, mc_sq, mc_tm, zcM_eq, ms_len, ms_sure, ms_ltA, ms_lt1, ms_all1, ms_ro, ms_take, ms_set, ms_low, ms_root, ms_l, zs_len, zs_sure, zs_ltA, zs_ro, zs_set, zs_set2, zs_take, zs_b, me_ltA, me_len3, natInt, u_nthM, all_tt, h1, h2, h3]
    · simp (config := {maxSteps := 4000000, implicitDefEqProofs := false}) (disch := omega) only [go_sem, ↓reduceIte, Nat.reduceAdd, Nat.reduceSub, Nat.reduceMul, Nat.reduceLeDiff, Nat.reduceLT, Int.reduceEq, Int.reduceNe, Int.reduceLT, Int.reduceLE, Int.reduceAdd, Int.reduceSub, Int.reduceMul, Int.reduceNeg, Nat.zero_add, Nat.add_zero, Nat.mul_one, Int.toNat_natCast, Int.natCast_zero, Int.cast_ofNat_Int, or_false, false_or, or_true, true_or, Int.reduceToNat, Nat.sub_zero, Int.natCast_nonneg, Int.toNat_zero, Bool.true_and, Bool.and_true, Bool.false_and, Bool.and_false, Bool.true_or, Bool.or_true, Bool.false_or, Bool.or_false, Bool.not_true, Bool.not_false, Bool.not_not, true_and, and_true, false_and, and_false, not_true_eq_false, not_false_eq_true, eq_self, decide_true, decide_false, ne_eq, implies_true, forall_const, true_implies, false_implies, Bool.true_eq_false, Bool.false_eq_true, reduceCtorEq, List.map_cons, List.map_nil, List.all_cons, List.all_nil, List.length_cons, List.length_nil, List.length_map, List.length_append, List.nil_append, List.cons_append, List.set_cons_zero, List.set_cons_succ, List.set_nil, List.drop_zero, List.drop_succ_cons, List.drop_nil, List.take_zero, List.take_succ_cons, List.take_nil, Option.map_some, Option.map_none, Option.isSome_some, Nat.reduceEqDiff, Nat.reduceBEq, Nat.reduceGT, List.all_append, List.all_map, Function.comp_def, decide_eq_true_eq, Bool.and_eq_true, beq_self_eq_true, or_self, and_self, ite_true, ite_false, Nat.le_refl, Bool.not_eq_true, decide_not, Bool.not_eq_true', decide_eq_false_iff_not, Bool.not_eq_false, Bool.or_eq_true, if_true, if_false, ite_self, mE_it, mc_len, mc_sure, mc_ltA, mc_lt1, mc_all1, mc_ro, mc_take, mc_sl, mc_set, mc_fr, mc_sq, mc_tm, zcM_eq, ms_len, ms_sure, ms_ltA, ms_lt1, ms_all1, ms_ro, ms_take, ms_set, ms_low, ms_root, ms_l, zs_len, zs_sure, zs_ltA, zs_ro, zs_set, zs_set2, zs_take, zs_b, me_ltA, me_len3, natInt, u_nthM, all_tt, h1, h2]
def okM (low : Int) (x : Mk) : Bool := decide (0 ≤ x.fr) && (decide (x.fr < 64) && (dueB x.sq && (inB low x.sq && numB x.tm)))
def mayG (low : Int) : Option Mk → List Mk → Bool
  | _, [] => true
  | p, x :: r => okM low x && (match p with | some y => aheadB y x | none => true) && mayG low (some x) r
def mayS (s : Ms) : Bool := numB s.low && (decide (s.low % 4 = 0) && (numB s.root && mayG s.low none s.l))
theorem ok_sm {low : Int} {x : Mk} (h : okM low x = true) : x.Sm := by
  unfold okM dueB inB at h
  simp only [Bool.and_eq_true, decide_eq_true_eq] at h
  exact ⟨⟨h.1, h.2.1⟩, h.2.2.1.1, h.2.2.2.1.2.2⟩
theorem ord_ahead {a b : Mk} : (0 ≤ ordI a b) = (aheadB a b = false) := by
  unfold ordI aheadB
  by_cases h : a.sq = b.sq
  · rw [if_pos h, h]
    have : ¬ b.sq < b.sq := by omega
    simp [this]
  · rw [if_neg h]
    simp [h]
def Ms.In (s : Ms) : Prop := ∀ x ∈ s.l, x.sq < 9223372036854775808
def prevL (l : List Mk) : Nat → Option Mk
  | 0 => none
  | k + 1 => l[k]?
theorem prevL_succ {l : List Mk} {k : Nat} : prevL l (k + 1) = l[k]? := _root_.id rfl
theorem may_s (m : Nat) (s : Ms) (hm : 2 < m) (hlm : s.l.length < m) (hl : s.l.length ≤ 34359738367) (h : s.In) : marks_May m (ME s) = some (bA (mayS s), []) := by
  have hN1 := number_s m s.low
  have hN2 := number_s m s.root
  rw [marks_May_eq, ME_it]
  unfold mayS
  cases c1 : numB s.low with
  | false =>
    rw [c1] at hN1
    simp (config := {maxSteps := 4000000, implicitDefEqProofs := false}) (disch := omega) only [go_sem, ↓reduceIte, Nat.reduceAdd, Nat.reduceSub, Nat.reduceMul, Nat.reduceLeDiff, Nat.reduceLT, Int.reduceEq, Int.reduceNe, Int.reduceLT, Int.reduceLE, Int.reduceAdd, Int.reduceSub, Int.reduceMul, Int.reduceNeg, Nat.zero_add, Nat.add_zero, Nat.mul_one, Int.toNat_natCast, Int.natCast_zero, Int.cast_ofNat_Int, or_false, false_or, or_true, true_or, Int.reduceToNat, Nat.sub_zero, Int.natCast_nonneg, Int.toNat_zero, Bool.true_and, Bool.and_true, Bool.false_and, Bool.and_false, Bool.true_or, Bool.or_true, Bool.false_or, Bool.or_false, Bool.not_true, Bool.not_false, Bool.not_not, true_and, and_true, false_and, and_false, not_true_eq_false, not_false_eq_true, eq_self, decide_true, decide_false, ne_eq, implies_true, forall_const, true_implies, false_implies, Bool.true_eq_false, Bool.false_eq_true, reduceCtorEq, List.map_cons, List.map_nil, List.all_cons, List.all_nil, List.length_cons, List.length_nil, List.length_map, List.length_append, List.nil_append, List.cons_append, List.set_cons_zero, List.set_cons_succ, List.set_nil, List.drop_zero, List.drop_succ_cons, List.drop_nil, List.take_zero, List.take_succ_cons, List.take_nil, Option.map_some, Option.map_none, Option.isSome_some, Nat.reduceEqDiff, Nat.reduceBEq, Nat.reduceGT, List.all_append, List.all_map, Function.comp_def, decide_eq_true_eq, Bool.and_eq_true, beq_self_eq_true, or_self, and_self, ite_true, ite_false, Nat.le_refl, Bool.not_eq_true, decide_not, Bool.not_eq_true', decide_eq_false_iff_not, Bool.not_eq_false, Bool.or_eq_true, if_true, if_false, ite_self, mE_it, mc_len, mc_sure, mc_ltA, mc_lt1, mc_all1, mc_ro, mc_take, mc_sl, mc_set, mc_fr, mc_sq, mc_tm, zcM_eq, ms_len, ms_sure, ms_ltA, ms_lt1, ms_all1, ms_ro, ms_take, ms_set, ms_low, ms_root, ms_l, zs_len, zs_sure, zs_ltA, zs_ro, zs_set, zs_set2, zs_take, zs_b, me_ltA, me_len3, natInt, u_nthM, all_tt, hN1, marks_May_r9_eq, marks_May_r8_eq, marks_May_r7_eq, marks_May_r6_eq, marks_May_r5_eq, marks_May_r4_eq, marks_May_r3_eq, marks_May_r2_eq, marks_May_r1_eq]
  | true =>
  rw [c1] at hN1
  have h0 : 0 ≤ s.low := by unfold numB at c1; simp at c1; exact c1.1
  have hmod : s.low.tmod 4 = s.low % 4 := tmod_pos h0
  by_cases c2 : s.low % 4 = 0
  case neg =>
    simp (config := {maxSteps := 4000000, implicitDefEqProofs := false}) (disch := omega) only [go_sem, ↓reduceIte, Nat.reduceAdd, Nat.reduceSub, Nat.reduceMul, Nat.reduceLeDiff, Nat.reduceLT, Int.reduceEq, Int.reduceNe, Int.reduceLT, Int.reduceLE, Int.reduceAdd, Int.reduceSub, Int.reduceMul, Int.reduceNeg, Nat.zero_add, Nat.add_zero, Nat.mul_one, Int.toNat_natCast, Int.natCast_zero, Int.cast_ofNat_Int, or_false, false_or, or_true, true_or, Int.reduceToNat, Nat.sub_zero, Int.natCast_nonneg, Int.toNat_zero, Bool.true_and, Bool.and_true, Bool.false_and, Bool.and_false, Bool.true_or, Bool.or_true, Bool.false_or, Bool.or_false, Bool.not_true, Bool.not_false, Bool.not_not, true_and, and_true, false_and, and_false, not_true_eq_false, not_false_eq_true, eq_self, decide_true, decide_false, ne_eq, implies_true, forall_const, true_implies, false_implies, Bool.true_eq_false, Bool.false_eq_true, reduceCtorEq, List.map_cons, List.map_nil, List.all_cons, List.all_nil, List.length_cons, List.length_nil, List.length_map, List.length_append, List.nil_append, List.cons_append, List.set_cons_zero, List.set_cons_succ, List.set_nil, List.drop_zero, List.drop_succ_cons, List.drop_nil, List.take_zero, List.take_succ_cons, List.take_nil, Option.map_some, Option.map_none, Option.isSome_some, Nat.reduceEqDiff, Nat.reduceBEq, Nat.reduceGT, List.all_append, List.all_map, Function.comp_def, decide_eq_true_eq, Bool.and_eq_true, beq_self_eq_true, or_self, and_self, ite_true, ite_false, Nat.le_refl, Bool.not_eq_true, decide_not, Bool.not_eq_true', decide_eq_false_iff_not, Bool.not_eq_false, Bool.or_eq_true, if_true, if_false, ite_self, mE_it, mc_len, mc_sure, mc_ltA, mc_lt1, mc_all1, mc_ro, mc_take, mc_sl, mc_set, mc_fr, mc_sq, mc_tm, zcM_eq, ms_len, ms_sure, ms_ltA, ms_lt1, ms_all1, ms_ro, ms_take, ms_set, ms_low, ms_root, ms_l, zs_len, zs_sure, zs_ltA, zs_ro, zs_set, zs_set2, zs_take, zs_b, me_ltA, me_len3, natInt, u_nthM, all_tt, hN1, hmod, c2, marks_May_r9_eq, marks_May_r8_eq, marks_May_r7_eq, marks_May_r6_eq, marks_May_r5_eq, marks_May_r4_eq, marks_May_r3_eq, marks_May_r2_eq, marks_May_r1_eq]
  cases c3 : numB s.root with
  | false =>
    rw [c3] at hN2
    simp (config := {maxSteps := 4000000, implicitDefEqProofs := false}) (disch := omega) only [go_sem, ↓reduceIte, Nat.reduceAdd, Nat.reduceSub, Nat.reduceMul, Nat.reduceLeDiff, Nat.reduceLT, Int.reduceEq, Int.reduceNe, Int.reduceLT, Int.reduceLE, Int.reduceAdd, Int.reduceSub, Int.reduceMul, Int.reduceNeg, Nat.zero_add, Nat.add_zero, Nat.mul_one, Int.toNat_natCast, Int.natCast_zero, Int.cast_ofNat_Int, or_false, false_or, or_true, true_or, Int.reduceToNat, Nat.sub_zero, Int.natCast_nonneg, Int.toNat_zero, Bool.true_and, Bool.and_true, Bool.false_and, Bool.and_false, Bool.true_or, Bool.or_true, Bool.false_or, Bool.or_false, Bool.not_true, Bool.not_false, Bool.not_not, true_and, and_true, false_and, and_false, not_true_eq_false, not_false_eq_true, eq_self, decide_true, decide_false, ne_eq, implies_true, forall_const, true_implies, false_implies, Bool.true_eq_false, Bool.false_eq_true, reduceCtorEq, List.map_cons, List.map_nil, List.all_cons, List.all_nil, List.length_cons, List.length_nil, List.length_map, List.length_append, List.nil_append, List.cons_append, List.set_cons_zero, List.set_cons_succ, List.set_nil, List.drop_zero, List.drop_succ_cons, List.drop_nil, List.take_zero, List.take_succ_cons, List.take_nil, Option.map_some, Option.map_none, Option.isSome_some, Nat.reduceEqDiff, Nat.reduceBEq, Nat.reduceGT, List.all_append, List.all_map, Function.comp_def, decide_eq_true_eq, Bool.and_eq_true, beq_self_eq_true, or_self, and_self, ite_true, ite_false, Nat.le_refl, Bool.not_eq_true, decide_not, Bool.not_eq_true', decide_eq_false_iff_not, Bool.not_eq_false, Bool.or_eq_true, if_true, if_false, ite_self, mE_it, mc_len, mc_sure, mc_ltA, mc_lt1, mc_all1, mc_ro, mc_take, mc_sl, mc_set, mc_fr, mc_sq, mc_tm, zcM_eq, ms_len, ms_sure, ms_ltA, ms_lt1, ms_all1, ms_ro, ms_take, ms_set, ms_low, ms_root, ms_l, zs_len, zs_sure, zs_ltA, zs_ro, zs_set, zs_set2, zs_take, zs_b, me_ltA, me_len3, natInt, u_nthM, all_tt, hN1, hN2, hmod, c2, marks_May_r9_eq, marks_May_r8_eq, marks_May_r7_eq, marks_May_r6_eq, marks_May_r5_eq, marks_May_r4_eq, marks_May_r3_eq, marks_May_r2_eq, marks_May_r1_eq]
  | true =>
  rw [c3] at hN2
  simp (config := {maxSteps := 4000000, implicitDefEqProofs := false}) (disch := omega) only [go_sem, ↓reduceIte, Nat.reduceAdd, Nat.reduceSub, Nat.reduceMul, Nat.reduceLeDiff, Nat.reduceLT, Int.reduceEq, Int.reduceNe, Int.reduceLT, Int.reduceLE, Int.reduceAdd, Int.reduceSub, Int.reduceMul, Int.reduceNeg, Nat.zero_add, Nat.add_zero, Nat.mul_one, Int.toNat_natCast, Int.natCast_zero, Int.cast_ofNat_Int, or_false, false_or, or_true, true_or, Int.reduceToNat, Nat.sub_zero, Int.natCast_nonneg, Int.toNat_zero, Bool.true_and, Bool.and_true, Bool.false_and, Bool.and_false, Bool.true_or, Bool.or_true, Bool.false_or, Bool.or_false, Bool.not_true, Bool.not_false, Bool.not_not, true_and, and_true, false_and, and_false, not_true_eq_false, not_false_eq_true, eq_self, decide_true, decide_false, ne_eq, implies_true, forall_const, true_implies, false_implies, Bool.true_eq_false, Bool.false_eq_true, reduceCtorEq, List.map_cons, List.map_nil, List.all_cons, List.all_nil, List.length_cons, List.length_nil, List.length_map, List.length_append, List.nil_append, List.cons_append, List.set_cons_zero, List.set_cons_succ, List.set_nil, List.drop_zero, List.drop_succ_cons, List.drop_nil, List.take_zero, List.take_succ_cons, List.take_nil, Option.map_some, Option.map_none, Option.isSome_some, Nat.reduceEqDiff, Nat.reduceBEq, Nat.reduceGT, List.all_append, List.all_map, Function.comp_def, decide_eq_true_eq, Bool.and_eq_true, beq_self_eq_true, or_self, and_self, ite_true, ite_false, Nat.le_refl, Bool.not_eq_true, decide_not, Bool.not_eq_true', decide_eq_false_iff_not, Bool.not_eq_false, Bool.or_eq_true, if_true, if_false, ite_self, mE_it, mc_len, mc_sure, mc_ltA, mc_lt1, mc_all1, mc_ro, mc_take, mc_sl, mc_set, mc_fr, mc_sq, mc_tm, zcM_eq, ms_len, ms_sure, ms_ltA, ms_lt1, ms_all1, ms_ro, ms_take, ms_set, ms_low, ms_root, ms_l, zs_len, zs_sure, zs_ltA, zs_ro, zs_set, zs_set2, zs_take, zs_b, me_ltA, me_len3, natInt, u_nthM, all_tt, hN1, hN2, hmod, c2, marks_May_r1_eq, marks_May_r2_eq]
  generalize hg : mayG s.low none s.l = g
  refine iter_go (ι := {k : Nat // k ≤ s.l.length ∧ (∀ (j : Nat) (hj : j < s.l.length), j < k → okM s.low s.l[j] = true) ∧ mayG s.low (prevL s.l k) (s.l.drop k) = g}) (fun k => ⟨[⟨1, ty_api_Marks, 0, MC s⟩], [(1, OP 0 0), (22, SL (s.l.map mE)), (23, nA s.l.length), (24, nA k.1)]⟩) (fun k => s.l.length - k.1) (fun _ => some (bA g, [])) ?_ ⟨0, Nat.zero_le _, fun j hj h => by omega, hg⟩ (by dsimp only; omega)
  rintro kx hkx ⟨k, hk, hall, hG⟩ kc hkc
  dsimp only at hkc ⊢
  rw [marks_May_b1_eq]
  by_cases hlt : k < s.l.length
  · have hlt' : (k : Int) < (s.l.length : Int) := by omega
    have hq := h _ (List.getElem_mem hlt)
    have hD := due_s m s.l[k].sq
    have hI := in_s m s.low s.l[k].sq h0 hq
    have hT := number_s m s.l[k].tm
    rw [List.drop_eq_getElem_cons hlt] at hG
    unfold mayG at hG
    generalize hx : s.l[k] = x at hG hD hI hT
    have nok : okM s.low x = false → g = false := fun e => by rw [← hG, e]; simp
    by_cases a1 : x.fr < 0
    · rw [nok (by unfold okM; simp; omega)]
      simp (config := {maxSteps := 4000000, implicitDefEqProofs := false}) (disch := omega) only [go_sem, ↓reduceIte, Nat.reduceAdd, Nat.reduceSub, Nat.reduceMul, Nat.reduceLeDiff, Nat.reduceLT, Int.reduceEq, Int.reduceNe, Int.reduceLT, Int.reduceLE, Int.reduceAdd, Int.reduceSub, Int.reduceMul, Int.reduceNeg, Nat.zero_add, Nat.add_zero, Nat.mul_one, Int.toNat_natCast, Int.natCast_zero, Int.cast_ofNat_Int, or_false, false_or, or_true, true_or, Int.reduceToNat, Nat.sub_zero, Int.natCast_nonneg, Int.toNat_zero, Bool.true_and, Bool.and_true, Bool.false_and, Bool.and_false, Bool.true_or, Bool.or_true, Bool.false_or, Bool.or_false, Bool.not_true, Bool.not_false, Bool.not_not, true_and, and_true, false_and, and_false, not_true_eq_false, not_false_eq_true, eq_self, decide_true, decide_false, ne_eq, implies_true, forall_const, true_implies, false_implies, Bool.true_eq_false, Bool.false_eq_true, reduceCtorEq, List.map_cons, List.map_nil, List.all_cons, List.all_nil, List.length_cons, List.length_nil, List.length_map, List.length_append, List.nil_append, List.cons_append, List.set_cons_zero, List.set_cons_succ, List.set_nil, List.drop_zero, List.drop_succ_cons, List.drop_nil, List.take_zero, List.take_succ_cons, List.take_nil, Option.map_some, Option.map_none, Option.isSome_some, Nat.reduceEqDiff, Nat.reduceBEq, Nat.reduceGT, List.all_append, List.all_map, Function.comp_def, decide_eq_true_eq, Bool.and_eq_true, beq_self_eq_true, or_self, and_self, ite_true, ite_false, Nat.le_refl, Bool.not_eq_true, decide_not, Bool.not_eq_true', decide_eq_false_iff_not, Bool.not_eq_false, Bool.or_eq_true, if_true, if_false, ite_self, mE_it, mc_len, mc_sure, mc_ltA, mc_lt1, mc_all1, mc_ro, mc_take, mc_sl, mc_set, mc_fr, mc_sq, mc_tm, zcM_eq, ms_len, ms_sure, ms_ltA, ms_lt1, ms_all1, ms_ro, ms_take, ms_set, ms_low, ms_root, ms_l, zs_len, zs_sure, zs_ltA, zs_ro, zs_set, zs_set2, zs_take, zs_b, me_ltA, me_len3, natInt, u_nthM, all_tt, hlt', hx, a1, hkx, marks_May_r9_eq, marks_May_r8_eq, marks_May_r7_eq, marks_May_r6_eq, marks_May_r5_eq, marks_May_r4_eq, marks_May_r3_eq, marks_May_r2_eq, marks_May_r1_eq]
    by_cases a2 : 64 ≤ x.fr
    · rw [nok (by unfold okM; simp; omega)]
      simp (config := {maxSteps := 4000000, implicitDefEqProofs := false}) (disch := omega) only [go_sem, ↓reduceIte, Nat.reduceAdd, Nat.reduceSub, Nat.reduceMul, Nat.reduceLeDiff, Nat.reduceLT, Int.reduceEq, Int.reduceNe, Int.reduceLT, Int.reduceLE, Int.reduceAdd, Int.reduceSub, Int.reduceMul, Int.reduceNeg, Nat.zero_add, Nat.add_zero, Nat.mul_one, Int.toNat_natCast, Int.natCast_zero, Int.cast_ofNat_Int, or_false, false_or, or_true, true_or, Int.reduceToNat, Nat.sub_zero, Int.natCast_nonneg, Int.toNat_zero, Bool.true_and, Bool.and_true, Bool.false_and, Bool.and_false, Bool.true_or, Bool.or_true, Bool.false_or, Bool.or_false, Bool.not_true, Bool.not_false, Bool.not_not, true_and, and_true, false_and, and_false, not_true_eq_false, not_false_eq_true, eq_self, decide_true, decide_false, ne_eq, implies_true, forall_const, true_implies, false_implies, Bool.true_eq_false, Bool.false_eq_true, reduceCtorEq, List.map_cons, List.map_nil, List.all_cons, List.all_nil, List.length_cons, List.length_nil, List.length_map, List.length_append, List.nil_append, List.cons_append, List.set_cons_zero, List.set_cons_succ, List.set_nil, List.drop_zero, List.drop_succ_cons, List.drop_nil, List.take_zero, List.take_succ_cons, List.take_nil, Option.map_some, Option.map_none, Option.isSome_some, Nat.reduceEqDiff, Nat.reduceBEq, Nat.reduceGT, List.all_append, List.all_map, Function.comp_def, decide_eq_true_eq, Bool.and_eq_true, beq_self_eq_true, or_self, and_self, ite_true, ite_false, Nat.le_refl, Bool.not_eq_true, decide_not, Bool.not_eq_true', decide_eq_false_iff_not, Bool.not_eq_false, Bool.or_eq_true, if_true, if_false, ite_self, mE_it, mc_len, mc_sure, mc_ltA, mc_lt1, mc_all1, mc_ro, mc_take, mc_sl, mc_set, mc_fr, mc_sq, mc_tm, zcM_eq, ms_len, ms_sure, ms_ltA, ms_lt1, ms_all1, ms_ro, ms_take, ms_set, ms_low, ms_root, ms_l, zs_len, zs_sure, zs_ltA, zs_ro, zs_set, zs_set2, zs_take, zs_b, me_ltA, me_len3, natInt, u_nthM, all_tt, hlt', hx, a1, a2, hkx, marks_May_r9_eq, marks_May_r8_eq, marks_May_r7_eq, marks_May_r6_eq, marks_May_r5_eq, marks_May_r4_eq, marks_May_r3_eq, marks_May_r2_eq, marks_May_r1_eq]
    cases a3 : dueB x.sq with
    | false =>
      rw [nok (by unfold okM; rw [a3]; simp)]
      rw [a3] at hD
      simp (config := {maxSteps := 4000000, implicitDefEqProofs := false}) (disch := omega) only [go_sem, ↓reduceIte, Nat.reduceAdd, Nat.reduceSub, Nat.reduceMul, Nat.reduceLeDiff, Nat.reduceLT, Int.reduceEq, Int.reduceNe, Int.reduceLT, Int.reduceLE, Int.reduceAdd, Int.reduceSub, Int.reduceMul, Int.reduceNeg, Nat.zero_add, Nat.add_zero, Nat.mul_one, Int.toNat_natCast, Int.natCast_zero, Int.cast_ofNat_Int, or_false, false_or, or_true, true_or, Int.reduceToNat, Nat.sub_zero, Int.natCast_nonneg, Int.toNat_zero, Bool.true_and, Bool.and_true, Bool.false_and, Bool.and_false, Bool.true_or, Bool.or_true, Bool.false_or, Bool.or_false, Bool.not_true, Bool.not_false, Bool.not_not, true_and, and_true, false_and, and_false, not_true_eq_false, not_false_eq_true, eq_self, decide_true, decide_false, ne_eq, implies_true, forall_const, true_implies, false_implies, Bool.true_eq_false, Bool.false_eq_true, reduceCtorEq, List.map_cons, List.map_nil, List.all_cons, List.all_nil, List.length_cons, List.length_nil, List.length_map, List.length_append, List.nil_append, List.cons_append, List.set_cons_zero, List.set_cons_succ, List.set_nil, List.drop_zero, List.drop_succ_cons, List.drop_nil, List.take_zero, List.take_succ_cons, List.take_nil, Option.map_some, Option.map_none, Option.isSome_some, Nat.reduceEqDiff, Nat.reduceBEq, Nat.reduceGT, List.all_append, List.all_map, Function.comp_def, decide_eq_true_eq, Bool.and_eq_true, beq_self_eq_true, or_self, and_self, ite_true, ite_false, Nat.le_refl, Bool.not_eq_true, decide_not, Bool.not_eq_true', decide_eq_false_iff_not, Bool.not_eq_false, Bool.or_eq_true, if_true, if_false, ite_self, mE_it, mc_len, mc_sure, mc_ltA, mc_lt1, mc_all1, mc_ro, mc_take, mc_sl, mc_set, mc_fr, mc_sq, mc_tm, zcM_eq, ms_len, ms_sure, ms_ltA, ms_lt1, ms_all1, ms_ro, ms_take, ms_set, ms_low, ms_root, ms_l, zs_len, zs_sure, zs_ltA, zs_ro, zs_set, zs_set2, zs_take, zs_b, me_ltA, me_len3, natInt, u_nthM, all_tt, hlt', hx, a1, a2, hD, hkx, marks_May_r9_eq, marks_May_r8_eq, marks_May_r7_eq, marks_May_r6_eq, marks_May_r5_eq, marks_May_r4_eq, marks_May_r3_eq, marks_May_r2_eq, marks_May_r1_eq]
    | true =>
    rw [a3] at hD
    cases a4 : inB s.low x.sq with
    | false =>
      rw [nok (by unfold okM; rw [a4]; simp)]
      rw [a4] at hI
      simp (config := {maxSteps := 4000000, implicitDefEqProofs := false}) (disch := omega) only [go_sem, ↓reduceIte, Nat.reduceAdd, Nat.reduceSub, Nat.reduceMul, Nat.reduceLeDiff, Nat.reduceLT, Int.reduceEq, Int.reduceNe, Int.reduceLT, Int.reduceLE, Int.reduceAdd, Int.reduceSub, Int.reduceMul, Int.reduceNeg, Nat.zero_add, Nat.add_zero, Nat.mul_one, Int.toNat_natCast, Int.natCast_zero, Int.cast_ofNat_Int, or_false, false_or, or_true, true_or, Int.reduceToNat, Nat.sub_zero, Int.natCast_nonneg, Int.toNat_zero, Bool.true_and, Bool.and_true, Bool.false_and, Bool.and_false, Bool.true_or, Bool.or_true, Bool.false_or, Bool.or_false, Bool.not_true, Bool.not_false, Bool.not_not, true_and, and_true, false_and, and_false, not_true_eq_false, not_false_eq_true, eq_self, decide_true, decide_false, ne_eq, implies_true, forall_const, true_implies, false_implies, Bool.true_eq_false, Bool.false_eq_true, reduceCtorEq, List.map_cons, List.map_nil, List.all_cons, List.all_nil, List.length_cons, List.length_nil, List.length_map, List.length_append, List.nil_append, List.cons_append, List.set_cons_zero, List.set_cons_succ, List.set_nil, List.drop_zero, List.drop_succ_cons, List.drop_nil, List.take_zero, List.take_succ_cons, List.take_nil, Option.map_some, Option.map_none, Option.isSome_some, Nat.reduceEqDiff, Nat.reduceBEq, Nat.reduceGT, List.all_append, List.all_map, Function.comp_def, decide_eq_true_eq, Bool.and_eq_true, beq_self_eq_true, or_self, and_self, ite_true, ite_false, Nat.le_refl, Bool.not_eq_true, decide_not, Bool.not_eq_true', decide_eq_false_iff_not, Bool.not_eq_false, Bool.or_eq_true, if_true, if_false, ite_self, mE_it, mc_len, mc_sure, mc_ltA, mc_lt1, mc_all1, mc_ro, mc_take, mc_sl, mc_set, mc_fr, mc_sq, mc_tm, zcM_eq, ms_len, ms_sure, ms_ltA, ms_lt1, ms_all1, ms_ro, ms_take, ms_set, ms_low, ms_root, ms_l, zs_len, zs_sure, zs_ltA, zs_ro, zs_set, zs_set2, zs_take, zs_b, me_ltA, me_len3, natInt, u_nthM, all_tt, hlt', hx, a1, a2, hD, hI, hkx, marks_May_r9_eq, marks_May_r8_eq, marks_May_r7_eq, marks_May_r6_eq, marks_May_r5_eq, marks_May_r4_eq, marks_May_r3_eq, marks_May_r2_eq, marks_May_r1_eq]
    | true =>
    rw [a4] at hI
    cases a5 : numB x.tm with
    | false =>
      rw [nok (by unfold okM; rw [a5]; simp)]
      rw [a5] at hT
      simp (config := {maxSteps := 4000000, implicitDefEqProofs := false}) (disch := omega) only [go_sem, ↓reduceIte, Nat.reduceAdd, Nat.reduceSub, Nat.reduceMul, Nat.reduceLeDiff, Nat.reduceLT, Int.reduceEq, Int.reduceNe, Int.reduceLT, Int.reduceLE, Int.reduceAdd, Int.reduceSub, Int.reduceMul, Int.reduceNeg, Nat.zero_add, Nat.add_zero, Nat.mul_one, Int.toNat_natCast, Int.natCast_zero, Int.cast_ofNat_Int, or_false, false_or, or_true, true_or, Int.reduceToNat, Nat.sub_zero, Int.natCast_nonneg, Int.toNat_zero, Bool.true_and, Bool.and_true, Bool.false_and, Bool.and_false, Bool.true_or, Bool.or_true, Bool.false_or, Bool.or_false, Bool.not_true, Bool.not_false, Bool.not_not, true_and, and_true, false_and, and_false, not_true_eq_false, not_false_eq_true, eq_self, decide_true, decide_false, ne_eq, implies_true, forall_const, true_implies, false_implies, Bool.true_eq_false, Bool.false_eq_true, reduceCtorEq, List.map_cons, List.map_nil, List.all_cons, List.all_nil, List.length_cons, List.length_nil, List.length_map, List.length_append, List.nil_append, List.cons_append, List.set_cons_zero, List.set_cons_succ, List.set_nil, List.drop_zero, List.drop_succ_cons, List.drop_nil, List.take_zero, List.take_succ_cons, List.take_nil, Option.map_some, Option.map_none, Option.isSome_some, Nat.reduceEqDiff, Nat.reduceBEq, Nat.reduceGT, List.all_append, List.all_map, Function.comp_def, decide_eq_true_eq, Bool.and_eq_true, beq_self_eq_true, or_self, and_self, ite_true, ite_false, Nat.le_refl, Bool.not_eq_true, decide_not, Bool.not_eq_true', decide_eq_false_iff_not, Bool.not_eq_false, Bool.or_eq_true, if_true, if_false, ite_self, mE_it, mc_len, mc_sure, mc_ltA, mc_lt1, mc_all1, mc_ro, mc_take, mc_sl, mc_set, mc_fr, mc_sq, mc_tm, zcM_eq, ms_len, ms_sure, ms_ltA, ms_lt1, ms_all1, ms_ro, ms_take, ms_set, ms_low, ms_root, ms_l, zs_len, zs_sure, zs_ltA, zs_ro, zs_set, zs_set2, zs_take, zs_b, me_ltA, me_len3, natInt, u_nthM, all_tt, hlt', hx, a1, a2, hD, hI, hT, hkx, marks_May_r9_eq, marks_May_r8_eq, marks_May_r7_eq, marks_May_r6_eq, marks_May_r5_eq, marks_May_r4_eq, marks_May_r3_eq, marks_May_r2_eq, marks_May_r1_eq]
    | true =>
    rw [a5] at hT
    have hok : okM s.low x = true := by unfold okM; rw [a3, a4, a5]; simp; omega
    rw [hok, Bool.true_and] at hG
    have next : (mayG s.low (some x) (s.l.drop (k + 1)) = g) → kc ⟨[⟨1, ty_api_Marks, 0, MC s⟩], [(1, OP 0 0), (22, SL (s.l.map mE)), (23, nA s.l.length), (24, nA (k + 1 : Nat))]⟩ = some (bA g, []) := fun e => hkc ⟨k + 1, by omega, fun j hj h => by
      rcases Nat.lt_or_ge j k with q | q
      · exact hall j hj q
      · have : j = k := by omega
        subst this; rw [hx]; exact hok, by rw [prevL_succ, List.getElem?_eq_getElem hlt, hx]; exact e⟩ (by dsimp only; omega)
    rcases Nat.eq_zero_or_pos k with rfl | hpos
    · have step := next (by simpa [prevL] using hG)
      have hlt0 : (0 : Int) < (s.l.length : Int) := by omega
      simp (config := {maxSteps := 4000000, implicitDefEqProofs := false}) (disch := omega) only [go_sem, ↓reduceIte, Nat.reduceAdd, Nat.reduceSub, Nat.reduceMul, Nat.reduceLeDiff, Nat.reduceLT, Int.reduceEq, Int.reduceNe, Int.reduceLT, Int.reduceLE, Int.reduceAdd, Int.reduceSub, Int.reduceMul, Int.reduceNeg, Nat.zero_add, Nat.add_zero, Nat.mul_one, Int.toNat_natCast, Int.natCast_zero, Int.cast_ofNat_Int, or_false, false_or, or_true, true_or, Int.reduceToNat, Nat.sub_zero, Int.natCast_nonneg, Int.toNat_zero, Bool.true_and, Bool.and_true, Bool.false_and, Bool.and_false, Bool.true_or, Bool.or_true, Bool.false_or, Bool.or_false, Bool.not_true, Bool.not_false, Bool.not_not, true_and, and_true, false_and, and_false, not_true_eq_false, not_false_eq_true, eq_self, decide_true, decide_false, ne_eq, implies_true, forall_const, true_implies, false_implies, Bool.true_eq_false, Bool.false_eq_true, reduceCtorEq, List.map_cons, List.map_nil, List.all_cons, List.all_nil, List.length_cons, List.length_nil, List.length_map, List.length_append, List.nil_append, List.cons_append, List.set_cons_zero, List.set_cons_succ, List.set_nil, List.drop_zero, List.drop_succ_cons, List.drop_nil, List.take_zero, List.take_succ_cons, List.take_nil, Option.map_some, Option.map_none, Option.isSome_some, Nat.reduceEqDiff, Nat.reduceBEq, Nat.reduceGT, List.all_append, List.all_map, Function.comp_def, decide_eq_true_eq, Bool.and_eq_true, beq_self_eq_true, or_self, and_self, ite_true, ite_false, Nat.le_refl, Bool.not_eq_true, decide_not, Bool.not_eq_true', decide_eq_false_iff_not, Bool.not_eq_false, Bool.or_eq_true, if_true, if_false, ite_self, mE_it, mc_len, mc_sure, mc_ltA, mc_lt1, mc_all1, mc_ro, mc_take, mc_sl, mc_set, mc_fr, mc_sq, mc_tm, zcM_eq, ms_len, ms_sure, ms_ltA, ms_lt1, ms_all1, ms_ro, ms_take, ms_set, ms_low, ms_root, ms_l, zs_len, zs_sure, zs_ltA, zs_ro, zs_set, zs_set2, zs_take, zs_b, me_ltA, me_len3, natInt, u_nthM, all_tt, hlt0, hx, a1, a2, hD, hI, hT, w_i64, marks_May_r9_eq, marks_May_r8_eq, marks_May_r7_eq, marks_May_r6_eq, marks_May_r5_eq, marks_May_r4_eq, marks_May_r3_eq, marks_May_r2_eq, marks_May_r1_eq]
      exact step
    · have hpos' : (0 : Int) < (k : Int) := by omega
      have hk1 : k - 1 < s.l.length := by omega
      have hk1' : (k : Int) - 1 = ((k - 1 : Nat) : Int) := by omega
      have hk2' : ((k - 1 : Nat) : Int) < (s.l.length : Int) := by omega
      have hpo := hall (k - 1) hk1 (by omega)
      have hO := order_s m s.l[k - 1] x hm (ok_sm hpo) (ok_sm hok)
      rw [mE_it, mE_it] at hO
      have hp : prevL s.l k = some s.l[k - 1] := by
        obtain ⟨j, rfl⟩ : ∃ j, k = j + 1 := ⟨k - 1, by omega⟩
        unfold prevL
        simp at hk1 ⊢
      rw [hp] at hG
      dsimp only at hG
      have hoa := ord_ahead (a := s.l[k - 1]) (b := x)
      cases hah : aheadB s.l[k - 1] x with
      | true =>
        rw [hah] at hG hoa
        have step := next (by simpa using hG)
        have hoa' : ¬ 0 ≤ ordI s.l[k - 1] x := by rw [hoa]; simp
        simp (config := {maxSteps := 4000000, implicitDefEqProofs := false}) (disch := omega) only [go_sem, ↓reduceIte, Nat.reduceAdd, Nat.reduceSub, Nat.reduceMul, Nat.reduceLeDiff, Nat.reduceLT, Int.reduceEq, Int.reduceNe, Int.reduceLT, Int.reduceLE, Int.reduceAdd, Int.reduceSub, Int.reduceMul, Int.reduceNeg, Nat.zero_add, Nat.add_zero, Nat.mul_one, Int.toNat_natCast, Int.natCast_zero, Int.cast_ofNat_Int, or_false, false_or, or_true, true_or, Int.reduceToNat, Nat.sub_zero, Int.natCast_nonneg, Int.toNat_zero, Bool.true_and, Bool.and_true, Bool.false_and, Bool.and_false, Bool.true_or, Bool.or_true, Bool.false_or, Bool.or_false, Bool.not_true, Bool.not_false, Bool.not_not, true_and, and_true, false_and, and_false, not_true_eq_false, not_false_eq_true, eq_self, decide_true, decide_false, ne_eq, implies_true, forall_const, true_implies, false_implies, Bool.true_eq_false, Bool.false_eq_true, reduceCtorEq, List.map_cons, List.map_nil, List.all_cons, List.all_nil, List.length_cons, List.length_nil, List.length_map, List.length_append, List.nil_append, List.cons_append, List.set_cons_zero, List.set_cons_succ, List.set_nil, List.drop_zero, List.drop_succ_cons, List.drop_nil, List.take_zero, List.take_succ_cons, List.take_nil, Option.map_some, Option.map_none, Option.isSome_some, Nat.reduceEqDiff, Nat.reduceBEq, Nat.reduceGT, List.all_append, List.all_map, Function.comp_def, decide_eq_true_eq, Bool.and_eq_true, beq_self_eq_true, or_self, and_self, ite_true, ite_false, Nat.le_refl, Bool.not_eq_true, decide_not, Bool.not_eq_true', decide_eq_false_iff_not, Bool.not_eq_false, Bool.or_eq_true, if_true, if_false, ite_self, mE_it, mc_len, mc_sure, mc_ltA, mc_lt1, mc_all1, mc_ro, mc_take, mc_sl, mc_set, mc_fr, mc_sq, mc_tm, zcM_eq, ms_len, ms_sure, ms_ltA, ms_lt1, ms_all1, ms_ro, ms_take, ms_set, ms_low, ms_root, ms_l, zs_len, zs_sure, zs_ltA, zs_ro, zs_set, zs_set2, zs_take, zs_b, me_ltA, me_len3, natInt, u_nthM, all_tt, hlt', hx, a1, a2, hD, hI, hT, hpos', hk1', hk2', hO, hoa', w_i64, marks_May_r9_eq, marks_May_r8_eq, marks_May_r7_eq, marks_May_r6_eq, marks_May_r5_eq, marks_May_r4_eq, marks_May_r3_eq, marks_May_r2_eq, marks_May_r1_eq]
        exact step
      | false =>
        rw [hah] at hG hoa
        have hoa' : 0 ≤ ordI s.l[k - 1] x := by rw [hoa]
        have : g = false := by rw [← hG]; simp
        rw [this]
        simp (config := {maxSteps := 4000000, implicitDefEqProofs := false}) (disch := omega) only [go_sem, ↓reduceIte, Nat.reduceAdd, Nat.reduceSub, Nat.reduceMul, Nat.reduceLeDiff, Nat.reduceLT, Int.reduceEq, Int.reduceNe, Int.reduceLT, Int.reduceLE, Int.reduceAdd, Int.reduceSub, Int.reduceMul, Int.reduceNeg, Nat.zero_add, Nat.add_zero, Nat.mul_one, Int.toNat_natCast, Int.natCast_zero, Int.cast_ofNat_Int, or_false, false_or, or_true, true_or, Int.reduceToNat, Nat.sub_zero, Int.natCast_nonneg, Int.toNat_zero, Bool.true_and, Bool.and_true, Bool.false_and, Bool.and_false, Bool.true_or, Bool.or_true, Bool.false_or, Bool.or_false, Bool.not_true, Bool.not_false, Bool.not_not, true_and, and_true, false_and, and_false, not_true_eq_false, not_false_eq_true, eq_self, decide_true, decide_false, ne_eq, implies_true, forall_const, true_implies, false_implies, Bool.true_eq_false, Bool.false_eq_true, reduceCtorEq, List.map_cons, List.map_nil, List.all_cons, List.all_nil, List.length_cons, List.length_nil, List.length_map, List.length_append, List.nil_append, List.cons_append, List.set_cons_zero, List.set_cons_succ, List.set_nil, List.drop_zero, List.drop_succ_cons, List.drop_nil, List.take_zero, List.take_succ_cons, List.take_nil, Option.map_some, Option.map_none, Option.isSome_some, Nat.reduceEqDiff, Nat.reduceBEq, Nat.reduceGT, List.all_append, List.all_map, Function.comp_def, decide_eq_true_eq, Bool.and_eq_true, beq_self_eq_true, or_self, and_self, ite_true, ite_false, Nat.le_refl, Bool.not_eq_true, decide_not, Bool.not_eq_true', decide_eq_false_iff_not, Bool.not_eq_false, Bool.or_eq_true, if_true, if_false, ite_self, mE_it, mc_len, mc_sure, mc_ltA, mc_lt1, mc_all1, mc_ro, mc_take, mc_sl, mc_set, mc_fr, mc_sq, mc_tm, zcM_eq, ms_len, ms_sure, ms_ltA, ms_lt1, ms_all1, ms_ro, ms_take, ms_set, ms_low, ms_root, ms_l, zs_len, zs_sure, zs_ltA, zs_ro, zs_set, zs_set2, zs_take, zs_b, me_ltA, me_len3, natInt, u_nthM, all_tt, hlt', hx, a1, a2, hD, hI, hT, hpos', hk1', hk2', hO, hoa', w_i64, hkx, marks_May_r9_eq, marks_May_r8_eq, marks_May_r7_eq, marks_May_r6_eq, marks_May_r5_eq, marks_May_r4_eq, marks_May_r3_eq, marks_May_r2_eq, marks_May_r1_eq]
  · have hlt' : ¬ (k : Int) < (s.l.length : Int) := by omega
    rw [List.drop_of_length_le (by omega)] at hG
    have : g = true := hG.symm
    subst this
    simp (config := {maxSteps := 4000000, implicitDefEqProofs := false}) (disch := omega) only [go_sem, ↓reduceIte, Nat.reduceAdd, Nat.reduceSub, Nat.reduceMul, Nat.reduceLeDiff, Nat.reduceLT, Int.reduceEq, Int.reduceNe, Int.reduceLT, Int.reduceLE, Int.reduceAdd, Int.reduceSub, Int.reduceMul, Int.reduceNeg, Nat.zero_add, Nat.add_zero, Nat.mul_one, Int.toNat_natCast, Int.natCast_zero, Int.cast_ofNat_Int, or_false, false_or, or_true, true_or, Int.reduceToNat, Nat.sub_zero, Int.natCast_nonneg, Int.toNat_zero, Bool.true_and, Bool.and_true, Bool.false_and, Bool.and_false, Bool.true_or, Bool.or_true, Bool.false_or, Bool.or_false, Bool.not_true, Bool.not_false, Bool.not_not, true_and, and_true, false_and, and_false, not_true_eq_false, not_false_eq_true, eq_self, decide_true, decide_false, ne_eq, implies_true, forall_const, true_implies, false_implies, Bool.true_eq_false, Bool.false_eq_true, reduceCtorEq, List.map_cons, List.map_nil, List.all_cons, List.all_nil, List.length_cons, List.length_nil, List.length_map, List.length_append, List.nil_append, List.cons_append, List.set_cons_zero, List.set_cons_succ, List.set_nil, List.drop_zero, List.drop_succ_cons, List.drop_nil, List.take_zero, List.take_succ_cons, List.take_nil, Option.map_some, Option.map_none, Option.isSome_some, Nat.reduceEqDiff, Nat.reduceBEq, Nat.reduceGT, List.all_append, List.all_map, Function.comp_def, decide_eq_true_eq, Bool.and_eq_true, beq_self_eq_true, or_self, and_self, ite_true, ite_false, Nat.le_refl, Bool.not_eq_true, decide_not, Bool.not_eq_true', decide_eq_false_iff_not, Bool.not_eq_false, Bool.or_eq_true, if_true, if_false, ite_self, mE_it, mc_len, mc_sure, mc_ltA, mc_lt1, mc_all1, mc_ro, mc_take, mc_sl, mc_set, mc_fr, mc_sq, mc_tm, zcM_eq, ms_len, ms_sure, ms_ltA, ms_lt1, ms_all1, ms_ro, ms_take, ms_set, ms_low, ms_root, ms_l, zs_len, zs_sure, zs_ltA, zs_ro, zs_set, zs_set2, zs_take, zs_b, me_ltA, me_len3, natInt, u_nthM, all_tt, hlt', hkx, marks_May_r9_eq, marks_May_r8_eq, marks_May_r7_eq, marks_May_r6_eq, marks_May_r5_eq, marks_May_r4_eq, marks_May_r3_eq, marks_May_r2_eq, marks_May_r1_eq]
end Go.Proofs.Ytbobfgbjliolmaa

namespace Go.Proofs.Ytbobfgbjliolmaa
open Go.RowKit
set_option linter.unusedVariables false
set_option linter.unusedSimpArgs false
set_option maxRecDepth 20000
theorem rmay_s (m : Nat) (s : Ms) (hm : 2 < m) (hlm : s.l.length < m) (hl : s.l.length ≤ 34359738367) : plenumref30_May m (ME s) = some (bA (mayS s), []) := by
  have hN1 := num_s m s.low
  have hN2 := num_s m s.root
  rw [plenumref30_May_eq, ME_it]
  unfold mayS
  cases c1 : numB s.low with
  | false =>
    rw [c1] at hN1
    simp (config := {maxSteps := 4000000, implicitDefEqProofs := false}) (disch := omega) only [go_sem, ↓reduceIte, Nat.reduceAdd, Nat.reduceSub, Nat.reduceMul, Nat.reduceLeDiff, Nat.reduceLT, Int.reduceEq, Int.reduceNe, Int.reduceLT, Int.reduceLE, Int.reduceAdd, Int.reduceSub, Int.reduceMul, Int.reduceNeg, Nat.zero_add, Nat.add_zero, Nat.mul_one, Int.toNat_natCast, Int.natCast_zero, Int.cast_ofNat_Int, or_false, false_or, or_true, true_or, Int.reduceToNat, Nat.sub_zero, Int.natCast_nonneg, Int.toNat_zero, Bool.true_and, Bool.and_true, Bool.false_and, Bool.and_false, Bool.true_or, Bool.or_true, Bool.false_or, Bool.or_false, Bool.not_true, Bool.not_false, Bool.not_not, true_and, and_true, false_and, and_false, not_true_eq_false, not_false_eq_true, eq_self, decide_true, decide_false, ne_eq, implies_true, forall_const, true_implies, false_implies, Bool.true_eq_false, Bool.false_eq_true, reduceCtorEq, List.map_cons, List.map_nil, List.all_cons, List.all_nil, List.length_cons, List.length_nil, List.length_map, List.length_append, List.nil_append, List.cons_append, List.set_cons_zero, List.set_cons_succ, List.set_nil, List.drop_zero, List.drop_succ_cons, List.drop_nil, List.take_zero, List.take_succ_cons, List.take_nil, Option.map_some, Option.map_none, Option.isSome_some, Nat.reduceEqDiff, Nat.reduceBEq, Nat.reduceGT, List.all_append, List.all_map, Function.comp_def, decide_eq_true_eq, Bool.and_eq_true, beq_self_eq_true, or_self, and_self, ite_true, ite_false, Nat.le_refl, Bool.not_eq_true, decide_not, Bool.not_eq_true', decide_eq_false_iff_not, Bool.not_eq_false, Bool.or_eq_true, if_true, if_false, ite_self, mE_it, mc_len, mc_sure, mc_ltA, mc_lt1, mc_all1, mc_ro, mc_take, mc_sl, mc_set, mc_fr, mc_sq, mc_tm, zcM_eq, ms_len, ms_sure, ms_ltA, ms_lt1, ms_all1, ms_ro, ms_take, ms_set, ms_low, ms_root, ms_l, zs_len, zs_sure, zs_ltA, zs_ro, zs_set, zs_set2, zs_take, zs_b, me_ltA, me_len3, natInt, u_nthM, all_tt, hN1, plenumref30_May_r9_eq, plenumref30_May_r8_eq, plenumref30_May_r7_eq, plenumref30_May_r6_eq, plenumref30_May_r5_eq, plenumref30_May_r4_eq, plenumref30_May_r3_eq, plenumref30_May_r2_eq, plenumref30_May_r1_eq]
  | true =>
  rw [c1] at hN1
  have h0 : 0 ≤ s.low := by unfold numB at c1; simp at c1; exact c1.1
  have hmod : s.low.tmod 4 = s.low % 4 := tmod_pos h0
  by_cases c2 : s.low % 4 = 0
  case neg =>
    simp (config := {maxSteps := 4000000, implicitDefEqProofs := false}) (disch := omega) only [go_sem, ↓reduceIte, Nat.reduceAdd, Nat.reduceSub, Nat.reduceMul, Nat.reduceLeDiff, Nat.reduceLT, Int.reduceEq, Int.reduceNe, Int.reduceLT, Int.reduceLE, Int.reduceAdd, Int.reduceSub, Int.reduceMul, Int.reduceNeg, Nat.zero_add, Nat.add_zero, Nat.mul_one, Int.toNat_natCast, Int.natCast_zero, Int.cast_ofNat_Int, or_false, false_or, or_true, true_or, Int.reduceToNat, Nat.sub_zero, Int.natCast_nonneg, Int.toNat_zero, Bool.true_and, Bool.and_true, Bool.false_and, Bool.and_false, Bool.true_or, Bool.or_true, Bool.false_or, Bool.or_false, Bool.not_true, Bool.not_false, Bool.not_not, true_and, and_true, false_and, and_false, not_true_eq_false, not_false_eq_true, eq_self, decide_true, decide_false, ne_eq, implies_true, forall_const, true_implies, false_implies, Bool.true_eq_false, Bool.false_eq_true, reduceCtorEq, List.map_cons, List.map_nil, List.all_cons, List.all_nil, List.length_cons, List.length_nil, List.length_map, List.length_append, List.nil_append, List.cons_append, List.set_cons_zero, List.set_cons_succ, List.set_nil, List.drop_zero, List.drop_succ_cons, List.drop_nil, List.take_zero, List.take_succ_cons, List.take_nil, Option.map_some, Option.map_none, Option.isSome_some, Nat.reduceEqDiff, Nat.reduceBEq, Nat.reduceGT, List.all_append, List.all_map, Function.comp_def, decide_eq_true_eq, Bool.and_eq_true, beq_self_eq_true, or_self, and_self, ite_true, ite_false, Nat.le_refl, Bool.not_eq_true, decide_not, Bool.not_eq_true', decide_eq_false_iff_not, Bool.not_eq_false, Bool.or_eq_true, if_true, if_false, ite_self, mE_it, mc_len, mc_sure, mc_ltA, mc_lt1, mc_all1, mc_ro, mc_take, mc_sl, mc_set, mc_fr, mc_sq, mc_tm, zcM_eq, ms_len, ms_sure, ms_ltA, ms_lt1, ms_all1, ms_ro, ms_take, ms_set, ms_low, ms_root, ms_l, zs_len, zs_sure, zs_ltA, zs_ro, zs_set, zs_set2, zs_take, zs_b, me_ltA, me_len3, natInt, u_nthM, all_tt, hN1, hmod, c2, plenumref30_May_r9_eq, plenumref30_May_r8_eq, plenumref30_May_r7_eq, plenumref30_May_r6_eq, plenumref30_May_r5_eq, plenumref30_May_r4_eq, plenumref30_May_r3_eq, plenumref30_May_r2_eq, plenumref30_May_r1_eq]
  cases c3 : numB s.root with
  | false =>
    rw [c3] at hN2
    simp (config := {maxSteps := 4000000, implicitDefEqProofs := false}) (disch := omega) only [go_sem, ↓reduceIte, Nat.reduceAdd, Nat.reduceSub, Nat.reduceMul, Nat.reduceLeDiff, Nat.reduceLT, Int.reduceEq, Int.reduceNe, Int.reduceLT, Int.reduceLE, Int.reduceAdd, Int.reduceSub, Int.reduceMul, Int.reduceNeg, Nat.zero_add, Nat.add_zero, Nat.mul_one, Int.toNat_natCast, Int.natCast_zero, Int.cast_ofNat_Int, or_false, false_or, or_true, true_or, Int.reduceToNat, Nat.sub_zero, Int.natCast_nonneg, Int.toNat_zero, Bool.true_and, Bool.and_true, Bool.false_and, Bool.and_false, Bool.true_or, Bool.or_true, Bool.false_or, Bool.or_false, Bool.not_true, Bool.not_false, Bool.not_not, true_and, and_true, false_and, and_false, not_true_eq_false, not_false_eq_true, eq_self, decide_true, decide_false, ne_eq, implies_true, forall_const, true_implies, false_implies, Bool.true_eq_false, Bool.false_eq_true, reduceCtorEq, List.map_cons, List.map_nil, List.all_cons, List.all_nil, List.length_cons, List.length_nil, List.length_map, List.length_append, List.nil_append, List.cons_append, List.set_cons_zero, List.set_cons_succ, List.set_nil, List.drop_zero, List.drop_succ_cons, List.drop_nil, List.take_zero, List.take_succ_cons, List.take_nil, Option.map_some, Option.map_none, Option.isSome_some, Nat.reduceEqDiff, Nat.reduceBEq, Nat.reduceGT, List.all_append, List.all_map, Function.comp_def, decide_eq_true_eq, Bool.and_eq_true, beq_self_eq_true, or_self, and_self, ite_true, ite_false, Nat.le_refl, Bool.not_eq_true, decide_not, Bool.not_eq_true', decide_eq_false_iff_not, Bool.not_eq_false, Bool.or_eq_true, if_true, if_false, ite_self, mE_it, mc_len, mc_sure, mc_ltA, mc_lt1, mc_all1, mc_ro, mc_take, mc_sl, mc_set, mc_fr, mc_sq, mc_tm, zcM_eq, ms_len, ms_sure, ms_ltA, ms_lt1, ms_all1, ms_ro, ms_take, ms_set, ms_low, ms_root, ms_l, zs_len, zs_sure, zs_ltA, zs_ro, zs_set, zs_set2, zs_take, zs_b, me_ltA, me_len3, natInt, u_nthM, all_tt, hN1, hN2, hmod, c2, plenumref30_May_r9_eq, plenumref30_May_r8_eq, plenumref30_May_r7_eq, plenumref30_May_r6_eq, plenumref30_May_r5_eq, plenumref30_May_r4_eq, plenumref30_May_r3_eq, plenumref30_May_r2_eq, plenumref30_May_r1_eq]
  | true =>
  rw [c3] at hN2
  simp (config := {maxSteps := 4000000, implicitDefEqProofs := false}) (disch := omega) only [go_sem, ↓reduceIte, Nat.reduceAdd, Nat.reduceSub, Nat.reduceMul, Nat.reduceLeDiff, Nat.reduceLT, Int.reduceEq, Int.reduceNe, Int.reduceLT, Int.reduceLE, Int.reduceAdd, Int.reduceSub, Int.reduceMul, Int.reduceNeg, Nat.zero_add, Nat.add_zero, Nat.mul_one, Int.toNat_natCast, Int.natCast_zero, Int.cast_ofNat_Int, or_false, false_or, or_true, true_or, Int.reduceToNat, Nat.sub_zero, Int.natCast_nonneg, Int.toNat_zero, Bool.true_and, Bool.and_true, Bool.false_and, Bool.and_false, Bool.true_or, Bool.or_true, Bool.false_or, Bool.or_false, Bool.not_true, Bool.not_false, Bool.not_not, true_and, and_true, false_and, and_false, not_true_eq_false, not_false_eq_true, eq_self, decide_true, decide_false, ne_eq, implies_true, forall_const, true_implies, false_implies, Bool.true_eq_false, Bool.false_eq_true, reduceCtorEq, List.map_cons, List.map_nil, List.all_cons, List.all_nil, List.length_cons, List.length_nil, List.length_map, List.length_append, List.nil_append, List.cons_append, List.set_cons_zero, List.set_cons_succ, List.set_nil, List.drop_zero, List.drop_succ_cons, List.drop_nil, List.take_zero, List.take_succ_cons, List.take_nil, Option.map_some, Option.map_none, Option.isSome_some, Nat.reduceEqDiff, Nat.reduceBEq, Nat.reduceGT, List.all_append, List.all_map, Function.comp_def, decide_eq_true_eq, Bool.and_eq_true, beq_self_eq_true, or_self, and_self, ite_true, ite_false, Nat.le_refl, Bool.not_eq_true, decide_not, Bool.not_eq_true', decide_eq_false_iff_not, Bool.not_eq_false, Bool.or_eq_true, if_true, if_false, ite_self, mE_it, mc_len, mc_sure, mc_ltA, mc_lt1, mc_all1, mc_ro, mc_take, mc_sl, mc_set, mc_fr, mc_sq, mc_tm, zcM_eq, ms_len, ms_sure, ms_ltA, ms_lt1, ms_all1, ms_ro, ms_take, ms_set, ms_low, ms_root, ms_l, zs_len, zs_sure, zs_ltA, zs_ro, zs_set, zs_set2, zs_take, zs_b, me_ltA, me_len3, natInt, u_nthM, all_tt, hN1, hN2, hmod, c2, plenumref30_May_r1_eq, plenumref30_May_r2_eq]
  generalize hg : mayG s.low none s.l = g
  refine iter_go (ι := {k : Nat // k ≤ s.l.length ∧ (∀ (j : Nat) (hj : j < s.l.length), j < k → okM s.low s.l[j] = true) ∧ mayG s.low (prevL s.l k) (s.l.drop k) = g}) (fun k => ⟨[⟨1, ty_api_Marks, 0, MC s⟩], [(1, OP 0 0), (3, nA k.1)]⟩) (fun k => s.l.length - k.1) (fun _ => some (bA g, [])) ?_ ⟨0, Nat.zero_le _, fun j hj h => by omega, hg⟩ (by dsimp only; omega)
  rintro kx hkx ⟨k, hk, hall, hG⟩ kc hkc
  dsimp only at hkc ⊢
  rw [plenumref30_May_b1_eq]
  by_cases hlt : k < s.l.length
  · have hlt' : (k : Int) < (s.l.length : Int) := by omega
    have hD := rdue_s m s.l[k].sq
    have hI := within_s m s.low s.l[k].sq h0
    have hT := num_s m s.l[k].tm
    rw [List.drop_eq_getElem_cons hlt] at hG
    unfold mayG at hG
    generalize hx : s.l[k] = x at hG hD hI hT
    have nok : okM s.low x = false → g = false := fun e => by rw [← hG, e]; simp
    by_cases a1 : x.fr < 0
    · rw [nok (by unfold okM; simp; omega)]
      simp (config := {maxSteps := 4000000, implicitDefEqProofs := false}) (disch := omega) only [go_sem, ↓reduceIte, Nat.reduceAdd, Nat.reduceSub, Nat.reduceMul, Nat.reduceLeDiff, Nat.reduceLT, Int.reduceEq, Int.reduceNe, Int.reduceLT, Int.reduceLE, Int.reduceAdd, Int.reduceSub, Int.reduceMul, Int.reduceNeg, Nat.zero_add, Nat.add_zero, Nat.mul_one, Int.toNat_natCast, Int.natCast_zero, Int.cast_ofNat_Int, or_false, false_or, or_true, true_or, Int.reduceToNat, Nat.sub_zero, Int.natCast_nonneg, Int.toNat_zero, Bool.true_and, Bool.and_true, Bool.false_and, Bool.and_false, Bool.true_or, Bool.or_true, Bool.false_or, Bool.or_false, Bool.not_true, Bool.not_false, Bool.not_not, true_and, and_true, false_and, and_false, not_true_eq_false, not_false_eq_true, eq_self, decide_true, decide_false, ne_eq, implies_true, forall_const, true_implies, false_implies, Bool.true_eq_false, Bool.false_eq_true, reduceCtorEq, List.map_cons, List.map_nil, List.all_cons, List.all_nil, List.length_cons, List.length_nil, List.length_map, List.length_append, List.nil_append, List.cons_append, List.set_cons_zero, List.set_cons_succ, List.set_nil, List.drop_zero, List.drop_succ_cons, List.drop_nil, List.take_zero, List.take_succ_cons, List.take_nil, Option.map_some, Option.map_none, Option.isSome_some, Nat.reduceEqDiff, Nat.reduceBEq, Nat.reduceGT, List.all_append, List.all_map, Function.comp_def, decide_eq_true_eq, Bool.and_eq_true, beq_self_eq_true, or_self, and_self, ite_true, ite_false, Nat.le_refl, Bool.not_eq_true, decide_not, Bool.not_eq_true', decide_eq_false_iff_not, Bool.not_eq_false, Bool.or_eq_true, if_true, if_false, ite_self, mE_it, mc_len, mc_sure, mc_ltA, mc_lt1, mc_all1, mc_ro, mc_take, mc_sl, mc_set, mc_fr, mc_sq, mc_tm, zcM_eq, ms_len, ms_sure, ms_ltA, ms_lt1, ms_all1, ms_ro, ms_take, ms_set, ms_low, ms_root, ms_l, zs_len, zs_sure, zs_ltA, zs_ro, zs_set, zs_set2, zs_take, zs_b, me_ltA, me_len3, natInt, u_nthM, all_tt, hlt', hx, a1, hkx, plenumref30_May_r9_eq, plenumref30_May_r8_eq, plenumref30_May_r7_eq, plenumref30_May_r6_eq, plenumref30_May_r5_eq, plenumref30_May_r4_eq, plenumref30_May_r3_eq, plenumref30_May_r2_eq, plenumref30_May_r1_eq]
    by_cases a2 : 63 < x.fr
    · rw [nok (by unfold okM; simp; omega)]
      simp (config := {maxSteps := 4000000, implicitDefEqProofs := false}) (disch := omega) only [go_sem, ↓reduceIte, Nat.reduceAdd, Nat.reduceSub, Nat.reduceMul, Nat.reduceLeDiff, Nat.reduceLT, Int.reduceEq, Int.reduceNe, Int.reduceLT, Int.reduceLE, Int.reduceAdd, Int.reduceSub, Int.reduceMul, Int.reduceNeg, Nat.zero_add, Nat.add_zero, Nat.mul_one, Int.toNat_natCast, Int.natCast_zero, Int.cast_ofNat_Int, or_false, false_or, or_true, true_or, Int.reduceToNat, Nat.sub_zero, Int.natCast_nonneg, Int.toNat_zero, Bool.true_and, Bool.and_true, Bool.false_and, Bool.and_false, Bool.true_or, Bool.or_true, Bool.false_or, Bool.or_false, Bool.not_true, Bool.not_false, Bool.not_not, true_and, and_true, false_and, and_false, not_true_eq_false, not_false_eq_true, eq_self, decide_true, decide_false, ne_eq, implies_true, forall_const, true_implies, false_implies, Bool.true_eq_false, Bool.false_eq_true, reduceCtorEq, List.map_cons, List.map_nil, List.all_cons, List.all_nil, List.length_cons, List.length_nil, List.length_map, List.length_append, List.nil_append, List.cons_append, List.set_cons_zero, List.set_cons_succ, List.set_nil, List.drop_zero, List.drop_succ_cons, List.drop_nil, List.take_zero, List.take_succ_cons, List.take_nil, Option.map_some, Option.map_none, Option.isSome_some, Nat.reduceEqDiff, Nat.reduceBEq, Nat.reduceGT, List.all_append, List.all_map, Function.comp_def, decide_eq_true_eq, Bool.and_eq_true, beq_self_eq_true, or_self, and_self, ite_true, ite_false, Nat.le_refl, Bool.not_eq_true, decide_not, Bool.not_eq_true', decide_eq_false_iff_not, Bool.not_eq_false, Bool.or_eq_true, if_true, if_false, ite_self, mE_it, mc_len, mc_sure, mc_ltA, mc_lt1, mc_all1, mc_ro, mc_take, mc_sl, mc_set, mc_fr, mc_sq, mc_tm, zcM_eq, ms_len, ms_sure, ms_ltA, ms_lt1, ms_all1, ms_ro, ms_take, ms_set, ms_low, ms_root, ms_l, zs_len, zs_sure, zs_ltA, zs_ro, zs_set, zs_set2, zs_take, zs_b, me_ltA, me_len3, natInt, u_nthM, all_tt, hlt', hx, a1, a2, hkx, plenumref30_May_r9_eq, plenumref30_May_r8_eq, plenumref30_May_r7_eq, plenumref30_May_r6_eq, plenumref30_May_r5_eq, plenumref30_May_r4_eq, plenumref30_May_r3_eq, plenumref30_May_r2_eq, plenumref30_May_r1_eq]
    cases a5 : numB x.tm with
    | false =>
      rw [nok (by unfold okM; rw [a5]; simp)]
      rw [a5] at hT
      simp (config := {maxSteps := 4000000, implicitDefEqProofs := false}) (disch := omega) only [go_sem, ↓reduceIte, Nat.reduceAdd, Nat.reduceSub, Nat.reduceMul, Nat.reduceLeDiff, Nat.reduceLT, Int.reduceEq, Int.reduceNe, Int.reduceLT, Int.reduceLE, Int.reduceAdd, Int.reduceSub, Int.reduceMul, Int.reduceNeg, Nat.zero_add, Nat.add_zero, Nat.mul_one, Int.toNat_natCast, Int.natCast_zero, Int.cast_ofNat_Int, or_false, false_or, or_true, true_or, Int.reduceToNat, Nat.sub_zero, Int.natCast_nonneg, Int.toNat_zero, Bool.true_and, Bool.and_true, Bool.false_and, Bool.and_false, Bool.true_or, Bool.or_true, Bool.false_or, Bool.or_false, Bool.not_true, Bool.not_false, Bool.not_not, true_and, and_true, false_and, and_false, not_true_eq_false, not_false_eq_true, eq_self, decide_true, decide_false, ne_eq, implies_true, forall_const, true_implies, false_implies, Bool.true_eq_false, Bool.false_eq_true, reduceCtorEq, List.map_cons, List.map_nil, List.all_cons, List.all_nil, List.length_cons, List.length_nil, List.length_map, List.length_append, List.nil_append, List.cons_append, List.set_cons_zero, List.set_cons_succ, List.set_nil, List.drop_zero, List.drop_succ_cons, List.drop_nil, List.take_zero, List.take_succ_cons, List.take_nil, Option.map_some, Option.map_none, Option.isSome_some, Nat.reduceEqDiff, Nat.reduceBEq, Nat.reduceGT, List.all_append, List.all_map, Function.comp_def, decide_eq_true_eq, Bool.and_eq_true, beq_self_eq_true, or_self, and_self, ite_true, ite_false, Nat.le_refl, Bool.not_eq_true, decide_not, Bool.not_eq_true', decide_eq_false_iff_not, Bool.not_eq_false, Bool.or_eq_true, if_true, if_false, ite_self, mE_it, mc_len, mc_sure, mc_ltA, mc_lt1, mc_all1, mc_ro, mc_take, mc_sl, mc_set, mc_fr, mc_sq, mc_tm, zcM_eq, ms_len, ms_sure, ms_ltA, ms_lt1, ms_all1, ms_ro, ms_take, ms_set, ms_low, ms_root, ms_l, zs_len, zs_sure, zs_ltA, zs_ro, zs_set, zs_set2, zs_take, zs_b, me_ltA, me_len3, natInt, u_nthM, all_tt, hlt', hx, a1, a2, hT, hkx, plenumref30_May_r9_eq, plenumref30_May_r8_eq, plenumref30_May_r7_eq, plenumref30_May_r6_eq, plenumref30_May_r5_eq, plenumref30_May_r4_eq, plenumref30_May_r3_eq, plenumref30_May_r2_eq, plenumref30_May_r1_eq]
    | true =>
    rw [a5] at hT
    cases a3 : dueB x.sq with
    | false =>
      rw [nok (by unfold okM; rw [a3]; simp)]
      rw [a3] at hD
      simp (config := {maxSteps := 4000000, implicitDefEqProofs := false}) (disch := omega) only [go_sem, ↓reduceIte, Nat.reduceAdd, Nat.reduceSub, Nat.reduceMul, Nat.reduceLeDiff, Nat.reduceLT, Int.reduceEq, Int.reduceNe, Int.reduceLT, Int.reduceLE, Int.reduceAdd, Int.reduceSub, Int.reduceMul, Int.reduceNeg, Nat.zero_add, Nat.add_zero, Nat.mul_one, Int.toNat_natCast, Int.natCast_zero, Int.cast_ofNat_Int, or_false, false_or, or_true, true_or, Int.reduceToNat, Nat.sub_zero, Int.natCast_nonneg, Int.toNat_zero, Bool.true_and, Bool.and_true, Bool.false_and, Bool.and_false, Bool.true_or, Bool.or_true, Bool.false_or, Bool.or_false, Bool.not_true, Bool.not_false, Bool.not_not, true_and, and_true, false_and, and_false, not_true_eq_false, not_false_eq_true, eq_self, decide_true, decide_false, ne_eq, implies_true, forall_const, true_implies, false_implies, Bool.true_eq_false, Bool.false_eq_true, reduceCtorEq, List.map_cons, List.map_nil, List.all_cons, List.all_nil, List.length_cons, List.length_nil, List.length_map, List.length_append, List.nil_append, List.cons_append, List.set_cons_zero, List.set_cons_succ, List.set_nil, List.drop_zero, List.drop_succ_cons, List.drop_nil, List.take_zero, List.take_succ_cons, List.take_nil, Option.map_some, Option.map_none, Option.isSome_some, Nat.reduceEqDiff, Nat.reduceBEq, Nat.reduceGT, List.all_append, List.all_map, Function.comp_def, decide_eq_true_eq, Bool.and_eq_true, beq_self_eq_true, or_self, and_self, ite_true, ite_false, Nat.le_refl, Bool.not_eq_true, decide_not, Bool.not_eq_true', decide_eq_false_iff_not, Bool.not_eq_false, Bool.or_eq_true, if_true, if_false, ite_self, mE_it, mc_len, mc_sure, mc_ltA, mc_lt1, mc_all1, mc_ro, mc_take, mc_sl, mc_set, mc_fr, mc_sq, mc_tm, zcM_eq, ms_len, ms_sure, ms_ltA, ms_lt1, ms_all1, ms_ro, ms_take, ms_set, ms_low, ms_root, ms_l, zs_len, zs_sure, zs_ltA, zs_ro, zs_set, zs_set2, zs_take, zs_b, me_ltA, me_len3, natInt, u_nthM, all_tt, hlt', hx, a1, a2, hT, hD, hkx, plenumref30_May_r9_eq, plenumref30_May_r8_eq, plenumref30_May_r7_eq, plenumref30_May_r6_eq, plenumref30_May_r5_eq, plenumref30_May_r4_eq, plenumref30_May_r3_eq, plenumref30_May_r2_eq, plenumref30_May_r1_eq]
    | true =>
    rw [a3] at hD
    cases a4 : inB s.low x.sq with
    | false =>
      rw [nok (by unfold okM; rw [a4]; simp)]
      rw [a4] at hI
      simp (config := {maxSteps := 4000000, implicitDefEqProofs := false}) (disch := omega) only [go_sem, ↓reduceIte, Nat.reduceAdd, Nat.reduceSub, Nat.reduceMul, Nat.reduceLeDiff, Nat.reduceLT, Int.reduceEq, Int.reduceNe, Int.reduceLT, Int.reduceLE, Int.reduceAdd, Int.reduceSub, Int.reduceMul, Int.reduceNeg, Nat.zero_add, Nat.add_zero, Nat.mul_one, Int.toNat_natCast, Int.natCast_zero, Int.cast_ofNat_Int, or_false, false_or, or_true, true_or, Int.reduceToNat, Nat.sub_zero, Int.natCast_nonneg, Int.toNat_zero, Bool.true_and, Bool.and_true, Bool.false_and, Bool.and_false, Bool.true_or, Bool.or_true, Bool.false_or, Bool.or_false, Bool.not_true, Bool.not_false, Bool.not_not, true_and, and_true, false_and, and_false, not_true_eq_false, not_false_eq_true, eq_self, decide_true, decide_false, ne_eq, implies_true, forall_const, true_implies, false_implies, Bool.true_eq_false, Bool.false_eq_true, reduceCtorEq, List.map_cons, List.map_nil, List.all_cons, List.all_nil, List.length_cons, List.length_nil, List.length_map, List.length_append, List.nil_append, List.cons_append, List.set_cons_zero, List.set_cons_succ, List.set_nil, List.drop_zero, List.drop_succ_cons, List.drop_nil, List.take_zero, List.take_succ_cons, List.take_nil, Option.map_some, Option.map_none, Option.isSome_some, Nat.reduceEqDiff, Nat.reduceBEq, Nat.reduceGT, List.all_append, List.all_map, Function.comp_def, decide_eq_true_eq, Bool.and_eq_true, beq_self_eq_true, or_self, and_self, ite_true, ite_false, Nat.le_refl, Bool.not_eq_true, decide_not, Bool.not_eq_true', decide_eq_false_iff_not, Bool.not_eq_false, Bool.or_eq_true, if_true, if_false, ite_self, mE_it, mc_len, mc_sure, mc_ltA, mc_lt1, mc_all1, mc_ro, mc_take, mc_sl, mc_set, mc_fr, mc_sq, mc_tm, zcM_eq, ms_len, ms_sure, ms_ltA, ms_lt1, ms_all1, ms_ro, ms_take, ms_set, ms_low, ms_root, ms_l, zs_len, zs_sure, zs_ltA, zs_ro, zs_set, zs_set2, zs_take, zs_b, me_ltA, me_len3, natInt, u_nthM, all_tt, hlt', hx, a1, a2, hT, hD, hI, hkx, plenumref30_May_r9_eq, plenumref30_May_r8_eq, plenumref30_May_r7_eq, plenumref30_May_r6_eq, plenumref30_May_r5_eq, plenumref30_May_r4_eq, plenumref30_May_r3_eq, plenumref30_May_r2_eq, plenumref30_May_r1_eq]
    | true =>
    rw [a4] at hI
    have hok : okM s.low x = true := by unfold okM; rw [a3, a4, a5]; simp; omega
    rw [hok, Bool.true_and] at hG
    have next : (mayG s.low (some x) (s.l.drop (k + 1)) = g) → kc ⟨[⟨1, ty_api_Marks, 0, MC s⟩], [(1, OP 0 0), (3, nA (k + 1 : Nat))]⟩ = some (bA g, []) := fun e => hkc ⟨k + 1, by omega, fun j hj h => by
      rcases Nat.lt_or_ge j k with q | q
      · exact hall j hj q
      · have : j = k := by omega
        subst this; rw [hx]; exact hok, by rw [prevL_succ, List.getElem?_eq_getElem hlt, hx]; exact e⟩ (by dsimp only; omega)
    rcases Nat.eq_zero_or_pos k with rfl | hpos
    · have step := next (by simpa [prevL] using hG)
      have hlt0 : (0 : Int) < (s.l.length : Int) := by omega
      simp (config := {maxSteps := 4000000, implicitDefEqProofs := false}) (disch := omega) only [go_sem, ↓reduceIte, Nat.reduceAdd, Nat.reduceSub, Nat.reduceMul, Nat.reduceLeDiff, Nat.reduceLT, Int.reduceEq, Int.reduceNe, Int.reduceLT, Int.reduceLE, Int.reduceAdd, Int.reduceSub, Int.reduceMul, Int.reduceNeg, Nat.zero_add, Nat.add_zero, Nat.mul_one, Int.toNat_natCast, Int.natCast_zero, Int.cast_ofNat_Int, or_false, false_or, or_true, true_or, Int.reduceToNat, Nat.sub_zero, Int.natCast_nonneg, Int.toNat_zero, Bool.true_and, Bool.and_true, Bool.false_and, Bool.and_false, Bool.true_or, Bool.or_true, Bool.false_or, Bool.or_false, Bool.not_true, Bool.not_false, Bool.not_not, true_and, and_true, false_and, and_false, not_true_eq_false, not_false_eq_true, eq_self, decide_true, decide_false, ne_eq, implies_true, forall_const, true_implies, false_implies, Bool.true_eq_false, Bool.false_eq_true, reduceCtorEq, List.map_cons, List.map_nil, List.all_cons, List.all_nil, List.length_cons, List.length_nil, List.length_map, List.length_append, List.nil_append, List.cons_append, List.set_cons_zero, List.set_cons_succ, List.set_nil, List.drop_zero, List.drop_succ_cons, List.drop_nil, List.take_zero, List.take_succ_cons, List.take_nil, Option.map_some, Option.map_none, Option.isSome_some, Nat.reduceEqDiff, Nat.reduceBEq, Nat.reduceGT, List.all_append, List.all_map, Function.comp_def, decide_eq_true_eq, Bool.and_eq_true, beq_self_eq_true, or_self, and_self, ite_true, ite_false, Nat.le_refl, Bool.not_eq_true, decide_not, Bool.not_eq_true', decide_eq_false_iff_not, Bool.not_eq_false, Bool.or_eq_true, if_true, if_false, ite_self, mE_it, mc_len, mc_sure, mc_ltA, mc_lt1, mc_all1, mc_ro, mc_take, mc_sl, mc_set, mc_fr, mc_sq, mc_tm, zcM_eq, ms_len, ms_sure, ms_ltA, ms_lt1, ms_all1, ms_ro, ms_take, ms_set, ms_low, ms_root, ms_l, zs_len, zs_sure, zs_ltA, zs_ro, zs_set, zs_set2, zs_take, zs_b, me_ltA, me_len3, natInt, u_nthM, all_tt, hlt0, hx, a1, a2, hT, hD, hI, w_i64, plenumref30_May_r9_eq, plenumref30_May_r8_eq, plenumref30_May_r7_eq, plenumref30_May_r6_eq, plenumref30_May_r5_eq, plenumref30_May_r4_eq, plenumref30_May_r3_eq, plenumref30_May_r2_eq, plenumref30_May_r1_eq]
      exact step
    · have hpos' : (0 : Int) < (k : Int) := by omega
      have hk1 : k - 1 < s.l.length := by omega
      have hk1' : (k : Int) - 1 = ((k - 1 : Nat) : Int) := by omega
      have hk2' : ((k - 1 : Nat) : Int) < (s.l.length : Int) := by omega
      have hpo := hall (k - 1) hk1 (by omega)
      have hO := ahead_s m s.l[k - 1] x
      rw [mE_it, mE_it] at hO
      have hp : prevL s.l k = some s.l[k - 1] := by
        obtain ⟨j, rfl⟩ : ∃ j, k = j + 1 := ⟨k - 1, by omega⟩
        unfold prevL
        simp at hk1 ⊢
      rw [hp] at hG
      dsimp only at hG
      cases hah : aheadB s.l[k - 1] x with
      | true =>
        rw [hah] at hG hO
        have step := next (by simpa using hG)
        simp (config := {maxSteps := 4000000, implicitDefEqProofs := false}) (disch := omega) only [go_sem, ↓reduceIte, Nat.reduceAdd, Nat.reduceSub, Nat.reduceMul, Nat.reduceLeDiff, Nat.reduceLT, Int.reduceEq, Int.reduceNe, Int.reduceLT, Int.reduceLE, Int.reduceAdd, Int.reduceSub, Int.reduceMul, Int.reduceNeg, Nat.zero_add, Nat.add_zero, Nat.mul_one, Int.toNat_natCast, Int.natCast_zero, Int.cast_ofNat_Int, or_false, false_or, or_true, true_or, Int.reduceToNat, Nat.sub_zero, Int.natCast_nonneg, Int.toNat_zero, Bool.true_and, Bool.and_true, Bool.false_and, Bool.and_false, Bool.true_or, Bool.or_true, Bool.false_or, Bool.or_false, Bool.not_true, Bool.not_false, Bool.not_not, true_and, and_true, false_and, and_false, not_true_eq_false, not_false_eq_true, eq_self, decide_true, decide_false, ne_eq, implies_true, forall_const, true_implies, false_implies, Bool.true_eq_false, Bool.false_eq_true, reduceCtorEq, List.map_cons, List.map_nil, List.all_cons, List.all_nil, List.length_cons, List.length_nil, List.length_map, List.length_append, List.nil_append, List.cons_append, List.set_cons_zero, List.set_cons_succ, List.set_nil, List.drop_zero, List.drop_succ_cons, List.drop_nil, List.take_zero, List.take_succ_cons, List.take_nil, Option.map_some, Option.map_none, Option.isSome_some, Nat.reduceEqDiff, Nat.reduceBEq, Nat.reduceGT, List.all_append, List.all_map, Function.comp_def, decide_eq_true_eq, Bool.and_eq_true, beq_self_eq_true, or_self, and_self, ite_true, ite_false, Nat.le_refl, Bool.not_eq_true, decide_not, Bool.not_eq_true', decide_eq_false_iff_not, Bool.not_eq_false, Bool.or_eq_true, if_true, if_false, ite_self, mE_it, mc_len, mc_sure, mc_ltA, mc_lt1, mc_all1, mc_ro, mc_take, mc_sl, mc_set, mc_fr, mc_sq, mc_tm, zcM_eq, ms_len, ms_sure, ms_ltA, ms_lt1, ms_all1, ms_ro, ms_take, ms_set, ms_low, ms_root, ms_l, zs_len, zs_sure, zs_ltA, zs_ro, zs_set, zs_set2, zs_take, zs_b, me_ltA, me_len3, natInt, u_nthM, all_tt, hlt', hx, a1, a2, hT, hD, hI, hpos', hk1', hk2', hO, w_i64, plenumref30_May_r9_eq, plenumref30_May_r8_eq, plenumref30_May_r7_eq, plenumref30_May_r6_eq, plenumref30_May_r5_eq, plenumref30_May_r4_eq, plenumref30_May_r3_eq, plenumref30_May_r2_eq, plenumref30_May_r1_eq]
        exact step
      | false =>
        rw [hah] at hG hO
        have : g = false := by rw [← hG]; simp
        rw [this]
        simp (config := {maxSteps := 4000000, implicitDefEqProofs := false}) (disch := omega) only [go_sem, ↓reduceIte, Nat.reduceAdd, Nat.reduceSub, Nat.reduceMul, Nat.reduceLeDiff, Nat.reduceLT, Int.reduceEq, Int.reduceNe, Int.reduceLT, Int.reduceLE, Int.reduceAdd, Int.reduceSub, Int.reduceMul, Int.reduceNeg, Nat.zero_add, Nat.add_zero, Nat.mul_one, Int.toNat_natCast, Int.natCast_zero, Int.cast_ofNat_Int, or_false, false_or, or_true, true_or, Int.reduceToNat, Nat.sub_zero, Int.natCast_nonneg, Int.toNat_zero, Bool.true_and, Bool.and_true, Bool.false_and, Bool.and_false, Bool.true_or, Bool.or_true, Bool.false_or, Bool.or_false, Bool.not_true, Bool.not_false, Bool.not_not, true_and, and_true, false_and, and_false, not_true_eq_false, not_false_eq_true, eq_self, decide_true, decide_false, ne_eq, implies_true, forall_const, true_implies, false_implies, Bool.true_eq_false, Bool.false_eq_true, reduceCtorEq, List.map_cons, List.map_nil, List.all_cons, List.all_nil, List.length_cons, List.length_nil, List.length_map, List.length_append, List.nil_append, List.cons_append, List.set_cons_zero, List.set_cons_succ, List.set_nil, List.drop_zero, List.drop_succ_cons, List.drop_nil, List.take_zero, List.take_succ_cons, List.take_nil, Option.map_some, Option.map_none, Option.isSome_some, Nat.reduceEqDiff, Nat.reduceBEq, Nat.reduceGT, List.all_append, List.all_map, Function.comp_def, decide_eq_true_eq, Bool.and_eq_true, beq_self_eq_true, or_self, and_self, ite_true, ite_false, Nat.le_refl, Bool.not_eq_true, decide_not, Bool.not_eq_true', decide_eq_false_iff_not, Bool.not_eq_false, Bool.or_eq_true, if_true, if_false, ite_self, mE_it, mc_len, mc_sure, mc_ltA, mc_lt1, mc_all1, mc_ro, mc_take, mc_sl, mc_set, mc_fr, mc_sq, mc_tm, zcM_eq, ms_len, ms_sure, ms_ltA, ms_lt1, ms_all1, ms_ro, ms_take, ms_set, ms_low, ms_root, ms_l, zs_len, zs_sure, zs_ltA, zs_ro, zs_set, zs_set2, zs_take, zs_b, me_ltA, me_len3, natInt, u_nthM, all_tt, hlt', hx, a1, a2, hT, hD, hI, hpos', hk1', hk2', hO, w_i64, hkx, plenumref30_May_r9_eq, plenumref30_May_r8_eq, plenumref30_May_r7_eq, plenumref30_May_r6_eq, plenumref30_May_r5_eq, plenumref30_May_r4_eq, plenumref30_May_r3_eq, plenumref30_May_r2_eq, plenumref30_May_r1_eq]
  · have hlt' : ¬ (k : Int) < (s.l.length : Int) := by omega
    rw [List.drop_of_length_le (by omega)] at hG
    have : g = true := hG.symm
    subst this
    simp (config := {maxSteps := 4000000, implicitDefEqProofs := false}) (disch := omega) only [go_sem, ↓reduceIte, Nat.reduceAdd, Nat.reduceSub, Nat.reduceMul, Nat.reduceLeDiff, Nat.reduceLT, Int.reduceEq, Int.reduceNe, Int.reduceLT, Int.reduceLE, Int.reduceAdd, Int.reduceSub, Int.reduceMul, Int.reduceNeg, Nat.zero_add, Nat.add_zero, Nat.mul_one, Int.toNat_natCast, Int.natCast_zero, Int.cast_ofNat_Int, or_false, false_or, or_true, true_or, Int.reduceToNat, Nat.sub_zero, Int.natCast_nonneg, Int.toNat_zero, Bool.true_and, Bool.and_true, Bool.false_and, Bool.and_false, Bool.true_or, Bool.or_true, Bool.false_or, Bool.or_false, Bool.not_true, Bool.not_false, Bool.not_not, true_and, and_true, false_and, and_false, not_true_eq_false, not_false_eq_true, eq_self, decide_true, decide_false, ne_eq, implies_true, forall_const, true_implies, false_implies, Bool.true_eq_false, Bool.false_eq_true, reduceCtorEq, List.map_cons, List.map_nil, List.all_cons, List.all_nil, List.length_cons, List.length_nil, List.length_map, List.length_append, List.nil_append, List.cons_append, List.set_cons_zero, List.set_cons_succ, List.set_nil, List.drop_zero, List.drop_succ_cons, List.drop_nil, List.take_zero, List.take_succ_cons, List.take_nil, Option.map_some, Option.map_none, Option.isSome_some, Nat.reduceEqDiff, Nat.reduceBEq, Nat.reduceGT, List.all_append, List.all_map, Function.comp_def, decide_eq_true_eq, Bool.and_eq_true, beq_self_eq_true, or_self, and_self, ite_true, ite_false, Nat.le_refl, Bool.not_eq_true, decide_not, Bool.not_eq_true', decide_eq_false_iff_not, Bool.not_eq_false, Bool.or_eq_true, if_true, if_false, ite_self, mE_it, mc_len, mc_sure, mc_ltA, mc_lt1, mc_all1, mc_ro, mc_take, mc_sl, mc_set, mc_fr, mc_sq, mc_tm, zcM_eq, ms_len, ms_sure, ms_ltA, ms_lt1, ms_all1, ms_ro, ms_take, ms_set, ms_low, ms_root, ms_l, zs_len, zs_sure, zs_ltA, zs_ro, zs_set, zs_set2, zs_take, zs_b, me_ltA, me_len3, natInt, u_nthM, all_tt, hlt', hkx, plenumref30_May_r9_eq, plenumref30_May_r8_eq, plenumref30_May_r7_eq, plenumref30_May_r6_eq, plenumref30_May_r5_eq, plenumref30_May_r4_eq, plenumref30_May_r3_eq, plenumref30_May_r2_eq, plenumref30_May_r1_eq]
def laterL (l : List Mk) (low : Int) : List Mk := l.filter fun x => decide (low < x.sq)
theorem filter_snoc {P : Mk → Bool} {l : List Mk} {k : Nat} (h : k < l.length) : (l.take (k + 1)).filter P = (l.take k).filter P ++ (if P l[k] = true then [l[k]] else []) := by
  rw [List.take_succ_eq_append_getElem h, List.filter_append]
  congr 1
  by_cases q : P l[k] = true
  · rw [if_pos q, List.filter_cons_of_pos q]; rfl
  · rw [if_neg q, List.filter_cons_of_neg q]; rfl
theorem later_s (m : Nat) (l : List Mk) (low : Int) (hm : l.length < m) (hl : l.length ≤ 1000000) : plenumref30_Later m (SL (l.map mE)) (nA low) = some (SL ((laterL l low).map mE), []) := by
  rw [plenumref30_Later_eq]
  simp (config := {maxSteps := 4000000, implicitDefEqProofs := false}) (disch := omega) only [go_sem, ↓reduceIte, Nat.reduceAdd, Nat.reduceSub, Nat.reduceMul, Nat.reduceLeDiff, Nat.reduceLT, Int.reduceEq, Int.reduceNe, Int.reduceLT, Int.reduceLE, Int.reduceAdd, Int.reduceSub, Int.reduceMul, Int.reduceNeg, Nat.zero_add, Nat.add_zero, Nat.mul_one, Int.toNat_natCast, Int.natCast_zero, Int.cast_ofNat_Int, or_false, false_or, or_true, true_or, Int.reduceToNat, Nat.sub_zero, Int.natCast_nonneg, Int.toNat_zero, Bool.true_and, Bool.and_true, Bool.false_and, Bool.and_false, Bool.true_or, Bool.or_true, Bool.false_or, Bool.or_false, Bool.not_true, Bool.not_false, Bool.not_not, true_and, and_true, false_and, and_false, not_true_eq_false, not_false_eq_true, eq_self, decide_true, decide_false, ne_eq, implies_true, forall_const, true_implies, false_implies, Bool.true_eq_false, Bool.false_eq_true, reduceCtorEq, List.map_cons, List.map_nil, List.all_cons, List.all_nil, List.length_cons, List.length_nil, List.length_map, List.length_append, List.nil_append, List.cons_append, List.set_cons_zero, List.set_cons_succ, List.set_nil, List.drop_zero, List.drop_succ_cons, List.drop_nil, List.take_zero, List.take_succ_cons, List.take_nil, Option.map_some, Option.map_none, Option.isSome_some, Nat.reduceEqDiff, Nat.reduceBEq, Nat.reduceGT, List.all_append, List.all_map, Function.comp_def, decide_eq_true_eq, Bool.and_eq_true, beq_self_eq_true, or_self, and_self, ite_true, ite_false, Nat.le_refl, Bool.not_eq_true, decide_not, Bool.not_eq_true', decide_eq_false_iff_not, Bool.not_eq_false, Bool.or_eq_true, if_true, if_false, ite_self, mE_it, mc_len, mc_sure, mc_ltA, mc_lt1, mc_all1, mc_ro, mc_take, mc_sl, mc_set, mc_fr, mc_sq, mc_tm, zcM_eq, ms_len, ms_sure, ms_ltA, ms_lt1, ms_all1, ms_ro, ms_take, ms_set, ms_low, ms_root, ms_l, zs_len, zs_sure, zs_ltA, zs_ro, zs_set, zs_set2, zs_take, zs_b, me_ltA, me_len3, natInt, u_nthM, all_tt]
  refine iter_go (ι := {k : Nat // k ≤ l.length}) (fun k => ⟨[⟨2, ty_api_Mark, 3, (laterL (l.take k.1) low).map mE⟩], [(0, SL (l.map mE)), (1, nA low), (5, OW 0 (laterL (l.take k.1) low).length), (6, nA k.1)]⟩) (fun k => l.length - k.1) (fun _ => some (SL ((laterL l low).map mE), [])) ?_ ⟨0, Nat.zero_le _⟩ (by dsimp only; omega)
  rintro kx hkx ⟨k, hk⟩ kc hkc
  dsimp only at hkc ⊢
  rw [plenumref30_Later_b1_eq]
  have hle : (laterL (l.take k) low).length ≤ l.length := Nat.le_trans (List.length_filter_le ..) (by rw [List.length_take]; omega)
  by_cases hlt : k < l.length
  · have hlt' : (k : Int) < (l.length : Int) := by omega
    have step := hkc ⟨k + 1, by omega⟩ (by dsimp only; omega)
    dsimp only at step
    have hs : laterL (l.take (k + 1)) low = laterL (l.take k) low ++ (if decide (low < l[k].sq) = true then [l[k]] else []) := filter_snoc hlt
    rw [hs] at step
    generalize laterL (l.take k) low = A at hle step ⊢
    have hol : A.length + 1 ≤ 34359738368 := by omega
    by_cases hq : low < l[k].sq
    · rw [if_pos (decide_eq_true hq), List.map_append, List.length_append] at step
      simp (config := {maxSteps := 4000000, implicitDefEqProofs := false}) (disch := omega) only [go_sem, ↓reduceIte, Nat.reduceAdd, Nat.reduceSub, Nat.reduceMul, Nat.reduceLeDiff, Nat.reduceLT, Int.reduceEq, Int.reduceNe, Int.reduceLT, Int.reduceLE, Int.reduceAdd, Int.reduceSub, Int.reduceMul, Int.reduceNeg, Nat.zero_add, Nat.add_zero, Nat.mul_one, Int.toNat_natCast, Int.natCast_zero, Int.cast_ofNat_Int, or_false, false_or, or_true, true_or, Int.reduceToNat, Nat.sub_zero, Int.natCast_nonneg, Int.toNat_zero, Bool.true_and, Bool.and_true, Bool.false_and, Bool.and_false, Bool.true_or, Bool.or_true, Bool.false_or, Bool.or_false, Bool.not_true, Bool.not_false, Bool.not_not, true_and, and_true, false_and, and_false, not_true_eq_false, not_false_eq_true, eq_self, decide_true, decide_false, ne_eq, implies_true, forall_const, true_implies, false_implies, Bool.true_eq_false, Bool.false_eq_true, reduceCtorEq, List.map_cons, List.map_nil, List.all_cons, List.all_nil, List.length_cons, List.length_nil, List.length_map, List.length_append, List.nil_append, List.cons_append, List.set_cons_zero, List.set_cons_succ, List.set_nil, List.drop_zero, List.drop_succ_cons, List.drop_nil, List.take_zero, List.take_succ_cons, List.take_nil, Option.map_some, Option.map_none, Option.isSome_some, Nat.reduceEqDiff, Nat.reduceBEq, Nat.reduceGT, List.all_append, List.all_map, Function.comp_def, decide_eq_true_eq, Bool.and_eq_true, beq_self_eq_true, or_self, and_self, ite_true, ite_false, Nat.le_refl, Bool.not_eq_true, decide_not, Bool.not_eq_true', decide_eq_false_iff_not, Bool.not_eq_false, Bool.or_eq_true, if_true, if_false, ite_self, mE_it, mc_len, mc_sure, mc_ltA, mc_lt1, mc_all1, mc_ro, mc_take, mc_sl, mc_set, mc_fr, mc_sq, mc_tm, zcM_eq, ms_len, ms_sure, ms_ltA, ms_lt1, ms_all1, ms_ro, ms_take, ms_set, ms_low, ms_root, ms_l, zs_len, zs_sure, zs_ltA, zs_ro, zs_set, zs_set2, zs_take, zs_b, me_ltA, me_len3, natInt, u_nthM, all_tt, hlt', hq, hol, w_i64, plenumref30_Later_r2_eq]
      exact step
    · rw [if_neg (by simp [hq]), List.append_nil] at step
      simp (config := {maxSteps := 4000000, implicitDefEqProofs := false}) (disch := omega) only [go_sem, ↓reduceIte, Nat.reduceAdd, Nat.reduceSub, Nat.reduceMul, Nat.reduceLeDiff, Nat.reduceLT, Int.reduceEq, Int.reduceNe, Int.reduceLT, Int.reduceLE, Int.reduceAdd, Int.reduceSub, Int.reduceMul, Int.reduceNeg, Nat.zero_add, Nat.add_zero, Nat.mul_one, Int.toNat_natCast, Int.natCast_zero, Int.cast_ofNat_Int, or_false, false_or, or_true, true_or, Int.reduceToNat, Nat.sub_zero, Int.natCast_nonneg, Int.toNat_zero, Bool.true_and, Bool.and_true, Bool.false_and, Bool.and_false, Bool.true_or, Bool.or_true, Bool.false_or, Bool.or_false, Bool.not_true, Bool.not_false, Bool.not_not, true_and, and_true, false_and, and_false, not_true_eq_false, not_false_eq_true, eq_self, decide_true, decide_false, ne_eq, implies_true, forall_const, true_implies, false_implies, Bool.true_eq_false, Bool.false_eq_true, reduceCtorEq, List.map_cons, List.map_nil, List.all_cons, List.all_nil, List.length_cons, List.length_nil, List.length_map, List.length_append, List.nil_append, List.cons_append, List.set_cons_zero, List.set_cons_succ, List.set_nil, List.drop_zero, List.drop_succ_cons, List.drop_nil, List.take_zero, List.take_succ_cons, List.take_nil, Option.map_some, Option.map_none, Option.isSome_some, Nat.reduceEqDiff, Nat.reduceBEq, Nat.reduceGT, List.all_append, List.all_map, Function.comp_def, decide_eq_true_eq, Bool.and_eq_true, beq_self_eq_true, or_self, and_self, ite_true, ite_false, Nat.le_refl, Bool.not_eq_true, decide_not, Bool.not_eq_true', decide_eq_false_iff_not, Bool.not_eq_false, Bool.or_eq_true, if_true, if_false, ite_self, mE_it, mc_len, mc_sure, mc_ltA, mc_lt1, mc_all1, mc_ro, mc_take, mc_sl, mc_set, mc_fr, mc_sq, mc_tm, zcM_eq, ms_len, ms_sure, ms_ltA, ms_lt1, ms_all1, ms_ro, ms_take, ms_set, ms_low, ms_root, ms_l, zs_len, zs_sure, zs_ltA, zs_ro, zs_set, zs_set2, zs_take, zs_b, me_ltA, me_len3, natInt, u_nthM, all_tt, hlt', hq, hol, w_i64, plenumref30_Later_r2_eq]
      exact step
  · have hlt' : ¬ (k : Int) < (l.length : Int) := by omega
    have : k = l.length := by omega
    subst this
    rw [List.take_length] at *
    simp (config := {maxSteps := 4000000, implicitDefEqProofs := false}) (disch := omega) only [go_sem, ↓reduceIte, Nat.reduceAdd, Nat.reduceSub, Nat.reduceMul, Nat.reduceLeDiff, Nat.reduceLT, Int.reduceEq, Int.reduceNe, Int.reduceLT, Int.reduceLE, Int.reduceAdd, Int.reduceSub, Int.reduceMul, Int.reduceNeg, Nat.zero_add, Nat.add_zero, Nat.mul_one, Int.toNat_natCast, Int.natCast_zero, Int.cast_ofNat_Int, or_false, false_or, or_true, true_or, Int.reduceToNat, Nat.sub_zero, Int.natCast_nonneg, Int.toNat_zero, Bool.true_and, Bool.and_true, Bool.false_and, Bool.and_false, Bool.true_or, Bool.or_true, Bool.false_or, Bool.or_false, Bool.not_true, Bool.not_false, Bool.not_not, true_and, and_true, false_and, and_false, not_true_eq_false, not_false_eq_true, eq_self, decide_true, decide_false, ne_eq, implies_true, forall_const, true_implies, false_implies, Bool.true_eq_false, Bool.false_eq_true, reduceCtorEq, List.map_cons, List.map_nil, List.all_cons, List.all_nil, List.length_cons, List.length_nil, List.length_map, List.length_append, List.nil_append, List.cons_append, List.set_cons_zero, List.set_cons_succ, List.set_nil, List.drop_zero, List.drop_succ_cons, List.drop_nil, List.take_zero, List.take_succ_cons, List.take_nil, Option.map_some, Option.map_none, Option.isSome_some, Nat.reduceEqDiff, Nat.reduceBEq, Nat.reduceGT, List.all_append, List.all_map, Function.comp_def, decide_eq_true_eq, Bool.and_eq_true, beq_self_eq_true, or_self, and_self, ite_true, ite_false, Nat.le_refl, Bool.not_eq_true, decide_not, Bool.not_eq_true', decide_eq_false_iff_not, Bool.not_eq_false, Bool.or_eq_true, if_true, if_false, ite_self, mE_it, mc_len, mc_sure, mc_ltA, mc_lt1, mc_all1, mc_ro, mc_take, mc_sl, mc_set, mc_fr, mc_sq, mc_tm, zcM_eq, ms_len, ms_sure, ms_ltA, ms_lt1, ms_all1, ms_ro, ms_take, ms_set, ms_low, ms_root, ms_l, zs_len, zs_sure, zs_ltA, zs_ro, zs_set, zs_set2, zs_take, zs_b, me_ltA, me_len3, natInt, u_nthM, all_tt, hlt', hkx, plenumref30_Later_r2_eq, plenumref30_Later_r1_eq]
theorem sameMk (x y : Mk) : sameKs [.int .i64 x.fr, .int .i64 x.sq, .int .i64 x.tm] [.int .i64 y.fr, .int .i64 y.sq, .int .i64 y.tm] = decide (x = y) := by
  obtain ⟨a3, a4, a5⟩ := x
  obtain ⟨b3, b4, b5⟩ := y
  rw [Bool.eq_iff_iff]
  show (decide (a3 = b3) && (decide (a4 = b4) && (decide (a5 = b5) && true))) = true ↔ _
  simp
theorem u_neM {R : Type} {x y : Mk} {isB sl : Bool} {K1 : AV → Option R} : binE (some [.i .i64, .i .i64, .i .i64]) isB sl .neq (.agg (mC x)) (.agg (mC y)) K1 = K1 (bA (!decide (x = y))) := by
  rw [← sameMk]; rfl
theorem same_s (m : Nat) (s t : Ms) (hm : s.l.length < m) (hl : s.l.length ≤ 1000000) : plenumref30_Same m (ME s) (ME t) = some (bA (decide (s = t)), []) := by
  rw [plenumref30_Same_eq, ME_it, ME_it]
  by_cases c1 : s.low = t.low
  case neg =>
    have : decide (s = t) = false := decide_eq_false fun e => c1 (by rw [e])
    rw [this]
    simp (config := {maxSteps := 4000000, implicitDefEqProofs := false}) (disch := omega) only [go_sem, ↓reduceIte, Nat.reduceAdd, Nat.reduceSub, Nat.reduceMul, Nat.reduceLeDiff, Nat.reduceLT, Int.reduceEq, Int.reduceNe, Int.reduceLT, Int.reduceLE, Int.reduceAdd, Int.reduceSub, Int.reduceMul, Int.reduceNeg, Nat.zero_add, Nat.add_zero, Nat.mul_one, Int.toNat_natCast, Int.natCast_zero, Int.cast_ofNat_Int, or_false, false_or, or_true, true_or, Int.reduceToNat, Nat.sub_zero, Int.natCast_nonneg, Int.toNat_zero, Bool.true_and, Bool.and_true, Bool.false_and, Bool.and_false, Bool.true_or, Bool.or_true, Bool.false_or, Bool.or_false, Bool.not_true, Bool.not_false, Bool.not_not, true_and, and_true, false_and, and_false, not_true_eq_false, not_false_eq_true, eq_self, decide_true, decide_false, ne_eq, implies_true, forall_const, true_implies, false_implies, Bool.true_eq_false, Bool.false_eq_true, reduceCtorEq, List.map_cons, List.map_nil, List.all_cons, List.all_nil, List.length_cons, List.length_nil, List.length_map, List.length_append, List.nil_append, List.cons_append, List.set_cons_zero, List.set_cons_succ, List.set_nil, List.drop_zero, List.drop_succ_cons, List.drop_nil, List.take_zero, List.take_succ_cons, List.take_nil, Option.map_some, Option.map_none, Option.isSome_some, Nat.reduceEqDiff, Nat.reduceBEq, Nat.reduceGT, List.all_append, List.all_map, Function.comp_def, decide_eq_true_eq, Bool.and_eq_true, beq_self_eq_true, or_self, and_self, ite_true, ite_false, Nat.le_refl, Bool.not_eq_true, decide_not, Bool.not_eq_true', decide_eq_false_iff_not, Bool.not_eq_false, Bool.or_eq_true, if_true, if_false, ite_self, mE_it, mc_len, mc_sure, mc_ltA, mc_lt1, mc_all1, mc_ro, mc_take, mc_sl, mc_set, mc_fr, mc_sq, mc_tm, zcM_eq, ms_len, ms_sure, ms_ltA, ms_lt1, ms_all1, ms_ro, ms_take, ms_set, ms_low, ms_root, ms_l, zs_len, zs_sure, zs_ltA, zs_ro, zs_set, zs_set2, zs_take, zs_b, me_ltA, me_len3, natInt, u_nthM, all_tt, c1, plenumref30_Same_r3_eq, plenumref30_Same_r2_eq, plenumref30_Same_r1_eq]
  by_cases c2 : s.root = t.root
  case neg =>
    have : decide (s = t) = false := decide_eq_false fun e => c2 (by rw [e])
    rw [this]
    simp (config := {maxSteps := 4000000, implicitDefEqProofs := false}) (disch := omega) only [go_sem, ↓reduceIte, Nat.reduceAdd, Nat.reduceSub, Nat.reduceMul, Nat.reduceLeDiff, Nat.reduceLT, Int.reduceEq, Int.reduceNe, Int.reduceLT, Int.reduceLE, Int.reduceAdd, Int.reduceSub, Int.reduceMul, Int.reduceNeg, Nat.zero_add, Nat.add_zero, Nat.mul_one, Int.toNat_natCast, Int.natCast_zero, Int.cast_ofNat_Int, or_false, false_or, or_true, true_or, Int.reduceToNat, Nat.sub_zero, Int.natCast_nonneg, Int.toNat_zero, Bool.true_and, Bool.and_true, Bool.false_and, Bool.and_false, Bool.true_or, Bool.or_true, Bool.false_or, Bool.or_false, Bool.not_true, Bool.not_false, Bool.not_not, true_and, and_true, false_and, and_false, not_true_eq_false, not_false_eq_true, eq_self, decide_true, decide_false, ne_eq, implies_true, forall_const, true_implies, false_implies, Bool.true_eq_false, Bool.false_eq_true, reduceCtorEq, List.map_cons, List.map_nil, List.all_cons, List.all_nil, List.length_cons, List.length_nil, List.length_map, List.length_append, List.nil_append, List.cons_append, List.set_cons_zero, List.set_cons_succ, List.set_nil, List.drop_zero, List.drop_succ_cons, List.drop_nil, List.take_zero, List.take_succ_cons, List.take_nil, Option.map_some, Option.map_none, Option.isSome_some, Nat.reduceEqDiff, Nat.reduceBEq, Nat.reduceGT, List.all_append, List.all_map, Function.comp_def, decide_eq_true_eq, Bool.and_eq_true, beq_self_eq_true, or_self, and_self, ite_true, ite_false, Nat.le_refl, Bool.not_eq_true, decide_not, Bool.not_eq_true', decide_eq_false_iff_not, Bool.not_eq_false, Bool.or_eq_true, if_true, if_false, ite_self, mE_it, mc_len, mc_sure, mc_ltA, mc_lt1, mc_all1, mc_ro, mc_take, mc_sl, mc_set, mc_fr, mc_sq, mc_tm, zcM_eq, ms_len, ms_sure, ms_ltA, ms_lt1, ms_all1, ms_ro, ms_take, ms_set, ms_low, ms_root, ms_l, zs_len, zs_sure, zs_ltA, zs_ro, zs_set, zs_set2, zs_take, zs_b, me_ltA, me_len3, natInt, u_nthM, all_tt, c1, c2, plenumref30_Same_r3_eq, plenumref30_Same_r2_eq, plenumref30_Same_r1_eq]
  by_cases c3 : s.l.length = t.l.length
  case neg =>
    have : decide (s = t) = false := decide_eq_false fun e => c3 (by rw [e])
    have c3' : ¬ (s.l.length : Int) = (t.l.length : Int) := by omega
    rw [this]
    simp (config := {maxSteps := 4000000, implicitDefEqProofs := false}) (disch := omega) only [go_sem, ↓reduceIte, Nat.reduceAdd, Nat.reduceSub, Nat.reduceMul, Nat.reduceLeDiff, Nat.reduceLT, Int.reduceEq, Int.reduceNe, Int.reduceLT, Int.reduceLE, Int.reduceAdd, Int.reduceSub, Int.reduceMul, Int.reduceNeg, Nat.zero_add, Nat.add_zero, Nat.mul_one, Int.toNat_natCast, Int.natCast_zero, Int.cast_ofNat_Int, or_false, false_or, or_true, true_or, Int.reduceToNat, Nat.sub_zero, Int.natCast_nonneg, Int.toNat_zero, Bool.true_and, Bool.and_true, Bool.false_and, Bool.and_false, Bool.true_or, Bool.or_true, Bool.false_or, Bool.or_false, Bool.not_true, Bool.not_false, Bool.not_not, true_and, and_true, false_and, and_false, not_true_eq_false, not_false_eq_true, eq_self, decide_true, decide_false, ne_eq, implies_true, forall_const, true_implies, false_implies, Bool.true_eq_false, Bool.false_eq_true, reduceCtorEq, List.map_cons, List.map_nil, List.all_cons, List.all_nil, List.length_cons, List.length_nil, List.length_map, List.length_append, List.nil_append, List.cons_append, List.set_cons_zero, List.set_cons_succ, List.set_nil, List.drop_zero, List.drop_succ_cons, List.drop_nil, List.take_zero, List.take_succ_cons, List.take_nil, Option.map_some, Option.map_none, Option.isSome_some, Nat.reduceEqDiff, Nat.reduceBEq, Nat.reduceGT, List.all_append, List.all_map, Function.comp_def, decide_eq_true_eq, Bool.and_eq_true, beq_self_eq_true, or_self, and_self, ite_true, ite_false, Nat.le_refl, Bool.not_eq_true, decide_not, Bool.not_eq_true', decide_eq_false_iff_not, Bool.not_eq_false, Bool.or_eq_true, if_true, if_false, ite_self, mE_it, mc_len, mc_sure, mc_ltA, mc_lt1, mc_all1, mc_ro, mc_take, mc_sl, mc_set, mc_fr, mc_sq, mc_tm, zcM_eq, ms_len, ms_sure, ms_ltA, ms_lt1, ms_all1, ms_ro, ms_take, ms_set, ms_low, ms_root, ms_l, zs_len, zs_sure, zs_ltA, zs_ro, zs_set, zs_set2, zs_take, zs_b, me_ltA, me_len3, natInt, u_nthM, all_tt, c1, c2, c3', plenumref30_Same_r3_eq, plenumref30_Same_r2_eq, plenumref30_Same_r1_eq]
  have c3' : (s.l.length : Int) = (t.l.length : Int) := by omega
  simp (config := {maxSteps := 4000000, implicitDefEqProofs := false}) (disch := omega) only [go_sem, ↓reduceIte, Nat.reduceAdd, Nat.reduceSub, Nat.reduceMul, Nat.reduceLeDiff, Nat.reduceLT, Int.reduceEq, Int.reduceNe, Int.reduceLT, Int.reduceLE, Int.reduceAdd, Int.reduceSub, Int.reduceMul, Int.reduceNeg, Nat.zero_add, Nat.add_zero, Nat.mul_one, Int.toNat_natCast, Int.natCast_zero, Int.cast_ofNat_Int, or_false, false_or, or_true, true_or, Int.reduceToNat, Nat.sub_zero, Int.natCast_nonneg, Int.toNat_zero, Bool.true_and, Bool.and_true, Bool.false_and, Bool.and_false, Bool.true_or, Bool.or_true, Bool.false_or, Bool.or_false, Bool.not_true, Bool.not_false, Bool.not_not, true_and, and_true, false_and, and_false, not_true_eq_false, not_false_eq_true, eq_self, decide_true, decide_false, ne_eq, implies_true, forall_const, true_implies, false_implies, Bool.true_eq_false, Bool.false_eq_true, reduceCtorEq, List.map_cons, List.map_nil, List.all_cons, List.all_nil, List.length_cons, List.length_nil, List.length_map, List.length_append, List.nil_append, List.cons_append, List.set_cons_zero, List.set_cons_succ, List.set_nil, List.drop_zero, List.drop_succ_cons, List.drop_nil, List.take_zero, List.take_succ_cons, List.take_nil, Option.map_some, Option.map_none, Option.isSome_some, Nat.reduceEqDiff, Nat.reduceBEq, Nat.reduceGT, List.all_append, List.all_map, Function.comp_def, decide_eq_true_eq, Bool.and_eq_true, beq_self_eq_true, or_self, and_self, ite_true, ite_false, Nat.le_refl, Bool.not_eq_true, decide_not, Bool.not_eq_true', decide_eq_false_iff_not, Bool.not_eq_false, Bool.or_eq_true, if_true, if_false, ite_self, mE_it, mc_len, mc_sure, mc_ltA, mc_lt1, mc_all1, mc_ro, mc_take, mc_sl, mc_set, mc_fr, mc_sq, mc_tm, zcM_eq, ms_len, ms_sure, ms_ltA, ms_lt1, ms_all1, ms_ro, ms_take, ms_set, ms_low, ms_root, ms_l, zs_len, zs_sure, zs_ltA, zs_ro, zs_set, zs_set2, zs_take, zs_b, me_ltA, me_len3, natInt, u_nthM, all_tt, c1, c2, c3', plenumref30_Same_r1_eq, plenumref30_Same_r2_eq]
  refine iter_go (ι := {k : Nat // k ≤ s.l.length ∧ ∀ (i : Nat) (h1 : i < s.l.length) (h2 : i < t.l.length), i < k → s.l[i] = t.l[i]}) (fun k => ⟨[⟨1, ty_api_Marks, 0, MC s⟩, ⟨1, ty_api_Marks, 0, MC t⟩], [(2, OP 0 0), (3, OP 1 0), (5, nA k.1)]⟩) (fun k => s.l.length - k.1) (fun _ => some (bA (decide (s = t)), [])) ?_ ⟨0, Nat.zero_le _, fun i h1 h2 h => by omega⟩ (by dsimp only; omega)
  rintro kx hkx ⟨k, hk, hall⟩ kc hkc
  dsimp only at hkc ⊢
  rw [plenumref30_Same_b1_eq]
  by_cases hlt : k < s.l.length
  · have hlt' : (k : Int) < (s.l.length : Int) := by omega
    have hlt2 : k < t.l.length := by omega
    have hlt2' : (k : Int) < (t.l.length : Int) := by omega
    by_cases he : s.l[k] = t.l[k]
    · have step := hkc ⟨k + 1, by omega, fun i h1 h2 h => by
        rcases Nat.lt_or_ge i k with q | q
        · exact hall i h1 h2 q
        · have : i = k := by omega
          subst this; exact he⟩ (by dsimp only; omega)
      simp (config := {maxSteps := 4000000, implicitDefEqProofs := false}) (disch := omega) only [go_sem, ↓reduceIte, Nat.reduceAdd, Nat.reduceSub, Nat.reduceMul, Nat.reduceLeDiff, Nat.reduceLT, Int.reduceEq, Int.reduceNe, Int.reduceLT, Int.reduceLE, Int.reduceAdd, Int.reduceSub, Int.reduceMul, Int.reduceNeg, Nat.zero_add, Nat.add_zero, Nat.mul_one, Int.toNat_natCast, Int.natCast_zero, Int.cast_ofNat_Int, or_false, false_or, or_true, true_or, Int.reduceToNat, Nat.sub_zero, Int.natCast_nonneg, Int.toNat_zero, Bool.true_and, Bool.and_true, Bool.false_and, Bool.and_false, Bool.true_or, Bool.or_true, Bool.false_or, Bool.or_false, Bool.not_true, Bool.not_false, Bool.not_not, true_and, and_true, false_and, and_false, not_true_eq_false, not_false_eq_true, eq_self, decide_true, decide_false, ne_eq, implies_true, forall_const, true_implies, false_implies, Bool.true_eq_false, Bool.false_eq_true, reduceCtorEq, List.map_cons, List.map_nil, List.all_cons, List.all_nil, List.length_cons, List.length_nil, List.length_map, List.length_append, List.nil_append, List.cons_append, List.set_cons_zero, List.set_cons_succ, List.set_nil, List.drop_zero, List.drop_succ_cons, List.drop_nil, List.take_zero, List.take_succ_cons, List.take_nil, Option.map_some, Option.map_none, Option.isSome_some, Nat.reduceEqDiff, Nat.reduceBEq, Nat.reduceGT, List.all_append, List.all_map, Function.comp_def, decide_eq_true_eq, Bool.and_eq_true, beq_self_eq_true, or_self, and_self, ite_true, ite_false, Nat.le_refl, Bool.not_eq_true, decide_not, Bool.not_eq_true', decide_eq_false_iff_not, Bool.not_eq_false, Bool.or_eq_true, if_true, if_false, ite_self, mE_it, mc_len, mc_sure, mc_ltA, mc_lt1, mc_all1, mc_ro, mc_take, mc_sl, mc_set, mc_fr, mc_sq, mc_tm, zcM_eq, ms_len, ms_sure, ms_ltA, ms_lt1, ms_all1, ms_ro, ms_take, ms_set, ms_low, ms_root, ms_l, zs_len, zs_sure, zs_ltA, zs_ro, zs_set, zs_set2, zs_take, zs_b, me_ltA, me_len3, natInt, u_nthM, all_tt, hlt', hlt2', he, u_neM, w_i64, plenumref30_Same_r3_eq, plenumref30_Same_r2_eq, plenumref30_Same_r1_eq]
      exact step
    · have : decide (s = t) = false := decide_eq_false fun e => he (by subst e; rfl)
      rw [this]
      simp (config := {maxSteps := 4000000, implicitDefEqProofs := false}) (disch := omega) only [go_sem, ↓reduceIte, Nat.reduceAdd, Nat.reduceSub, Nat.reduceMul, Nat.reduceLeDiff, Nat.reduceLT, Int.reduceEq, Int.reduceNe, Int.reduceLT, Int.reduceLE, Int.reduceAdd, Int.reduceSub, Int.reduceMul, Int.reduceNeg, Nat.zero_add, Nat.add_zero, Nat.mul_one, Int.toNat_natCast, Int.natCast_zero, Int.cast_ofNat_Int, or_false, false_or, or_true, true_or, Int.reduceToNat, Nat.sub_zero, Int.natCast_nonneg, Int.toNat_zero, Bool.true_and, Bool.and_true, Bool.false_and, Bool.and_false, Bool.true_or, Bool.or_true, Bool.false_or, Bool.or_false, Bool.not_true, Bool.not_false, Bool.not_not, true_and, and_true, false_and, and_false, not_true_eq_false, not_false_eq_true, eq_self, decide_true, decide_false, ne_eq, implies_true, forall_const, true_implies, false_implies, Bool.true_eq_false, Bool.false_eq_true, reduceCtorEq, List.map_cons, List.map_nil, List.all_cons, List.all_nil, List.length_cons, List.length_nil, List.length_map, List.length_append, List.nil_append, List.cons_append, List.set_cons_zero, List.set_cons_succ, List.set_nil, List.drop_zero, List.drop_succ_cons, List.drop_nil, List.take_zero, List.take_succ_cons, List.take_nil, Option.map_some, Option.map_none, Option.isSome_some, Nat.reduceEqDiff, Nat.reduceBEq, Nat.reduceGT, List.all_append, List.all_map, Function.comp_def, decide_eq_true_eq, Bool.and_eq_true, beq_self_eq_true, or_self, and_self, ite_true, ite_false, Nat.le_refl, Bool.not_eq_true, decide_not, Bool.not_eq_true', decide_eq_false_iff_not, Bool.not_eq_false, Bool.or_eq_true, if_true, if_false, ite_self, mE_it, mc_len, mc_sure, mc_ltA, mc_lt1, mc_all1, mc_ro, mc_take, mc_sl, mc_set, mc_fr, mc_sq, mc_tm, zcM_eq, ms_len, ms_sure, ms_ltA, ms_lt1, ms_all1, ms_ro, ms_take, ms_set, ms_low, ms_root, ms_l, zs_len, zs_sure, zs_ltA, zs_ro, zs_set, zs_set2, zs_take, zs_b, me_ltA, me_len3, natInt, u_nthM, all_tt, hlt', hlt2', he, u_neM, w_i64, hkx, plenumref30_Same_r3_eq, plenumref30_Same_r2_eq, plenumref30_Same_r1_eq]
  · have hlt' : ¬ (k : Int) < (s.l.length : Int) := by omega
    have : decide (s = t) = true := decide_eq_true (by
      obtain ⟨s1, s2, s3⟩ := s
      obtain ⟨t1, t2, t3⟩ := t
      dsimp only at c1 c2 c3 hall hlt
      have : s3 = t3 := List.ext_getElem c3 fun i h1 h2 => hall i h1 h2 (by omega)
      rw [c1, c2, this])
    rw [this]
    simp (config := {maxSteps := 4000000, implicitDefEqProofs := false}) (disch := omega) only [go_sem, ↓reduceIte, Nat.reduceAdd, Nat.reduceSub, Nat.reduceMul, Nat.reduceLeDiff, Nat.reduceLT, Int.reduceEq, Int.reduceNe, Int.reduceLT, Int.reduceLE, Int.reduceAdd, Int.reduceSub, Int.reduceMul, Int.reduceNeg, Nat.zero_add, Nat.add_zero, Nat.mul_one, Int.toNat_natCast, Int.natCast_zero, Int.cast_ofNat_Int, or_false, false_or, or_true, true_or, Int.reduceToNat, Nat.sub_zero, Int.natCast_nonneg, Int.toNat_zero, Bool.true_and, Bool.and_true, Bool.false_and, Bool.and_false, Bool.true_or, Bool.or_true, Bool.false_or, Bool.or_false, Bool.not_true, Bool.not_false, Bool.not_not, true_and, and_true, false_and, and_false, not_true_eq_false, not_false_eq_true, eq_self, decide_true, decide_false, ne_eq, implies_true, forall_const, true_implies, false_implies, Bool.true_eq_false, Bool.false_eq_true, reduceCtorEq, List.map_cons, List.map_nil, List.all_cons, List.all_nil, List.length_cons, List.length_nil, List.length_map, List.length_append, List.nil_append, List.cons_append, List.set_cons_zero, List.set_cons_succ, List.set_nil, List.drop_zero, List.drop_succ_cons, List.drop_nil, List.take_zero, List.take_succ_cons, List.take_nil, Option.map_some, Option.map_none, Option.isSome_some, Nat.reduceEqDiff, Nat.reduceBEq, Nat.reduceGT, List.all_append, List.all_map, Function.comp_def, decide_eq_true_eq, Bool.and_eq_true, beq_self_eq_true, or_self, and_self, ite_true, ite_false, Nat.le_refl, Bool.not_eq_true, decide_not, Bool.not_eq_true', decide_eq_false_iff_not, Bool.not_eq_false, Bool.or_eq_true, if_true, if_false, ite_self, mE_it, mc_len, mc_sure, mc_ltA, mc_lt1, mc_all1, mc_ro, mc_take, mc_sl, mc_set, mc_fr, mc_sq, mc_tm, zcM_eq, ms_len, ms_sure, ms_ltA, ms_lt1, ms_all1, ms_ro, ms_take, ms_set, ms_low, ms_root, ms_l, zs_len, zs_sure, zs_ltA, zs_ro, zs_set, zs_set2, zs_take, zs_b, me_ltA, me_len3, natInt, u_nthM, all_tt, hlt', hkx, plenumref30_Same_r3_eq, plenumref30_Same_r2_eq, plenumref30_Same_r1_eq]
def fewM (s : Ms) : Ms := { s with l := s.l.take 260 }
theorem few_s (m : Nat) (s : Ms) (hl : s.l.length ≤ maxLen) : plenumlaw30_Few m (ME s) = some (ME (fewM s), []) := by
  rw [plenumlaw30_Few_eq, ME_it, ME_it]
  unfold fewM
  by_cases h : 260 < s.l.length
  · have h' : (260 : Int) < (s.l.length : Int) := by omega
    have h2' : (260 : Int) ≤ (s.l.length : Int) := by omega
    have e : (s.l.map mE).take 260 = (s.l.take 260).map mE := by rw [List.map_take]
    simp (config := {maxSteps := 4000000, implicitDefEqProofs := false}) (disch := omega) only [go_sem, ↓reduceIte, Nat.reduceAdd, Nat.reduceSub, Nat.reduceMul, Nat.reduceLeDiff, Nat.reduceLT, Int.reduceEq, Int.reduceNe, Int.reduceLT, Int.reduceLE, Int.reduceAdd, Int.reduceSub, Int.reduceMul, Int.reduceNeg, Nat.zero_add, Nat.add_zero, Nat.mul_one, Int.toNat_natCast, Int.natCast_zero, Int.cast_ofNat_Int, or_false, false_or, or_true, true_or, Int.reduceToNat, Nat.sub_zero, Int.natCast_nonneg, Int.toNat_zero, Bool.true_and, Bool.and_true, Bool.false_and, Bool.and_false, Bool.true_or, Bool.or_true, Bool.false_or, Bool.or_false, Bool.not_true, Bool.not_false, Bool.not_not, true_and, and_true, false_and, and_false, not_true_eq_false, not_false_eq_true, eq_self, decide_true, decide_false, ne_eq, implies_true, forall_const, true_implies, false_implies, Bool.true_eq_false, Bool.false_eq_true, reduceCtorEq, List.map_cons, List.map_nil, List.all_cons, List.all_nil, List.length_cons, List.length_nil, List.length_map, List.length_append, List.nil_append, List.cons_append, List.set_cons_zero, List.set_cons_succ, List.set_nil, List.drop_zero, List.drop_succ_cons, List.drop_nil, List.take_zero, List.take_succ_cons, List.take_nil, Option.map_some, Option.map_none, Option.isSome_some, Nat.reduceEqDiff, Nat.reduceBEq, Nat.reduceGT, List.all_append, List.all_map, Function.comp_def, decide_eq_true_eq, Bool.and_eq_true, beq_self_eq_true, or_self, and_self, ite_true, ite_false, Nat.le_refl, Bool.not_eq_true, decide_not, Bool.not_eq_true', decide_eq_false_iff_not, Bool.not_eq_false, Bool.or_eq_true, if_true, if_false, ite_self, mE_it, mc_len, mc_sure, mc_ltA, mc_lt1, mc_all1, mc_ro, mc_take, mc_sl, mc_set, mc_fr, mc_sq, mc_tm, zcM_eq, ms_len, ms_sure, ms_ltA, ms_lt1, ms_all1, ms_ro, ms_take, ms_set, ms_low, ms_root, ms_l, zs_len, zs_sure, zs_ltA, zs_ro, zs_set, zs_set2, zs_take, zs_b, me_ltA, me_len3, natInt, u_nthM, all_tt, h', h2', e, ms_setL, plenumlaw30_Few_r1_eq]
  · have h' : ¬ (260 : Int) < (s.l.length : Int) := by omega
    have e : s.l.take 260 = s.l := List.take_of_length_le (by omega)
    rw [e]
    simp (config := {maxSteps := 4000000, implicitDefEqProofs := false}) (disch := omega) only [go_sem, ↓reduceIte, Nat.reduceAdd, Nat.reduceSub, Nat.reduceMul, Nat.reduceLeDiff, Nat.reduceLT, Int.reduceEq, Int.reduceNe, Int.reduceLT, Int.reduceLE, Int.reduceAdd, Int.reduceSub, Int.reduceMul, Int.reduceNeg, Nat.zero_add, Nat.add_zero, Nat.mul_one, Int.toNat_natCast, Int.natCast_zero, Int.cast_ofNat_Int, or_false, false_or, or_true, true_or, Int.reduceToNat, Nat.sub_zero, Int.natCast_nonneg, Int.toNat_zero, Bool.true_and, Bool.and_true, Bool.false_and, Bool.and_false, Bool.true_or, Bool.or_true, Bool.false_or, Bool.or_false, Bool.not_true, Bool.not_false, Bool.not_not, true_and, and_true, false_and, and_false, not_true_eq_false, not_false_eq_true, eq_self, decide_true, decide_false, ne_eq, implies_true, forall_const, true_implies, false_implies, Bool.true_eq_false, Bool.false_eq_true, reduceCtorEq, List.map_cons, List.map_nil, List.all_cons, List.all_nil, List.length_cons, List.length_nil, List.length_map, List.length_append, List.nil_append, List.cons_append, List.set_cons_zero, List.set_cons_succ, List.set_nil, List.drop_zero, List.drop_succ_cons, List.drop_nil, List.take_zero, List.take_succ_cons, List.take_nil, Option.map_some, Option.map_none, Option.isSome_some, Nat.reduceEqDiff, Nat.reduceBEq, Nat.reduceGT, List.all_append, List.all_map, Function.comp_def, decide_eq_true_eq, Bool.and_eq_true, beq_self_eq_true, or_self, and_self, ite_true, ite_false, Nat.le_refl, Bool.not_eq_true, decide_not, Bool.not_eq_true', decide_eq_false_iff_not, Bool.not_eq_false, Bool.or_eq_true, if_true, if_false, ite_self, mE_it, mc_len, mc_sure, mc_ltA, mc_lt1, mc_all1, mc_ro, mc_take, mc_sl, mc_set, mc_fr, mc_sq, mc_tm, zcM_eq, ms_len, ms_sure, ms_ltA, ms_lt1, ms_all1, ms_ro, ms_take, ms_set, ms_low, ms_root, ms_l, zs_len, zs_sure, zs_ltA, zs_ro, zs_set, zs_set2, zs_take, zs_b, me_ltA, me_len3, natInt, u_nthM, all_tt, h', plenumlaw30_Few_r1_eq]
end Go.Proofs.Ytbobfgbjliolmaa
