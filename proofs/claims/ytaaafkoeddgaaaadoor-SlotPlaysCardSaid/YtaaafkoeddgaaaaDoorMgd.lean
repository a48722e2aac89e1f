/-
  Texts laid together, part 4 of 6: laws of a walk over data, contracts of functions, each whole by itself.
-/
import Derived.Test.YtaaafkoeddgaaaaDoorMgc
namespace Go.Proofs.YtaaafkoeddgaaaaDoor
open Go.RowKit
set_option linter.unusedVariables false
set_option maxRecDepth 100000
def ty_api_Slot : TypeId := 24
def ty_api_Vote : TypeId := 26
def ty_p_sl_api_Vote : TypeId := 54
def zc_api_Slot : List AV := [(V (.bool false)), (V (.int .i64 0)), (V (.int .i64 0)), (V (.string ⟨#[]⟩)), (V (.slice none 0 0)), (V (.slice none 0 0))]
def zc_api_Vote : List AV := [(V (.int .i64 0)), (V (.int .i64 0)), (V (.int .i64 0))]
def pl_api_Slot : List (Nat × Nat) := [(0, 1), (1, 1), (2, 1), (3, 1), (4, 1), (5, 1)]
noncomputable def slot_number_c : Code := (Tryd.f25.body).getD .skip
def slot_number_h : Hint := (.two .n (.two .n .n))
noncomputable def slot_number_env (m : Nat) : Env := []
noncomputable abbrev slot_number_fin : KO (AV × List AObj) := tellFK Tryd.prog [.tmp 2]
noncomputable def slot_number (m : Nat) (t0 : AV) : RO := exec Tryd.prog GG (slot_number_env m) m ⟨9, []⟩ slot_number_c slot_number_h ⟨[], argsT 0 [t0]⟩ (slot_number_fin)
theorem slot_number_eq (m : Nat) (t0 : AV) : slot_number m t0 =
  binE none false false .geq t0 (V (.int .i64 0)) fun t4 =>
  condE t4 (
   binE none false false .leq t0 (V (.int .i64 2147483647)) fun t7 =>
   tellK [] (ro [] t7)) (
   tellK [] (ro [] (V (.bool false)))) := by
  refine (tellX Tryd.prog GG (slot_number_env m) m ⟨9, []⟩ slot_number_c slot_number_h ⟨[], argsT 0 [t0]⟩ [.tmp 2]).trans ?_
  kernel_rfl
noncomputable def slot_number_t (m : Nat) : List AV → RO | [t0] => slot_number m t0 | _ => none
theorem slot_number_ok (m : Nat) : ∀ args X H', slot_number_t m args = some (X, H') → ACp Tryd.prog GG 25 args X := by
  intro args X H' h
  unfold slot_number_t at h
  split at h
  · exact tell_okK MIX (by intro f e h; cases h) (f := 25) (c := slot_number_c) Tryd.func25 rfl (by kernel_rfl) _ rfl Tryd.ntmps25 (Nat.le_of_ble_eq_true rfl) slot_number_h h
  · cases h
noncomputable def slot_vote_c : Code := (Tryd.f45.body).getD .skip
def slot_vote_h : Hint := (.two .n (.two .n .n))
noncomputable def slot_vote_env (m : Nat) : Env := [(25, .tell (slot_number_t m))]
noncomputable abbrev slot_vote_fin : KO (AV × List AObj) := tellFK Tryd.prog [.tmp 2]
noncomputable def slot_vote (m : Nat) (t0 : AV) : RO := exec Tryd.prog GG (slot_vote_env m) m ⟨21, []⟩ slot_vote_c slot_vote_h ⟨[], argsT 0 [t0]⟩ (slot_vote_fin)
theorem slot_vote_eq (m : Nat) (t0 : AV) : slot_vote m t0 =
  boxE ty_api_Vote [] t0 fun t1 H1 =>
  fieldE (some (0, 1)) t1 fun t3 =>
  loadE 1 H1 t3 fun t4 =>
  binE none false false .geq t4 (V (.int .i64 0)) fun t5 =>
  condE t5 (
   fieldE (some (0, 1)) t1 fun t7 =>
   loadE 1 H1 t7 fun t8 =>
   binE none false false .lss t8 (V (.int .i64 64)) fun t9 =>
   condE t9 (
   fieldE (some (1, 1)) t1 fun t12 =>
   loadE 1 H1 t12 fun t13 =>
   tellE (slot_number m (ro H1 t13)) [(ro H1 t13)] fun t14 =>
   condE t14 (
   fieldE (some (2, 1)) t1 fun t17 =>
   loadE 1 H1 t17 fun t18 =>
   tellE (slot_number m (ro H1 t18)) [(ro H1 t18)] fun t19 =>
   tellK H1 (ro H1 t19)) (
   tellK H1 (ro H1 (V (.bool false))))) (
   tellK H1 (ro H1 (V (.bool false))))) (
   tellK H1 (ro H1 (V (.bool false)))) := by
  refine (tellX Tryd.prog GG (slot_vote_env m) m ⟨21, []⟩ slot_vote_c slot_vote_h ⟨[], argsT 0 [t0]⟩ [.tmp 2]).trans ?_
  kernel_rfl
noncomputable def slot_vote_t (m : Nat) : List AV → RO | [t0] => slot_vote m t0 | _ => none
theorem slot_vote_ok (m : Nat) : ∀ args X H', slot_vote_t m args = some (X, H') → ACp Tryd.prog GG 45 args X := by
  intro args X H' h
  unfold slot_vote_t at h
  split at h
  · exact tell_okK MIX (by
    intro f e h
    simp only [slot_vote_env, Prod.mk.injEq, List.mem_cons, List.not_mem_nil, or_false] at h
    obtain ⟨rfl, rfl⟩ := h
    · exact slot_number_ok m) (f := 45) (c := slot_vote_c) Tryd.func45 rfl (by kernel_rfl) _ rfl Tryd.ntmps45 (Nat.le_of_ble_eq_true rfl) slot_vote_h h
  · cases h
noncomputable def slot_votes_c : Code := (Tryd.f35.body).getD .skip
def slot_votes_h : Hint := (.two .n (.join [] (.two .n (.one (.lp [] [0, 5, 6, 7] [2] (.two .n (.two (.two .n .n) (.join [0, 5, 6, 7] (.one (.two .n (.join [0, 5, 6, 7, 29] .n (.two (.two .n .n) .n)))) .n)))))) (.two .n .n)))
noncomputable def slot_votes_env (m : Nat) : Env := [(45, .tell (slot_vote_t m))]
noncomputable abbrev slot_votes_fin : KO (AV × List AObj) := tellFK Tryd.prog [.tmp 2]
noncomputable def slot_votes_r3 (m : Nat) (n0 : Nat) (kc : ASt → RO) (kx : KO (AV × List AObj)) (s : ASt) : RO := joinW Tryd.prog GG (slot_votes_env m) m ⟨31, []⟩ (cdR (cdR (cdR (cdL (cdL (cdR (cdL (cdR slot_votes_c)))))))) slot_votes_h.r.l.r.c.c.r.r.r s (backW n0 [0, 5, 6, 7] [2] kc kx)
noncomputable def slot_votes_r2 (m : Nat) (n0 : Nat) (kc : ASt → RO) (kx : KO (AV × List AObj)) (s : ASt) : RO := joinW Tryd.prog GG (slot_votes_env m) m ⟨31, []⟩ (cdR (cdR (cdL (cdL (cdR (cdR (cdL (cdL (cdR (cdL (cdR slot_votes_c))))))))))) slot_votes_h.r.l.r.c.c.r.r.l.c.r.r s (blockX 1 (seqX (fun s => slot_votes_r3 m n0 kc kx ⟨s.H, [(0, gt s.T 0), (5, gt s.T 5), (6, gt s.T 6), (7, gt s.T 7)]⟩) (backW n0 [0, 5, 6, 7] [2] kc kx)))
noncomputable def slot_votes_r1 (m : Nat) (s : ASt) : RO := joinW Tryd.prog GG (slot_votes_env m) m ⟨31, []⟩ (cdR (cdR slot_votes_c)) slot_votes_h.r.r s (slot_votes_fin)
noncomputable def slot_votes_b1 (m : Nat) (s : ASt) (kc : ASt → RO) (kx : KO (AV × List AObj)) : RO := bodyW Tryd.prog GG (slot_votes_env m) m ⟨31, []⟩ (cdL (cdL (cdR (cdL (cdR slot_votes_c))))) slot_votes_h.r.l.r.c.c [0, 5, 6, 7] [2] s kc kx
noncomputable def slot_votes (m : Nat) (t0 : AV) : RO := exec Tryd.prog GG (slot_votes_env m) m ⟨31, []⟩ slot_votes_c slot_votes_h ⟨[], argsT 0 [t0]⟩ (slot_votes_fin)
theorem slot_votes_r3_eq (m : Nat) (n0 : Nat) (kc : ASt → RO) (kx : KO (AV × List AObj)) (H : List AObj) (t0 t5 t6 t7 : AV) : slot_votes_r3 m n0 kc kx ⟨H, [(0, t0), (5, t5), (6, t6), (7, t7)]⟩ =
  binE none false false .add t7 (V (.int .i64 1)) fun t30 =>
  backE n0 H [(0, t0), (5, t5), (6, t6), (7, t30)] kc := by
  refine (joinW_eq Tryd.prog GG (slot_votes_env m) m ⟨31, []⟩ (cdR (cdR (cdR (cdL (cdL (cdR (cdL (cdR slot_votes_c)))))))) slot_votes_h.r.l.r.c.c.r.r.r ⟨H, [(0, t0), (5, t5), (6, t6), (7, t7)]⟩ (backW n0 [0, 5, 6, 7] [2] kc kx)).trans ?_
  kernel_rfl
theorem slot_votes_r2_eq (m : Nat) (n0 : Nat) (kc : ASt → RO) (kx : KO (AV × List AObj)) (H : List AObj) (t0 t5 t6 t7 t29 : AV) : slot_votes_r2 m n0 kc kx ⟨H, [(0, t0), (5, t5), (6, t6), (7, t7), (29, t29)]⟩ =
  condE t29 (
   kx .ret ⟨H, [(2, (V (.bool false)))]⟩) (
   slot_votes_r3 m n0 kc kx ⟨H, [(0, t0), (5, t5), (6, t6), (7, t7)]⟩) := by
  refine (joinW_eq Tryd.prog GG (slot_votes_env m) m ⟨31, []⟩ (cdR (cdR (cdL (cdL (cdR (cdR (cdL (cdL (cdR (cdL (cdR slot_votes_c))))))))))) slot_votes_h.r.l.r.c.c.r.r.l.c.r.r ⟨H, [(0, t0), (5, t5), (6, t6), (7, t7), (29, t29)]⟩ (blockX 1 (seqX (fun s => slot_votes_r3 m n0 kc kx ⟨s.H, [(0, gt s.T 0), (5, gt s.T 5), (6, gt s.T 6), (7, gt s.T 7)]⟩) (backW n0 [0, 5, 6, 7] [2] kc kx)))).trans ?_
  kernel_rfl
theorem slot_votes_r1_eq (m : Nat) (H : List AObj) : slot_votes_r1 m ⟨H, []⟩ =
  tellK H (ro H (V (.bool true))) := by
  refine (joinW_eq Tryd.prog GG (slot_votes_env m) m ⟨31, []⟩ (cdR (cdR slot_votes_c)) slot_votes_h.r.r ⟨H, []⟩ (slot_votes_fin)).trans ?_
  kernel_rfl
theorem slot_votes_b1_eq (m : Nat) (H : List AObj) (t0 t5 t6 t7 : AV) (kc : ASt → RO) (kx : KO (AV × List AObj)) : slot_votes_b1 m ⟨H, [(0, t0), (5, t5), (6, t6), (7, t7)]⟩ kc kx =
  binE none false false .lss t7 t6 fun t8 =>
  condE t8 (
   idxSE 5 H t5 t7 fun t10 =>
   loadE 5 H t10 fun t11 =>
   allocE (some zc_api_Vote) ty_api_Vote H fun t4 H2 =>
   storeE 5 H2 t4 t11 fun H3 =>
   loadE 5 H3 t4 fun t12 =>
   tellE (slot_vote m (ro H3 t12)) [(ro H3 t12)] fun t13 =>
   unE .not t13 fun t14 =>
   condE t14 (
    slot_votes_r2 m H.length kc kx ⟨H3, [(0, t0), (5, t5), (6, t6), (7, t7), (29, (V (.bool true)))]⟩) (
    binE none false false .gtr t7 (V (.int .i64 0)) fun t17 =>
    condE t17 (
    fieldE (some (0, 1)) t4 fun t19 =>
    loadE 1 H3 t19 fun t20 =>
    binE none false false .sub t7 (V (.int .i64 1)) fun t23 =>
    idxSE 5 H3 t0 t23 fun t24 =>
    fieldE (some (0, 1)) t24 fun t25 =>
    loadE 1 H3 t25 fun t26 =>
    binE none false false .leq t20 t26 fun t27 =>
    slot_votes_r2 m H.length kc kx ⟨H3, [(0, t0), (5, t5), (6, t6), (7, t7), (29, t27)]⟩) (
    slot_votes_r2 m H.length kc kx ⟨H3, [(0, t0), (5, t5), (6, t6), (7, t7), (29, (V (.bool false)))]⟩))) (
   kx (.exit 0) ⟨H, [(2, .nil)]⟩) := by
  refine (bodyW_eq Tryd.prog GG (slot_votes_env m) m ⟨31, []⟩ (cdL (cdL (cdR (cdL (cdR slot_votes_c))))) slot_votes_h.r.l.r.c.c [0, 5, 6, 7] [2] ⟨H, [(0, t0), (5, t5), (6, t6), (7, t7)]⟩ kc kx).trans ?_
  kernel_rfl
theorem slot_votes_eq (m : Nat) (t0 : AV) : slot_votes m t0 =
  lenE false true [] t0 fun t6 =>
  iterC m (slot_votes_b1 m) ⟨[], [(0, t0), (5, t0), (6, t6), (7, (V (.int .i64 0)))]⟩ (blockX 0 (seqX (fun s => slot_votes_r1 m ⟨s.H, []⟩) (slot_votes_fin))) := by
  refine (tellX Tryd.prog GG (slot_votes_env m) m ⟨31, []⟩ slot_votes_c slot_votes_h ⟨[], argsT 0 [t0]⟩ [.tmp 2]).trans ?_
  kernel_rfl
noncomputable def slot_votes_t (m : Nat) : List AV → RO | [t0] => slot_votes m t0 | _ => none
theorem slot_votes_ok (m : Nat) : ∀ args X H', slot_votes_t m args = some (X, H') → ACp Tryd.prog GG 35 args X := by
  intro args X H' h
  unfold slot_votes_t at h
  split at h
  · exact tell_okK MIX (by
    intro f e h
    simp only [slot_votes_env, Prod.mk.injEq, List.mem_cons, List.not_mem_nil, or_false] at h
    obtain ⟨rfl, rfl⟩ := h
    · exact slot_vote_ok m) (f := 35) (c := slot_votes_c) Tryd.func35 rfl (by kernel_rfl) _ rfl Tryd.ntmps35 (Nat.le_of_ble_eq_true rfl) slot_votes_h h
  · cases h
noncomputable def slot_May_c : Code := (Tryd.f15.body).getD .skip
def slot_May_h : Hint := (.two .n (.join [1] (.join [1, 20] .n (.two (.two .n .n) .n)) (.two .n .n)))
noncomputable def slot_May_env (m : Nat) : Env := [(25, .tell (slot_number_t m)), (35, .tell (slot_votes_t m))]
noncomputable abbrev slot_May_fin : KO (AV × List AObj) := tellFK Tryd.prog [.tmp 2]
noncomputable def slot_May_r2 (m : Nat) (s : ASt) : RO := joinW Tryd.prog GG (slot_May_env m) m ⟨45, []⟩ (cdR (cdR slot_May_c)) slot_May_h.r.r s (slot_May_fin)
noncomputable def slot_May_r1 (m : Nat) (s : ASt) : RO := joinW Tryd.prog GG (slot_May_env m) m ⟨45, []⟩ (cdR (cdL (cdR slot_May_c))) slot_May_h.r.l.r s (seqX (fun s => slot_May_r2 m ⟨s.H, [(1, gt s.T 1)]⟩) (slot_May_fin))
noncomputable def slot_May (m : Nat) (t0 : AV) : RO := exec Tryd.prog GG (slot_May_env m) m ⟨45, []⟩ slot_May_c slot_May_h ⟨[], argsT 0 [t0]⟩ (slot_May_fin)
theorem slot_May_r2_eq (m : Nat) (H : List AObj) (t1 : AV) : slot_May_r2 m ⟨H, [(1, t1)]⟩ =
  fieldE (some (1, 1)) t1 fun t21 =>
  loadE 1 H t21 fun t22 =>
  tellE (slot_number m (ro H t22)) [(ro H t22)] fun t23 =>
  condE t23 (
   fieldE (some (2, 1)) t1 fun t25 =>
   loadE 1 H t25 fun t26 =>
   tellE (slot_number m (ro H t26)) [(ro H t26)] fun t27 =>
   condE t27 (
   fieldE (some (3, 1)) t1 fun t30 =>
   loadE 1 H t30 fun t31 =>
   lenE true false H t31 fun t32 =>
   binE none false false .leq t32 (V (.int .i64 65536)) fun t33 =>
   condE t33 (
   fieldE (some (4, 1)) t1 fun t36 =>
   loadE 1 H t36 fun t37 =>
   tellE (slot_votes m (ro H t37)) [(ro H t37)] fun t38 =>
   condE t38 (
   fieldE (some (5, 1)) t1 fun t41 =>
   loadE 1 H t41 fun t42 =>
   tellE (slot_votes m (ro H t42)) [(ro H t42)] fun t43 =>
   tellK H (ro H t43)) (
   tellK H (ro H (V (.bool false))))) (
   tellK H (ro H (V (.bool false))))) (
   tellK H (ro H (V (.bool false))))) (
   tellK H (ro H (V (.bool false)))) := by
  refine (joinW_eq Tryd.prog GG (slot_May_env m) m ⟨45, []⟩ (cdR (cdR slot_May_c)) slot_May_h.r.r ⟨H, [(1, t1)]⟩ (slot_May_fin)).trans ?_
  kernel_rfl
theorem slot_May_r1_eq (m : Nat) (H : List AObj) (t1 t20 : AV) : slot_May_r1 m ⟨H, [(1, t1), (20, t20)]⟩ =
  condE t20 (
   tellK H (ro H (V (.bool false)))) (
   slot_May_r2 m ⟨H, [(1, t1)]⟩) := by
  refine (joinW_eq Tryd.prog GG (slot_May_env m) m ⟨45, []⟩ (cdR (cdL (cdR slot_May_c))) slot_May_h.r.l.r ⟨H, [(1, t1), (20, t20)]⟩ (seqX (fun s => slot_May_r2 m ⟨s.H, [(1, gt s.T 1)]⟩) (slot_May_fin))).trans ?_
  kernel_rfl
theorem slot_May_eq (m : Nat) (t0 : AV) : slot_May m t0 =
  boxE ty_api_Slot [] t0 fun t1 H1 =>
  fieldE (some (0, 1)) t1 fun t3 =>
  loadE 1 H1 t3 fun t4 =>
  unE .not t4 fun t5 =>
  condE t5 (
   fieldE (some (1, 1)) t1 fun t7 =>
   loadE 1 H1 t7 fun t8 =>
   binE none false false .neq t8 (V (.int .i64 0)) fun t9 =>
   condE t9 (
   slot_May_r1 m ⟨H1, [(1, t1), (20, (V (.bool true)))]⟩) (
   fieldE (some (2, 1)) t1 fun t11 =>
   loadE 1 H1 t11 fun t12 =>
   binE none false false .neq t12 (V (.int .i64 0)) fun t13 =>
   condE t13 (
   slot_May_r1 m ⟨H1, [(1, t1), (20, (V (.bool true)))]⟩) (
   fieldE (some (3, 1)) t1 fun t16 =>
   loadE 1 H1 t16 fun t17 =>
   binE none false false .neq t17 (V (.string ⟨#[]⟩)) fun t18 =>
   slot_May_r1 m ⟨H1, [(1, t1), (20, t18)]⟩))) (
   slot_May_r1 m ⟨H1, [(1, t1), (20, (V (.bool false)))]⟩) := by
  refine (tellX Tryd.prog GG (slot_May_env m) m ⟨45, []⟩ slot_May_c slot_May_h ⟨[], argsT 0 [t0]⟩ [.tmp 2]).trans ?_
  kernel_rfl
noncomputable def slot_May_t (m : Nat) : List AV → RO | [t0] => slot_May m t0 | _ => none
theorem slot_May_ok (m : Nat) : ∀ args X H', slot_May_t m args = some (X, H') → ACp Tryd.prog GG 15 args X := by
  intro args X H' h
  unfold slot_May_t at h
  split at h
  · exact tell_okK MIX (by
    intro f e h
    simp only [slot_May_env, Prod.mk.injEq, List.mem_cons, List.not_mem_nil, or_false] at h
    rcases h with ⟨rfl, rfl⟩ | ⟨rfl, rfl⟩
    · exact slot_number_ok m
    · exact slot_votes_ok m) (f := 15) (c := slot_May_c) Tryd.func15 rfl (by kernel_rfl) _ rfl Tryd.ntmps15 (Nat.le_of_ble_eq_true rfl) slot_May_h h
  · cases h
noncomputable def slot_again_c : Code := (Tryd.f26.body).getD .skip
def slot_again_h : Hint := (.two .n (.two (.one (.two .n (.two (.two .n .n) (.two .n (.two (.two .n .n) (.two .n (.two (.two .n .n) .n))))))) (.two .n .n)))
noncomputable def slot_again_env (m : Nat) : Env := []
noncomputable abbrev slot_again_fin : KO (AV × List AObj) := tellFK Tryd.prog [.tmp 6]
noncomputable def slot_again (m : Nat) (t0 t1 t2 : AV) : RO := exec Tryd.prog GG (slot_again_env m) m ⟨17, []⟩ slot_again_c slot_again_h ⟨[], argsT 0 [t0, t1, t2]⟩ (slot_again_fin)
theorem slot_again_eq (m : Nat) (t0 t1 t2 : AV) : slot_again m t0 t1 t2 =
  binE none false false .lss t0 t1 fun t10 =>
  condE t10 (
   tellK [] (ro [] (V (.int .i64 18)))) (
   binE none false false .gtr t0 t1 fun t14 =>
   condE t14 (
    tellK [] (ro [] (V (.int .i64 0)))) (
    condE t2 (
     tellK [] (ro [] (V (.int .i64 16)))) (
     tellK [] (ro [] (V (.int .i64 23)))))) := by
  refine (tellX Tryd.prog GG (slot_again_env m) m ⟨17, []⟩ slot_again_c slot_again_h ⟨[], argsT 0 [t0, t1, t2]⟩ [.tmp 6]).trans ?_
  kernel_rfl
noncomputable def slot_again_t (m : Nat) : List AV → RO | [t0, t1, t2] => slot_again m t0 t1 t2 | _ => none
theorem slot_again_ok (m : Nat) : ∀ args X H', slot_again_t m args = some (X, H') → ACp Tryd.prog GG 26 args X := by
  intro args X H' h
  unfold slot_again_t at h
  split at h
  · exact tell_okK MIX (by intro f e h; cases h) (f := 26) (c := slot_again_c) Tryd.func26 rfl (by kernel_rfl) _ rfl Tryd.ntmps26 (Nat.le_of_ble_eq_true rfl) slot_again_h h
  · cases h
noncomputable def slot_own_c : Code := (Tryd.f27.body).getD .skip
def slot_own_h : Hint := (.two .n (.two .n (.two .n .n)))
noncomputable def slot_own_env (m : Nat) : Env := [(44, .add (slices_Clone_Vote_t m))]
noncomputable abbrev slot_own_fin (n0 : Nat) : KO (AV × List AObj) := openFK Tryd.prog n0 [.cell 2 24]
noncomputable def slot_own (m : Nat) (t0 : AV) (H : List AObj) : RO := exec Tryd.prog GG (slot_own_env m) m ⟨12, []⟩ slot_own_c slot_own_h ⟨H, argsT 0 [t0]⟩ (slot_own_fin H.length)
theorem slot_own_eq (m : Nat) (t0 : AV) (H : List AObj) : slot_own m t0 H =
  boxE ty_api_Slot H t0 fun t1 H2 =>
  allocE (some zc_api_Slot) ty_api_Slot H2 fun t2 H3 =>
  fieldE (some (4, 1)) t1 fun t3 =>
  loadE 1 H3 t3 fun t4 =>
  addE (slices_Clone_Vote_t m [(ro H3 t4)] H3.length) H3 fun t5 H4 =>
  fieldE (some (5, 1)) t1 fun t6 =>
  loadE 1 H3 t6 fun t7 =>
  addE (slices_Clone_Vote_t m [(ro H4 t7)] H4.length) H4 fun t8 H5 =>
  fieldE (some (4, 1)) t1 fun t9 =>
  storeE 1 H5 t9 t5 fun H6 =>
  fieldE (some (5, 1)) t1 fun t10 =>
  storeE 1 H6 t10 t8 fun H7 =>
  loadE 8 H7 t1 fun t11 =>
  storeE 8 H7 t2 t11 fun H8 =>
  loadE 8 H8 t2 fun t9000 =>
  openK H8 (ro H8 t9000) := by
  refine (openX Tryd.prog GG (slot_own_env m) m ⟨12, []⟩ H.length slot_own_c slot_own_h ⟨H, argsT 0 [t0]⟩ [.cell 2 24]).trans ?_
  kernel_rfl
noncomputable def slot_own_t (m : Nat) : List AV → List AObj → RO | [t0], H => slot_own m t0 H | _, _ => none
theorem slot_own_ok (m : Nat) : ∀ args H X H', slot_own_t m args H = some (X, H') → AC Tryd.prog GG 27 args H (Is X H') := by
  intro args H X H' h
  unfold slot_own_t at h
  split at h
  · exact open_ok (n := H.length) MIX (by
    intro f e h
    simp only [slot_own_env, Prod.mk.injEq, List.mem_cons, List.not_mem_nil, or_false] at h
    obtain ⟨rfl, rfl⟩ := h
    · exact slices_Clone_Vote_ok m) (f := 27) (c := slot_own_c) Tryd.func27 rfl (by kernel_rfl) _ rfl Tryd.ntmps27 (Nat.le_of_ble_eq_true rfl) slot_own_h h
  · cases h
noncomputable def slot_Propose_c : Code := (Tryd.f8.body).getD .skip
def slot_Propose_h : Hint := (.two .n (.join [1, 2, 3, 4, 8] (.join [1, 2, 3, 4, 8, 28] .n (.two (.two .n .n) .n)) (.join [1, 2, 3, 4, 8] (.two .n (.two (.join [1, 2, 3, 4, 8, 10] .n (.two .n (.two (.two .n .n) .n))) .n)) (.two .n (.two .n (.two .n .n))))))
noncomputable def slot_Propose_env (m : Nat) : Env := [(15, .tell (slot_May_t m)), (25, .tell (slot_number_t m)), (26, .tell (slot_again_t m)), (27, .keep (slot_own_t m))]
noncomputable abbrev slot_Propose_fin : KO (AV × List AObj) := tellFK Tryd.prog [.cell 8 24, .tmp 9]
noncomputable def slot_Propose_r4 (m : Nat) (s : ASt) : RO := joinW Tryd.prog GG (slot_Propose_env m) m ⟨60, []⟩ (cdR (cdR (cdR slot_Propose_c))) slot_Propose_h.r.r.r s (slot_Propose_fin)
noncomputable def slot_Propose_r3 (m : Nat) (s : ASt) : RO := joinW Tryd.prog GG (slot_Propose_env m) m ⟨60, []⟩ (cdR (cdL (cdR (cdL (cdR (cdR slot_Propose_c)))))) slot_Propose_h.r.r.l.r.l.r s (seqX (fun s => slot_Propose_r4 m ⟨s.H, [(1, gt s.T 1), (2, gt s.T 2), (3, gt s.T 3), (4, gt s.T 4), (8, gt s.T 8)]⟩) (slot_Propose_fin))
noncomputable def slot_Propose_r2 (m : Nat) (s : ASt) : RO := joinW Tryd.prog GG (slot_Propose_env m) m ⟨60, []⟩ (cdR (cdR slot_Propose_c)) slot_Propose_h.r.r s (slot_Propose_fin)
noncomputable def slot_Propose_r1 (m : Nat) (s : ASt) : RO := joinW Tryd.prog GG (slot_Propose_env m) m ⟨60, []⟩ (cdR (cdL (cdR slot_Propose_c))) slot_Propose_h.r.l.r s (seqX (fun s => slot_Propose_r2 m ⟨s.H, [(1, gt s.T 1), (2, gt s.T 2), (3, gt s.T 3), (4, gt s.T 4), (8, gt s.T 8)]⟩) (slot_Propose_fin))
noncomputable def slot_Propose (m : Nat) (t0 t1 t2 t3 : AV) : RO := exec Tryd.prog GG (slot_Propose_env m) m ⟨60, []⟩ slot_Propose_c slot_Propose_h ⟨[], argsT 0 [t0, t1, t2, t3]⟩ (slot_Propose_fin)
theorem slot_Propose_r4_eq (m : Nat) (H : List AObj) (t1 t2 t3 t4 t8 : AV) : slot_Propose_r4 m ⟨H, [(1, t1), (2, t2), (3, t3), (4, t4), (8, t8)]⟩ =
  loadE 8 H t4 fun t50 =>
  keepE (slot_own m (ro H t50) H) fun t51 H2 =>
  storeE 8 H2 t4 t51 fun H3 =>
  fieldE (some (0, 1)) t4 fun t55 =>
  storeE 1 H3 t55 (V (.bool true)) fun H4 =>
  fieldE (some (1, 1)) t4 fun t56 =>
  storeE 1 H4 t56 t1 fun H5 =>
  fieldE (some (2, 1)) t4 fun t57 =>
  storeE 1 H5 t57 t2 fun H6 =>
  fieldE (some (3, 1)) t4 fun t58 =>
  storeE 1 H6 t58 t3 fun H7 =>
  loadE 8 H7 t4 fun t59 =>
  storeE 8 H7 t8 t59 fun H8 =>
  loadE 8 H8 t8 fun t9000 =>
  tellK H8 (ro H8 (TU [noT t9000, noT (V (.int .i64 0))])) := by
  refine (joinW_eq Tryd.prog GG (slot_Propose_env m) m ⟨60, []⟩ (cdR (cdR (cdR slot_Propose_c))) slot_Propose_h.r.r.r ⟨H, [(1, t1), (2, t2), (3, t3), (4, t4), (8, t8)]⟩ (slot_Propose_fin)).trans ?_
  kernel_rfl
theorem slot_Propose_r3_eq (m : Nat) (H : List AObj) (t1 t2 t3 t4 t8 t10 : AV) : slot_Propose_r3 m ⟨H, [(1, t1), (2, t2), (3, t3), (4, t4), (8, t8), (10, t10)]⟩ =
  binE none false false .neq t10 (V (.int .i64 0)) fun t47 =>
  condE t47 (
   buildE (some pl_api_Slot) (some zc_api_Slot) [] fun t48 =>
   storeE 8 H t8 t48 fun H2 =>
   loadE 8 H2 t8 fun t9000 =>
   tellK H2 (ro H2 (TU [noT t9000, noT t10]))) (
   slot_Propose_r4 m ⟨H, [(1, t1), (2, t2), (3, t3), (4, t4), (8, t8)]⟩) := by
  refine (joinW_eq Tryd.prog GG (slot_Propose_env m) m ⟨60, []⟩ (cdR (cdL (cdR (cdL (cdR (cdR slot_Propose_c)))))) slot_Propose_h.r.r.l.r.l.r ⟨H, [(1, t1), (2, t2), (3, t3), (4, t4), (8, t8), (10, t10)]⟩ (seqX (fun s => slot_Propose_r4 m ⟨s.H, [(1, gt s.T 1), (2, gt s.T 2), (3, gt s.T 3), (4, gt s.T 4), (8, gt s.T 8)]⟩) (slot_Propose_fin))).trans ?_
  kernel_rfl
theorem slot_Propose_r2_eq (m : Nat) (H : List AObj) (t1 t2 t3 t4 t8 : AV) : slot_Propose_r2 m ⟨H, [(1, t1), (2, t2), (3, t3), (4, t4), (8, t8)]⟩ =
  fieldE (some (0, 1)) t4 fun t30 =>
  loadE 1 H t30 fun t31 =>
  condE t31 (
   fieldE (some (1, 1)) t4 fun t33 =>
   loadE 1 H t33 fun t34 =>
   fieldE (some (2, 1)) t4 fun t36 =>
   loadE 1 H t36 fun t37 =>
   binE none false false .eql t2 t37 fun t38 =>
   condE t38 (
    fieldE (some (3, 1)) t4 fun t41 =>
    loadE 1 H t41 fun t42 =>
    binE none false false .eql t3 t42 fun t43 =>
    tellE (slot_again m (ro H t1) (ro H t34) (ro H t43)) [(ro H t1), (ro H t34), (ro H t43)] fun t45 =>
   slot_Propose_r3 m ⟨H, [(1, t1), (2, t2), (3, t3), (4, t4), (8, t8), (10, t45)]⟩) (
    tellE (slot_again m (ro H t1) (ro H t34) (V (.bool false))) [(ro H t1), (ro H t34), (V (.bool false))] fun t45 =>
   slot_Propose_r3 m ⟨H, [(1, t1), (2, t2), (3, t3), (4, t4), (8, t8), (10, t45)]⟩)) (
   slot_Propose_r4 m ⟨H, [(1, t1), (2, t2), (3, t3), (4, t4), (8, t8)]⟩) := by
  refine (joinW_eq Tryd.prog GG (slot_Propose_env m) m ⟨60, []⟩ (cdR (cdR slot_Propose_c)) slot_Propose_h.r.r ⟨H, [(1, t1), (2, t2), (3, t3), (4, t4), (8, t8)]⟩ (slot_Propose_fin)).trans ?_
  kernel_rfl
theorem slot_Propose_r1_eq (m : Nat) (H : List AObj) (t1 t2 t3 t4 t8 t28 : AV) : slot_Propose_r1 m ⟨H, [(1, t1), (2, t2), (3, t3), (4, t4), (8, t8), (28, t28)]⟩ =
  condE t28 (
   buildE (some pl_api_Slot) (some zc_api_Slot) [] fun t29 =>
   storeE 8 H t8 t29 fun H2 =>
   loadE 8 H2 t8 fun t9000 =>
   tellK H2 (ro H2 (TU [noT t9000, noT (V (.int .i64 1))]))) (
   slot_Propose_r2 m ⟨H, [(1, t1), (2, t2), (3, t3), (4, t4), (8, t8)]⟩) := by
  refine (joinW_eq Tryd.prog GG (slot_Propose_env m) m ⟨60, []⟩ (cdR (cdL (cdR slot_Propose_c))) slot_Propose_h.r.l.r ⟨H, [(1, t1), (2, t2), (3, t3), (4, t4), (8, t8), (28, t28)]⟩ (seqX (fun s => slot_Propose_r2 m ⟨s.H, [(1, gt s.T 1), (2, gt s.T 2), (3, gt s.T 3), (4, gt s.T 4), (8, gt s.T 8)]⟩) (slot_Propose_fin))).trans ?_
  kernel_rfl
theorem slot_Propose_eq (m : Nat) (t0 t1 t2 t3 : AV) : slot_Propose m t0 t1 t2 t3 =
  boxE ty_api_Slot [] t0 fun t4 H1 =>
  allocE (some zc_api_Slot) ty_api_Slot H1 fun t8 H2 =>
  loadE 8 H2 t4 fun t11 =>
  tellE (slot_May m (ro H2 t11)) [(ro H2 t11)] fun t12 =>
  unE .not t12 fun t13 =>
  condE t13 (
   slot_Propose_r1 m ⟨H2, [(1, t1), (2, t2), (3, t3), (4, t4), (8, t8), (28, (V (.bool true)))]⟩) (
   tellE (slot_number m (ro H2 t1)) [(ro H2 t1)] fun t16 =>
   unE .not t16 fun t17 =>
   condE t17 (
   slot_Propose_r1 m ⟨H2, [(1, t1), (2, t2), (3, t3), (4, t4), (8, t8), (28, (V (.bool true)))]⟩) (
   tellE (slot_number m (ro H2 t2)) [(ro H2 t2)] fun t21 =>
   unE .not t21 fun t22 =>
   condE t22 (
   slot_Propose_r1 m ⟨H2, [(1, t1), (2, t2), (3, t3), (4, t4), (8, t8), (28, (V (.bool true)))]⟩) (
   lenE true false H2 t3 fun t26 =>
   binE none false false .gtr t26 (V (.int .i64 65536)) fun t27 =>
   slot_Propose_r1 m ⟨H2, [(1, t1), (2, t2), (3, t3), (4, t4), (8, t8), (28, t27)]⟩))) := by
  refine (tellX Tryd.prog GG (slot_Propose_env m) m ⟨60, []⟩ slot_Propose_c slot_Propose_h ⟨[], argsT 0 [t0, t1, t2, t3]⟩ [.cell 8 24, .tmp 9]).trans ?_
  kernel_rfl
noncomputable def slot_Propose_t (m : Nat) : List AV → RO | [t0, t1, t2, t3] => slot_Propose m t0 t1 t2 t3 | _ => none
theorem slot_Propose_ok (m : Nat) : ∀ args X H', slot_Propose_t m args = some (X, H') → ACp Tryd.prog GG 8 args X := by
  intro args X H' h
  unfold slot_Propose_t at h
  split at h
  · exact tell_okK MIX (by
    intro f e h
    simp only [slot_Propose_env, Prod.mk.injEq, List.mem_cons, List.not_mem_nil, or_false] at h
    rcases h with ⟨rfl, rfl⟩ | ⟨rfl, rfl⟩ | ⟨rfl, rfl⟩ | ⟨rfl, rfl⟩
    · exact slot_May_ok m
    · exact slot_number_ok m
    · exact slot_again_ok m
    · exact slot_own_ok m) (f := 8) (c := slot_Propose_c) Tryd.func8 rfl (by kernel_rfl) _ rfl Tryd.ntmps8 (Nat.le_of_ble_eq_true rfl) slot_Propose_h h
  · cases h
noncomputable def slot_lay_1_c : Code := (Tryd.f55.body).getD .skip
def slot_lay_1_h : Hint := (.two .n (.two .n .n))
noncomputable def slot_lay_1_env (m : Nat) : Env := []
noncomputable abbrev slot_lay_1_fin (n0 : Nat) : KO (AV × List AObj) := keepFK Tryd.prog n0 [.tmp 4]
noncomputable def slot_lay_1 (m : Nat) (t0 t1 t2 : AV) (H : List AObj) : RO := exec Tryd.prog GG (slot_lay_1_env m) m ⟨15, []⟩ slot_lay_1_c slot_lay_1_h ⟨H, argsT 0 [t0, t1, t2]⟩ (slot_lay_1_fin H.length)
theorem slot_lay_1_eq (m : Nat) (t0 t1 t2 : AV) (H : List AObj) : slot_lay_1 m t0 t1 t2 H =
  loadE 1 H t1 fun t5 =>
  nilE t5 fun t6 =>
  loadE 1 H t6 fun t7 =>
  idxSE 5 H t7 t0 fun t9 =>
  fieldE (some (0, 1)) t9 fun t10 =>
  loadE 1 H t10 fun t11 =>
  fieldE (some (0, 1)) t2 fun t12 =>
  loadE 1 H t12 fun t13 =>
  binE none false false .geq t11 t13 fun t14 =>
  keepK H.length H (ro H t14) := by
  refine (keepX Tryd.prog GG (slot_lay_1_env m) m ⟨15, []⟩ H.length slot_lay_1_c slot_lay_1_h ⟨H, argsT 0 [t0, t1, t2]⟩ [.tmp 4]).trans ?_
  kernel_rfl
noncomputable def slot_lay_1_t (m : Nat) : List AV → List AObj → RO | [t0, t1, t2], H => slot_lay_1 m t0 t1 t2 H | _, _ => none
theorem slot_lay_1_ok (m : Nat) : ∀ args H X H', slot_lay_1_t m args H = some (X, H') → AC Tryd.prog GG 55 args H (Is X H') := by
  intro args H X H' h
  unfold slot_lay_1_t at h
  split at h
  · exact keep_okK MIX (by intro f e h; cases h) (f := 55) (c := slot_lay_1_c) Tryd.func55 rfl (by kernel_rfl) _ rfl Tryd.ntmps55 (Nat.le_of_ble_eq_true rfl) slot_lay_1_h h
  · cases h
noncomputable def sort_Search_c : Code := (Tryd.f54.body).getD .skip
def sort_Search_h : Hint := (.two .n (.two .n (.join [5] (.one (.lp [] [1, 5, 6] [5] (.two (.two .n (.two .n .n)) (.one (.two .n (.two .n (.two .n .n))))))) (.two .n .n))))
noncomputable def sort_Search_env (m : Nat) : Env := [(55, .keep (slot_lay_1_t m))]
noncomputable abbrev sort_Search_fin (n0 : Nat) : KO (AV × List AObj) := keepFK Tryd.prog n0 [.tmp 4]
noncomputable def sort_Search_r1 (m : Nat) (n0k : Nat) (s : ASt) : RO := joinW Tryd.prog GG (sort_Search_env m) m ⟨26, []⟩ (cdR (cdR (cdR sort_Search_c))) sort_Search_h.r.r.r s (sort_Search_fin n0k)
noncomputable def sort_Search_b1 (m : Nat) (s : ASt) (kc : ASt → RO) (kx : KO (AV × List AObj)) : RO := bodyW Tryd.prog GG (sort_Search_env m) m ⟨26, []⟩ (cdL (cdL (cdL (cdR (cdR sort_Search_c))))) sort_Search_h.r.r.l.c.c [1, 5, 6] [5] s kc kx
noncomputable def sort_Search (m : Nat) (t0 t1 : AV) (H : List AObj) : RO := exec Tryd.prog GG (sort_Search_env m) m ⟨26, []⟩ sort_Search_c sort_Search_h ⟨H, argsT 0 [t0, t1]⟩ (sort_Search_fin H.length)
theorem sort_Search_r1_eq (m : Nat) (n0k : Nat) (H : List AObj) (t5 : AV) : sort_Search_r1 m n0k ⟨H, [(5, t5)]⟩ =
  keepK n0k H (ro H t5) := by
  refine (joinW_eq Tryd.prog GG (sort_Search_env m) m ⟨26, []⟩ (cdR (cdR (cdR sort_Search_c))) sort_Search_h.r.r.r ⟨H, [(5, t5)]⟩ (sort_Search_fin n0k)).trans ?_
  kernel_rfl
theorem sort_Search_b1_eq (m : Nat) (H : List AObj) (t1 t5 t6 : AV) (kc : ASt → RO) (kx : KO (AV × List AObj)) : sort_Search_b1 m ⟨H, [(1, t1), (5, t5), (6, t6)]⟩ kc kx =
  binE none false false .lss t5 t6 fun t11 =>
  condE t11 (
   binE none false false .add t5 t6 fun t14 =>
   convE false (some .u64) true false t14 fun t15 =>
   binE none false false .shr t15 (V (.int .u64 1)) fun t16 =>
   convE false (some .i64) true false t16 fun t17 =>
   callVE (sort_Search_env m) t1 [t17] H fun t20 H2 =>
   unE .not t20 fun t21 =>
   condE t21 (
    binE none false false .add t17 (V (.int .i64 1)) fun t23 =>
    backE H.length H2 [(1, t1), (5, t23), (6, t6)] kc) (
    backE H.length H2 [(1, t1), (5, t5), (6, t17)] kc)) (
   kx (.exit 0) ⟨H, [(5, t5)]⟩) := by
  refine (bodyW_eq Tryd.prog GG (sort_Search_env m) m ⟨26, []⟩ (cdL (cdL (cdL (cdR (cdR sort_Search_c))))) sort_Search_h.r.r.l.c.c [1, 5, 6] [5] ⟨H, [(1, t1), (5, t5), (6, t6)]⟩ kc kx).trans ?_
  kernel_rfl
theorem sort_Search_eq (m : Nat) (t0 t1 : AV) (H : List AObj) : sort_Search m t0 t1 H =
  iterC m (sort_Search_b1 m) ⟨H, [(1, t1), (5, (V (.int .i64 0))), (6, t0)]⟩ (blockX 0 (seqX (fun s => sort_Search_r1 m H.length ⟨s.H, [(5, gt s.T 5)]⟩) (sort_Search_fin H.length))) := by
  refine (keepX Tryd.prog GG (sort_Search_env m) m ⟨26, []⟩ H.length sort_Search_c sort_Search_h ⟨H, argsT 0 [t0, t1]⟩ [.tmp 4]).trans ?_
  kernel_rfl
noncomputable def sort_Search_t (m : Nat) : List AV → List AObj → RO | [t0, t1], H => sort_Search m t0 t1 H | _, _ => none
theorem sort_Search_ok (m : Nat) : ∀ args H X H', sort_Search_t m args H = some (X, H') → AC Tryd.prog GG 54 args H (Is X H') := by
  intro args H X H' h
  unfold sort_Search_t at h
  split at h
  · exact keep_okK MIX (by
    intro f e h
    simp only [sort_Search_env, Prod.mk.injEq, List.mem_cons, List.not_mem_nil, or_false] at h
    obtain ⟨rfl, rfl⟩ := h
    · exact slot_lay_1_ok m) (f := 54) (c := sort_Search_c) Tryd.func54 rfl (by kernel_rfl) _ rfl Tryd.ntmps54 (Nat.le_of_ble_eq_true rfl) sort_Search_h h
  · cases h
noncomputable def slot_lay_c : Code := (Tryd.f46.body).getD .skip
def slot_lay_h : Hint := (.two .n (.two .n (.join [2, 3, 5] (.join [2, 3, 5, 31] .n (.two (.two .n (.two .n .n)) .n)) (.two .n (.two (.two .n (.two .n (.two (.two .n .n) .n))) (.two .n (.two .n .n)))))))
noncomputable def slot_lay_env (m : Nat) : Env := [(54, .keep (sort_Search_t m)), (56, .keep (slices_Insert_Vote_t m)), (26, .tell (slot_again_t m))]
noncomputable abbrev slot_lay_fin (n0 : Nat) : KO (AV × List AObj) := keepFK Tryd.prog n0 [.tmp 4]
noncomputable def slot_lay_r2 (m : Nat) (n0k : Nat) (s : ASt) : RO := joinW Tryd.prog GG (slot_lay_env m) m ⟨66, []⟩ (cdR (cdR (cdR slot_lay_c))) slot_lay_h.r.r.r s (slot_lay_fin n0k)
noncomputable def slot_lay_r1 (m : Nat) (n0k : Nat) (s : ASt) : RO := joinW Tryd.prog GG (slot_lay_env m) m ⟨66, []⟩ (cdR (cdL (cdR (cdR slot_lay_c)))) slot_lay_h.r.r.l.r s (seqX (fun s => slot_lay_r2 m n0k ⟨s.H, [(2, gt s.T 2), (3, gt s.T 3), (5, gt s.T 5)]⟩) (slot_lay_fin n0k))
noncomputable def slot_lay (m : Nat) (t0 t1 : AV) (H : List AObj) : RO := exec Tryd.prog GG (slot_lay_env m) m ⟨66, []⟩ slot_lay_c slot_lay_h ⟨H, argsT 0 [t0, t1]⟩ (slot_lay_fin H.length)
theorem slot_lay_r2_eq (m : Nat) (n0k : Nat) (H : List AObj) (t2 t3 t5 : AV) : slot_lay_r2 m n0k ⟨H, [(2, t2), (3, t3), (5, t5)]⟩ =
  loadE 1 H t2 fun t41 =>
  nilE t41 fun t42 =>
  loadE 1 H t42 fun t43 =>
  idxSE 5 H t43 t5 fun t45 =>
  fieldE (some (1, 1)) t3 fun t46 =>
  loadE 1 H t46 fun t47 =>
  nilE t45 fun t49 =>
  fieldE (some (1, 1)) t49 fun t50 =>
  loadE 1 H t50 fun t51 =>
  fieldE (some (2, 1)) t3 fun t52 =>
  loadE 1 H t52 fun t53 =>
  nilE t45 fun t55 =>
  fieldE (some (2, 1)) t55 fun t56 =>
  loadE 1 H t56 fun t57 =>
  binE none false false .eql t53 t57 fun t58 =>
  tellE (slot_again m (ro H t47) (ro H t51) (ro H t58)) [(ro H t47), (ro H t51), (ro H t58)] fun t59 =>
  binE none false false .neq t59 (V (.int .i64 0)) fun t61 =>
  condE t61 (
   keepK n0k H (ro H t59)) (
   loadE 5 H t3 fun t64 =>
   nilE t45 fun t65 =>
   storeE 5 H t65 t64 fun H2 =>
   keepK n0k H2 (ro H2 (V (.int .i64 0)))) := by
  refine (joinW_eq Tryd.prog GG (slot_lay_env m) m ⟨66, []⟩ (cdR (cdR (cdR slot_lay_c))) slot_lay_h.r.r.r ⟨H, [(2, t2), (3, t3), (5, t5)]⟩ (slot_lay_fin n0k)).trans ?_
  kernel_rfl
theorem slot_lay_r1_eq (m : Nat) (n0k : Nat) (H : List AObj) (t2 t3 t5 t31 : AV) : slot_lay_r1 m n0k ⟨H, [(2, t2), (3, t3), (5, t5), (31, t31)]⟩ =
  condE t31 (
   loadE 1 H t2 fun t32 =>
   loadE 1 H t2 fun t33 =>
   nilE t33 fun t34 =>
   loadE 1 H t34 fun t35 =>
   loadE 5 H t3 fun t37 =>
   buildSE (some (ty_api_Vote, 3)) 1 [(0, t37)] fun t38 =>
   keepE (slices_Insert_Vote_t m [(ro H t35), (ro H t5), (ro H t38)] H) fun t39 H2 =>
   loadE 1 H2 t2 fun t8018 =>
   eqE t32 t8018 (
   nilE t32 fun t40 =>
   storeE 1 H2 t40 t39 fun H3 =>
   loadE 1 H3 t2 fun t8021 =>
   eqE t32 t8021 (
   keepK n0k H3 (ro H3 (V (.int .i64 0)))))) (
   slot_lay_r2 m n0k ⟨H, [(2, t2), (3, t3), (5, t5)]⟩) := by
  refine (joinW_eq Tryd.prog GG (slot_lay_env m) m ⟨66, []⟩ (cdR (cdL (cdR (cdR slot_lay_c)))) slot_lay_h.r.r.l.r ⟨H, [(2, t2), (3, t3), (5, t5), (31, t31)]⟩ (seqX (fun s => slot_lay_r2 m n0k ⟨s.H, [(2, gt s.T 2), (3, gt s.T 3), (5, gt s.T 5)]⟩) (slot_lay_fin n0k))).trans ?_
  kernel_rfl
theorem slot_lay_eq (m : Nat) (t0 t1 : AV) (H : List AObj) : slot_lay m t0 t1 H =
  boxE ty_p_sl_api_Vote H t0 fun t2 H2 =>
  boxE ty_api_Vote H2 t1 fun t3 H3 =>
  loadE 1 H3 t2 fun t8 =>
  nilE t8 fun t9 =>
  loadE 1 H3 t9 fun t10 =>
  lenE false true H3 t10 fun t11 =>
  whenE (([t2, t3] : List AV).all cap0) (
  keepE (sort_Search m (ro H3 t11) (ro H3 (CL (.func 55) 0 [t2, t3])) H3) fun t13 H4 =>
  loadE 1 H4 t2 fun t15 =>
  nilE t15 fun t16 =>
  loadE 1 H4 t16 fun t17 =>
  lenE false true H4 t17 fun t18 =>
  binE none false false .eql t13 t18 fun t19 =>
  condE t19 (
   slot_lay_r1 m H.length ⟨H4, [(2, t2), (3, t3), (5, t13), (31, (V (.bool true)))]⟩) (
   loadE 1 H4 t2 fun t21 =>
   nilE t21 fun t22 =>
   loadE 1 H4 t22 fun t23 =>
   idxSE 5 H4 t23 t13 fun t25 =>
   fieldE (some (0, 1)) t25 fun t26 =>
   loadE 1 H4 t26 fun t27 =>
   fieldE (some (0, 1)) t3 fun t28 =>
   loadE 1 H4 t28 fun t29 =>
   binE none false false .neq t27 t29 fun t30 =>
   slot_lay_r1 m H.length ⟨H4, [(2, t2), (3, t3), (5, t13), (31, t30)]⟩)) := by
  refine (keepX Tryd.prog GG (slot_lay_env m) m ⟨66, []⟩ H.length slot_lay_c slot_lay_h ⟨H, argsT 0 [t0, t1]⟩ [.tmp 4]).trans ?_
  kernel_rfl
noncomputable def slot_lay_t (m : Nat) : List AV → List AObj → RO | [t0, t1], H => slot_lay m t0 t1 H | _, _ => none
theorem slot_lay_ok (m : Nat) : ∀ args H X H', slot_lay_t m args H = some (X, H') → AC Tryd.prog GG 46 args H (Is X H') := by
  intro args H X H' h
  unfold slot_lay_t at h
  split at h
  · exact keep_okK MIX (by
    intro f e h
    simp only [slot_lay_env, Prod.mk.injEq, List.mem_cons, List.not_mem_nil, or_false] at h
    rcases h with ⟨rfl, rfl⟩ | ⟨rfl, rfl⟩ | ⟨rfl, rfl⟩
    · exact sort_Search_ok m
    · exact slices_Insert_Vote_ok m
    · exact slot_again_ok m) (f := 46) (c := slot_lay_c) Tryd.func46 rfl (by kernel_rfl) _ rfl Tryd.ntmps46 (Nat.le_of_ble_eq_true rfl) slot_lay_h h
  · cases h
noncomputable def slot_Prepare_1_c : Code := (Tryd.f29.body).getD .skip
def slot_Prepare_1_h : Hint := (.two .n (.two .n .n))
noncomputable def slot_Prepare_1_env (m : Nat) : Env := []
noncomputable abbrev slot_Prepare_1_fin (n0 : Nat) : KO (AV × List AObj) := keepFK Tryd.prog n0 [.tmp 2]
noncomputable def slot_Prepare_1 (m : Nat) (t0 : AV) (H : List AObj) : RO := exec Tryd.prog GG (slot_Prepare_1_env m) m ⟨6, []⟩ slot_Prepare_1_c slot_Prepare_1_h ⟨H, argsT 0 [t0]⟩ (slot_Prepare_1_fin H.length)
theorem slot_Prepare_1_eq (m : Nat) (t0 : AV) (H : List AObj) : slot_Prepare_1 m t0 H =
  nilE t0 fun t4 =>
  fieldE (some (4, 1)) t4 fun t5 =>
  keepK H.length H (ro H t5) := by
  refine (keepX Tryd.prog GG (slot_Prepare_1_env m) m ⟨6, []⟩ H.length slot_Prepare_1_c slot_Prepare_1_h ⟨H, argsT 0 [t0]⟩ [.tmp 2]).trans ?_
  kernel_rfl
noncomputable def slot_Prepare_1_t (m : Nat) : List AV → List AObj → RO | [t0], H => slot_Prepare_1 m t0 H | _, _ => none
theorem slot_Prepare_1_ok (m : Nat) : ∀ args H X H', slot_Prepare_1_t m args H = some (X, H') → AC Tryd.prog GG 29 args H (Is X H') := by
  intro args H X H' h
  unfold slot_Prepare_1_t at h
  split at h
  · exact keep_okK MIX (by intro f e h; cases h) (f := 29) (c := slot_Prepare_1_c) Tryd.func29 rfl (by kernel_rfl) _ rfl Tryd.ntmps29 (Nat.le_of_ble_eq_true rfl) slot_Prepare_1_h h
  · cases h
noncomputable def slot_Commit_1_c : Code := (Tryd.f30.body).getD .skip
def slot_Commit_1_h : Hint := (.two .n (.two .n .n))
noncomputable def slot_Commit_1_env (m : Nat) : Env := []
noncomputable abbrev slot_Commit_1_fin (n0 : Nat) : KO (AV × List AObj) := keepFK Tryd.prog n0 [.tmp 2]
noncomputable def slot_Commit_1 (m : Nat) (t0 : AV) (H : List AObj) : RO := exec Tryd.prog GG (slot_Commit_1_env m) m ⟨6, []⟩ slot_Commit_1_c slot_Commit_1_h ⟨H, argsT 0 [t0]⟩ (slot_Commit_1_fin H.length)
theorem slot_Commit_1_eq (m : Nat) (t0 : AV) (H : List AObj) : slot_Commit_1 m t0 H =
  nilE t0 fun t4 =>
  fieldE (some (5, 1)) t4 fun t5 =>
  keepK H.length H (ro H t5) := by
  refine (keepX Tryd.prog GG (slot_Commit_1_env m) m ⟨6, []⟩ H.length slot_Commit_1_c slot_Commit_1_h ⟨H, argsT 0 [t0]⟩ [.tmp 2]).trans ?_
  kernel_rfl
noncomputable def slot_Commit_1_t (m : Nat) : List AV → List AObj → RO | [t0], H => slot_Commit_1 m t0 H | _, _ => none
theorem slot_Commit_1_ok (m : Nat) : ∀ args H X H', slot_Commit_1_t m args H = some (X, H') → AC Tryd.prog GG 30 args H (Is X H') := by
  intro args H X H' h
  unfold slot_Commit_1_t at h
  split at h
  · exact keep_okK MIX (by intro f e h; cases h) (f := 30) (c := slot_Commit_1_c) Tryd.func30 rfl (by kernel_rfl) _ rfl Tryd.ntmps30 (Nat.le_of_ble_eq_true rfl) slot_Commit_1_h h
  · cases h
noncomputable def slot_with_c : Code := (Tryd.f28.body).getD .skip
def slot_with_h : Hint := (.two .n (.join [2, 3, 4, 6] (.join [2, 3, 4, 6, 16] .n (.two (.two .n .n) .n)) (.two .n (.two (.two .n (.two .n (.two (.two .n .n) .n))) (.two .n .n)))))
noncomputable def slot_with_env (m : Nat) : Env := [(15, .tell (slot_May_t m)), (45, .tell (slot_vote_t m)), (27, .keep (slot_own_t m)), (46, .keep (slot_lay_t m)), (29, .keep (slot_Prepare_1_t m)), (30, .keep (slot_Commit_1_t m))]
noncomputable abbrev slot_with_fin : KO (AV × List AObj) := tellFK Tryd.prog [.cell 6 24, .tmp 7]
noncomputable def slot_with_r2 (m : Nat) (s : ASt) : RO := joinW Tryd.prog GG (slot_with_env m) m ⟨29, []⟩ (cdR (cdR slot_with_c)) slot_with_h.r.r s (slot_with_fin)
noncomputable def slot_with_r1 (m : Nat) (s : ASt) : RO := joinW Tryd.prog GG (slot_with_env m) m ⟨29, []⟩ (cdR (cdL (cdR slot_with_c))) slot_with_h.r.l.r s (seqX (fun s => slot_with_r2 m ⟨s.H, [(2, gt s.T 2), (3, gt s.T 3), (4, gt s.T 4), (6, gt s.T 6)]⟩) (slot_with_fin))
noncomputable def slot_with (m : Nat) (t0 t1 t2 : AV) : RO := exec Tryd.prog GG (slot_with_env m) m ⟨29, []⟩ slot_with_c slot_with_h ⟨[], argsT 0 [t0, t1, t2]⟩ (slot_with_fin)
theorem slot_with_r2_eq (m : Nat) (H : List AObj) (t2 t3 t4 t6 : AV) : slot_with_r2 m ⟨H, [(2, t2), (3, t3), (4, t4), (6, t6)]⟩ =
  loadE 8 H t3 fun t18 =>
  keepE (slot_own m (ro H t18) H) fun t19 H2 =>
  storeE 8 H2 t3 t19 fun H3 =>
  callVE (slot_with_env m) t2 [t3] H3 fun t21 H4 =>
  loadE 5 H4 t4 fun t22 =>
  loadE 5 H3 t4 fun t8017 =>
  eqE t22 t8017 (
  keepE (slot_lay m (ro H4 t21) (ro H4 t22) H4) fun t23 H5 =>
  loadE 5 H5 t4 fun t8020 =>
  eqE t22 t8020 (
  binE none false false .neq t23 (V (.int .i64 0)) fun t25 =>
  condE t25 (
   buildE (some pl_api_Slot) (some zc_api_Slot) [] fun t26 =>
   storeE 8 H5 t6 t26 fun H6 =>
   loadE 8 H6 t6 fun t9000 =>
   tellK H6 (ro H6 (TU [noT t9000, noT t23]))) (
   loadE 8 H5 t3 fun t28 =>
   storeE 8 H5 t6 t28 fun H6 =>
   loadE 8 H6 t6 fun t9000 =>
   tellK H6 (ro H6 (TU [noT t9000, noT (V (.int .i64 0))]))))) := by
  refine (joinW_eq Tryd.prog GG (slot_with_env m) m ⟨29, []⟩ (cdR (cdR slot_with_c)) slot_with_h.r.r ⟨H, [(2, t2), (3, t3), (4, t4), (6, t6)]⟩ (slot_with_fin)).trans ?_
  kernel_rfl
theorem slot_with_r1_eq (m : Nat) (H : List AObj) (t2 t3 t4 t6 t16 : AV) : slot_with_r1 m ⟨H, [(2, t2), (3, t3), (4, t4), (6, t6), (16, t16)]⟩ =
  condE t16 (
   buildE (some pl_api_Slot) (some zc_api_Slot) [] fun t17 =>
   storeE 8 H t6 t17 fun H2 =>
   loadE 8 H2 t6 fun t9000 =>
   tellK H2 (ro H2 (TU [noT t9000, noT (V (.int .i64 1))]))) (
   slot_with_r2 m ⟨H, [(2, t2), (3, t3), (4, t4), (6, t6)]⟩) := by
  refine (joinW_eq Tryd.prog GG (slot_with_env m) m ⟨29, []⟩ (cdR (cdL (cdR slot_with_c))) slot_with_h.r.l.r ⟨H, [(2, t2), (3, t3), (4, t4), (6, t6), (16, t16)]⟩ (seqX (fun s => slot_with_r2 m ⟨s.H, [(2, gt s.T 2), (3, gt s.T 3), (4, gt s.T 4), (6, gt s.T 6)]⟩) (slot_with_fin))).trans ?_
  kernel_rfl
theorem slot_with_eq (m : Nat) (t0 t1 t2 : AV) : slot_with m t0 t1 t2 =
  boxE ty_api_Slot [] t0 fun t3 H1 =>
  boxE ty_api_Vote H1 t1 fun t4 H2 =>
  allocE (some zc_api_Slot) ty_api_Slot H2 fun t6 H3 =>
  loadE 8 H3 t3 fun t9 =>
  tellE (slot_May m (ro H3 t9)) [(ro H3 t9)] fun t10 =>
  unE .not t10 fun t11 =>
  condE t11 (
   slot_with_r1 m ⟨H3, [(2, t2), (3, t3), (4, t4), (6, t6), (16, (V (.bool true)))]⟩) (
   loadE 5 H3 t4 fun t13 =>
   tellE (slot_vote m (ro H3 t13)) [(ro H3 t13)] fun t14 =>
   unE .not t14 fun t15 =>
   slot_with_r1 m ⟨H3, [(2, t2), (3, t3), (4, t4), (6, t6), (16, t15)]⟩) := by
  refine (tellX Tryd.prog GG (slot_with_env m) m ⟨29, []⟩ slot_with_c slot_with_h ⟨[], argsT 0 [t0, t1, t2]⟩ [.cell 6 24, .tmp 7]).trans ?_
  kernel_rfl
noncomputable def slot_with_t (m : Nat) : List AV → RO | [t0, t1, t2] => slot_with m t0 t1 t2 | _ => none
theorem slot_with_ok (m : Nat) : ∀ args X H', slot_with_t m args = some (X, H') → ACp Tryd.prog GG 28 args X := by
  intro args X H' h
  unfold slot_with_t at h
  split at h
  · exact tell_okK MIX (by
    intro f e h
    simp only [slot_with_env, Prod.mk.injEq, List.mem_cons, List.not_mem_nil, or_false] at h
    rcases h with ⟨rfl, rfl⟩ | ⟨rfl, rfl⟩ | ⟨rfl, rfl⟩ | ⟨rfl, rfl⟩ | ⟨rfl, rfl⟩ | ⟨rfl, rfl⟩
    · exact slot_May_ok m
    · exact slot_vote_ok m
    · exact slot_own_ok m
    · exact slot_lay_ok m
    · exact slot_Prepare_1_ok m
    · exact slot_Commit_1_ok m) (f := 28) (c := slot_with_c) Tryd.func28 rfl (by kernel_rfl) _ rfl Tryd.ntmps28 (Nat.le_of_ble_eq_true rfl) slot_with_h h
  · cases h
noncomputable def slot_Prepare_c : Code := (Tryd.f9.body).getD .skip
def slot_Prepare_h : Hint := (.two .n (.two .n .n))
noncomputable def slot_Prepare_env (m : Nat) : Env := [(28, .tell (slot_with_t m))]
noncomputable abbrev slot_Prepare_fin : KO (AV × List AObj) := tellFK Tryd.prog [.cell 4 24, .tmp 5]
noncomputable def slot_Prepare (m : Nat) (t0 t1 : AV) : RO := exec Tryd.prog GG (slot_Prepare_env m) m ⟨11, []⟩ slot_Prepare_c slot_Prepare_h ⟨[], argsT 0 [t0, t1]⟩ (slot_Prepare_fin)
theorem slot_Prepare_eq (m : Nat) (t0 t1 : AV) : slot_Prepare m t0 t1 =
  boxE ty_api_Slot [] t0 fun t2 H1 =>
  boxE ty_api_Vote H1 t1 fun t3 H2 =>
  allocE (some zc_api_Slot) ty_api_Slot H2 fun t4 H3 =>
  loadE 8 H3 t2 fun t6 =>
  loadE 5 H3 t3 fun t7 =>
  tellE (slot_with m (ro H3 t6) (ro H3 t7) (ro H3 (V (.func (.func 29) #[] #[])))) [(ro H3 t6), (ro H3 t7), (ro H3 (V (.func (.func 29) #[] #[])))] fun t8 =>
  extE t8 0 fun t9 =>
  extE t8 1 fun t10 =>
  storeE 8 H3 t4 t9 fun H4 =>
  loadE 8 H4 t4 fun t9000 =>
  tellK H4 (ro H4 (TU [noT t9000, noT t10])) := by
  refine (tellX Tryd.prog GG (slot_Prepare_env m) m ⟨11, []⟩ slot_Prepare_c slot_Prepare_h ⟨[], argsT 0 [t0, t1]⟩ [.cell 4 24, .tmp 5]).trans ?_
  kernel_rfl
noncomputable def slot_Prepare_t (m : Nat) : List AV → RO | [t0, t1] => slot_Prepare m t0 t1 | _ => none
theorem slot_Prepare_ok (m : Nat) : ∀ args X H', slot_Prepare_t m args = some (X, H') → ACp Tryd.prog GG 9 args X := by
  intro args X H' h
  unfold slot_Prepare_t at h
  split at h
  · exact tell_okK MIX (by
    intro f e h
    simp only [slot_Prepare_env, Prod.mk.injEq, List.mem_cons, List.not_mem_nil, or_false] at h
    obtain ⟨rfl, rfl⟩ := h
    · exact slot_with_ok m) (f := 9) (c := slot_Prepare_c) Tryd.func9 rfl (by kernel_rfl) _ rfl Tryd.ntmps9 (Nat.le_of_ble_eq_true rfl) slot_Prepare_h h
  · cases h
noncomputable def slot_Commit_c : Code := (Tryd.f10.body).getD .skip
def slot_Commit_h : Hint := (.two .n (.two .n .n))
noncomputable def slot_Commit_env (m : Nat) : Env := [(28, .tell (slot_with_t m))]
noncomputable abbrev slot_Commit_fin : KO (AV × List AObj) := tellFK Tryd.prog [.cell 4 24, .tmp 5]
noncomputable def slot_Commit (m : Nat) (t0 t1 : AV) : RO := exec Tryd.prog GG (slot_Commit_env m) m ⟨11, []⟩ slot_Commit_c slot_Commit_h ⟨[], argsT 0 [t0, t1]⟩ (slot_Commit_fin)
theorem slot_Commit_eq (m : Nat) (t0 t1 : AV) : slot_Commit m t0 t1 =
  boxE ty_api_Slot [] t0 fun t2 H1 =>
  boxE ty_api_Vote H1 t1 fun t3 H2 =>
  allocE (some zc_api_Slot) ty_api_Slot H2 fun t4 H3 =>
  loadE 8 H3 t2 fun t6 =>
  loadE 5 H3 t3 fun t7 =>
  tellE (slot_with m (ro H3 t6) (ro H3 t7) (ro H3 (V (.func (.func 30) #[] #[])))) [(ro H3 t6), (ro H3 t7), (ro H3 (V (.func (.func 30) #[] #[])))] fun t8 =>
  extE t8 0 fun t9 =>
  extE t8 1 fun t10 =>
  storeE 8 H3 t4 t9 fun H4 =>
  loadE 8 H4 t4 fun t9000 =>
  tellK H4 (ro H4 (TU [noT t9000, noT t10])) := by
  refine (tellX Tryd.prog GG (slot_Commit_env m) m ⟨11, []⟩ slot_Commit_c slot_Commit_h ⟨[], argsT 0 [t0, t1]⟩ [.cell 4 24, .tmp 5]).trans ?_
  kernel_rfl
noncomputable def slot_Commit_t (m : Nat) : List AV → RO | [t0, t1] => slot_Commit m t0 t1 | _ => none
theorem slot_Commit_ok (m : Nat) : ∀ args X H', slot_Commit_t m args = some (X, H') → ACp Tryd.prog GG 10 args X := by
  intro args X H' h
  unfold slot_Commit_t at h
  split at h
  · exact tell_okK MIX (by
    intro f e h
    simp only [slot_Commit_env, Prod.mk.injEq, List.mem_cons, List.not_mem_nil, or_false] at h
    obtain ⟨rfl, rfl⟩ := h
    · exact slot_with_ok m) (f := 10) (c := slot_Commit_c) Tryd.func10 rfl (by kernel_rfl) _ rfl Tryd.ntmps10 (Nat.le_of_ble_eq_true rfl) slot_Commit_h h
  · cases h
noncomputable def slot_count_c : Code := (Tryd.f43.body).getD .skip
def slot_count_h : Hint := (.two .n (.two .n (.join [7] (.two .n (.one (.lp [] [2, 3, 7, 10, 11, 12] [7] (.two .n (.two (.two .n .n) (.join [2, 3, 7, 10, 11, 12] (.one (.two .n (.join [2, 3, 7, 9, 10, 11, 12, 33] .n (.two .n .n)))) .n)))))) (.two .n .n))))
noncomputable def slot_count_env (m : Nat) : Env := [(53, .tell (quorum_With_t m))]
noncomputable abbrev slot_count_fin : KO (AV × List AObj) := tellFK Tryd.prog [.tmp 6]
noncomputable def slot_count_r3 (m : Nat) (n0 : Nat) (kc : ASt → RO) (kx : KO (AV × List AObj)) (s : ASt) : RO := joinW Tryd.prog GG (slot_count_env m) m ⟨40, []⟩ (cdR (cdR (cdR (cdL (cdL (cdR (cdL (cdR (cdR slot_count_c))))))))) slot_count_h.r.r.l.r.c.c.r.r.r s (backW n0 [2, 3, 7, 10, 11, 12] [7] kc kx)
noncomputable def slot_count_r2 (m : Nat) (n0 : Nat) (kc : ASt → RO) (kx : KO (AV × List AObj)) (s : ASt) : RO := joinW Tryd.prog GG (slot_count_env m) m ⟨40, []⟩ (cdR (cdR (cdL (cdL (cdR (cdR (cdL (cdL (cdR (cdL (cdR (cdR slot_count_c)))))))))))) slot_count_h.r.r.l.r.c.c.r.r.l.c.r.r s (blockX 1 (seqX (fun s => slot_count_r3 m n0 kc kx ⟨s.H, [(2, gt s.T 2), (3, gt s.T 3), (7, gt s.T 7), (10, gt s.T 10), (11, gt s.T 11), (12, gt s.T 12)]⟩) (backW n0 [2, 3, 7, 10, 11, 12] [7] kc kx)))
noncomputable def slot_count_r1 (m : Nat) (s : ASt) : RO := joinW Tryd.prog GG (slot_count_env m) m ⟨40, []⟩ (cdR (cdR (cdR slot_count_c))) slot_count_h.r.r.r s (slot_count_fin)
noncomputable def slot_count_b1 (m : Nat) (s : ASt) (kc : ASt → RO) (kx : KO (AV × List AObj)) : RO := bodyW Tryd.prog GG (slot_count_env m) m ⟨40, []⟩ (cdL (cdL (cdR (cdL (cdR (cdR slot_count_c)))))) slot_count_h.r.r.l.r.c.c [2, 3, 7, 10, 11, 12] [7] s kc kx
noncomputable def slot_count (m : Nat) (t0 t1 t2 : AV) : RO := exec Tryd.prog GG (slot_count_env m) m ⟨40, []⟩ slot_count_c slot_count_h ⟨[], argsT 0 [t0, t1, t2]⟩ (slot_count_fin)
theorem slot_count_r3_eq (m : Nat) (n0 : Nat) (kc : ASt → RO) (kx : KO (AV × List AObj)) (H : List AObj) (t2 t3 t7 t10 t11 t12 : AV) : slot_count_r3 m n0 kc kx ⟨H, [(2, t2), (3, t3), (7, t7), (10, t10), (11, t11), (12, t12)]⟩ =
  binE none false false .add t12 (V (.int .i64 1)) fun t38 =>
  backE n0 H [(2, t2), (3, t3), (7, t7), (10, t10), (11, t11), (12, t38)] kc := by
  refine (joinW_eq Tryd.prog GG (slot_count_env m) m ⟨40, []⟩ (cdR (cdR (cdR (cdL (cdL (cdR (cdL (cdR (cdR slot_count_c))))))))) slot_count_h.r.r.l.r.c.c.r.r.r ⟨H, [(2, t2), (3, t3), (7, t7), (10, t10), (11, t11), (12, t12)]⟩ (backW n0 [2, 3, 7, 10, 11, 12] [7] kc kx)).trans ?_
  kernel_rfl
theorem slot_count_r2_eq (m : Nat) (n0 : Nat) (kc : ASt → RO) (kx : KO (AV × List AObj)) (H : List AObj) (t2 t3 t7 t9 t10 t11 t12 t33 : AV) : slot_count_r2 m n0 kc kx ⟨H, [(2, t2), (3, t3), (7, t7), (9, t9), (10, t10), (11, t11), (12, t12), (33, t33)]⟩ =
  condE t33 (
   fieldE (some (0, 1)) t9 fun t35 =>
   loadE 1 H t35 fun t36 =>
   tellE (quorum_With m (ro H t7) (ro H t36)) [(ro H t7), (ro H t36)] fun t37 =>
   slot_count_r3 m n0 kc kx ⟨H, [(2, t2), (3, t3), (7, t37), (10, t10), (11, t11), (12, t12)]⟩) (
   slot_count_r3 m n0 kc kx ⟨H, [(2, t2), (3, t3), (7, t7), (10, t10), (11, t11), (12, t12)]⟩) := by
  refine (joinW_eq Tryd.prog GG (slot_count_env m) m ⟨40, []⟩ (cdR (cdR (cdL (cdL (cdR (cdR (cdL (cdL (cdR (cdL (cdR (cdR slot_count_c)))))))))))) slot_count_h.r.r.l.r.c.c.r.r.l.c.r.r ⟨H, [(2, t2), (3, t3), (7, t7), (9, t9), (10, t10), (11, t11), (12, t12), (33, t33)]⟩ (blockX 1 (seqX (fun s => slot_count_r3 m n0 kc kx ⟨s.H, [(2, gt s.T 2), (3, gt s.T 3), (7, gt s.T 7), (10, gt s.T 10), (11, gt s.T 11), (12, gt s.T 12)]⟩) (backW n0 [2, 3, 7, 10, 11, 12] [7] kc kx)))).trans ?_
  kernel_rfl
theorem slot_count_r1_eq (m : Nat) (H : List AObj) (t7 : AV) : slot_count_r1 m ⟨H, [(7, t7)]⟩ =
  tellK H (ro H t7) := by
  refine (joinW_eq Tryd.prog GG (slot_count_env m) m ⟨40, []⟩ (cdR (cdR (cdR slot_count_c))) slot_count_h.r.r.r ⟨H, [(7, t7)]⟩ (slot_count_fin)).trans ?_
  kernel_rfl
theorem slot_count_b1_eq (m : Nat) (H : List AObj) (t2 t3 t7 t10 t11 t12 : AV) (kc : ASt → RO) (kx : KO (AV × List AObj)) : slot_count_b1 m ⟨H, [(2, t2), (3, t3), (7, t7), (10, t10), (11, t11), (12, t12)]⟩ kc kx =
  binE none false false .lss t12 t11 fun t13 =>
  condE t13 (
   idxSE 5 H t10 t12 fun t14 =>
   loadE 5 H t14 fun t15 =>
   allocE (some zc_api_Vote) ty_api_Vote H fun t9 H2 =>
   storeE 5 H2 t9 t15 fun H3 =>
   fieldE (some (0, 1)) t9 fun t16 =>
   loadE 1 H3 t16 fun t17 =>
   binE none false false .lss t17 t2 fun t19 =>
   condE t19 (
    fieldE (some (1, 1)) t9 fun t21 =>
    loadE 1 H3 t21 fun t22 =>
    fieldE (some (1, 1)) t3 fun t23 =>
    loadE 1 H3 t23 fun t24 =>
    binE none false false .eql t22 t24 fun t25 =>
    condE t25 (
    fieldE (some (2, 1)) t9 fun t28 =>
    loadE 1 H3 t28 fun t29 =>
    fieldE (some (2, 1)) t3 fun t30 =>
    loadE 1 H3 t30 fun t31 =>
    binE none false false .eql t29 t31 fun t32 =>
    slot_count_r2 m H.length kc kx ⟨H3, [(2, t2), (3, t3), (7, t7), (9, t9), (10, t10), (11, t11), (12, t12), (33, t32)]⟩) (
    slot_count_r2 m H.length kc kx ⟨H3, [(2, t2), (3, t3), (7, t7), (9, t9), (10, t10), (11, t11), (12, t12), (33, (V (.bool false)))]⟩)) (
    slot_count_r2 m H.length kc kx ⟨H3, [(2, t2), (3, t3), (7, t7), (9, t9), (10, t10), (11, t11), (12, t12), (33, (V (.bool false)))]⟩)) (
   kx (.exit 0) ⟨H, [(7, t7)]⟩) := by
  refine (bodyW_eq Tryd.prog GG (slot_count_env m) m ⟨40, []⟩ (cdL (cdL (cdR (cdL (cdR (cdR slot_count_c)))))) slot_count_h.r.r.l.r.c.c [2, 3, 7, 10, 11, 12] [7] ⟨H, [(2, t2), (3, t3), (7, t7), (10, t10), (11, t11), (12, t12)]⟩ kc kx).trans ?_
  kernel_rfl
theorem slot_count_eq (m : Nat) (t0 t1 t2 : AV) : slot_count m t0 t1 t2 =
  boxE ty_api_Slot [] t0 fun t3 H1 =>
  lenE false true H1 t1 fun t11 =>
  iterC m (slot_count_b1 m) ⟨H1, [(2, t2), (3, t3), (7, (V (.int .u64 0))), (10, t1), (11, t11), (12, (V (.int .i64 0)))]⟩ (blockX 0 (seqX (fun s => slot_count_r1 m ⟨s.H, [(7, gt s.T 7)]⟩) (slot_count_fin))) := by
  refine (tellX Tryd.prog GG (slot_count_env m) m ⟨40, []⟩ slot_count_c slot_count_h ⟨[], argsT 0 [t0, t1, t2]⟩ [.tmp 6]).trans ?_
  kernel_rfl
noncomputable def slot_count_t (m : Nat) : List AV → RO | [t0, t1, t2] => slot_count m t0 t1 t2 | _ => none
theorem slot_count_ok (m : Nat) : ∀ args X H', slot_count_t m args = some (X, H') → ACp Tryd.prog GG 43 args X := by
  intro args X H' h
  unfold slot_count_t at h
  split at h
  · exact tell_okK MIX (by
    intro f e h
    simp only [slot_count_env, Prod.mk.injEq, List.mem_cons, List.not_mem_nil, or_false] at h
    obtain ⟨rfl, rfl⟩ := h
    · exact quorum_With_ok m) (f := 43) (c := slot_count_c) Tryd.func43 rfl (by kernel_rfl) _ rfl Tryd.ntmps43 (Nat.le_of_ble_eq_true rfl) slot_count_h h
  · cases h
noncomputable def slot_backups_c : Code := (Tryd.f40.body).getD .skip
def slot_backups_h : Hint := (.two .n (.two .n .n))
noncomputable def slot_backups_env (m : Nat) : Env := [(43, .tell (slot_count_t m)), (47, .tell (quorum_Primary_t m)), (50, .tell (quorum_Without_t m))]
noncomputable abbrev slot_backups_fin : KO (AV × List AObj) := tellFK Tryd.prog [.tmp 4]
noncomputable def slot_backups (m : Nat) (t0 t1 : AV) : RO := exec Tryd.prog GG (slot_backups_env m) m ⟨15, []⟩ slot_backups_c slot_backups_h ⟨[], argsT 0 [t0, t1]⟩ (slot_backups_fin)
theorem slot_backups_eq (m : Nat) (t0 t1 : AV) : slot_backups m t0 t1 =
  boxE ty_api_Slot [] t0 fun t2 H1 =>
  loadE 8 H1 t2 fun t5 =>
  fieldE (some (4, 1)) t2 fun t6 =>
  loadE 1 H1 t6 fun t7 =>
  tellE (slot_count m (ro H1 t5) (ro H1 t7) (ro H1 t1)) [(ro H1 t5), (ro H1 t7), (ro H1 t1)] fun t9 =>
  fieldE (some (1, 1)) t2 fun t10 =>
  loadE 1 H1 t10 fun t11 =>
  tellE (quorum_Primary m (ro H1 t11) (ro H1 t1)) [(ro H1 t11), (ro H1 t1)] fun t13 =>
  tellE (quorum_Without m (ro H1 t9) (ro H1 t13)) [(ro H1 t9), (ro H1 t13)] fun t14 =>
  tellK H1 (ro H1 t14) := by
  refine (tellX Tryd.prog GG (slot_backups_env m) m ⟨15, []⟩ slot_backups_c slot_backups_h ⟨[], argsT 0 [t0, t1]⟩ [.tmp 4]).trans ?_
  kernel_rfl
noncomputable def slot_backups_t (m : Nat) : List AV → RO | [t0, t1] => slot_backups m t0 t1 | _ => none
theorem slot_backups_ok (m : Nat) : ∀ args X H', slot_backups_t m args = some (X, H') → ACp Tryd.prog GG 40 args X := by
  intro args X H' h
  unfold slot_backups_t at h
  split at h
  · exact tell_okK MIX (by
    intro f e h
    simp only [slot_backups_env, Prod.mk.injEq, List.mem_cons, List.not_mem_nil, or_false] at h
    rcases h with ⟨rfl, rfl⟩ | ⟨rfl, rfl⟩ | ⟨rfl, rfl⟩
    · exact slot_count_ok m
    · exact quorum_Primary_ok m
    · exact quorum_Without_ok m) (f := 40) (c := slot_backups_c) Tryd.func40 rfl (by kernel_rfl) _ rfl Tryd.ntmps40 (Nat.le_of_ble_eq_true rfl) slot_backups_h h
  · cases h
noncomputable def slot_Prepared_c : Code := (Tryd.f19.body).getD .skip
def slot_Prepared_h : Hint := (.two .n (.two .n (.two .n .n)))
noncomputable def slot_Prepared_env (m : Nat) : Env := [(38, .tell (quorum_Faults_t m)), (15, .tell (slot_May_t m)), (40, .tell (slot_backups_t m)), (39, .tell (quorum_Count_t m))]
noncomputable abbrev slot_Prepared_fin : KO (AV × List AObj) := tellFK Tryd.prog [.tmp 4]
noncomputable def slot_Prepared (m : Nat) (t0 t1 : AV) : RO := exec Tryd.prog GG (slot_Prepared_env m) m ⟨31, []⟩ slot_Prepared_c slot_Prepared_h ⟨[], argsT 0 [t0, t1]⟩ (slot_Prepared_fin)
theorem slot_Prepared_eq (m : Nat) (t0 t1 : AV) : slot_Prepared m t0 t1 =
  boxE ty_api_Slot [] t0 fun t2 H1 =>
  tellE (quorum_Faults m (ro H1 t1)) [(ro H1 t1)] fun t9 =>
  extE t9 0 fun t10 =>
  extE t9 1 fun t11 =>
  binE none false false .eql t11 (V (.int .i64 0)) fun t13 =>
  condE t13 (
   loadE 8 H1 t2 fun t15 =>
   tellE (slot_May m (ro H1 t15)) [(ro H1 t15)] fun t16 =>
   condE t16 (
   fieldE (some (0, 1)) t2 fun t19 =>
   loadE 1 H1 t19 fun t20 =>
   condE t20 (
   loadE 8 H1 t2 fun t23 =>
   tellE (slot_backups m (ro H1 t23) (ro H1 t1)) [(ro H1 t23), (ro H1 t1)] fun t25 =>
   tellE (quorum_Count m (ro H1 t25)) [(ro H1 t25)] fun t26 =>
   binE none false false .mul (V (.int .i64 2)) t10 fun t28 =>
   binE none false false .geq t26 t28 fun t29 =>
   tellK H1 (ro H1 t29)) (
   tellK H1 (ro H1 (V (.bool false))))) (
   tellK H1 (ro H1 (V (.bool false))))) (
   tellK H1 (ro H1 (V (.bool false)))) := by
  refine (tellX Tryd.prog GG (slot_Prepared_env m) m ⟨31, []⟩ slot_Prepared_c slot_Prepared_h ⟨[], argsT 0 [t0, t1]⟩ [.tmp 4]).trans ?_
  kernel_rfl
noncomputable def slot_Prepared_t (m : Nat) : List AV → RO | [t0, t1] => slot_Prepared m t0 t1 | _ => none
theorem slot_Prepared_ok (m : Nat) : ∀ args X H', slot_Prepared_t m args = some (X, H') → ACp Tryd.prog GG 19 args X := by
  intro args X H' h
  unfold slot_Prepared_t at h
  split at h
  · exact tell_okK MIX (by
    intro f e h
    simp only [slot_Prepared_env, Prod.mk.injEq, List.mem_cons, List.not_mem_nil, or_false] at h
    rcases h with ⟨rfl, rfl⟩ | ⟨rfl, rfl⟩ | ⟨rfl, rfl⟩ | ⟨rfl, rfl⟩
    · exact quorum_Faults_ok m
    · exact slot_May_ok m
    · exact slot_backups_ok m
    · exact quorum_Count_ok m) (f := 19) (c := slot_Prepared_c) Tryd.func19 rfl (by kernel_rfl) _ rfl Tryd.ntmps19 (Nat.le_of_ble_eq_true rfl) slot_Prepared_h h
  · cases h
noncomputable def slot_Committed_c : Code := (Tryd.f21.body).getD .skip
def slot_Committed_h : Hint := (.two .n (.two .n .n))
noncomputable def slot_Committed_env (m : Nat) : Env := [(19, .tell (slot_Prepared_t m)), (43, .tell (slot_count_t m)), (42, .tell (quorum_IsStrong_t m))]
noncomputable abbrev slot_Committed_fin : KO (AV × List AObj) := tellFK Tryd.prog [.tmp 4]
noncomputable def slot_Committed (m : Nat) (t0 t1 : AV) : RO := exec Tryd.prog GG (slot_Committed_env m) m ⟨17, []⟩ slot_Committed_c slot_Committed_h ⟨[], argsT 0 [t0, t1]⟩ (slot_Committed_fin)
theorem slot_Committed_eq (m : Nat) (t0 t1 : AV) : slot_Committed m t0 t1 =
  boxE ty_api_Slot [] t0 fun t2 H1 =>
  loadE 8 H1 t2 fun t5 =>
  tellE (slot_Prepared m (ro H1 t5) (ro H1 t1)) [(ro H1 t5), (ro H1 t1)] fun t7 =>
  condE t7 (
   loadE 8 H1 t2 fun t9 =>
   fieldE (some (5, 1)) t2 fun t10 =>
   loadE 1 H1 t10 fun t11 =>
   tellE (slot_count m (ro H1 t9) (ro H1 t11) (ro H1 t1)) [(ro H1 t9), (ro H1 t11), (ro H1 t1)] fun t13 =>
   tellE (quorum_IsStrong m (ro H1 t13) (ro H1 t1)) [(ro H1 t13), (ro H1 t1)] fun t15 =>
   tellK H1 (ro H1 t15)) (
   tellK H1 (ro H1 (V (.bool false)))) := by
  refine (tellX Tryd.prog GG (slot_Committed_env m) m ⟨17, []⟩ slot_Committed_c slot_Committed_h ⟨[], argsT 0 [t0, t1]⟩ [.tmp 4]).trans ?_
  kernel_rfl
noncomputable def slot_Committed_t (m : Nat) : List AV → RO | [t0, t1] => slot_Committed m t0 t1 | _ => none
theorem slot_Committed_ok (m : Nat) : ∀ args X H', slot_Committed_t m args = some (X, H') → ACp Tryd.prog GG 21 args X := by
  intro args X H' h
  unfold slot_Committed_t at h
  split at h
  · exact tell_okK MIX (by
    intro f e h
    simp only [slot_Committed_env, Prod.mk.injEq, List.mem_cons, List.not_mem_nil, or_false] at h
    rcases h with ⟨rfl, rfl⟩ | ⟨rfl, rfl⟩ | ⟨rfl, rfl⟩
    · exact slot_Prepared_ok m
    · exact slot_count_ok m
    · exact quorum_IsStrong_ok m) (f := 21) (c := slot_Committed_c) Tryd.func21 rfl (by kernel_rfl) _ rfl Tryd.ntmps21 (Nat.le_of_ble_eq_true rfl) slot_Committed_h h
  · cases h
end Go.Proofs.YtaaafkoeddgaaaaDoor

namespace Go.Proofs.YtaaafkoeddgaaaaDoor
open Go.RowKit
set_option linter.unusedVariables false
set_option maxRecDepth 100000
def ty_int : TypeId := 3
def pl_api_Vote : List (Nat × Nat) := [(0, 1), (1, 1), (2, 1)]
noncomputable def plenumref29_num_c : Code := (Tryd.f31.body).getD .skip
def plenumref29_num_h : Hint := (.two .n (.two .n .n))
noncomputable def plenumref29_num_env (m : Nat) : Env := []
noncomputable abbrev plenumref29_num_fin : KO (AV × List AObj) := tellFK Tryd.prog [.tmp 2]
noncomputable def plenumref29_num (m : Nat) (t0 : AV) : RO := exec Tryd.prog GG (plenumref29_num_env m) m ⟨9, []⟩ plenumref29_num_c plenumref29_num_h ⟨[], argsT 0 [t0]⟩ (plenumref29_num_fin)
theorem plenumref29_num_eq (m : Nat) (t0 : AV) : plenumref29_num m t0 =
  binE none false false .leq (V (.int .i64 0)) t0 fun t4 =>
  condE t4 (
   binE none false false .leq t0 (V (.int .i64 2147483647)) fun t7 =>
   tellK [] (ro [] t7)) (
   tellK [] (ro [] (V (.bool false)))) := by
  refine (tellX Tryd.prog GG (plenumref29_num_env m) m ⟨9, []⟩ plenumref29_num_c plenumref29_num_h ⟨[], argsT 0 [t0]⟩ [.tmp 2]).trans ?_
  kernel_rfl
noncomputable def plenumref29_num_t (m : Nat) : List AV → RO | [t0] => plenumref29_num m t0 | _ => none
theorem plenumref29_num_ok (m : Nat) : ∀ args X H', plenumref29_num_t m args = some (X, H') → ACp Tryd.prog GG 31 args X := by
  intro args X H' h
  unfold plenumref29_num_t at h
  split at h
  · exact tell_okK MIX (by intro f e h; cases h) (f := 31) (c := plenumref29_num_c) Tryd.func31 rfl (by kernel_rfl) _ rfl Tryd.ntmps31 (Nat.le_of_ble_eq_true rfl) plenumref29_num_h h
  · cases h
noncomputable def plenumref29_Vote_c : Code := (Tryd.f32.body).getD .skip
def plenumref29_Vote_h : Hint := (.two .n (.two .n .n))
noncomputable def plenumref29_Vote_env (m : Nat) : Env := [(31, .tell (plenumref29_num_t m))]
noncomputable abbrev plenumref29_Vote_fin : KO (AV × List AObj) := tellFK Tryd.prog [.tmp 2]
noncomputable def plenumref29_Vote (m : Nat) (t0 : AV) : RO := exec Tryd.prog GG (plenumref29_Vote_env m) m ⟨21, []⟩ plenumref29_Vote_c plenumref29_Vote_h ⟨[], argsT 0 [t0]⟩ (plenumref29_Vote_fin)
theorem plenumref29_Vote_eq (m : Nat) (t0 : AV) : plenumref29_Vote m t0 =
  boxE ty_api_Vote [] t0 fun t1 H1 =>
  fieldE (some (0, 1)) t1 fun t3 =>
  loadE 1 H1 t3 fun t4 =>
  binE none false false .leq (V (.int .i64 0)) t4 fun t5 =>
  condE t5 (
   fieldE (some (0, 1)) t1 fun t7 =>
   loadE 1 H1 t7 fun t8 =>
   binE none false false .leq t8 (V (.int .i64 63)) fun t9 =>
   condE t9 (
   fieldE (some (1, 1)) t1 fun t12 =>
   loadE 1 H1 t12 fun t13 =>
   tellE (plenumref29_num m (ro H1 t13)) [(ro H1 t13)] fun t14 =>
   condE t14 (
   fieldE (some (2, 1)) t1 fun t17 =>
   loadE 1 H1 t17 fun t18 =>
   tellE (plenumref29_num m (ro H1 t18)) [(ro H1 t18)] fun t19 =>
   tellK H1 (ro H1 t19)) (
   tellK H1 (ro H1 (V (.bool false))))) (
   tellK H1 (ro H1 (V (.bool false))))) (
   tellK H1 (ro H1 (V (.bool false)))) := by
  refine (tellX Tryd.prog GG (plenumref29_Vote_env m) m ⟨21, []⟩ plenumref29_Vote_c plenumref29_Vote_h ⟨[], argsT 0 [t0]⟩ [.tmp 2]).trans ?_
  kernel_rfl
noncomputable def plenumref29_Vote_t (m : Nat) : List AV → RO | [t0] => plenumref29_Vote m t0 | _ => none
theorem plenumref29_Vote_ok (m : Nat) : ∀ args X H', plenumref29_Vote_t m args = some (X, H') → ACp Tryd.prog GG 32 args X := by
  intro args X H' h
  unfold plenumref29_Vote_t at h
  split at h
  · exact tell_okK MIX (by
    intro f e h
    simp only [plenumref29_Vote_env, Prod.mk.injEq, List.mem_cons, List.not_mem_nil, or_false] at h
    obtain ⟨rfl, rfl⟩ := h
    · exact plenumref29_num_ok m) (f := 32) (c := plenumref29_Vote_c) Tryd.func32 rfl (by kernel_rfl) _ rfl Tryd.ntmps32 (Nat.le_of_ble_eq_true rfl) plenumref29_Vote_h h
  · cases h
noncomputable def plenumref29_votes_c : Code := (Tryd.f36.body).getD .skip
def plenumref29_votes_h : Hint := (.two .n (.join [] (.two .n (.one (.lp [] [0, 3] [2] (.two (.two .n (.two .n .n)) (.join [0, 3] (.one (.join [0, 3, 33] .n (.two (.two .n .n) .n))) .n))))) (.two .n .n)))
noncomputable def plenumref29_votes_env (m : Nat) : Env := [(32, .tell (plenumref29_Vote_t m))]
noncomputable abbrev plenumref29_votes_fin : KO (AV × List AObj) := tellFK Tryd.prog [.tmp 2]
noncomputable def plenumref29_votes_r3 (m : Nat) (n0 : Nat) (kc : ASt → RO) (kx : KO (AV × List AObj)) (s : ASt) : RO := joinW Tryd.prog GG (plenumref29_votes_env m) m ⟨34, []⟩ (cdR (cdR (cdL (cdL (cdR (cdL (cdR plenumref29_votes_c))))))) plenumref29_votes_h.r.l.r.c.c.r.r s (backW n0 [0, 3] [2] kc kx)
noncomputable def plenumref29_votes_r2 (m : Nat) (n0 : Nat) (kc : ASt → RO) (kx : KO (AV × List AObj)) (s : ASt) : RO := joinW Tryd.prog GG (plenumref29_votes_env m) m ⟨34, []⟩ (cdR (cdL (cdL (cdR (cdL (cdL (cdR (cdL (cdR plenumref29_votes_c))))))))) plenumref29_votes_h.r.l.r.c.c.r.l.c.r s (blockX 1 (seqX (fun s => plenumref29_votes_r3 m n0 kc kx ⟨s.H, [(0, gt s.T 0), (3, gt s.T 3)]⟩) (backW n0 [0, 3] [2] kc kx)))
noncomputable def plenumref29_votes_r1 (m : Nat) (s : ASt) : RO := joinW Tryd.prog GG (plenumref29_votes_env m) m ⟨34, []⟩ (cdR (cdR plenumref29_votes_c)) plenumref29_votes_h.r.r s (plenumref29_votes_fin)
noncomputable def plenumref29_votes_b1 (m : Nat) (s : ASt) (kc : ASt → RO) (kx : KO (AV × List AObj)) : RO := bodyW Tryd.prog GG (plenumref29_votes_env m) m ⟨34, []⟩ (cdL (cdL (cdR (cdL (cdR plenumref29_votes_c))))) plenumref29_votes_h.r.l.r.c.c [0, 3] [2] s kc kx
noncomputable def plenumref29_votes (m : Nat) (t0 : AV) : RO := exec Tryd.prog GG (plenumref29_votes_env m) m ⟨34, []⟩ plenumref29_votes_c plenumref29_votes_h ⟨[], argsT 0 [t0]⟩ (plenumref29_votes_fin)
theorem plenumref29_votes_r3_eq (m : Nat) (n0 : Nat) (kc : ASt → RO) (kx : KO (AV × List AObj)) (H : List AObj) (t0 t3 : AV) : plenumref29_votes_r3 m n0 kc kx ⟨H, [(0, t0), (3, t3)]⟩ =
  binE none false false .add t3 (V (.int .i64 1)) fun t9 =>
  backE n0 H [(0, t0), (3, t9)] kc := by
  refine (joinW_eq Tryd.prog GG (plenumref29_votes_env m) m ⟨34, []⟩ (cdR (cdR (cdL (cdL (cdR (cdL (cdR plenumref29_votes_c))))))) plenumref29_votes_h.r.l.r.c.c.r.r ⟨H, [(0, t0), (3, t3)]⟩ (backW n0 [0, 3] [2] kc kx)).trans ?_
  kernel_rfl
theorem plenumref29_votes_r2_eq (m : Nat) (n0 : Nat) (kc : ASt → RO) (kx : KO (AV × List AObj)) (H : List AObj) (t0 t3 t33 : AV) : plenumref29_votes_r2 m n0 kc kx ⟨H, [(0, t0), (3, t3), (33, t33)]⟩ =
  condE t33 (
   kx .ret ⟨H, [(2, (V (.bool false)))]⟩) (
   plenumref29_votes_r3 m n0 kc kx ⟨H, [(0, t0), (3, t3)]⟩) := by
  refine (joinW_eq Tryd.prog GG (plenumref29_votes_env m) m ⟨34, []⟩ (cdR (cdL (cdL (cdR (cdL (cdL (cdR (cdL (cdR plenumref29_votes_c))))))))) plenumref29_votes_h.r.l.r.c.c.r.l.c.r ⟨H, [(0, t0), (3, t3), (33, t33)]⟩ (blockX 1 (seqX (fun s => plenumref29_votes_r3 m n0 kc kx ⟨s.H, [(0, gt s.T 0), (3, gt s.T 3)]⟩) (backW n0 [0, 3] [2] kc kx)))).trans ?_
  kernel_rfl
theorem plenumref29_votes_r1_eq (m : Nat) (H : List AObj) : plenumref29_votes_r1 m ⟨H, []⟩ =
  tellK H (ro H (V (.bool true))) := by
  refine (joinW_eq Tryd.prog GG (plenumref29_votes_env m) m ⟨34, []⟩ (cdR (cdR plenumref29_votes_c)) plenumref29_votes_h.r.r ⟨H, []⟩ (plenumref29_votes_fin)).trans ?_
  kernel_rfl
theorem plenumref29_votes_b1_eq (m : Nat) (H : List AObj) (t0 t3 : AV) (kc : ASt → RO) (kx : KO (AV × List AObj)) : plenumref29_votes_b1 m ⟨H, [(0, t0), (3, t3)]⟩ kc kx =
  lenE false true H t0 fun t6 =>
  binE none false false .lss t3 t6 fun t7 =>
  condE t7 (
   idxSE 5 H t0 t3 fun t12 =>
   loadE 5 H t12 fun t13 =>
   tellE (plenumref29_Vote m (ro H t13)) [(ro H t13)] fun t14 =>
   unE .not t14 fun t15 =>
   condE t15 (
    plenumref29_votes_r2 m H.length kc kx ⟨H, [(0, t0), (3, t3), (33, (V (.bool true)))]⟩) (
    binE none false false .gtr t3 (V (.int .i64 0)) fun t18 =>
    condE t18 (
    binE none false false .sub t3 (V (.int .i64 1)) fun t22 =>
    idxSE 5 H t0 t22 fun t23 =>
    fieldE (some (0, 1)) t23 fun t24 =>
    loadE 1 H t24 fun t25 =>
    idxSE 5 H t0 t3 fun t28 =>
    fieldE (some (0, 1)) t28 fun t29 =>
    loadE 1 H t29 fun t30 =>
    binE none false false .geq t25 t30 fun t31 =>
    plenumref29_votes_r2 m H.length kc kx ⟨H, [(0, t0), (3, t3), (33, t31)]⟩) (
    plenumref29_votes_r2 m H.length kc kx ⟨H, [(0, t0), (3, t3), (33, (V (.bool false)))]⟩))) (
   kx (.exit 0) ⟨H, [(2, .nil)]⟩) := by
  refine (bodyW_eq Tryd.prog GG (plenumref29_votes_env m) m ⟨34, []⟩ (cdL (cdL (cdR (cdL (cdR plenumref29_votes_c))))) plenumref29_votes_h.r.l.r.c.c [0, 3] [2] ⟨H, [(0, t0), (3, t3)]⟩ kc kx).trans ?_
  kernel_rfl
theorem plenumref29_votes_eq (m : Nat) (t0 : AV) : plenumref29_votes m t0 =
  iterC m (plenumref29_votes_b1 m) ⟨[], [(0, t0), (3, (V (.int .i64 0)))]⟩ (blockX 0 (seqX (fun s => plenumref29_votes_r1 m ⟨s.H, []⟩) (plenumref29_votes_fin))) := by
  refine (tellX Tryd.prog GG (plenumref29_votes_env m) m ⟨34, []⟩ plenumref29_votes_c plenumref29_votes_h ⟨[], argsT 0 [t0]⟩ [.tmp 2]).trans ?_
  kernel_rfl
noncomputable def plenumref29_votes_t (m : Nat) : List AV → RO | [t0] => plenumref29_votes m t0 | _ => none
theorem plenumref29_votes_ok (m : Nat) : ∀ args X H', plenumref29_votes_t m args = some (X, H') → ACp Tryd.prog GG 36 args X := by
  intro args X H' h
  unfold plenumref29_votes_t at h
  split at h
  · exact tell_okK MIX (by
    intro f e h
    simp only [plenumref29_votes_env, Prod.mk.injEq, List.mem_cons, List.not_mem_nil, or_false] at h
    obtain ⟨rfl, rfl⟩ := h
    · exact plenumref29_Vote_ok m) (f := 36) (c := plenumref29_votes_c) Tryd.func36 rfl (by kernel_rfl) _ rfl Tryd.ntmps36 (Nat.le_of_ble_eq_true rfl) plenumref29_votes_h h
  · cases h
noncomputable def plenumref29_May_c : Code := (Tryd.f16.body).getD .skip
def plenumref29_May_h : Hint := (.two .n (.join [1, 3] .n (.two .n .n)))
noncomputable def plenumref29_May_env (m : Nat) : Env := [(31, .tell (plenumref29_num_t m)), (36, .tell (plenumref29_votes_t m))]
noncomputable abbrev plenumref29_May_fin : KO (AV × List AObj) := tellFK Tryd.prog [.tmp 2]
noncomputable def plenumref29_May_r1 (m : Nat) (s : ASt) : RO := joinW Tryd.prog GG (plenumref29_May_env m) m ⟨48, []⟩ (cdR (cdR plenumref29_May_c)) plenumref29_May_h.r.r s (plenumref29_May_fin)
noncomputable def plenumref29_May (m : Nat) (t0 : AV) : RO := exec Tryd.prog GG (plenumref29_May_env m) m ⟨48, []⟩ plenumref29_May_c plenumref29_May_h ⟨[], argsT 0 [t0]⟩ (plenumref29_May_fin)
theorem plenumref29_May_r1_eq (m : Nat) (H : List AObj) (t1 t3 : AV) : plenumref29_May_r1 m ⟨H, [(1, t1), (3, t3)]⟩ =
  condE t3 (
   fieldE (some (1, 1)) t1 fun t23 =>
   loadE 1 H t23 fun t24 =>
   tellE (plenumref29_num m (ro H t24)) [(ro H t24)] fun t25 =>
   condE t25 (
   fieldE (some (2, 1)) t1 fun t28 =>
   loadE 1 H t28 fun t29 =>
   tellE (plenumref29_num m (ro H t29)) [(ro H t29)] fun t30 =>
   condE t30 (
   fieldE (some (3, 1)) t1 fun t33 =>
   loadE 1 H t33 fun t34 =>
   lenE true false H t34 fun t35 =>
   binE none false false .leq t35 (V (.int .i64 65536)) fun t36 =>
   condE t36 (
   fieldE (some (4, 1)) t1 fun t39 =>
   loadE 1 H t39 fun t40 =>
   tellE (plenumref29_votes m (ro H t40)) [(ro H t40)] fun t41 =>
   condE t41 (
   fieldE (some (5, 1)) t1 fun t44 =>
   loadE 1 H t44 fun t45 =>
   tellE (plenumref29_votes m (ro H t45)) [(ro H t45)] fun t46 =>
   tellK H (ro H t46)) (
   tellK H (ro H (V (.bool false))))) (
   tellK H (ro H (V (.bool false))))) (
   tellK H (ro H (V (.bool false))))) (
   tellK H (ro H (V (.bool false))))) (
   tellK H (ro H (V (.bool false)))) := by
  refine (joinW_eq Tryd.prog GG (plenumref29_May_env m) m ⟨48, []⟩ (cdR (cdR plenumref29_May_c)) plenumref29_May_h.r.r ⟨H, [(1, t1), (3, t3)]⟩ (plenumref29_May_fin)).trans ?_
  kernel_rfl
theorem plenumref29_May_eq (m : Nat) (t0 : AV) : plenumref29_May m t0 =
  boxE ty_api_Slot [] t0 fun t1 H1 =>
  fieldE (some (0, 1)) t1 fun t4 =>
  loadE 1 H1 t4 fun t5 =>
  condE t5 (
   plenumref29_May_r1 m ⟨H1, [(1, t1), (3, (V (.bool true)))]⟩) (
   fieldE (some (1, 1)) t1 fun t7 =>
   loadE 1 H1 t7 fun t8 =>
   binE none false false .eql t8 (V (.int .i64 0)) fun t9 =>
   condE t9 (
   fieldE (some (2, 1)) t1 fun t11 =>
   loadE 1 H1 t11 fun t12 =>
   binE none false false .eql t12 (V (.int .i64 0)) fun t13 =>
   condE t13 (
   fieldE (some (3, 1)) t1 fun t16 =>
   loadE 1 H1 t16 fun t17 =>
   binE none false false .eql t17 (V (.string ⟨#[]⟩)) fun t18 =>
   plenumref29_May_r1 m ⟨H1, [(1, t1), (3, t18)]⟩) (
   plenumref29_May_r1 m ⟨H1, [(1, t1), (3, (V (.bool false)))]⟩)) (
   plenumref29_May_r1 m ⟨H1, [(1, t1), (3, (V (.bool false)))]⟩)) := by
  refine (tellX Tryd.prog GG (plenumref29_May_env m) m ⟨48, []⟩ plenumref29_May_c plenumref29_May_h ⟨[], argsT 0 [t0]⟩ [.tmp 2]).trans ?_
  kernel_rfl
noncomputable def plenumref29_May_t (m : Nat) : List AV → RO | [t0] => plenumref29_May m t0 | _ => none
theorem plenumref29_May_ok (m : Nat) : ∀ args X H', plenumref29_May_t m args = some (X, H') → ACp Tryd.prog GG 16 args X := by
  intro args X H' h
  unfold plenumref29_May_t at h
  split at h
  · exact tell_okK MIX (by
    intro f e h
    simp only [plenumref29_May_env, Prod.mk.injEq, List.mem_cons, List.not_mem_nil, or_false] at h
    rcases h with ⟨rfl, rfl⟩ | ⟨rfl, rfl⟩
    · exact plenumref29_num_ok m
    · exact plenumref29_votes_ok m) (f := 16) (c := plenumref29_May_c) Tryd.func16 rfl (by kernel_rfl) _ rfl Tryd.ntmps16 (Nat.le_of_ble_eq_true rfl) plenumref29_May_h h
  · cases h
noncomputable def plenumref29_Propose_c : Code := (Tryd.f11.body).getD .skip
def plenumref29_Propose_h : Hint := (.two .n (.join [1, 2, 3, 4, 8] (.join [1, 2, 3, 4, 8, 27] .n (.two (.two .n .n) .n)) (.join [1, 2, 3, 4, 8] (.join [1, 2, 3, 4, 8, 36] .n (.two (.two .n .n) .n)) (.join [1, 2, 3, 4, 8] (.join [1, 2, 3, 4, 8, 57] .n (.two (.two .n .n) .n)) (.join [1, 2, 3, 4, 8] (.join [1, 2, 3, 4, 8, 66] .n (.two (.two .n .n) .n)) (.two .n .n))))))
noncomputable def plenumref29_Propose_env (m : Nat) : Env := [(16, .tell (plenumref29_May_t m)), (31, .tell (plenumref29_num_t m))]
noncomputable abbrev plenumref29_Propose_fin : KO (AV × List AObj) := tellFK Tryd.prog [.cell 8 24, .tmp 9]
noncomputable def plenumref29_Propose_r8 (m : Nat) (s : ASt) : RO := joinW Tryd.prog GG (plenumref29_Propose_env m) m ⟨76, []⟩ (cdR (cdR (cdR (cdR (cdR plenumref29_Propose_c))))) plenumref29_Propose_h.r.r.r.r.r s (plenumref29_Propose_fin)
noncomputable def plenumref29_Propose_r7 (m : Nat) (s : ASt) : RO := joinW Tryd.prog GG (plenumref29_Propose_env m) m ⟨76, []⟩ (cdR (cdL (cdR (cdR (cdR (cdR plenumref29_Propose_c)))))) plenumref29_Propose_h.r.r.r.r.l.r s (seqX (fun s => plenumref29_Propose_r8 m ⟨s.H, [(1, gt s.T 1), (2, gt s.T 2), (3, gt s.T 3), (4, gt s.T 4), (8, gt s.T 8)]⟩) (plenumref29_Propose_fin))
noncomputable def plenumref29_Propose_r6 (m : Nat) (s : ASt) : RO := joinW Tryd.prog GG (plenumref29_Propose_env m) m ⟨76, []⟩ (cdR (cdR (cdR (cdR plenumref29_Propose_c)))) plenumref29_Propose_h.r.r.r.r s (plenumref29_Propose_fin)
noncomputable def plenumref29_Propose_r5 (m : Nat) (s : ASt) : RO := joinW Tryd.prog GG (plenumref29_Propose_env m) m ⟨76, []⟩ (cdR (cdL (cdR (cdR (cdR plenumref29_Propose_c))))) plenumref29_Propose_h.r.r.r.l.r s (seqX (fun s => plenumref29_Propose_r6 m ⟨s.H, [(1, gt s.T 1), (2, gt s.T 2), (3, gt s.T 3), (4, gt s.T 4), (8, gt s.T 8)]⟩) (plenumref29_Propose_fin))
noncomputable def plenumref29_Propose_r4 (m : Nat) (s : ASt) : RO := joinW Tryd.prog GG (plenumref29_Propose_env m) m ⟨76, []⟩ (cdR (cdR (cdR plenumref29_Propose_c))) plenumref29_Propose_h.r.r.r s (plenumref29_Propose_fin)
noncomputable def plenumref29_Propose_r3 (m : Nat) (s : ASt) : RO := joinW Tryd.prog GG (plenumref29_Propose_env m) m ⟨76, []⟩ (cdR (cdL (cdR (cdR plenumref29_Propose_c)))) plenumref29_Propose_h.r.r.l.r s (seqX (fun s => plenumref29_Propose_r4 m ⟨s.H, [(1, gt s.T 1), (2, gt s.T 2), (3, gt s.T 3), (4, gt s.T 4), (8, gt s.T 8)]⟩) (plenumref29_Propose_fin))
noncomputable def plenumref29_Propose_r2 (m : Nat) (s : ASt) : RO := joinW Tryd.prog GG (plenumref29_Propose_env m) m ⟨76, []⟩ (cdR (cdR plenumref29_Propose_c)) plenumref29_Propose_h.r.r s (plenumref29_Propose_fin)
noncomputable def plenumref29_Propose_r1 (m : Nat) (s : ASt) : RO := joinW Tryd.prog GG (plenumref29_Propose_env m) m ⟨76, []⟩ (cdR (cdL (cdR plenumref29_Propose_c))) plenumref29_Propose_h.r.l.r s (seqX (fun s => plenumref29_Propose_r2 m ⟨s.H, [(1, gt s.T 1), (2, gt s.T 2), (3, gt s.T 3), (4, gt s.T 4), (8, gt s.T 8)]⟩) (plenumref29_Propose_fin))
noncomputable def plenumref29_Propose (m : Nat) (t0 t1 t2 t3 : AV) : RO := exec Tryd.prog GG (plenumref29_Propose_env m) m ⟨76, []⟩ plenumref29_Propose_c plenumref29_Propose_h ⟨[], argsT 0 [t0, t1, t2, t3]⟩ (plenumref29_Propose_fin)
theorem plenumref29_Propose_r8_eq (m : Nat) (H : List AObj) (t1 t2 t3 t4 t8 : AV) : plenumref29_Propose_r8 m ⟨H, [(1, t1), (2, t2), (3, t3), (4, t4), (8, t8)]⟩ =
  fieldE (some (4, 1)) t4 fun t71 =>
  loadE 1 H t71 fun t72 =>
  fieldE (some (5, 1)) t4 fun t73 =>
  loadE 1 H t73 fun t74 =>
  buildE (some pl_api_Slot) (some zc_api_Slot) [(0, (V (.bool true))), (1, t1), (2, t2), (3, t3), (4, t72), (5, t74)] fun t75 =>
  storeE 8 H t8 t75 fun H2 =>
  loadE 8 H2 t8 fun t9000 =>
  tellK H2 (ro H2 (TU [noT t9000, noT (V (.int .i64 0))])) := by
  refine (joinW_eq Tryd.prog GG (plenumref29_Propose_env m) m ⟨76, []⟩ (cdR (cdR (cdR (cdR (cdR plenumref29_Propose_c))))) plenumref29_Propose_h.r.r.r.r.r ⟨H, [(1, t1), (2, t2), (3, t3), (4, t4), (8, t8)]⟩ (plenumref29_Propose_fin)).trans ?_
  kernel_rfl
theorem plenumref29_Propose_r7_eq (m : Nat) (H : List AObj) (t1 t2 t3 t4 t8 t66 : AV) : plenumref29_Propose_r7 m ⟨H, [(1, t1), (2, t2), (3, t3), (4, t4), (8, t8), (66, t66)]⟩ =
  condE t66 (
   buildE (some pl_api_Slot) (some zc_api_Slot) [] fun t67 =>
   storeE 8 H t8 t67 fun H2 =>
   loadE 8 H2 t8 fun t9000 =>
   tellK H2 (ro H2 (TU [noT t9000, noT (V (.int .i64 23))]))) (
   plenumref29_Propose_r8 m ⟨H, [(1, t1), (2, t2), (3, t3), (4, t4), (8, t8)]⟩) := by
  refine (joinW_eq Tryd.prog GG (plenumref29_Propose_env m) m ⟨76, []⟩ (cdR (cdL (cdR (cdR (cdR (cdR plenumref29_Propose_c)))))) plenumref29_Propose_h.r.r.r.r.l.r ⟨H, [(1, t1), (2, t2), (3, t3), (4, t4), (8, t8), (66, t66)]⟩ (seqX (fun s => plenumref29_Propose_r8 m ⟨s.H, [(1, gt s.T 1), (2, gt s.T 2), (3, gt s.T 3), (4, gt s.T 4), (8, gt s.T 8)]⟩) (plenumref29_Propose_fin))).trans ?_
  kernel_rfl
theorem plenumref29_Propose_r6_eq (m : Nat) (H : List AObj) (t1 t2 t3 t4 t8 : AV) : plenumref29_Propose_r6 m ⟨H, [(1, t1), (2, t2), (3, t3), (4, t4), (8, t8)]⟩ =
  fieldE (some (0, 1)) t4 fun t59 =>
  loadE 1 H t59 fun t60 =>
  condE t60 (
   fieldE (some (1, 1)) t4 fun t62 =>
   loadE 1 H t62 fun t63 =>
   binE none false false .eql t63 t1 fun t65 =>
   plenumref29_Propose_r7 m ⟨H, [(1, t1), (2, t2), (3, t3), (4, t4), (8, t8), (66, t65)]⟩) (
   plenumref29_Propose_r7 m ⟨H, [(1, t1), (2, t2), (3, t3), (4, t4), (8, t8), (66, (V (.bool false)))]⟩) := by
  refine (joinW_eq Tryd.prog GG (plenumref29_Propose_env m) m ⟨76, []⟩ (cdR (cdR (cdR (cdR plenumref29_Propose_c)))) plenumref29_Propose_h.r.r.r.r ⟨H, [(1, t1), (2, t2), (3, t3), (4, t4), (8, t8)]⟩ (plenumref29_Propose_fin)).trans ?_
  kernel_rfl
theorem plenumref29_Propose_r5_eq (m : Nat) (H : List AObj) (t1 t2 t3 t4 t8 t57 : AV) : plenumref29_Propose_r5 m ⟨H, [(1, t1), (2, t2), (3, t3), (4, t4), (8, t8), (57, t57)]⟩ =
  condE t57 (
   buildE (some pl_api_Slot) (some zc_api_Slot) [] fun t58 =>
   storeE 8 H t8 t58 fun H2 =>
   loadE 8 H2 t8 fun t9000 =>
   tellK H2 (ro H2 (TU [noT t9000, noT (V (.int .i64 16))]))) (
   plenumref29_Propose_r6 m ⟨H, [(1, t1), (2, t2), (3, t3), (4, t4), (8, t8)]⟩) := by
  refine (joinW_eq Tryd.prog GG (plenumref29_Propose_env m) m ⟨76, []⟩ (cdR (cdL (cdR (cdR (cdR plenumref29_Propose_c))))) plenumref29_Propose_h.r.r.r.l.r ⟨H, [(1, t1), (2, t2), (3, t3), (4, t4), (8, t8), (57, t57)]⟩ (seqX (fun s => plenumref29_Propose_r6 m ⟨s.H, [(1, gt s.T 1), (2, gt s.T 2), (3, gt s.T 3), (4, gt s.T 4), (8, gt s.T 8)]⟩) (plenumref29_Propose_fin))).trans ?_
  kernel_rfl
theorem plenumref29_Propose_r4_eq (m : Nat) (H : List AObj) (t1 t2 t3 t4 t8 : AV) : plenumref29_Propose_r4 m ⟨H, [(1, t1), (2, t2), (3, t3), (4, t4), (8, t8)]⟩ =
  fieldE (some (0, 1)) t4 fun t38 =>
  loadE 1 H t38 fun t39 =>
  condE t39 (
   fieldE (some (1, 1)) t4 fun t41 =>
   loadE 1 H t41 fun t42 =>
   binE none false false .eql t42 t1 fun t44 =>
   condE t44 (
   fieldE (some (2, 1)) t4 fun t47 =>
   loadE 1 H t47 fun t48 =>
   binE none false false .eql t48 t2 fun t50 =>
   condE t50 (
   fieldE (some (3, 1)) t4 fun t53 =>
   loadE 1 H t53 fun t54 =>
   binE none false false .eql t54 t3 fun t56 =>
   plenumref29_Propose_r5 m ⟨H, [(1, t1), (2, t2), (3, t3), (4, t4), (8, t8), (57, t56)]⟩) (
   plenumref29_Propose_r5 m ⟨H, [(1, t1), (2, t2), (3, t3), (4, t4), (8, t8), (57, (V (.bool false)))]⟩)) (
   plenumref29_Propose_r5 m ⟨H, [(1, t1), (2, t2), (3, t3), (4, t4), (8, t8), (57, (V (.bool false)))]⟩)) (
   plenumref29_Propose_r5 m ⟨H, [(1, t1), (2, t2), (3, t3), (4, t4), (8, t8), (57, (V (.bool false)))]⟩) := by
  refine (joinW_eq Tryd.prog GG (plenumref29_Propose_env m) m ⟨76, []⟩ (cdR (cdR (cdR plenumref29_Propose_c))) plenumref29_Propose_h.r.r.r ⟨H, [(1, t1), (2, t2), (3, t3), (4, t4), (8, t8)]⟩ (plenumref29_Propose_fin)).trans ?_
  kernel_rfl
theorem plenumref29_Propose_r3_eq (m : Nat) (H : List AObj) (t1 t2 t3 t4 t8 t36 : AV) : plenumref29_Propose_r3 m ⟨H, [(1, t1), (2, t2), (3, t3), (4, t4), (8, t8), (36, t36)]⟩ =
  condE t36 (
   buildE (some pl_api_Slot) (some zc_api_Slot) [] fun t37 =>
   storeE 8 H t8 t37 fun H2 =>
   loadE 8 H2 t8 fun t9000 =>
   tellK H2 (ro H2 (TU [noT t9000, noT (V (.int .i64 18))]))) (
   plenumref29_Propose_r4 m ⟨H, [(1, t1), (2, t2), (3, t3), (4, t4), (8, t8)]⟩) := by
  refine (joinW_eq Tryd.prog GG (plenumref29_Propose_env m) m ⟨76, []⟩ (cdR (cdL (cdR (cdR plenumref29_Propose_c)))) plenumref29_Propose_h.r.r.l.r ⟨H, [(1, t1), (2, t2), (3, t3), (4, t4), (8, t8), (36, t36)]⟩ (seqX (fun s => plenumref29_Propose_r4 m ⟨s.H, [(1, gt s.T 1), (2, gt s.T 2), (3, gt s.T 3), (4, gt s.T 4), (8, gt s.T 8)]⟩) (plenumref29_Propose_fin))).trans ?_
  kernel_rfl
theorem plenumref29_Propose_r2_eq (m : Nat) (H : List AObj) (t1 t2 t3 t4 t8 : AV) : plenumref29_Propose_r2 m ⟨H, [(1, t1), (2, t2), (3, t3), (4, t4), (8, t8)]⟩ =
  fieldE (some (0, 1)) t4 fun t29 =>
  loadE 1 H t29 fun t30 =>
  condE t30 (
   fieldE (some (1, 1)) t4 fun t32 =>
   loadE 1 H t32 fun t33 =>
   binE none false false .gtr t33 t1 fun t35 =>
   plenumref29_Propose_r3 m ⟨H, [(1, t1), (2, t2), (3, t3), (4, t4), (8, t8), (36, t35)]⟩) (
   plenumref29_Propose_r3 m ⟨H, [(1, t1), (2, t2), (3, t3), (4, t4), (8, t8), (36, (V (.bool false)))]⟩) := by
  refine (joinW_eq Tryd.prog GG (plenumref29_Propose_env m) m ⟨76, []⟩ (cdR (cdR plenumref29_Propose_c)) plenumref29_Propose_h.r.r ⟨H, [(1, t1), (2, t2), (3, t3), (4, t4), (8, t8)]⟩ (plenumref29_Propose_fin)).trans ?_
  kernel_rfl
theorem plenumref29_Propose_r1_eq (m : Nat) (H : List AObj) (t1 t2 t3 t4 t8 t27 : AV) : plenumref29_Propose_r1 m ⟨H, [(1, t1), (2, t2), (3, t3), (4, t4), (8, t8), (27, t27)]⟩ =
  condE t27 (
   buildE (some pl_api_Slot) (some zc_api_Slot) [] fun t28 =>
   storeE 8 H t8 t28 fun H2 =>
   loadE 8 H2 t8 fun t9000 =>
   tellK H2 (ro H2 (TU [noT t9000, noT (V (.int .i64 1))]))) (
   plenumref29_Propose_r2 m ⟨H, [(1, t1), (2, t2), (3, t3), (4, t4), (8, t8)]⟩) := by
  refine (joinW_eq Tryd.prog GG (plenumref29_Propose_env m) m ⟨76, []⟩ (cdR (cdL (cdR plenumref29_Propose_c))) plenumref29_Propose_h.r.l.r ⟨H, [(1, t1), (2, t2), (3, t3), (4, t4), (8, t8), (27, t27)]⟩ (seqX (fun s => plenumref29_Propose_r2 m ⟨s.H, [(1, gt s.T 1), (2, gt s.T 2), (3, gt s.T 3), (4, gt s.T 4), (8, gt s.T 8)]⟩) (plenumref29_Propose_fin))).trans ?_
  kernel_rfl
theorem plenumref29_Propose_eq (m : Nat) (t0 t1 t2 t3 : AV) : plenumref29_Propose m t0 t1 t2 t3 =
  boxE ty_api_Slot [] t0 fun t4 H1 =>
  allocE (some zc_api_Slot) ty_api_Slot H1 fun t8 H2 =>
  loadE 8 H2 t4 fun t10 =>
  tellE (plenumref29_May m (ro H2 t10)) [(ro H2 t10)] fun t11 =>
  unE .not t11 fun t12 =>
  condE t12 (
   plenumref29_Propose_r1 m ⟨H2, [(1, t1), (2, t2), (3, t3), (4, t4), (8, t8), (27, (V (.bool true)))]⟩) (
   tellE (plenumref29_num m (ro H2 t1)) [(ro H2 t1)] fun t15 =>
   unE .not t15 fun t16 =>
   condE t16 (
   plenumref29_Propose_r1 m ⟨H2, [(1, t1), (2, t2), (3, t3), (4, t4), (8, t8), (27, (V (.bool true)))]⟩) (
   tellE (plenumref29_num m (ro H2 t2)) [(ro H2 t2)] fun t20 =>
   unE .not t20 fun t21 =>
   condE t21 (
   plenumref29_Propose_r1 m ⟨H2, [(1, t1), (2, t2), (3, t3), (4, t4), (8, t8), (27, (V (.bool true)))]⟩) (
   lenE true false H2 t3 fun t25 =>
   binE none false false .gtr t25 (V (.int .i64 65536)) fun t26 =>
   plenumref29_Propose_r1 m ⟨H2, [(1, t1), (2, t2), (3, t3), (4, t4), (8, t8), (27, t26)]⟩))) := by
  refine (tellX Tryd.prog GG (plenumref29_Propose_env m) m ⟨76, []⟩ plenumref29_Propose_c plenumref29_Propose_h ⟨[], argsT 0 [t0, t1, t2, t3]⟩ [.cell 8 24, .tmp 9]).trans ?_
  kernel_rfl
noncomputable def plenumref29_Propose_t (m : Nat) : List AV → RO | [t0, t1, t2, t3] => plenumref29_Propose m t0 t1 t2 t3 | _ => none
theorem plenumref29_Propose_ok (m : Nat) : ∀ args X H', plenumref29_Propose_t m args = some (X, H') → ACp Tryd.prog GG 11 args X := by
  intro args X H' h
  unfold plenumref29_Propose_t at h
  split at h
  · exact tell_okK MIX (by
    intro f e h
    simp only [plenumref29_Propose_env, Prod.mk.injEq, List.mem_cons, List.not_mem_nil, or_false] at h
    rcases h with ⟨rfl, rfl⟩ | ⟨rfl, rfl⟩
    · exact plenumref29_May_ok m
    · exact plenumref29_num_ok m) (f := 11) (c := plenumref29_Propose_c) Tryd.func11 rfl (by kernel_rfl) _ rfl Tryd.ntmps11 (Nat.le_of_ble_eq_true rfl) plenumref29_Propose_h h
  · cases h
noncomputable def plenumref29_lay_c : Code := (Tryd.f33.body).getD .skip
def plenumref29_lay_h : Hint := (.two .n (.two .n (.join [0, 3, 6] (.two .n (.one (.lp [(6, ty_api_Vote, 3)] [0, 3, 6, 7] [0, 3, 6] (.join [0, 3, 6, 7] (.join [0, 3, 6, 7, 22] .n (.two .n .n)) (.two (.one .n) .n))))) (.two .n (.join [6] (.two .n (.one (.lp [(6, ty_api_Vote, 3)] [0, 3, 6, 8] [4, 5, 6] (.two (.two .n (.two .n .n)) (.join [0, 3, 6, 8] (.one (.join [0, 3, 6, 8] (.two .n (.two .n .n)) (.two (.two .n (.two .n .n)) (.two (.two .n (.two (.two .n .n) .n)) (.join [0, 3, 6, 8] (.join [0, 3, 6, 8, 90] .n (.two (.two .n .n) .n)) (.two .n (.two (.two .n .n) .n))))))) .n))))) (.two .n .n))))))
noncomputable def plenumref29_lay_env (m : Nat) : Env := []
noncomputable abbrev plenumref29_lay_fin : KO (AV × List AObj) := tellFK Tryd.prog [.tmp 4, .tmp 5]
noncomputable def plenumref29_lay_r10 (m : Nat) (n0 : Nat) (kc : ASt → RO) (kx : KO (AV × List AObj)) (s : ASt) : RO := joinW Tryd.prog GG (plenumref29_lay_env m) m ⟨100, []⟩ (cdR (cdR (cdL (cdL (cdR (cdL (cdR (cdR (cdR (cdR plenumref29_lay_c)))))))))) plenumref29_lay_h.r.r.r.r.l.r.c.c.r.r s (backW n0 [0, 3, 6, 8] [4, 5, 6] kc kx)
noncomputable def plenumref29_lay_r9 (m : Nat) (n0 : Nat) (kc : ASt → RO) (kx : KO (AV × List AObj)) (s : ASt) : RO := joinW Tryd.prog GG (plenumref29_lay_env m) m ⟨100, []⟩ (cdR (cdR (cdL (cdL (cdR (cdL (cdR (cdR (cdR (cdR plenumref29_lay_c)))))))))) plenumref29_lay_h.r.r.r.r.l.r.c.c.r.r s (backW n0 [0, 3, 6, 8] [4, 5, 6] kc kx)
noncomputable def plenumref29_lay_r8 (m : Nat) (n0 : Nat) (kc : ASt → RO) (kx : KO (AV × List AObj)) (s : ASt) : RO := joinW Tryd.prog GG (plenumref29_lay_env m) m ⟨100, []⟩ (cdR (cdR (cdR (cdR (cdL (cdL (cdR (cdL (cdL (cdR (cdL (cdR (cdR (cdR (cdR plenumref29_lay_c))))))))))))))) plenumref29_lay_h.r.r.r.r.l.r.c.c.r.l.c.r.r.r.r s (blockX 3 (seqX (fun s => plenumref29_lay_r10 m n0 kc kx ⟨s.H, [(0, gt s.T 0), (3, gt s.T 3), (6, gt s.T 6), (8, gt s.T 8)]⟩) (backW n0 [0, 3, 6, 8] [4, 5, 6] kc kx)))
noncomputable def plenumref29_lay_r7 (m : Nat) (n0 : Nat) (kc : ASt → RO) (kx : KO (AV × List AObj)) (s : ASt) : RO := joinW Tryd.prog GG (plenumref29_lay_env m) m ⟨100, []⟩ (cdR (cdL (cdR (cdR (cdR (cdL (cdL (cdR (cdL (cdL (cdR (cdL (cdR (cdR (cdR (cdR plenumref29_lay_c)))))))))))))))) plenumref29_lay_h.r.r.r.r.l.r.c.c.r.l.c.r.r.r.l.r s (seqX (fun s => plenumref29_lay_r8 m n0 kc kx ⟨s.H, [(0, gt s.T 0), (3, gt s.T 3), (6, gt s.T 6), (8, gt s.T 8)]⟩) (blockX 3 (seqX (fun s => plenumref29_lay_r9 m n0 kc kx ⟨s.H, [(0, gt s.T 0), (3, gt s.T 3), (6, gt s.T 6), (8, gt s.T 8)]⟩) (backW n0 [0, 3, 6, 8] [4, 5, 6] kc kx))))
noncomputable def plenumref29_lay_r6 (m : Nat) (n0 : Nat) (kc : ASt → RO) (kx : KO (AV × List AObj)) (s : ASt) : RO := joinW Tryd.prog GG (plenumref29_lay_env m) m ⟨100, []⟩ (cdR (cdR (cdL (cdL (cdR (cdL (cdR (cdR (cdR (cdR plenumref29_lay_c)))))))))) plenumref29_lay_h.r.r.r.r.l.r.c.c.r.r s (backW n0 [0, 3, 6, 8] [4, 5, 6] kc kx)
noncomputable def plenumref29_lay_r5 (m : Nat) (n0 : Nat) (kc : ASt → RO) (kx : KO (AV × List AObj)) (s : ASt) : RO := joinW Tryd.prog GG (plenumref29_lay_env m) m ⟨100, []⟩ (cdR (cdL (cdL (cdR (cdL (cdR (cdR plenumref29_lay_c))))))) plenumref29_lay_h.r.r.l.r.c.c.r s (backW n0 [0, 3, 6, 7] [0, 3, 6] kc kx)
noncomputable def plenumref29_lay_r4 (m : Nat) (n0 : Nat) (kc : ASt → RO) (kx : KO (AV × List AObj)) (s : ASt) : RO := joinW Tryd.prog GG (plenumref29_lay_env m) m ⟨100, []⟩ (cdR (cdL (cdL (cdR (cdL (cdL (cdR (cdL (cdR (cdR (cdR (cdR plenumref29_lay_c)))))))))))) plenumref29_lay_h.r.r.r.r.l.r.c.c.r.l.c.r s (blockX 3 (seqX (fun s => plenumref29_lay_r6 m n0 kc kx ⟨s.H, [(0, gt s.T 0), (3, gt s.T 3), (6, gt s.T 6), (8, gt s.T 8)]⟩) (backW n0 [0, 3, 6, 8] [4, 5, 6] kc kx)))
noncomputable def plenumref29_lay_r3 (m : Nat) (s : ASt) : RO := joinW Tryd.prog GG (plenumref29_lay_env m) m ⟨100, []⟩ (cdR (cdR (cdR (cdR (cdR plenumref29_lay_c))))) plenumref29_lay_h.r.r.r.r.r s (plenumref29_lay_fin)
noncomputable def plenumref29_lay_r2 (m : Nat) (n0 : Nat) (kc : ASt → RO) (kx : KO (AV × List AObj)) (s : ASt) : RO := joinW Tryd.prog GG (plenumref29_lay_env m) m ⟨100, []⟩ (cdR (cdL (cdL (cdL (cdR (cdL (cdR (cdR plenumref29_lay_c)))))))) plenumref29_lay_h.r.r.l.r.c.c.l.r s (seqX (fun s => plenumref29_lay_r5 m n0 kc kx ⟨s.H, [(0, gt s.T 0), (3, gt s.T 3), (6, gt s.T 6), (7, gt s.T 7)]⟩) (backW n0 [0, 3, 6, 7] [0, 3, 6] kc kx))
noncomputable def plenumref29_lay_b2 (m : Nat) (s : ASt) (kc : ASt → RO) (kx : KO (AV × List AObj)) : RO := bodyW Tryd.prog GG (plenumref29_lay_env m) m ⟨100, []⟩ (cdL (cdL (cdR (cdL (cdR (cdR (cdR (cdR plenumref29_lay_c)))))))) plenumref29_lay_h.r.r.r.r.l.r.c.c [0, 3, 6, 8] [4, 5, 6] s kc kx
noncomputable def plenumref29_lay_r1 (m : Nat) (s : ASt) : RO := joinW Tryd.prog GG (plenumref29_lay_env m) m ⟨100, []⟩ (cdR (cdR (cdR plenumref29_lay_c))) plenumref29_lay_h.r.r.r s (plenumref29_lay_fin)
noncomputable def plenumref29_lay_b1 (m : Nat) (s : ASt) (kc : ASt → RO) (kx : KO (AV × List AObj)) : RO := bodyW Tryd.prog GG (plenumref29_lay_env m) m ⟨100, []⟩ (cdL (cdL (cdR (cdL (cdR (cdR plenumref29_lay_c)))))) plenumref29_lay_h.r.r.l.r.c.c [0, 3, 6, 7] [0, 3, 6] s kc kx
noncomputable def plenumref29_lay (m : Nat) (t0 t1 : AV) : RO := exec Tryd.prog GG (plenumref29_lay_env m) m ⟨100, []⟩ plenumref29_lay_c plenumref29_lay_h ⟨[], argsT 0 [t0, t1]⟩ (plenumref29_lay_fin)
theorem plenumref29_lay_r10_eq (m : Nat) (n0 : Nat) (kc : ASt → RO) (kx : KO (AV × List AObj)) (H : List AObj) (t0 t3 t6 t8 : AV) : plenumref29_lay_r10 m n0 kc kx ⟨H, [(0, t0), (3, t3), (6, t6), (8, t8)]⟩ =
  binE none false false .add t8 (V (.int .i64 1)) fun t41 =>
  backE n0 H [(0, t0), (3, t3), (6, t6), (8, t41)] kc := by
  refine (joinW_eq Tryd.prog GG (plenumref29_lay_env m) m ⟨100, []⟩ (cdR (cdR (cdL (cdL (cdR (cdL (cdR (cdR (cdR (cdR plenumref29_lay_c)))))))))) plenumref29_lay_h.r.r.r.r.l.r.c.c.r.r ⟨H, [(0, t0), (3, t3), (6, t6), (8, t8)]⟩ (backW n0 [0, 3, 6, 8] [4, 5, 6] kc kx)).trans ?_
  kernel_rfl
theorem plenumref29_lay_r8_eq (m : Nat) (n0 : Nat) (kc : ASt → RO) (kx : KO (AV × List AObj)) (H : List AObj) (t0 t3 t6 t8 : AV) : plenumref29_lay_r8 m n0 kc kx ⟨H, [(0, t0), (3, t3), (6, t6), (8, t8)]⟩ =
  idxSE 5 H t0 t8 fun t93 =>
  fieldE (some (1, 1)) t93 fun t94 =>
  loadE 1 H t94 fun t95 =>
  fieldE (some (1, 1)) t3 fun t96 =>
  loadE 1 H t96 fun t97 =>
  binE none false false .eql t95 t97 fun t98 =>
  condE t98 (
   kx .ret ⟨H, [(4, (V (.slice none 0 0))), (5, (V (.int .i64 23))), (6, t6)]⟩) (
   plenumref29_lay_r10 m n0 kc kx ⟨H, [(0, t0), (3, t3), (6, t6), (8, t8)]⟩) := by
  refine (joinW_eq Tryd.prog GG (plenumref29_lay_env m) m ⟨100, []⟩ (cdR (cdR (cdR (cdR (cdL (cdL (cdR (cdL (cdL (cdR (cdL (cdR (cdR (cdR (cdR plenumref29_lay_c))))))))))))))) plenumref29_lay_h.r.r.r.r.l.r.c.c.r.l.c.r.r.r.r ⟨H, [(0, t0), (3, t3), (6, t6), (8, t8)]⟩ (blockX 3 (seqX (fun s => plenumref29_lay_r10 m n0 kc kx ⟨s.H, [(0, gt s.T 0), (3, gt s.T 3), (6, gt s.T 6), (8, gt s.T 8)]⟩) (backW n0 [0, 3, 6, 8] [4, 5, 6] kc kx)))).trans ?_
  kernel_rfl
theorem plenumref29_lay_r7_eq (m : Nat) (n0 : Nat) (kc : ASt → RO) (kx : KO (AV × List AObj)) (H : List AObj) (t0 t3 t6 t8 t90 : AV) : plenumref29_lay_r7 m n0 kc kx ⟨H, [(0, t0), (3, t3), (6, t6), (8, t8), (90, t90)]⟩ =
  condE t90 (
   kx .ret ⟨H, [(4, (V (.slice none 0 0))), (5, (V (.int .i64 16))), (6, t6)]⟩) (
   plenumref29_lay_r8 m n0 kc kx ⟨H, [(0, t0), (3, t3), (6, t6), (8, t8)]⟩) := by
  refine (joinW_eq Tryd.prog GG (plenumref29_lay_env m) m ⟨100, []⟩ (cdR (cdL (cdR (cdR (cdR (cdL (cdL (cdR (cdL (cdL (cdR (cdL (cdR (cdR (cdR (cdR plenumref29_lay_c)))))))))))))))) plenumref29_lay_h.r.r.r.r.l.r.c.c.r.l.c.r.r.r.l.r ⟨H, [(0, t0), (3, t3), (6, t6), (8, t8), (90, t90)]⟩ (seqX (fun s => plenumref29_lay_r8 m n0 kc kx ⟨s.H, [(0, gt s.T 0), (3, gt s.T 3), (6, gt s.T 6), (8, gt s.T 8)]⟩) (blockX 3 (seqX (fun s => plenumref29_lay_r9 m n0 kc kx ⟨s.H, [(0, gt s.T 0), (3, gt s.T 3), (6, gt s.T 6), (8, gt s.T 8)]⟩) (backW n0 [0, 3, 6, 8] [4, 5, 6] kc kx))))).trans ?_
  kernel_rfl
theorem plenumref29_lay_r6_eq (m : Nat) (n0 : Nat) (kc : ASt → RO) (kx : KO (AV × List AObj)) (H : List AObj) (t0 t3 t6 t8 : AV) : plenumref29_lay_r6 m n0 kc kx ⟨H, [(0, t0), (3, t3), (6, t6), (8, t8)]⟩ =
  binE none false false .add t8 (V (.int .i64 1)) fun t41 =>
  backE n0 H [(0, t0), (3, t3), (6, t6), (8, t41)] kc := by
  refine (joinW_eq Tryd.prog GG (plenumref29_lay_env m) m ⟨100, []⟩ (cdR (cdR (cdL (cdL (cdR (cdL (cdR (cdR (cdR (cdR plenumref29_lay_c)))))))))) plenumref29_lay_h.r.r.r.r.l.r.c.c.r.r ⟨H, [(0, t0), (3, t3), (6, t6), (8, t8)]⟩ (backW n0 [0, 3, 6, 8] [4, 5, 6] kc kx)).trans ?_
  kernel_rfl
theorem plenumref29_lay_r5_eq (m : Nat) (n0 : Nat) (kc : ASt → RO) (kx : KO (AV × List AObj)) (H : List AObj) (t0 t3 t6 t7 : AV) : plenumref29_lay_r5 m n0 kc kx ⟨H, [(0, t0), (3, t3), (6, t6), (7, t7)]⟩ =
  idxSE 5 H t0 t7 fun t28 =>
  loadE 5 H t28 fun t29 =>
  buildSE (some (ty_api_Vote, 3)) 1 [(0, t29)] fun t30 =>
  appE (some (ty_api_Vote, 3)) H t6 t30 fun t31 H2 =>
  binE none false false .add t7 (V (.int .i64 1)) fun t24 =>
  backE n0 H2 [(0, t0), (3, t3), (6, t31), (7, t24)] kc := by
  refine (joinW_eq Tryd.prog GG (plenumref29_lay_env m) m ⟨100, []⟩ (cdR (cdL (cdL (cdR (cdL (cdR (cdR plenumref29_lay_c))))))) plenumref29_lay_h.r.r.l.r.c.c.r ⟨H, [(0, t0), (3, t3), (6, t6), (7, t7)]⟩ (backW n0 [0, 3, 6, 7] [0, 3, 6] kc kx)).trans ?_
  kernel_rfl
theorem plenumref29_lay_r4_eq (m : Nat) (n0 : Nat) (kc : ASt → RO) (kx : KO (AV × List AObj)) (H : List AObj) (t0 t3 t6 t8 : AV) : plenumref29_lay_r4 m n0 kc kx ⟨H, [(0, t0), (3, t3), (6, t6), (8, t8)]⟩ =
  idxSE 5 H t0 t8 fun t59 =>
  fieldE (some (0, 1)) t59 fun t60 =>
  loadE 1 H t60 fun t61 =>
  fieldE (some (0, 1)) t3 fun t62 =>
  loadE 1 H t62 fun t63 =>
  binE none false false .neq t61 t63 fun t64 =>
  condE t64 (
   plenumref29_lay_r6 m n0 kc kx ⟨H, [(0, t0), (3, t3), (6, t6), (8, t8)]⟩) (
   idxSE 5 H t0 t8 fun t67 =>
   fieldE (some (1, 1)) t67 fun t68 =>
   loadE 1 H t68 fun t69 =>
   fieldE (some (1, 1)) t3 fun t70 =>
   loadE 1 H t70 fun t71 =>
   binE none false false .gtr t69 t71 fun t72 =>
   condE t72 (
    kx .ret ⟨H, [(4, (V (.slice none 0 0))), (5, (V (.int .i64 18))), (6, t6)]⟩) (
    idxSE 5 H t0 t8 fun t75 =>
    fieldE (some (1, 1)) t75 fun t76 =>
    loadE 1 H t76 fun t77 =>
    fieldE (some (1, 1)) t3 fun t78 =>
    loadE 1 H t78 fun t79 =>
    binE none false false .eql t77 t79 fun t80 =>
    condE t80 (
     idxSE 5 H t0 t8 fun t84 =>
     fieldE (some (2, 1)) t84 fun t85 =>
     loadE 1 H t85 fun t86 =>
     fieldE (some (2, 1)) t3 fun t87 =>
     loadE 1 H t87 fun t88 =>
     binE none false false .eql t86 t88 fun t89 =>
     plenumref29_lay_r7 m n0 kc kx ⟨H, [(0, t0), (3, t3), (6, t6), (8, t8), (90, t89)]⟩) (
     plenumref29_lay_r7 m n0 kc kx ⟨H, [(0, t0), (3, t3), (6, t6), (8, t8), (90, (V (.bool false)))]⟩))) := by
  refine (joinW_eq Tryd.prog GG (plenumref29_lay_env m) m ⟨100, []⟩ (cdR (cdL (cdL (cdR (cdL (cdL (cdR (cdL (cdR (cdR (cdR (cdR plenumref29_lay_c)))))))))))) plenumref29_lay_h.r.r.r.r.l.r.c.c.r.l.c.r ⟨H, [(0, t0), (3, t3), (6, t6), (8, t8)]⟩ (blockX 3 (seqX (fun s => plenumref29_lay_r6 m n0 kc kx ⟨s.H, [(0, gt s.T 0), (3, gt s.T 3), (6, gt s.T 6), (8, gt s.T 8)]⟩) (backW n0 [0, 3, 6, 8] [4, 5, 6] kc kx)))).trans ?_
  kernel_rfl
theorem plenumref29_lay_r3_eq (m : Nat) (H : List AObj) (t6 : AV) : plenumref29_lay_r3 m ⟨H, [(6, t6)]⟩ =
  tellK H (ro H (TU [noT t6, noT (V (.int .i64 0))])) := by
  refine (joinW_eq Tryd.prog GG (plenumref29_lay_env m) m ⟨100, []⟩ (cdR (cdR (cdR (cdR (cdR plenumref29_lay_c))))) plenumref29_lay_h.r.r.r.r.r ⟨H, [(6, t6)]⟩ (plenumref29_lay_fin)).trans ?_
  kernel_rfl
theorem plenumref29_lay_r2_eq (m : Nat) (n0 : Nat) (kc : ASt → RO) (kx : KO (AV × List AObj)) (H : List AObj) (t0 t3 t6 t7 t22 : AV) : plenumref29_lay_r2 m n0 kc kx ⟨H, [(0, t0), (3, t3), (6, t6), (7, t7), (22, t22)]⟩ =
  condE t22 (
   plenumref29_lay_r5 m n0 kc kx ⟨H, [(0, t0), (3, t3), (6, t6), (7, t7)]⟩) (
   kx (.exit 0) ⟨H, [(0, t0), (3, t3), (6, t6)]⟩) := by
  refine (joinW_eq Tryd.prog GG (plenumref29_lay_env m) m ⟨100, []⟩ (cdR (cdL (cdL (cdL (cdR (cdL (cdR (cdR plenumref29_lay_c)))))))) plenumref29_lay_h.r.r.l.r.c.c.l.r ⟨H, [(0, t0), (3, t3), (6, t6), (7, t7), (22, t22)]⟩ (seqX (fun s => plenumref29_lay_r5 m n0 kc kx ⟨s.H, [(0, gt s.T 0), (3, gt s.T 3), (6, gt s.T 6), (7, gt s.T 7)]⟩) (backW n0 [0, 3, 6, 7] [0, 3, 6] kc kx))).trans ?_
  kernel_rfl
theorem plenumref29_lay_b2_eq (m : Nat) (H : List AObj) (t0 t3 t6 t8 : AV) (kc : ASt → RO) (kx : KO (AV × List AObj)) : plenumref29_lay_b2 m ⟨H, [(0, t0), (3, t3), (6, t6), (8, t8)]⟩ kc kx =
  lenE false true H t0 fun t38 =>
  binE none false false .lss t8 t38 fun t39 =>
  condE t39 (
   idxSE 5 H t0 t8 fun t44 =>
   fieldE (some (0, 1)) t44 fun t45 =>
   loadE 1 H t45 fun t46 =>
   fieldE (some (0, 1)) t3 fun t47 =>
   loadE 1 H t47 fun t48 =>
   binE none false false .gtr t46 t48 fun t49 =>
   condE t49 (
    idxSE 5 H t0 t8 fun t53 =>
    loadE 5 H t53 fun t54 =>
    buildSE (some (ty_api_Vote, 3)) 1 [(0, t54)] fun t55 =>
    appE (some (ty_api_Vote, 3)) H t6 t55 fun t56 H2 =>
    plenumref29_lay_r4 m H.length kc kx ⟨H2, [(0, t0), (3, t3), (6, t56), (8, t8)]⟩) (
    plenumref29_lay_r4 m H.length kc kx ⟨H, [(0, t0), (3, t3), (6, t6), (8, t8)]⟩)) (
   kx (.exit 2) ⟨H, [(4, .nil), (5, .nil), (6, t6)]⟩) := by
  refine (bodyW_eq Tryd.prog GG (plenumref29_lay_env m) m ⟨100, []⟩ (cdL (cdL (cdR (cdL (cdR (cdR (cdR (cdR plenumref29_lay_c)))))))) plenumref29_lay_h.r.r.r.r.l.r.c.c [0, 3, 6, 8] [4, 5, 6] ⟨H, [(0, t0), (3, t3), (6, t6), (8, t8)]⟩ kc kx).trans ?_
  kernel_rfl
theorem plenumref29_lay_r1_eq (m : Nat) (H : List AObj) (t0 t3 t6 : AV) : plenumref29_lay_r1 m ⟨H, [(0, t0), (3, t3), (6, t6)]⟩ =
  loadE 5 H t3 fun t33 =>
  buildSE (some (ty_api_Vote, 3)) 1 [(0, t33)] fun t34 =>
  appE (some (ty_api_Vote, 3)) H t6 t34 fun t35 H2 =>
  rowE t35 ty_api_Vote 3 H2 fun t6_1 H3 =>
  iterC m (plenumref29_lay_b2 m) ⟨H3, [(0, t0), (3, t3), (6, t6_1), (8, (V (.int .i64 0)))]⟩ (blockX 2 (seqX (fun s => plenumref29_lay_r3 m ⟨s.H, [(6, gt s.T 6)]⟩) (plenumref29_lay_fin))) := by
  refine (joinW_eq Tryd.prog GG (plenumref29_lay_env m) m ⟨100, []⟩ (cdR (cdR (cdR plenumref29_lay_c))) plenumref29_lay_h.r.r.r ⟨H, [(0, t0), (3, t3), (6, t6)]⟩ (plenumref29_lay_fin)).trans ?_
  kernel_rfl
theorem plenumref29_lay_b1_eq (m : Nat) (H : List AObj) (t0 t3 t6 t7 : AV) (kc : ASt → RO) (kx : KO (AV × List AObj)) : plenumref29_lay_b1 m ⟨H, [(0, t0), (3, t3), (6, t6), (7, t7)]⟩ kc kx =
  lenE false true H t0 fun t11 =>
  binE none false false .lss t7 t11 fun t12 =>
  condE t12 (
   idxSE 5 H t0 t7 fun t16 =>
   fieldE (some (0, 1)) t16 fun t17 =>
   loadE 1 H t17 fun t18 =>
   fieldE (some (0, 1)) t3 fun t19 =>
   loadE 1 H t19 fun t20 =>
   binE none false false .lss t18 t20 fun t21 =>
   plenumref29_lay_r2 m H.length kc kx ⟨H, [(0, t0), (3, t3), (6, t6), (7, t7), (22, t21)]⟩) (
   plenumref29_lay_r2 m H.length kc kx ⟨H, [(0, t0), (3, t3), (6, t6), (7, t7), (22, (V (.bool false)))]⟩) := by
  refine (bodyW_eq Tryd.prog GG (plenumref29_lay_env m) m ⟨100, []⟩ (cdL (cdL (cdR (cdL (cdR (cdR plenumref29_lay_c)))))) plenumref29_lay_h.r.r.l.r.c.c [0, 3, 6, 7] [0, 3, 6] ⟨H, [(0, t0), (3, t3), (6, t6), (7, t7)]⟩ kc kx).trans ?_
  kernel_rfl
theorem plenumref29_lay_eq (m : Nat) (t0 t1 : AV) : plenumref29_lay m t0 t1 =
  boxE ty_api_Vote [] t1 fun t3 H1 =>
  rowE (V (.slice none 0 0)) ty_api_Vote 3 H1 fun t6 H2 =>
  iterC m (plenumref29_lay_b1 m) ⟨H2, [(0, t0), (3, t3), (6, t6), (7, (V (.int .i64 0)))]⟩ (blockX 0 (seqX (fun s => plenumref29_lay_r1 m ⟨s.H, [(0, gt s.T 0), (3, gt s.T 3), (6, gt s.T 6)]⟩) (plenumref29_lay_fin))) := by
  refine (tellX Tryd.prog GG (plenumref29_lay_env m) m ⟨100, []⟩ plenumref29_lay_c plenumref29_lay_h ⟨[], argsT 0 [t0, t1]⟩ [.tmp 4, .tmp 5]).trans ?_
  kernel_rfl
noncomputable def plenumref29_lay_t (m : Nat) : List AV → RO | [t0, t1] => plenumref29_lay m t0 t1 | _ => none
theorem plenumref29_lay_ok (m : Nat) : ∀ args X H', plenumref29_lay_t m args = some (X, H') → ACp Tryd.prog GG 33 args X := by
  intro args X H' h
  unfold plenumref29_lay_t at h
  split at h
  · exact tell_okK MIX (by intro f e h; cases h) (f := 33) (c := plenumref29_lay_c) Tryd.func33 rfl (by kernel_rfl) _ rfl Tryd.ntmps33 (Nat.le_of_ble_eq_true rfl) plenumref29_lay_h h
  · cases h
noncomputable def plenumref29_Prepare_c : Code := (Tryd.f12.body).getD .skip
def plenumref29_Prepare_h : Hint := (.two .n (.join [2, 3, 4] (.join [2, 3, 4, 15] .n (.two (.two .n .n) .n)) (.two .n (.two (.two .n (.two (.two .n .n) .n)) (.two .n (.two .n .n))))))
noncomputable def plenumref29_Prepare_env (m : Nat) : Env := [(16, .tell (plenumref29_May_t m)), (32, .tell (plenumref29_Vote_t m)), (33, .tell (plenumref29_lay_t m))]
noncomputable abbrev plenumref29_Prepare_fin : KO (AV × List AObj) := tellFK Tryd.prog [.cell 4 24, .tmp 5]
noncomputable def plenumref29_Prepare_r2 (m : Nat) (s : ASt) : RO := joinW Tryd.prog GG (plenumref29_Prepare_env m) m ⟨31, []⟩ (cdR (cdR plenumref29_Prepare_c)) plenumref29_Prepare_h.r.r s (plenumref29_Prepare_fin)
noncomputable def plenumref29_Prepare_r1 (m : Nat) (s : ASt) : RO := joinW Tryd.prog GG (plenumref29_Prepare_env m) m ⟨31, []⟩ (cdR (cdL (cdR plenumref29_Prepare_c))) plenumref29_Prepare_h.r.l.r s (seqX (fun s => plenumref29_Prepare_r2 m ⟨s.H, [(2, gt s.T 2), (3, gt s.T 3), (4, gt s.T 4)]⟩) (plenumref29_Prepare_fin))
noncomputable def plenumref29_Prepare (m : Nat) (t0 t1 : AV) : RO := exec Tryd.prog GG (plenumref29_Prepare_env m) m ⟨31, []⟩ plenumref29_Prepare_c plenumref29_Prepare_h ⟨[], argsT 0 [t0, t1]⟩ (plenumref29_Prepare_fin)
theorem plenumref29_Prepare_r2_eq (m : Nat) (H : List AObj) (t2 t3 t4 : AV) : plenumref29_Prepare_r2 m ⟨H, [(2, t2), (3, t3), (4, t4)]⟩ =
  fieldE (some (4, 1)) t2 fun t18 =>
  loadE 1 H t18 fun t19 =>
  loadE 5 H t3 fun t20 =>
  tellE (plenumref29_lay m (ro H t19) (ro H t20)) [(ro H t19), (ro H t20)] fun t21 =>
  extE t21 0 fun t22 =>
  extE t21 1 fun t23 =>
  binE none false false .neq t23 (V (.int .i64 0)) fun t25 =>
  condE t25 (
   buildE (some pl_api_Slot) (some zc_api_Slot) [] fun t26 =>
   storeE 8 H t4 t26 fun H2 =>
   loadE 8 H2 t4 fun t9000 =>
   tellK H2 (ro H2 (TU [noT t9000, noT t23]))) (
   fieldE (some (4, 1)) t2 fun t29 =>
   storeE 1 H t29 t22 fun H2 =>
   loadE 8 H2 t2 fun t30 =>
   storeE 8 H2 t4 t30 fun H3 =>
   loadE 8 H3 t4 fun t9000 =>
   tellK H3 (ro H3 (TU [noT t9000, noT (V (.int .i64 0))]))) := by
  refine (joinW_eq Tryd.prog GG (plenumref29_Prepare_env m) m ⟨31, []⟩ (cdR (cdR plenumref29_Prepare_c)) plenumref29_Prepare_h.r.r ⟨H, [(2, t2), (3, t3), (4, t4)]⟩ (plenumref29_Prepare_fin)).trans ?_
  kernel_rfl
theorem plenumref29_Prepare_r1_eq (m : Nat) (H : List AObj) (t2 t3 t4 t15 : AV) : plenumref29_Prepare_r1 m ⟨H, [(2, t2), (3, t3), (4, t4), (15, t15)]⟩ =
  condE t15 (
   buildE (some pl_api_Slot) (some zc_api_Slot) [] fun t16 =>
   storeE 8 H t4 t16 fun H2 =>
   loadE 8 H2 t4 fun t9000 =>
   tellK H2 (ro H2 (TU [noT t9000, noT (V (.int .i64 1))]))) (
   plenumref29_Prepare_r2 m ⟨H, [(2, t2), (3, t3), (4, t4)]⟩) := by
  refine (joinW_eq Tryd.prog GG (plenumref29_Prepare_env m) m ⟨31, []⟩ (cdR (cdL (cdR plenumref29_Prepare_c))) plenumref29_Prepare_h.r.l.r ⟨H, [(2, t2), (3, t3), (4, t4), (15, t15)]⟩ (seqX (fun s => plenumref29_Prepare_r2 m ⟨s.H, [(2, gt s.T 2), (3, gt s.T 3), (4, gt s.T 4)]⟩) (plenumref29_Prepare_fin))).trans ?_
  kernel_rfl
theorem plenumref29_Prepare_eq (m : Nat) (t0 t1 : AV) : plenumref29_Prepare m t0 t1 =
  boxE ty_api_Slot [] t0 fun t2 H1 =>
  boxE ty_api_Vote H1 t1 fun t3 H2 =>
  allocE (some zc_api_Slot) ty_api_Slot H2 fun t4 H3 =>
  loadE 8 H3 t2 fun t8 =>
  tellE (plenumref29_May m (ro H3 t8)) [(ro H3 t8)] fun t9 =>
  unE .not t9 fun t10 =>
  condE t10 (
   plenumref29_Prepare_r1 m ⟨H3, [(2, t2), (3, t3), (4, t4), (15, (V (.bool true)))]⟩) (
   loadE 5 H3 t3 fun t12 =>
   tellE (plenumref29_Vote m (ro H3 t12)) [(ro H3 t12)] fun t13 =>
   unE .not t13 fun t14 =>
   plenumref29_Prepare_r1 m ⟨H3, [(2, t2), (3, t3), (4, t4), (15, t14)]⟩) := by
  refine (tellX Tryd.prog GG (plenumref29_Prepare_env m) m ⟨31, []⟩ plenumref29_Prepare_c plenumref29_Prepare_h ⟨[], argsT 0 [t0, t1]⟩ [.cell 4 24, .tmp 5]).trans ?_
  kernel_rfl
noncomputable def plenumref29_Prepare_t (m : Nat) : List AV → RO | [t0, t1] => plenumref29_Prepare m t0 t1 | _ => none
theorem plenumref29_Prepare_ok (m : Nat) : ∀ args X H', plenumref29_Prepare_t m args = some (X, H') → ACp Tryd.prog GG 12 args X := by
  intro args X H' h
  unfold plenumref29_Prepare_t at h
  split at h
  · exact tell_okK MIX (by
    intro f e h
    simp only [plenumref29_Prepare_env, Prod.mk.injEq, List.mem_cons, List.not_mem_nil, or_false] at h
    rcases h with ⟨rfl, rfl⟩ | ⟨rfl, rfl⟩ | ⟨rfl, rfl⟩
    · exact plenumref29_May_ok m
    · exact plenumref29_Vote_ok m
    · exact plenumref29_lay_ok m) (f := 12) (c := plenumref29_Prepare_c) Tryd.func12 rfl (by kernel_rfl) _ rfl Tryd.ntmps12 (Nat.le_of_ble_eq_true rfl) plenumref29_Prepare_h h
  · cases h
noncomputable def plenumref29_Commit_c : Code := (Tryd.f13.body).getD .skip
def plenumref29_Commit_h : Hint := (.two .n (.join [2, 3, 4] (.join [2, 3, 4, 15] .n (.two (.two .n .n) .n)) (.two .n (.two (.two .n (.two (.two .n .n) .n)) (.two .n (.two .n .n))))))
noncomputable def plenumref29_Commit_env (m : Nat) : Env := [(16, .tell (plenumref29_May_t m)), (32, .tell (plenumref29_Vote_t m)), (33, .tell (plenumref29_lay_t m))]
noncomputable abbrev plenumref29_Commit_fin : KO (AV × List AObj) := tellFK Tryd.prog [.cell 4 24, .tmp 5]
noncomputable def plenumref29_Commit_r2 (m : Nat) (s : ASt) : RO := joinW Tryd.prog GG (plenumref29_Commit_env m) m ⟨31, []⟩ (cdR (cdR plenumref29_Commit_c)) plenumref29_Commit_h.r.r s (plenumref29_Commit_fin)
noncomputable def plenumref29_Commit_r1 (m : Nat) (s : ASt) : RO := joinW Tryd.prog GG (plenumref29_Commit_env m) m ⟨31, []⟩ (cdR (cdL (cdR plenumref29_Commit_c))) plenumref29_Commit_h.r.l.r s (seqX (fun s => plenumref29_Commit_r2 m ⟨s.H, [(2, gt s.T 2), (3, gt s.T 3), (4, gt s.T 4)]⟩) (plenumref29_Commit_fin))
noncomputable def plenumref29_Commit (m : Nat) (t0 t1 : AV) : RO := exec Tryd.prog GG (plenumref29_Commit_env m) m ⟨31, []⟩ plenumref29_Commit_c plenumref29_Commit_h ⟨[], argsT 0 [t0, t1]⟩ (plenumref29_Commit_fin)
theorem plenumref29_Commit_r2_eq (m : Nat) (H : List AObj) (t2 t3 t4 : AV) : plenumref29_Commit_r2 m ⟨H, [(2, t2), (3, t3), (4, t4)]⟩ =
  fieldE (some (5, 1)) t2 fun t18 =>
  loadE 1 H t18 fun t19 =>
  loadE 5 H t3 fun t20 =>
  tellE (plenumref29_lay m (ro H t19) (ro H t20)) [(ro H t19), (ro H t20)] fun t21 =>
  extE t21 0 fun t22 =>
  extE t21 1 fun t23 =>
  binE none false false .neq t23 (V (.int .i64 0)) fun t25 =>
  condE t25 (
   buildE (some pl_api_Slot) (some zc_api_Slot) [] fun t26 =>
   storeE 8 H t4 t26 fun H2 =>
   loadE 8 H2 t4 fun t9000 =>
   tellK H2 (ro H2 (TU [noT t9000, noT t23]))) (
   fieldE (some (5, 1)) t2 fun t29 =>
   storeE 1 H t29 t22 fun H2 =>
   loadE 8 H2 t2 fun t30 =>
   storeE 8 H2 t4 t30 fun H3 =>
   loadE 8 H3 t4 fun t9000 =>
   tellK H3 (ro H3 (TU [noT t9000, noT (V (.int .i64 0))]))) := by
  refine (joinW_eq Tryd.prog GG (plenumref29_Commit_env m) m ⟨31, []⟩ (cdR (cdR plenumref29_Commit_c)) plenumref29_Commit_h.r.r ⟨H, [(2, t2), (3, t3), (4, t4)]⟩ (plenumref29_Commit_fin)).trans ?_
  kernel_rfl
theorem plenumref29_Commit_r1_eq (m : Nat) (H : List AObj) (t2 t3 t4 t15 : AV) : plenumref29_Commit_r1 m ⟨H, [(2, t2), (3, t3), (4, t4), (15, t15)]⟩ =
  condE t15 (
   buildE (some pl_api_Slot) (some zc_api_Slot) [] fun t16 =>
   storeE 8 H t4 t16 fun H2 =>
   loadE 8 H2 t4 fun t9000 =>
   tellK H2 (ro H2 (TU [noT t9000, noT (V (.int .i64 1))]))) (
   plenumref29_Commit_r2 m ⟨H, [(2, t2), (3, t3), (4, t4)]⟩) := by
  refine (joinW_eq Tryd.prog GG (plenumref29_Commit_env m) m ⟨31, []⟩ (cdR (cdL (cdR plenumref29_Commit_c))) plenumref29_Commit_h.r.l.r ⟨H, [(2, t2), (3, t3), (4, t4), (15, t15)]⟩ (seqX (fun s => plenumref29_Commit_r2 m ⟨s.H, [(2, gt s.T 2), (3, gt s.T 3), (4, gt s.T 4)]⟩) (plenumref29_Commit_fin))).trans ?_
  kernel_rfl
theorem plenumref29_Commit_eq (m : Nat) (t0 t1 : AV) : plenumref29_Commit m t0 t1 =
  boxE ty_api_Slot [] t0 fun t2 H1 =>
  boxE ty_api_Vote H1 t1 fun t3 H2 =>
  allocE (some zc_api_Slot) ty_api_Slot H2 fun t4 H3 =>
  loadE 8 H3 t2 fun t8 =>
  tellE (plenumref29_May m (ro H3 t8)) [(ro H3 t8)] fun t9 =>
  unE .not t9 fun t10 =>
  condE t10 (
   plenumref29_Commit_r1 m ⟨H3, [(2, t2), (3, t3), (4, t4), (15, (V (.bool true)))]⟩) (
   loadE 5 H3 t3 fun t12 =>
   tellE (plenumref29_Vote m (ro H3 t12)) [(ro H3 t12)] fun t13 =>
   unE .not t13 fun t14 =>
   plenumref29_Commit_r1 m ⟨H3, [(2, t2), (3, t3), (4, t4), (15, t14)]⟩) := by
  refine (tellX Tryd.prog GG (plenumref29_Commit_env m) m ⟨31, []⟩ plenumref29_Commit_c plenumref29_Commit_h ⟨[], argsT 0 [t0, t1]⟩ [.cell 4 24, .tmp 5]).trans ?_
  kernel_rfl
noncomputable def plenumref29_Commit_t (m : Nat) : List AV → RO | [t0, t1] => plenumref29_Commit m t0 t1 | _ => none
theorem plenumref29_Commit_ok (m : Nat) : ∀ args X H', plenumref29_Commit_t m args = some (X, H') → ACp Tryd.prog GG 13 args X := by
  intro args X H' h
  unfold plenumref29_Commit_t at h
  split at h
  · exact tell_okK MIX (by
    intro f e h
    simp only [plenumref29_Commit_env, Prod.mk.injEq, List.mem_cons, List.not_mem_nil, or_false] at h
    rcases h with ⟨rfl, rfl⟩ | ⟨rfl, rfl⟩ | ⟨rfl, rfl⟩
    · exact plenumref29_May_ok m
    · exact plenumref29_Vote_ok m
    · exact plenumref29_lay_ok m) (f := 13) (c := plenumref29_Commit_c) Tryd.func13 rfl (by kernel_rfl) _ rfl Tryd.ntmps13 (Nat.le_of_ble_eq_true rfl) plenumref29_Commit_h h
  · cases h
noncomputable def plenumref05_Primary_c : Code := (Tryd.f18.body).getD .skip
def plenumref05_Primary_h : Hint := (.two .n (.two (.two .n (.two (.two .n .n) .n)) (.two .n (.join [5] (.two .n (.two .n .n)) (.two .n .n)))))
noncomputable def plenumref05_Primary_env (m : Nat) : Env := []
noncomputable abbrev plenumref05_Primary_fin : KO (AV × List AObj) := tellFK Tryd.prog [.tmp 4]
noncomputable def plenumref05_Primary_r1 (m : Nat) (s : ASt) : RO := joinW Tryd.prog GG (plenumref05_Primary_env m) m ⟨17, []⟩ (cdR (cdR (cdR (cdR plenumref05_Primary_c)))) plenumref05_Primary_h.r.r.r.r s (plenumref05_Primary_fin)
noncomputable def plenumref05_Primary (m : Nat) (t0 t1 : AV) : RO := exec Tryd.prog GG (plenumref05_Primary_env m) m ⟨17, []⟩ plenumref05_Primary_c plenumref05_Primary_h ⟨[], argsT 0 [t0, t1]⟩ (plenumref05_Primary_fin)
theorem plenumref05_Primary_r1_eq (m : Nat) (H : List AObj) (t5 : AV) : plenumref05_Primary_r1 m ⟨H, [(5, t5)]⟩ =
  tellK H (ro H t5) := by
  refine (joinW_eq Tryd.prog GG (plenumref05_Primary_env m) m ⟨17, []⟩ (cdR (cdR (cdR (cdR plenumref05_Primary_c)))) plenumref05_Primary_h.r.r.r.r ⟨H, [(5, t5)]⟩ (plenumref05_Primary_fin)).trans ?_
  kernel_rfl
theorem plenumref05_Primary_eq (m : Nat) (t0 t1 : AV) : plenumref05_Primary m t0 t1 =
  binE none false false .lss t1 (V (.int .i64 1)) fun t7 =>
  condE t7 (
   tellK [] (ro [] (V (.int .i64 0)))) (
   binE none false false .rem t0 t1 fun t10 =>
   binE none false false .lss t10 (V (.int .i64 0)) fun t12 =>
   condE t12 (
    binE none false false .add t10 t1 fun t15 =>
    plenumref05_Primary_r1 m ⟨[], [(5, t15)]⟩) (
    plenumref05_Primary_r1 m ⟨[], [(5, t10)]⟩)) := by
  refine (tellX Tryd.prog GG (plenumref05_Primary_env m) m ⟨17, []⟩ plenumref05_Primary_c plenumref05_Primary_h ⟨[], argsT 0 [t0, t1]⟩ [.tmp 4]).trans ?_
  kernel_rfl
noncomputable def plenumref05_Primary_t (m : Nat) : List AV → RO | [t0, t1] => plenumref05_Primary m t0 t1 | _ => none
theorem plenumref05_Primary_ok (m : Nat) : ∀ args X H', plenumref05_Primary_t m args = some (X, H') → ACp Tryd.prog GG 18 args X := by
  intro args X H' h
  unfold plenumref05_Primary_t at h
  split at h
  · exact tell_okK MIX (by intro f e h; cases h) (f := 18) (c := plenumref05_Primary_c) Tryd.func18 rfl (by kernel_rfl) _ rfl Tryd.ntmps18 (Nat.le_of_ble_eq_true rfl) plenumref05_Primary_h h
  · cases h
noncomputable def plenumref29_Who_c : Code := (Tryd.f41.body).getD .skip
def plenumref29_Who_h : Hint := (.two .n (.two .n (.join [9] (.two .n (.one (.lp [(9, ty_int, 1)] [1, 2, 3, 4, 9, 10] [9] (.two (.two .n (.two .n .n)) (.join [1, 2, 3, 4, 9, 10] (.one (.join [1, 2, 3, 4, 9, 10, 52] .n (.two .n .n))) .n))))) (.two .n .n))))
noncomputable def plenumref29_Who_env (m : Nat) : Env := []
noncomputable abbrev plenumref29_Who_fin : KO (AV × List AObj) := tellFK Tryd.prog [.tmp 8]
noncomputable def plenumref29_Who_r3 (m : Nat) (n0 : Nat) (kc : ASt → RO) (kx : KO (AV × List AObj)) (s : ASt) : RO := joinW Tryd.prog GG (plenumref29_Who_env m) m ⟨62, []⟩ (cdR (cdR (cdL (cdL (cdR (cdL (cdR (cdR plenumref29_Who_c)))))))) plenumref29_Who_h.r.r.l.r.c.c.r.r s (backW n0 [1, 2, 3, 4, 9, 10] [9] kc kx)
noncomputable def plenumref29_Who_r2 (m : Nat) (n0 : Nat) (kc : ASt → RO) (kx : KO (AV × List AObj)) (s : ASt) : RO := joinW Tryd.prog GG (plenumref29_Who_env m) m ⟨62, []⟩ (cdR (cdL (cdL (cdR (cdL (cdL (cdR (cdL (cdR (cdR plenumref29_Who_c)))))))))) plenumref29_Who_h.r.r.l.r.c.c.r.l.c.r s (blockX 1 (seqX (fun s => plenumref29_Who_r3 m n0 kc kx ⟨s.H, [(1, gt s.T 1), (2, gt s.T 2), (3, gt s.T 3), (4, gt s.T 4), (9, gt s.T 9), (10, gt s.T 10)]⟩) (backW n0 [1, 2, 3, 4, 9, 10] [9] kc kx)))
noncomputable def plenumref29_Who_r1 (m : Nat) (s : ASt) : RO := joinW Tryd.prog GG (plenumref29_Who_env m) m ⟨62, []⟩ (cdR (cdR (cdR plenumref29_Who_c))) plenumref29_Who_h.r.r.r s (plenumref29_Who_fin)
noncomputable def plenumref29_Who_b1 (m : Nat) (s : ASt) (kc : ASt → RO) (kx : KO (AV × List AObj)) : RO := bodyW Tryd.prog GG (plenumref29_Who_env m) m ⟨62, []⟩ (cdL (cdL (cdR (cdL (cdR (cdR plenumref29_Who_c)))))) plenumref29_Who_h.r.r.l.r.c.c [1, 2, 3, 4, 9, 10] [9] s kc kx
noncomputable def plenumref29_Who (m : Nat) (t0 t1 t2 t3 : AV) : RO := exec Tryd.prog GG (plenumref29_Who_env m) m ⟨62, []⟩ plenumref29_Who_c plenumref29_Who_h ⟨[], argsT 0 [t0, t1, t2, t3]⟩ (plenumref29_Who_fin)
theorem plenumref29_Who_r3_eq (m : Nat) (n0 : Nat) (kc : ASt → RO) (kx : KO (AV × List AObj)) (H : List AObj) (t1 t2 t3 t4 t9 t10 : AV) : plenumref29_Who_r3 m n0 kc kx ⟨H, [(1, t1), (2, t2), (3, t3), (4, t4), (9, t9), (10, t10)]⟩ =
  binE none false false .add t10 (V (.int .i64 1)) fun t16 =>
  backE n0 H [(1, t1), (2, t2), (3, t3), (4, t4), (9, t9), (10, t16)] kc := by
  refine (joinW_eq Tryd.prog GG (plenumref29_Who_env m) m ⟨62, []⟩ (cdR (cdR (cdL (cdL (cdR (cdL (cdR (cdR plenumref29_Who_c)))))))) plenumref29_Who_h.r.r.l.r.c.c.r.r ⟨H, [(1, t1), (2, t2), (3, t3), (4, t4), (9, t9), (10, t10)]⟩ (backW n0 [1, 2, 3, 4, 9, 10] [9] kc kx)).trans ?_
  kernel_rfl
theorem plenumref29_Who_r2_eq (m : Nat) (n0 : Nat) (kc : ASt → RO) (kx : KO (AV × List AObj)) (H : List AObj) (t1 t2 t3 t4 t9 t10 t52 : AV) : plenumref29_Who_r2 m n0 kc kx ⟨H, [(1, t1), (2, t2), (3, t3), (4, t4), (9, t9), (10, t10), (52, t52)]⟩ =
  condE t52 (
   idxSE 5 H t1 t10 fun t56 =>
   fieldE (some (0, 1)) t56 fun t57 =>
   loadE 1 H t57 fun t58 =>
   buildSE (some (ty_int, 1)) 1 [(0, t58)] fun t59 =>
   appE (some (ty_int, 1)) H t9 t59 fun t60 H2 =>
   plenumref29_Who_r3 m n0 kc kx ⟨H2, [(1, t1), (2, t2), (3, t3), (4, t4), (9, t60), (10, t10)]⟩) (
   plenumref29_Who_r3 m n0 kc kx ⟨H, [(1, t1), (2, t2), (3, t3), (4, t4), (9, t9), (10, t10)]⟩) := by
  refine (joinW_eq Tryd.prog GG (plenumref29_Who_env m) m ⟨62, []⟩ (cdR (cdL (cdL (cdR (cdL (cdL (cdR (cdL (cdR (cdR plenumref29_Who_c)))))))))) plenumref29_Who_h.r.r.l.r.c.c.r.l.c.r ⟨H, [(1, t1), (2, t2), (3, t3), (4, t4), (9, t9), (10, t10), (52, t52)]⟩ (blockX 1 (seqX (fun s => plenumref29_Who_r3 m n0 kc kx ⟨s.H, [(1, gt s.T 1), (2, gt s.T 2), (3, gt s.T 3), (4, gt s.T 4), (9, gt s.T 9), (10, gt s.T 10)]⟩) (backW n0 [1, 2, 3, 4, 9, 10] [9] kc kx)))).trans ?_
  kernel_rfl
theorem plenumref29_Who_r1_eq (m : Nat) (H : List AObj) (t9 : AV) : plenumref29_Who_r1 m ⟨H, [(9, t9)]⟩ =
  tellK H (ro H t9) := by
  refine (joinW_eq Tryd.prog GG (plenumref29_Who_env m) m ⟨62, []⟩ (cdR (cdR (cdR plenumref29_Who_c))) plenumref29_Who_h.r.r.r ⟨H, [(9, t9)]⟩ (plenumref29_Who_fin)).trans ?_
  kernel_rfl
theorem plenumref29_Who_b1_eq (m : Nat) (H : List AObj) (t1 t2 t3 t4 t9 t10 : AV) (kc : ASt → RO) (kx : KO (AV × List AObj)) : plenumref29_Who_b1 m ⟨H, [(1, t1), (2, t2), (3, t3), (4, t4), (9, t9), (10, t10)]⟩ kc kx =
  lenE false true H t1 fun t13 =>
  binE none false false .lss t10 t13 fun t14 =>
  condE t14 (
   idxSE 5 H t1 t10 fun t19 =>
   fieldE (some (0, 1)) t19 fun t20 =>
   loadE 1 H t20 fun t21 =>
   binE none false false .lss t21 t2 fun t23 =>
   condE t23 (
    idxSE 5 H t1 t10 fun t27 =>
    fieldE (some (0, 1)) t27 fun t28 =>
    loadE 1 H t28 fun t29 =>
    binE none false false .neq t29 t3 fun t31 =>
    condE t31 (
    idxSE 5 H t1 t10 fun t36 =>
    fieldE (some (1, 1)) t36 fun t37 =>
    loadE 1 H t37 fun t38 =>
    fieldE (some (1, 1)) t4 fun t39 =>
    loadE 1 H t39 fun t40 =>
    binE none false false .eql t38 t40 fun t41 =>
    condE t41 (
    idxSE 5 H t1 t10 fun t46 =>
    fieldE (some (2, 1)) t46 fun t47 =>
    loadE 1 H t47 fun t48 =>
    fieldE (some (2, 1)) t4 fun t49 =>
    loadE 1 H t49 fun t50 =>
    binE none false false .eql t48 t50 fun t51 =>
    plenumref29_Who_r2 m H.length kc kx ⟨H, [(1, t1), (2, t2), (3, t3), (4, t4), (9, t9), (10, t10), (52, t51)]⟩) (
    plenumref29_Who_r2 m H.length kc kx ⟨H, [(1, t1), (2, t2), (3, t3), (4, t4), (9, t9), (10, t10), (52, (V (.bool false)))]⟩)) (
    plenumref29_Who_r2 m H.length kc kx ⟨H, [(1, t1), (2, t2), (3, t3), (4, t4), (9, t9), (10, t10), (52, (V (.bool false)))]⟩)) (
    plenumref29_Who_r2 m H.length kc kx ⟨H, [(1, t1), (2, t2), (3, t3), (4, t4), (9, t9), (10, t10), (52, (V (.bool false)))]⟩)) (
   kx (.exit 0) ⟨H, [(9, t9)]⟩) := by
  refine (bodyW_eq Tryd.prog GG (plenumref29_Who_env m) m ⟨62, []⟩ (cdL (cdL (cdR (cdL (cdR (cdR plenumref29_Who_c)))))) plenumref29_Who_h.r.r.l.r.c.c [1, 2, 3, 4, 9, 10] [9] ⟨H, [(1, t1), (2, t2), (3, t3), (4, t4), (9, t9), (10, t10)]⟩ kc kx).trans ?_
  kernel_rfl
theorem plenumref29_Who_eq (m : Nat) (t0 t1 t2 t3 : AV) : plenumref29_Who m t0 t1 t2 t3 =
  boxE ty_api_Slot [] t0 fun t4 H1 =>
  rowE (V (.slice none 0 0)) ty_int 1 H1 fun t9 H2 =>
  iterC m (plenumref29_Who_b1 m) ⟨H2, [(1, t1), (2, t2), (3, t3), (4, t4), (9, t9), (10, (V (.int .i64 0)))]⟩ (blockX 0 (seqX (fun s => plenumref29_Who_r1 m ⟨s.H, [(9, gt s.T 9)]⟩) (plenumref29_Who_fin))) := by
  refine (tellX Tryd.prog GG (plenumref29_Who_env m) m ⟨62, []⟩ plenumref29_Who_c plenumref29_Who_h ⟨[], argsT 0 [t0, t1, t2, t3]⟩ [.tmp 8]).trans ?_
  kernel_rfl
noncomputable def plenumref29_Who_t (m : Nat) : List AV → RO | [t0, t1, t2, t3] => plenumref29_Who m t0 t1 t2 t3 | _ => none
theorem plenumref29_Who_ok (m : Nat) : ∀ args X H', plenumref29_Who_t m args = some (X, H') → ACp Tryd.prog GG 41 args X := by
  intro args X H' h
  unfold plenumref29_Who_t at h
  split at h
  · exact tell_okK MIX (by intro f e h; cases h) (f := 41) (c := plenumref29_Who_c) Tryd.func41 rfl (by kernel_rfl) _ rfl Tryd.ntmps41 (Nat.le_of_ble_eq_true rfl) plenumref29_Who_h h
  · cases h
noncomputable def plenumref29_Prepared_c : Code := (Tryd.f20.body).getD .skip
def plenumref29_Prepared_h : Hint := (.two .n (.two .n (.two .n .n)))
noncomputable def plenumref29_Prepared_env (m : Nat) : Env := [(23, .tell (plenumref05_Faults_t m)), (16, .tell (plenumref29_May_t m)), (18, .tell (plenumref05_Primary_t m)), (41, .tell (plenumref29_Who_t m))]
noncomputable abbrev plenumref29_Prepared_fin : KO (AV × List AObj) := tellFK Tryd.prog [.tmp 4]
noncomputable def plenumref29_Prepared (m : Nat) (t0 t1 : AV) : RO := exec Tryd.prog GG (plenumref29_Prepared_env m) m ⟨33, []⟩ plenumref29_Prepared_c plenumref29_Prepared_h ⟨[], argsT 0 [t0, t1]⟩ (plenumref29_Prepared_fin)
theorem plenumref29_Prepared_eq (m : Nat) (t0 t1 : AV) : plenumref29_Prepared m t0 t1 =
  boxE ty_api_Slot [] t0 fun t2 H1 =>
  tellE (plenumref05_Faults m (ro H1 t1)) [(ro H1 t1)] fun t7 =>
  binE none false false .gtr t7 (V (.int .i64 0)) fun t9 =>
  condE t9 (
   loadE 8 H1 t2 fun t11 =>
   tellE (plenumref29_May m (ro H1 t11)) [(ro H1 t11)] fun t12 =>
   condE t12 (
   fieldE (some (0, 1)) t2 fun t15 =>
   loadE 1 H1 t15 fun t16 =>
   condE t16 (
   loadE 8 H1 t2 fun t19 =>
   fieldE (some (4, 1)) t2 fun t20 =>
   loadE 1 H1 t20 fun t21 =>
   fieldE (some (1, 1)) t2 fun t23 =>
   loadE 1 H1 t23 fun t24 =>
   tellE (plenumref05_Primary m (ro H1 t24) (ro H1 t1)) [(ro H1 t24), (ro H1 t1)] fun t26 =>
   tellE (plenumref29_Who m (ro H1 t19) (ro H1 t21) (ro H1 t1) (ro H1 t26)) [(ro H1 t19), (ro H1 t21), (ro H1 t1), (ro H1 t26)] fun t27 =>
   lenE false true H1 t27 fun t28 =>
   binE none false false .mul (V (.int .i64 2)) t7 fun t30 =>
   binE none false false .geq t28 t30 fun t31 =>
   tellK H1 (ro H1 t31)) (
   tellK H1 (ro H1 (V (.bool false))))) (
   tellK H1 (ro H1 (V (.bool false))))) (
   tellK H1 (ro H1 (V (.bool false)))) := by
  refine (tellX Tryd.prog GG (plenumref29_Prepared_env m) m ⟨33, []⟩ plenumref29_Prepared_c plenumref29_Prepared_h ⟨[], argsT 0 [t0, t1]⟩ [.tmp 4]).trans ?_
  kernel_rfl
noncomputable def plenumref29_Prepared_t (m : Nat) : List AV → RO | [t0, t1] => plenumref29_Prepared m t0 t1 | _ => none
theorem plenumref29_Prepared_ok (m : Nat) : ∀ args X H', plenumref29_Prepared_t m args = some (X, H') → ACp Tryd.prog GG 20 args X := by
  intro args X H' h
  unfold plenumref29_Prepared_t at h
  split at h
  · exact tell_okK MIX (by
    intro f e h
    simp only [plenumref29_Prepared_env, Prod.mk.injEq, List.mem_cons, List.not_mem_nil, or_false] at h
    rcases h with ⟨rfl, rfl⟩ | ⟨rfl, rfl⟩ | ⟨rfl, rfl⟩ | ⟨rfl, rfl⟩
    · exact plenumref05_Faults_ok m
    · exact plenumref29_May_ok m
    · exact plenumref05_Primary_ok m
    · exact plenumref29_Who_ok m) (f := 20) (c := plenumref29_Prepared_c) Tryd.func20 rfl (by kernel_rfl) _ rfl Tryd.ntmps20 (Nat.le_of_ble_eq_true rfl) plenumref29_Prepared_h h
  · cases h
noncomputable def plenumref29_Committed_c : Code := (Tryd.f22.body).getD .skip
def plenumref29_Committed_h : Hint := (.two .n (.two .n .n))
noncomputable def plenumref29_Committed_env (m : Nat) : Env := [(20, .tell (plenumref29_Prepared_t m)), (41, .tell (plenumref29_Who_t m)), (23, .tell (plenumref05_Faults_t m))]
noncomputable abbrev plenumref29_Committed_fin : KO (AV × List AObj) := tellFK Tryd.prog [.tmp 4]
noncomputable def plenumref29_Committed (m : Nat) (t0 t1 : AV) : RO := exec Tryd.prog GG (plenumref29_Committed_env m) m ⟨21, []⟩ plenumref29_Committed_c plenumref29_Committed_h ⟨[], argsT 0 [t0, t1]⟩ (plenumref29_Committed_fin)
theorem plenumref29_Committed_eq (m : Nat) (t0 t1 : AV) : plenumref29_Committed m t0 t1 =
  boxE ty_api_Slot [] t0 fun t2 H1 =>
  loadE 8 H1 t2 fun t5 =>
  tellE (plenumref29_Prepared m (ro H1 t5) (ro H1 t1)) [(ro H1 t5), (ro H1 t1)] fun t7 =>
  condE t7 (
   loadE 8 H1 t2 fun t9 =>
   fieldE (some (5, 1)) t2 fun t10 =>
   loadE 1 H1 t10 fun t11 =>
   tellE (plenumref29_Who m (ro H1 t9) (ro H1 t11) (ro H1 t1) (V (.int .i64 (-1)))) [(ro H1 t9), (ro H1 t11), (ro H1 t1), (V (.int .i64 (-1)))] fun t13 =>
   lenE false true H1 t13 fun t14 =>
   tellE (plenumref05_Faults m (ro H1 t1)) [(ro H1 t1)] fun t16 =>
   binE none false false .mul (V (.int .i64 2)) t16 fun t17 =>
   binE none false false .add t17 (V (.int .i64 1)) fun t18 =>
   binE none false false .geq t14 t18 fun t19 =>
   tellK H1 (ro H1 t19)) (
   tellK H1 (ro H1 (V (.bool false)))) := by
  refine (tellX Tryd.prog GG (plenumref29_Committed_env m) m ⟨21, []⟩ plenumref29_Committed_c plenumref29_Committed_h ⟨[], argsT 0 [t0, t1]⟩ [.tmp 4]).trans ?_
  kernel_rfl
noncomputable def plenumref29_Committed_t (m : Nat) : List AV → RO | [t0, t1] => plenumref29_Committed m t0 t1 | _ => none
theorem plenumref29_Committed_ok (m : Nat) : ∀ args X H', plenumref29_Committed_t m args = some (X, H') → ACp Tryd.prog GG 22 args X := by
  intro args X H' h
  unfold plenumref29_Committed_t at h
  split at h
  · exact tell_okK MIX (by
    intro f e h
    simp only [plenumref29_Committed_env, Prod.mk.injEq, List.mem_cons, List.not_mem_nil, or_false] at h
    rcases h with ⟨rfl, rfl⟩ | ⟨rfl, rfl⟩ | ⟨rfl, rfl⟩
    · exact plenumref29_Prepared_ok m
    · exact plenumref29_Who_ok m
    · exact plenumref05_Faults_ok m) (f := 22) (c := plenumref29_Committed_c) Tryd.func22 rfl (by kernel_rfl) _ rfl Tryd.ntmps22 (Nat.le_of_ble_eq_true rfl) plenumref29_Committed_h h
  · cases h
noncomputable def plenumref29_Votes_c : Code := (Tryd.f34.body).getD .skip
def plenumref29_Votes_h : Hint := (.two .n (.two (.two .n (.two (.two .n .n) .n)) (.join [] (.two .n (.one (.lp [] [0, 1, 5] [4] (.two (.two .n (.two .n .n)) (.two (.one (.two .n (.two (.two .n .n) .n))) .n))))) (.two .n .n))))
noncomputable def plenumref29_Votes_env (m : Nat) : Env := []
noncomputable abbrev plenumref29_Votes_fin : KO (AV × List AObj) := tellFK Tryd.prog [.tmp 4]
noncomputable def plenumref29_Votes_r1 (m : Nat) (s : ASt) : RO := joinW Tryd.prog GG (plenumref29_Votes_env m) m ⟨26, []⟩ (cdR (cdR (cdR plenumref29_Votes_c))) plenumref29_Votes_h.r.r.r s (plenumref29_Votes_fin)
noncomputable def plenumref29_Votes_b1 (m : Nat) (s : ASt) (kc : ASt → RO) (kx : KO (AV × List AObj)) : RO := bodyW Tryd.prog GG (plenumref29_Votes_env m) m ⟨26, []⟩ (cdL (cdL (cdR (cdL (cdR (cdR plenumref29_Votes_c)))))) plenumref29_Votes_h.r.r.l.r.c.c [0, 1, 5] [4] s kc kx
noncomputable def plenumref29_Votes (m : Nat) (t0 t1 : AV) : RO := exec Tryd.prog GG (plenumref29_Votes_env m) m ⟨26, []⟩ plenumref29_Votes_c plenumref29_Votes_h ⟨[], argsT 0 [t0, t1]⟩ (plenumref29_Votes_fin)
theorem plenumref29_Votes_r1_eq (m : Nat) (H : List AObj) : plenumref29_Votes_r1 m ⟨H, []⟩ =
  tellK H (ro H (V (.bool true))) := by
  refine (joinW_eq Tryd.prog GG (plenumref29_Votes_env m) m ⟨26, []⟩ (cdR (cdR (cdR plenumref29_Votes_c))) plenumref29_Votes_h.r.r.r ⟨H, []⟩ (plenumref29_Votes_fin)).trans ?_
  kernel_rfl
theorem plenumref29_Votes_b1_eq (m : Nat) (H : List AObj) (t0 t1 t5 : AV) (kc : ASt → RO) (kx : KO (AV × List AObj)) : plenumref29_Votes_b1 m ⟨H, [(0, t0), (1, t1), (5, t5)]⟩ kc kx =
  lenE false true H t0 fun t13 =>
  binE none false false .lss t5 t13 fun t14 =>
  condE t14 (
   idxSE 5 H t0 t5 fun t19 =>
   loadE 5 H t19 fun t20 =>
   idxSE 5 H t1 t5 fun t23 =>
   loadE 5 H t23 fun t24 =>
   binE (some [.i .i64, .i .i64, .i .i64]) false false .neq t20 t24 fun t25 =>
   condE t25 (
    kx .ret ⟨H, [(4, (V (.bool false)))]⟩) (
    binE none false false .add t5 (V (.int .i64 1)) fun t16 =>
    backE H.length H [(0, t0), (1, t1), (5, t16)] kc)) (
   kx (.exit 0) ⟨H, [(4, .nil)]⟩) := by
  refine (bodyW_eq Tryd.prog GG (plenumref29_Votes_env m) m ⟨26, []⟩ (cdL (cdL (cdR (cdL (cdR (cdR plenumref29_Votes_c)))))) plenumref29_Votes_h.r.r.l.r.c.c [0, 1, 5] [4] ⟨H, [(0, t0), (1, t1), (5, t5)]⟩ kc kx).trans ?_
  kernel_rfl
theorem plenumref29_Votes_eq (m : Nat) (t0 t1 : AV) : plenumref29_Votes m t0 t1 =
  lenE false true [] t0 fun t7 =>
  lenE false true [] t1 fun t9 =>
  binE none false false .neq t7 t9 fun t10 =>
  condE t10 (
   tellK [] (ro [] (V (.bool false)))) (
   iterC m (plenumref29_Votes_b1 m) ⟨[], [(0, t0), (1, t1), (5, (V (.int .i64 0)))]⟩ (blockX 0 (seqX (fun s => plenumref29_Votes_r1 m ⟨s.H, []⟩) (plenumref29_Votes_fin)))) := by
  refine (tellX Tryd.prog GG (plenumref29_Votes_env m) m ⟨26, []⟩ plenumref29_Votes_c plenumref29_Votes_h ⟨[], argsT 0 [t0, t1]⟩ [.tmp 4]).trans ?_
  kernel_rfl
noncomputable def plenumref29_Votes_t (m : Nat) : List AV → RO | [t0, t1] => plenumref29_Votes m t0 t1 | _ => none
theorem plenumref29_Votes_ok (m : Nat) : ∀ args X H', plenumref29_Votes_t m args = some (X, H') → ACp Tryd.prog GG 34 args X := by
  intro args X H' h
  unfold plenumref29_Votes_t at h
  split at h
  · exact tell_okK MIX (by intro f e h; cases h) (f := 34) (c := plenumref29_Votes_c) Tryd.func34 rfl (by kernel_rfl) _ rfl Tryd.ntmps34 (Nat.le_of_ble_eq_true rfl) plenumref29_Votes_h h
  · cases h
noncomputable def plenumref29_Same_c : Code := (Tryd.f14.body).getD .skip
def plenumref29_Same_h : Hint := (.two .n (.two .n .n))
noncomputable def plenumref29_Same_env (m : Nat) : Env := [(34, .tell (plenumref29_Votes_t m))]
noncomputable abbrev plenumref29_Same_fin : KO (AV × List AObj) := tellFK Tryd.prog [.tmp 4]
noncomputable def plenumref29_Same (m : Nat) (t0 t1 : AV) : RO := exec Tryd.prog GG (plenumref29_Same_env m) m ⟨45, []⟩ plenumref29_Same_c plenumref29_Same_h ⟨[], argsT 0 [t0, t1]⟩ (plenumref29_Same_fin)
theorem plenumref29_Same_eq (m : Nat) (t0 t1 : AV) : plenumref29_Same m t0 t1 =
  boxE ty_api_Slot [] t0 fun t2 H1 =>
  boxE ty_api_Slot H1 t1 fun t3 H2 =>
  fieldE (some (0, 1)) t2 fun t5 =>
  loadE 1 H2 t5 fun t6 =>
  fieldE (some (0, 1)) t3 fun t7 =>
  loadE 1 H2 t7 fun t8 =>
  binE none true false .eql t6 t8 fun t9 =>
  condE t9 (
   fieldE (some (1, 1)) t2 fun t11 =>
   loadE 1 H2 t11 fun t12 =>
   fieldE (some (1, 1)) t3 fun t13 =>
   loadE 1 H2 t13 fun t14 =>
   binE none false false .eql t12 t14 fun t15 =>
   condE t15 (
   fieldE (some (2, 1)) t2 fun t18 =>
   loadE 1 H2 t18 fun t19 =>
   fieldE (some (2, 1)) t3 fun t20 =>
   loadE 1 H2 t20 fun t21 =>
   binE none false false .eql t19 t21 fun t22 =>
   condE t22 (
   fieldE (some (3, 1)) t2 fun t25 =>
   loadE 1 H2 t25 fun t26 =>
   fieldE (some (3, 1)) t3 fun t27 =>
   loadE 1 H2 t27 fun t28 =>
   binE none false false .eql t26 t28 fun t29 =>
   condE t29 (
   fieldE (some (4, 1)) t2 fun t32 =>
   loadE 1 H2 t32 fun t33 =>
   fieldE (some (4, 1)) t3 fun t34 =>
   loadE 1 H2 t34 fun t35 =>
   tellE (plenumref29_Votes m (ro H2 t33) (ro H2 t35)) [(ro H2 t33), (ro H2 t35)] fun t36 =>
   condE t36 (
   fieldE (some (5, 1)) t2 fun t39 =>
   loadE 1 H2 t39 fun t40 =>
   fieldE (some (5, 1)) t3 fun t41 =>
   loadE 1 H2 t41 fun t42 =>
   tellE (plenumref29_Votes m (ro H2 t40) (ro H2 t42)) [(ro H2 t40), (ro H2 t42)] fun t43 =>
   tellK H2 (ro H2 t43)) (
   tellK H2 (ro H2 (V (.bool false))))) (
   tellK H2 (ro H2 (V (.bool false))))) (
   tellK H2 (ro H2 (V (.bool false))))) (
   tellK H2 (ro H2 (V (.bool false))))) (
   tellK H2 (ro H2 (V (.bool false)))) := by
  refine (tellX Tryd.prog GG (plenumref29_Same_env m) m ⟨45, []⟩ plenumref29_Same_c plenumref29_Same_h ⟨[], argsT 0 [t0, t1]⟩ [.tmp 4]).trans ?_
  kernel_rfl
noncomputable def plenumref29_Same_t (m : Nat) : List AV → RO | [t0, t1] => plenumref29_Same m t0 t1 | _ => none
theorem plenumref29_Same_ok (m : Nat) : ∀ args X H', plenumref29_Same_t m args = some (X, H') → ACp Tryd.prog GG 14 args X := by
  intro args X H' h
  unfold plenumref29_Same_t at h
  split at h
  · exact tell_okK MIX (by
    intro f e h
    simp only [plenumref29_Same_env, Prod.mk.injEq, List.mem_cons, List.not_mem_nil, or_false] at h
    obtain ⟨rfl, rfl⟩ := h
    · exact plenumref29_Votes_ok m) (f := 14) (c := plenumref29_Same_c) Tryd.func14 rfl (by kernel_rfl) _ rfl Tryd.ntmps14 (Nat.le_of_ble_eq_true rfl) plenumref29_Same_h h
  · cases h
noncomputable def plenumlaw29_text_c : Code := (Tryd.f7.body).getD .skip
def plenumlaw29_text_h : Hint := (.two .n (.two (.two .n (.two (.two .n .n) .n)) (.two .n .n)))
noncomputable def plenumlaw29_text_env (m : Nat) : Env := []
noncomputable abbrev plenumlaw29_text_fin : KO (AV × List AObj) := tellFK Tryd.prog [.tmp 2]
noncomputable def plenumlaw29_text (m : Nat) (t0 : AV) : RO := exec Tryd.prog GG (plenumlaw29_text_env m) m ⟨9, []⟩ plenumlaw29_text_c plenumlaw29_text_h ⟨[], argsT 0 [t0]⟩ (plenumlaw29_text_fin)
theorem plenumlaw29_text_eq (m : Nat) (t0 : AV) : plenumlaw29_text m t0 =
  lenE true false [] t0 fun t4 =>
  binE none false false .gtr t4 (V (.int .i64 65540)) fun t5 =>
  condE t5 (
   sliceE true none [] t0 none (some (V (.int .i64 65540))) fun t7 =>
   tellK [] (ro [] t7)) (
   tellK [] (ro [] t0)) := by
  refine (tellX Tryd.prog GG (plenumlaw29_text_env m) m ⟨9, []⟩ plenumlaw29_text_c plenumlaw29_text_h ⟨[], argsT 0 [t0]⟩ [.tmp 2]).trans ?_
  kernel_rfl
noncomputable def plenumlaw29_text_t (m : Nat) : List AV → RO | [t0] => plenumlaw29_text m t0 | _ => none
theorem plenumlaw29_text_ok (m : Nat) : ∀ args X H', plenumlaw29_text_t m args = some (X, H') → ACp Tryd.prog GG 7 args X := by
  intro args X H' h
  unfold plenumlaw29_text_t at h
  split at h
  · exact tell_okK MIX (by intro f e h; cases h) (f := 7) (c := plenumlaw29_text_c) Tryd.func7 rfl (by kernel_rfl) _ rfl Tryd.ntmps7 (Nat.le_of_ble_eq_true rfl) plenumlaw29_text_h h
  · cases h
noncomputable def plenumlaw29_Few_c : Code := (Tryd.f6.body).getD .skip
def plenumlaw29_Few_h : Hint := (.two .n (.join [1, 2] (.two .n (.two .n .n)) (.join [1, 2] (.two .n (.two .n .n)) (.two .n (.two .n .n)))))
noncomputable def plenumlaw29_Few_env (m : Nat) : Env := [(7, .tell (plenumlaw29_text_t m))]
noncomputable abbrev plenumlaw29_Few_fin : KO (AV × List AObj) := tellFK Tryd.prog [.cell 2 24]
noncomputable def plenumlaw29_Few_r2 (m : Nat) (s : ASt) : RO := joinW Tryd.prog GG (plenumlaw29_Few_env m) m ⟨24, []⟩ (cdR (cdR (cdR plenumlaw29_Few_c))) plenumlaw29_Few_h.r.r.r s (plenumlaw29_Few_fin)
noncomputable def plenumlaw29_Few_r1 (m : Nat) (s : ASt) : RO := joinW Tryd.prog GG (plenumlaw29_Few_env m) m ⟨24, []⟩ (cdR (cdR plenumlaw29_Few_c)) plenumlaw29_Few_h.r.r s (plenumlaw29_Few_fin)
noncomputable def plenumlaw29_Few (m : Nat) (t0 : AV) : RO := exec Tryd.prog GG (plenumlaw29_Few_env m) m ⟨24, []⟩ plenumlaw29_Few_c plenumlaw29_Few_h ⟨[], argsT 0 [t0]⟩ (plenumlaw29_Few_fin)
theorem plenumlaw29_Few_r2_eq (m : Nat) (H : List AObj) (t1 t2 : AV) : plenumlaw29_Few_r2 m ⟨H, [(1, t1), (2, t2)]⟩ =
  fieldE (some (3, 1)) t1 fun t19 =>
  loadE 1 H t19 fun t20 =>
  tellE (plenumlaw29_text m (ro H t20)) [(ro H t20)] fun t21 =>
  fieldE (some (3, 1)) t1 fun t22 =>
  storeE 1 H t22 t21 fun H2 =>
  loadE 8 H2 t1 fun t23 =>
  storeE 8 H2 t2 t23 fun H3 =>
  loadE 8 H3 t2 fun t9000 =>
  tellK H3 (ro H3 t9000) := by
  refine (joinW_eq Tryd.prog GG (plenumlaw29_Few_env m) m ⟨24, []⟩ (cdR (cdR (cdR plenumlaw29_Few_c))) plenumlaw29_Few_h.r.r.r ⟨H, [(1, t1), (2, t2)]⟩ (plenumlaw29_Few_fin)).trans ?_
  kernel_rfl
theorem plenumlaw29_Few_r1_eq (m : Nat) (H : List AObj) (t1 t2 : AV) : plenumlaw29_Few_r1 m ⟨H, [(1, t1), (2, t2)]⟩ =
  fieldE (some (5, 1)) t1 fun t11 =>
  loadE 1 H t11 fun t12 =>
  lenE false true H t12 fun t13 =>
  binE none false false .gtr t13 (V (.int .i64 66)) fun t14 =>
  condE t14 (
   fieldE (some (5, 1)) t1 fun t15 =>
   loadE 1 H t15 fun t16 =>
   sliceE false (some (ty_api_Vote, 5)) H t16 none (some (V (.int .i64 66))) fun t17 =>
   fieldE (some (5, 1)) t1 fun t18 =>
   storeE 1 H t18 t17 fun H2 =>
   plenumlaw29_Few_r2 m ⟨H2, [(1, t1), (2, t2)]⟩) (
   plenumlaw29_Few_r2 m ⟨H, [(1, t1), (2, t2)]⟩) := by
  refine (joinW_eq Tryd.prog GG (plenumlaw29_Few_env m) m ⟨24, []⟩ (cdR (cdR plenumlaw29_Few_c)) plenumlaw29_Few_h.r.r ⟨H, [(1, t1), (2, t2)]⟩ (plenumlaw29_Few_fin)).trans ?_
  kernel_rfl
theorem plenumlaw29_Few_eq (m : Nat) (t0 : AV) : plenumlaw29_Few m t0 =
  boxE ty_api_Slot [] t0 fun t1 H1 =>
  allocE (some zc_api_Slot) ty_api_Slot H1 fun t2 H2 =>
  fieldE (some (4, 1)) t1 fun t3 =>
  loadE 1 H2 t3 fun t4 =>
  lenE false true H2 t4 fun t5 =>
  binE none false false .gtr t5 (V (.int .i64 66)) fun t6 =>
  condE t6 (
   fieldE (some (4, 1)) t1 fun t7 =>
   loadE 1 H2 t7 fun t8 =>
   sliceE false (some (ty_api_Vote, 5)) H2 t8 none (some (V (.int .i64 66))) fun t9 =>
   fieldE (some (4, 1)) t1 fun t10 =>
   storeE 1 H2 t10 t9 fun H3 =>
   plenumlaw29_Few_r1 m ⟨H3, [(1, t1), (2, t2)]⟩) (
   plenumlaw29_Few_r1 m ⟨H2, [(1, t1), (2, t2)]⟩) := by
  refine (tellX Tryd.prog GG (plenumlaw29_Few_env m) m ⟨24, []⟩ plenumlaw29_Few_c plenumlaw29_Few_h ⟨[], argsT 0 [t0]⟩ [.cell 2 24]).trans ?_
  kernel_rfl
noncomputable def plenumlaw29_Few_t (m : Nat) : List AV → RO | [t0] => plenumlaw29_Few m t0 | _ => none
theorem plenumlaw29_Few_ok (m : Nat) : ∀ args X H', plenumlaw29_Few_t m args = some (X, H') → ACp Tryd.prog GG 6 args X := by
  intro args X H' h
  unfold plenumlaw29_Few_t at h
  split at h
  · exact tell_okK MIX (by
    intro f e h
    simp only [plenumlaw29_Few_env, Prod.mk.injEq, List.mem_cons, List.not_mem_nil, or_false] at h
    obtain ⟨rfl, rfl⟩ := h
    · exact plenumlaw29_text_ok m) (f := 6) (c := plenumlaw29_Few_c) Tryd.func6 rfl (by kernel_rfl) _ rfl Tryd.ntmps6 (Nat.le_of_ble_eq_true rfl) plenumlaw29_Few_h h
  · cases h
noncomputable def plenumlaw29_votesOf_c : Code := (Tryd.f24.body).getD .skip
def plenumlaw29_votesOf_h : Hint := (.two .n (.join [4] (.two .n (.one (.lp [] [0, 1, 4, 6] [4, 5] (.two (.two .n (.two .n .n)) (.two (.one (.two .n (.two (.two .n .n) .n))) .n))))) (.two .n .n)))
noncomputable def plenumlaw29_votesOf_env (m : Nat) : Env := []
noncomputable abbrev plenumlaw29_votesOf_fin : KO (AV × List AObj) := tellFK Tryd.prog [.cell 4 26, .tmp 5]
noncomputable def plenumlaw29_votesOf_r1 (m : Nat) (s : ASt) : RO := joinW Tryd.prog GG (plenumlaw29_votesOf_env m) m ⟨25, []⟩ (cdR (cdR plenumlaw29_votesOf_c)) plenumlaw29_votesOf_h.r.r s (plenumlaw29_votesOf_fin)
noncomputable def plenumlaw29_votesOf_b1 (m : Nat) (s : ASt) (kc : ASt → RO) (kx : KO (AV × List AObj)) : RO := bodyW Tryd.prog GG (plenumlaw29_votesOf_env m) m ⟨25, []⟩ (cdL (cdL (cdR (cdL (cdR plenumlaw29_votesOf_c))))) plenumlaw29_votesOf_h.r.l.r.c.c [0, 1, 4, 6] [4, 5] s kc kx
noncomputable def plenumlaw29_votesOf (m : Nat) (t0 t1 : AV) : RO := exec Tryd.prog GG (plenumlaw29_votesOf_env m) m ⟨25, []⟩ plenumlaw29_votesOf_c plenumlaw29_votesOf_h ⟨[], argsT 0 [t0, t1]⟩ (plenumlaw29_votesOf_fin)
theorem plenumlaw29_votesOf_r1_eq (m : Nat) (H : List AObj) (t4 : AV) : plenumlaw29_votesOf_r1 m ⟨H, [(4, t4)]⟩ =
  buildE (some pl_api_Vote) (some zc_api_Vote) [] fun t24 =>
  storeE 5 H t4 t24 fun H2 =>
  loadE 5 H2 t4 fun t9000 =>
  tellK H2 (ro H2 (TU [noT t9000, noT (V (.bool false))])) := by
  refine (joinW_eq Tryd.prog GG (plenumlaw29_votesOf_env m) m ⟨25, []⟩ (cdR (cdR plenumlaw29_votesOf_c)) plenumlaw29_votesOf_h.r.r ⟨H, [(4, t4)]⟩ (plenumlaw29_votesOf_fin)).trans ?_
  kernel_rfl
theorem plenumlaw29_votesOf_b1_eq (m : Nat) (H : List AObj) (t0 t1 t4 t6 : AV) (kc : ASt → RO) (kx : KO (AV × List AObj)) : plenumlaw29_votesOf_b1 m ⟨H, [(0, t0), (1, t1), (4, t4), (6, t6)]⟩ kc kx =
  lenE false true H t0 fun t9 =>
  binE none false false .lss t6 t9 fun t10 =>
  condE t10 (
   idxSE 5 H t0 t6 fun t15 =>
   fieldE (some (0, 1)) t15 fun t16 =>
   loadE 1 H t16 fun t17 =>
   binE none false false .eql t17 t1 fun t19 =>
   condE t19 (
    idxSE 5 H t0 t6 fun t22 =>
    loadE 5 H t22 fun t23 =>
    storeE 5 H t4 t23 fun H2 =>
    kx .ret ⟨H2, [(4, t4), (5, (V (.bool true)))]⟩) (
    binE none false false .add t6 (V (.int .i64 1)) fun t12 =>
    backE H.length H [(0, t0), (1, t1), (4, t4), (6, t12)] kc)) (
   kx (.exit 0) ⟨H, [(4, t4), (5, .nil)]⟩) := by
  refine (bodyW_eq Tryd.prog GG (plenumlaw29_votesOf_env m) m ⟨25, []⟩ (cdL (cdL (cdR (cdL (cdR plenumlaw29_votesOf_c))))) plenumlaw29_votesOf_h.r.l.r.c.c [0, 1, 4, 6] [4, 5] ⟨H, [(0, t0), (1, t1), (4, t4), (6, t6)]⟩ kc kx).trans ?_
  kernel_rfl
theorem plenumlaw29_votesOf_eq (m : Nat) (t0 t1 : AV) : plenumlaw29_votesOf m t0 t1 =
  allocE (some zc_api_Vote) ty_api_Vote [] fun t4 H1 =>
  iterC m (plenumlaw29_votesOf_b1 m) ⟨H1, [(0, t0), (1, t1), (4, t4), (6, (V (.int .i64 0)))]⟩ (blockX 0 (seqX (fun s => plenumlaw29_votesOf_r1 m ⟨s.H, [(4, gt s.T 4)]⟩) (plenumlaw29_votesOf_fin))) := by
  refine (tellX Tryd.prog GG (plenumlaw29_votesOf_env m) m ⟨25, []⟩ plenumlaw29_votesOf_c plenumlaw29_votesOf_h ⟨[], argsT 0 [t0, t1]⟩ [.cell 4 26, .tmp 5]).trans ?_
  kernel_rfl
noncomputable def plenumlaw29_votesOf_t (m : Nat) : List AV → RO | [t0, t1] => plenumlaw29_votesOf m t0 t1 | _ => none
theorem plenumlaw29_votesOf_ok (m : Nat) : ∀ args X H', plenumlaw29_votesOf_t m args = some (X, H') → ACp Tryd.prog GG 24 args X := by
  intro args X H' h
  unfold plenumlaw29_votesOf_t at h
  split at h
  · exact tell_okK MIX (by intro f e h; cases h) (f := 24) (c := plenumlaw29_votesOf_c) Tryd.func24 rfl (by kernel_rfl) _ rfl Tryd.ntmps24 (Nat.le_of_ble_eq_true rfl) plenumlaw29_votesOf_h h
  · cases h
end Go.Proofs.YtaaafkoeddgaaaaDoor

namespace Go.Proofs.YtaaafkoeddgaaaaDoor
open Go.RowKit
set_option linter.unusedVariables false
set_option linter.unusedSimpArgs false
set_option maxRecDepth 20000
theorem natInt (k : Nat) : ((k : Int)).toNat = k := Int.toNat_natCast k
theorem u_addS {R : Type} {X : AV} {Y H : List AObj} {K : AV → List AObj → Option R} : addE (some (X, Y)) H K = K X (H ++ Y) := _root_.id rfl
structure Vo where
  fr : Int
  vw : Int
  tm : Int
deriving DecidableEq
structure So where
  has : Bool
  vw : Int
  tm : Int
  body : List UInt8
  p : List Vo
  c : List Vo
deriving DecidableEq
def Vo.zero : Vo := ⟨0, 0, 0⟩
def vC (x : Vo) : List AV := [nA x.fr, nA x.vw, nA x.tm]
def vE (x : Vo) : AV := .agg (vC x)
abbrev sCn (h : Bool) (v t : Int) (b : List UInt8) (p c : AV) : List AV := [bA h, nA v, nA t, sA b, p, c]
def SC (s : So) : List AV := sCn s.has s.vw s.tm s.body (SL (s.p.map vE)) (SL (s.c.map vE))
def SE (s : So) : AV := .agg (SC s)
theorem vE_it (x : Vo) : vE x = .agg (vC x) := _root_.id rfl
theorem SE_it (s : So) : SE s = .agg (SC s) := _root_.id rfl
section
variable {R : Type} {x y : Vo} {s t : So} {n : Nat} {H : List AObj} {K1 : AV → Option R} {a b c : Int} {l l2 : List Vo}
theorem vc_len : (vC x).length = 3 := _root_.id rfl
theorem vc_sure : (vC x).all sure = true := _root_.id rfl
theorem vc_ltA : (vC x).all (ltA n) = true := _root_.id rfl
theorem vc_lt1 : (vC x).all (lt1 n) = true := _root_.id rfl
theorem vc_all1 : ((vC x).all fun y => lt1 n (ro1 H y)) = true := _root_.id rfl
theorem vc_ro : (vC x).map (ro1 H) = vC x := _root_.id rfl
theorem vc_take : (vC x).take 3 = vC x := _root_.id rfl
theorem vc_sl : ((vC x).all fun y => sure y && lt1 n y) = true := _root_.id rfl
theorem vc_set : setCells (vC y) 0 (vC x) = vC x := _root_.id rfl
theorem vc_fr : nthE (vC x) 0 K1 = K1 (nA x.fr) := _root_.id rfl
theorem vc_vw : nthE (vC x) 1 K1 = K1 (nA x.vw) := _root_.id rfl
theorem vc_tm : nthE (vC x) 2 K1 = K1 (nA x.tm) := _root_.id rfl
theorem zcV_eq : zc_api_Vote = vC Vo.zero := _root_.id rfl
theorem sc_len : (SC s).length = 6 := _root_.id rfl
theorem sc_sure : (SC s).all sure = true := _root_.id rfl
theorem sc_ltA : (SC s).all (ltA n) = true := _root_.id rfl
theorem sc_lt1 : (SC s).all (lt1 n) = true := _root_.id rfl
theorem sc_all1 : ((SC s).all fun y => lt1 n (ro1 H y)) = true := _root_.id rfl
theorem sc_ro : (SC s).map (ro1 H) = SC s := _root_.id rfl
theorem sc_take : (SC s).take 6 = SC s := _root_.id rfl
theorem sc_set : setCells (SC t) 0 (SC s) = SC s := _root_.id rfl
theorem sc_has : nthE (SC s) 0 K1 = K1 (bA s.has) := _root_.id rfl
theorem sc_vw : nthE (SC s) 1 K1 = K1 (nA s.vw) := _root_.id rfl
theorem sc_tm : nthE (SC s) 2 K1 = K1 (nA s.tm) := _root_.id rfl
theorem sc_body : nthE (SC s) 3 K1 = K1 (sA s.body) := _root_.id rfl
theorem sc_p : nthE (SC s) 4 K1 = K1 (SL (s.p.map vE)) := _root_.id rfl
theorem sc_c : nthE (SC s) 5 K1 = K1 (SL (s.c.map vE)) := _root_.id rfl
theorem sc_setP : setCells (SC s) 4 [SL (l.map vE)] = SC { s with p := l } := _root_.id rfl
theorem sc_setC : setCells (SC s) 5 [SL (l.map vE)] = SC { s with c := l } := _root_.id rfl
def SZ : So := ⟨false, 0, 0, [], [], []⟩
theorem zs_len : zc_api_Slot.length = 6 := _root_.id rfl
theorem zs_sure : zc_api_Slot.all sure = true := _root_.id rfl
theorem zs_ltA : zc_api_Slot.all (lt1 n) = true := _root_.id rfl
theorem zs_ro : zc_api_Slot.map (ro1 H) = SC SZ := _root_.id rfl
theorem zs_set : setCells zc_api_Slot 0 zc_api_Slot = zc_api_Slot := _root_.id rfl
theorem zs_set2 : setCells zc_api_Slot 0 (SC s) = SC s := _root_.id rfl
theorem zs_set3 : setCells (SC s) 0 zc_api_Slot = zc_api_Slot := _root_.id rfl
theorem zs_take : zc_api_Slot.take 6 = zc_api_Slot := _root_.id rfl
theorem zs_b : buildE (some pl_api_Slot) (some zc_api_Slot) [] K1 = K1 (.agg zc_api_Slot) := _root_.id rfl
theorem vs_ltA {l : List Vo} : (l.all fun x => ltA n (vE x)) = true := List.all_eq_true.2 fun _ _ => rfl
theorem vs_len3 {l : List Vo} : (l.all fun x => decide ((cellsOf (vE x)).length = 3)) = true := List.all_eq_true.2 fun _ _ => rfl
end
attribute [local go_sem] Nat.zero_add Nat.add_zero Nat.mul_one Int.toNat_natCast Int.natCast_zero Int.cast_ofNat_Int or_false false_or or_true true_or Nat.sub_zero Int.natCast_nonneg Int.toNat_zero Bool.true_and Bool.and_true Bool.false_and Bool.and_false Bool.true_or Bool.or_true Bool.false_or Bool.or_false Bool.not_true Bool.not_false Bool.not_not true_and and_true false_and and_false not_true_eq_false not_false_eq_true eq_self decide_true decide_false ne_eq implies_true forall_const true_implies false_implies Bool.true_eq_false Bool.false_eq_true List.map_cons List.map_nil List.all_cons List.all_nil List.length_cons List.length_nil List.length_map List.length_append List.nil_append List.cons_append List.set_cons_zero List.set_cons_succ List.set_nil List.drop_zero List.drop_succ_cons List.drop_nil List.take_zero List.take_succ_cons List.take_nil Option.map_some Option.map_none Option.isSome_some List.all_append List.all_map Function.comp_def decide_eq_true_eq Bool.and_eq_true beq_self_eq_true or_self and_self ite_true ite_false Nat.le_refl Bool.not_eq_true decide_not Bool.not_eq_true' decide_eq_false_iff_not Bool.not_eq_false Bool.or_eq_true if_true if_false ite_self vE_it vc_len vc_sure vc_ltA vc_lt1 vc_all1 vc_ro vc_take vc_sl vc_set vc_fr vc_vw vc_tm zcV_eq sc_len sc_sure sc_ltA sc_lt1 sc_all1 sc_ro sc_take sc_set sc_has sc_vw sc_tm sc_body sc_p sc_c zs_len zs_sure zs_ltA zs_ro zs_set zs_set2 zs_set3 zs_take zs_b vs_ltA vs_len3 natInt u_nthM all_tt
def numB (v : Int) : Bool := decide (0 ≤ v) && decide (v ≤ 2147483647)
def voteB (x : Vo) : Bool := decide (0 ≤ x.fr) && (decide (x.fr < 64) && (numB x.vw && numB x.tm))
theorem number_s (m : Nat) (v : Int) : slot_number m (nA v) = some (bA (numB v), []) := by
  rw [slot_number_eq]
  unfold numB
  by_cases h1 : 0 ≤ v
  · simp (config := {maxSteps := 4000000, implicitDefEqProofs := false}) (disch := omega) only [go_sem, ↓reduceIte, Nat.reduceAdd, Nat.reduceSub, Nat.reduceMul, Nat.reduceLeDiff, Nat.reduceLT, Int.reduceEq, Int.reduceNe, Int.reduceLT, Int.reduceLE, Int.reduceAdd, Int.reduceSub, Int.reduceMul, Int.reduceNeg, Int.reduceToNat, reduceCtorEq, Nat.reduceEqDiff, Nat.reduceBEq, Nat.reduceGT, h1]
  · simp (config := {maxSteps := 4000000, implicitDefEqProofs := false}) (disch := omega) only [go_sem, ↓reduceIte, Nat.reduceAdd, Nat.reduceSub, Nat.reduceMul, Nat.reduceLeDiff, Nat.reduceLT, Int.reduceEq, Int.reduceNe, Int.reduceLT, Int.reduceLE, Int.reduceAdd, Int.reduceSub, Int.reduceMul, Int.reduceNeg, Int.reduceToNat, reduceCtorEq, Nat.reduceEqDiff, Nat.reduceBEq, Nat.reduceGT, h1]
theorem num_s (m : Nat) (v : Int) : plenumref29_num m (nA v) = some (bA (numB v), []) := by
  rw [plenumref29_num_eq]
  unfold numB
  by_cases h1 : 0 ≤ v
  · simp (config := {maxSteps := 4000000, implicitDefEqProofs := false}) (disch := omega) only [go_sem, ↓reduceIte, Nat.reduceAdd, Nat.reduceSub, Nat.reduceMul, Nat.reduceLeDiff, Nat.reduceLT, Int.reduceEq, Int.reduceNe, Int.reduceLT, Int.reduceLE, Int.reduceAdd, Int.reduceSub, Int.reduceMul, Int.reduceNeg, Int.reduceToNat, reduceCtorEq, Nat.reduceEqDiff, Nat.reduceBEq, Nat.reduceGT, h1]
  · simp (config := {maxSteps := 4000000, implicitDefEqProofs := false}) (disch := omega) only [go_sem, ↓reduceIte, Nat.reduceAdd, Nat.reduceSub, Nat.reduceMul, Nat.reduceLeDiff, Nat.reduceLT, Int.reduceEq, Int.reduceNe, Int.reduceLT, Int.reduceLE, Int.reduceAdd, Int.reduceSub, Int.reduceMul, Int.reduceNeg, Int.reduceToNat, reduceCtorEq, Nat.reduceEqDiff, Nat.reduceBEq, Nat.reduceGT, h1]
theorem vote_s (m : Nat) (x : Vo) : slot_vote m (vE x) = some (bA (voteB x), []) := by
  have hN1 := number_s m x.vw
  have hN2 := number_s m x.tm
  rw [slot_vote_eq, vE_it]
  unfold voteB
  by_cases h1 : 0 ≤ x.fr
  · by_cases h2 : x.fr < 64
    · cases h3 : numB x.vw with
      | false => rw [h3] at hN1; simp (config := {maxSteps := 4000000, implicitDefEqProofs := false}) (disch := omega) only [go_sem, ↓reduceIte, Nat.reduceAdd, Nat.reduceSub, Nat.reduceMul, Nat.reduceLeDiff, Nat.reduceLT, Int.reduceEq, Int.reduceNe, Int.reduceLT, Int.reduceLE, Int.reduceAdd, Int.reduceSub, Int.reduceMul, Int.reduceNeg, Int.reduceToNat, reduceCtorEq, Nat.reduceEqDiff, Nat.reduceBEq, Nat.reduceGT, h1, h2, hN1, hN2]
      | true => rw [h3] at hN1; simp (config := {maxSteps := 4000000, implicitDefEqProofs := false}) (disch := omega) only [go_sem, ↓reduceIte, Nat.reduceAdd, Nat.reduceSub, Nat.reduceMul, Nat.reduceLeDiff, Nat.reduceLT, Int.reduceEq, Int.reduceNe, Int.reduceLT, Int.reduceLE, Int.reduceAdd, Int.reduceSub, Int.reduceMul, Int.reduceNeg, Int.reduceToNat, reduceCtorEq, Nat.reduceEqDiff, Nat.reduceBEq, Nat.reduceGT, h1, h2, hN1, hN2]
    · simp (config := {maxSteps := 4000000, implicitDefEqProofs := false}) (disch := omega) only [go_sem, ↓reduceIte, Nat.reduceAdd, Nat.reduceSub, Nat.reduceMul, Nat.reduceLeDiff, Nat.reduceLT, Int.reduceEq, Int.reduceNe, Int.reduceLT, Int.reduceLE, Int.reduceAdd, Int.reduceSub, Int.reduceMul, Int.reduceNeg, Int.reduceToNat, reduceCtorEq, Nat.reduceEqDiff, Nat.reduceBEq, Nat.reduceGT, h1, h2]
  · simp (config := {maxSteps := 4000000, implicitDefEqProofs := false}) (disch := omega) only [go_sem, ↓reduceIte, Nat.reduceAdd, Nat.reduceSub, Nat.reduceMul, Nat.reduceLeDiff, Nat.reduceLT, Int.reduceEq, Int.reduceNe, Int.reduceLT, Int.reduceLE, Int.reduceAdd, Int.reduceSub, Int.reduceMul, Int.reduceNeg, Int.reduceToNat, reduceCtorEq, Nat.reduceEqDiff, Nat.reduceBEq, Nat.reduceGT, h1]
theorem rvote_s (m : Nat) (x : Vo) : plenumref29_Vote m (vE x) = some (bA (voteB x), []) := by
  have hN1 := num_s m x.vw
  have hN2 := num_s m x.tm
  rw [plenumref29_Vote_eq, vE_it]
  unfold voteB
  by_cases h1 : 0 ≤ x.fr
  · by_cases h2 : x.fr < 64
    · have h2' : x.fr ≤ 63 := by omega
      cases h3 : numB x.vw with
      | false => rw [h3] at hN1; simp (config := {maxSteps := 4000000, implicitDefEqProofs := false}) (disch := omega) only [go_sem, ↓reduceIte, Nat.reduceAdd, Nat.reduceSub, Nat.reduceMul, Nat.reduceLeDiff, Nat.reduceLT, Int.reduceEq, Int.reduceNe, Int.reduceLT, Int.reduceLE, Int.reduceAdd, Int.reduceSub, Int.reduceMul, Int.reduceNeg, Int.reduceToNat, reduceCtorEq, Nat.reduceEqDiff, Nat.reduceBEq, Nat.reduceGT, h1, h2, h2', hN1, hN2]
      | true => rw [h3] at hN1; simp (config := {maxSteps := 4000000, implicitDefEqProofs := false}) (disch := omega) only [go_sem, ↓reduceIte, Nat.reduceAdd, Nat.reduceSub, Nat.reduceMul, Nat.reduceLeDiff, Nat.reduceLT, Int.reduceEq, Int.reduceNe, Int.reduceLT, Int.reduceLE, Int.reduceAdd, Int.reduceSub, Int.reduceMul, Int.reduceNeg, Int.reduceToNat, reduceCtorEq, Nat.reduceEqDiff, Nat.reduceBEq, Nat.reduceGT, h1, h2, h2', hN1, hN2]
    · have h2' : ¬ x.fr ≤ 63 := by omega
      simp (config := {maxSteps := 4000000, implicitDefEqProofs := false}) (disch := omega) only [go_sem, ↓reduceIte, Nat.reduceAdd, Nat.reduceSub, Nat.reduceMul, Nat.reduceLeDiff, Nat.reduceLT, Int.reduceEq, Int.reduceNe, Int.reduceLT, Int.reduceLE, Int.reduceAdd, Int.reduceSub, Int.reduceMul, Int.reduceNeg, Int.reduceToNat, reduceCtorEq, Nat.reduceEqDiff, Nat.reduceBEq, Nat.reduceGT, h1, h2, h2']
  · simp (config := {maxSteps := 4000000, implicitDefEqProofs := false}) (disch := omega) only [go_sem, ↓reduceIte, Nat.reduceAdd, Nat.reduceSub, Nat.reduceMul, Nat.reduceLeDiff, Nat.reduceLT, Int.reduceEq, Int.reduceNe, Int.reduceLT, Int.reduceLE, Int.reduceAdd, Int.reduceSub, Int.reduceMul, Int.reduceNeg, Int.reduceToNat, reduceCtorEq, Nat.reduceEqDiff, Nat.reduceBEq, Nat.reduceGT, h1]
def votesG : Option Vo → List Vo → Bool
  | _, [] => true
  | p, x :: r => voteB x && (match p with | some y => decide (y.fr < x.fr) | none => true) && votesG (some x) r
def prevL (l : List Vo) : Nat → Option Vo
  | 0 => none
  | k + 1 => l[k]?
theorem prevL_succ {l : List Vo} {k : Nat} : prevL l (k + 1) = l[k]? := _root_.id rfl
theorem votes_s (m : Nat) (l : List Vo) (hm : l.length < m) (hl : l.length ≤ 34359738367) : slot_votes m (SL (l.map vE)) = some (bA (votesG none l), []) := by
  rw [slot_votes_eq]
  simp (config := {maxSteps := 4000000, implicitDefEqProofs := false}) (disch := omega) only [go_sem, ↓reduceIte, Nat.reduceAdd, Nat.reduceSub, Nat.reduceMul, Nat.reduceLeDiff, Nat.reduceLT, Int.reduceEq, Int.reduceNe, Int.reduceLT, Int.reduceLE, Int.reduceAdd, Int.reduceSub, Int.reduceMul, Int.reduceNeg, Int.reduceToNat, reduceCtorEq, Nat.reduceEqDiff, Nat.reduceBEq, Nat.reduceGT]
  generalize hg : votesG none l = g
  refine iter_go (ι := {k : Nat // k ≤ l.length ∧ votesG (prevL l k) (l.drop k) = g}) (fun k => ⟨[], [(0, SL (l.map vE)), (5, SL (l.map vE)), (6, nA l.length), (7, nA k.1)]⟩) (fun k => l.length - k.1) (fun _ => some (bA g, [])) ?_ ⟨0, Nat.zero_le _, hg⟩ (by dsimp only; omega)
  rintro kx hkx ⟨k, hk, hG⟩ kc hkc
  dsimp only at hkc hG ⊢
  rw [slot_votes_b1_eq]
  by_cases hlt : k < l.length
  · have hlt' : (k : Int) < (l.length : Int) := by omega
    have hV := vote_s m l[k]
    rw [vE_it] at hV
    rw [List.drop_eq_getElem_cons hlt] at hG
    unfold votesG at hG
    cases hv : voteB l[k] with
    | false =>
      rw [hv] at hV hG
      have hG2 : false = g := hG
      subst hG2
      simp (config := {maxSteps := 4000000, implicitDefEqProofs := false}) (disch := omega) only [go_sem, ↓reduceIte, Nat.reduceAdd, Nat.reduceSub, Nat.reduceMul, Nat.reduceLeDiff, Nat.reduceLT, Int.reduceEq, Int.reduceNe, Int.reduceLT, Int.reduceLE, Int.reduceAdd, Int.reduceSub, Int.reduceMul, Int.reduceNeg, Int.reduceToNat, reduceCtorEq, Nat.reduceEqDiff, Nat.reduceBEq, Nat.reduceGT, hlt', hV, w_i64, hkx, slot_votes_r3_eq, slot_votes_r2_eq, slot_votes_r1_eq]
    | true =>
      rw [hv] at hV hG
      cases k with
      | zero =>
        have hz : (0 : Int) < (l.length : Int) := by omega
        have step := hkc ⟨1, by omega, by rw [show (1 : Nat) = 0 + 1 from rfl, prevL_succ, List.getElem?_eq_getElem hlt]; exact hG⟩ (by dsimp only; omega)
        simp (config := {maxSteps := 4000000, implicitDefEqProofs := false}) (disch := omega) only [go_sem, ↓reduceIte, Nat.reduceAdd, Nat.reduceSub, Nat.reduceMul, Nat.reduceLeDiff, Nat.reduceLT, Int.reduceEq, Int.reduceNe, Int.reduceLT, Int.reduceLE, Int.reduceAdd, Int.reduceSub, Int.reduceMul, Int.reduceNeg, Int.reduceToNat, reduceCtorEq, Nat.reduceEqDiff, Nat.reduceBEq, Nat.reduceGT, hz, hV, w_i64, slot_votes_r3_eq, slot_votes_r2_eq, slot_votes_r1_eq]
        exact step
      | succ j =>
        have hj : j < l.length := by omega
        rw [prevL_succ, List.getElem?_eq_getElem hj] at hG
        dsimp only at hG
        have hj0 : (0 : Int) < ((j + 1 : Nat) : Int) := by omega
        have hj1 : ((j + 1 : Nat) : Int) - 1 = (j : Int) := by omega
        by_cases hq : l[j].fr < l[j + 1].fr
        · have hq' : ¬ l[j + 1].fr ≤ l[j].fr := by omega
          have step := hkc ⟨j + 2, by omega, by
            rw [decide_eq_true hq] at hG
            show votesG (prevL l (j + 1 + 1)) _ = g
            rw [prevL_succ, List.getElem?_eq_getElem hlt]; exact hG⟩ (by dsimp only; omega)
          have e2 : ((j + 2 : Nat) : Int) = ((j + 1 : Nat) : Int) + 1 := by omega
          dsimp only at step
          rw [e2] at step
          simp (config := {maxSteps := 4000000, implicitDefEqProofs := false}) (disch := omega) only [go_sem, ↓reduceIte, Nat.reduceAdd, Nat.reduceSub, Nat.reduceMul, Nat.reduceLeDiff, Nat.reduceLT, Int.reduceEq, Int.reduceNe, Int.reduceLT, Int.reduceLE, Int.reduceAdd, Int.reduceSub, Int.reduceMul, Int.reduceNeg, Int.reduceToNat, reduceCtorEq, Nat.reduceEqDiff, Nat.reduceBEq, Nat.reduceGT, hlt', hV, hj0, hj1, hq', w_i64, slot_votes_r3_eq, slot_votes_r2_eq, slot_votes_r1_eq]
          exact step
        · have hq' : l[j + 1].fr ≤ l[j].fr := by omega
          rw [decide_eq_false hq] at hG
          have hG2 : false = g := by rw [← hG]; simp
          subst hG2
          simp (config := {maxSteps := 4000000, implicitDefEqProofs := false}) (disch := omega) only [go_sem, ↓reduceIte, Nat.reduceAdd, Nat.reduceSub, Nat.reduceMul, Nat.reduceLeDiff, Nat.reduceLT, Int.reduceEq, Int.reduceNe, Int.reduceLT, Int.reduceLE, Int.reduceAdd, Int.reduceSub, Int.reduceMul, Int.reduceNeg, Int.reduceToNat, reduceCtorEq, Nat.reduceEqDiff, Nat.reduceBEq, Nat.reduceGT, hlt', hV, hj0, hj1, hq', w_i64, hkx, slot_votes_r3_eq, slot_votes_r2_eq, slot_votes_r1_eq]
  · have hlt' : ¬ (k : Int) < (l.length : Int) := by omega
    rw [List.drop_of_length_le (by omega)] at hG
    have hG2 : true = g := by rw [← hG]; unfold votesG; cases prevL l k <;> rfl
    subst hG2
    simp (config := {maxSteps := 4000000, implicitDefEqProofs := false}) (disch := omega) only [go_sem, ↓reduceIte, Nat.reduceAdd, Nat.reduceSub, Nat.reduceMul, Nat.reduceLeDiff, Nat.reduceLT, Int.reduceEq, Int.reduceNe, Int.reduceLT, Int.reduceLE, Int.reduceAdd, Int.reduceSub, Int.reduceMul, Int.reduceNeg, Int.reduceToNat, reduceCtorEq, Nat.reduceEqDiff, Nat.reduceBEq, Nat.reduceGT, hlt', hkx, slot_votes_r3_eq, slot_votes_r2_eq, slot_votes_r1_eq]
end Go.Proofs.YtaaafkoeddgaaaaDoor

namespace Go.Proofs.YtaaafkoeddgaaaaDoor
open Go.RowKit
set_option linter.unusedVariables false
set_option linter.unusedSimpArgs false
set_option maxRecDepth 20000
attribute [local go_sem] Nat.zero_add Nat.add_zero Nat.mul_one Int.toNat_natCast Int.natCast_zero Int.cast_ofNat_Int or_false false_or or_true true_or Nat.sub_zero Int.natCast_nonneg Int.toNat_zero Bool.true_and Bool.and_true Bool.false_and Bool.and_false Bool.true_or Bool.or_true Bool.false_or Bool.or_false Bool.not_true Bool.not_false Bool.not_not true_and and_true false_and and_false not_true_eq_false not_false_eq_true eq_self decide_true decide_false ne_eq implies_true forall_const true_implies false_implies Bool.true_eq_false Bool.false_eq_true List.map_cons List.map_nil List.all_cons List.all_nil List.length_cons List.length_nil List.length_map List.length_append List.nil_append List.cons_append List.set_cons_zero List.set_cons_succ List.set_nil List.drop_zero List.drop_succ_cons List.drop_nil List.take_zero List.take_succ_cons List.take_nil Option.map_some Option.map_none Option.isSome_some List.all_append List.all_map Function.comp_def decide_eq_true_eq Bool.and_eq_true beq_self_eq_true or_self and_self ite_true ite_false Nat.le_refl Bool.not_eq_true decide_not Bool.not_eq_true' decide_eq_false_iff_not Bool.not_eq_false Bool.or_eq_true if_true if_false ite_self vE_it vc_len vc_sure vc_ltA vc_lt1 vc_all1 vc_ro vc_take vc_sl vc_set vc_fr vc_vw vc_tm zcV_eq sc_len sc_sure sc_ltA sc_lt1 sc_all1 sc_ro sc_take sc_set sc_has sc_vw sc_tm sc_body sc_p sc_c zs_len zs_sure zs_ltA zs_ro zs_set zs_set2 zs_set3 zs_take zs_b vs_ltA vs_len3 natInt u_nthM all_tt
theorem rvotes_s (m : Nat) (l : List Vo) (hm : l.length < m) (hl : l.length ≤ 34359738367) : plenumref29_votes m (SL (l.map vE)) = some (bA (votesG none l), []) := by
  rw [plenumref29_votes_eq]
  generalize hg : votesG none l = g
  refine iter_go (ι := {k : Nat // k ≤ l.length ∧ votesG (prevL l k) (l.drop k) = g}) (fun k => ⟨[], [(0, SL (l.map vE)), (3, nA k.1)]⟩) (fun k => l.length - k.1) (fun _ => some (bA g, [])) ?_ ⟨0, Nat.zero_le _, hg⟩ (by dsimp only; omega)
  rintro kx hkx ⟨k, hk, hG⟩ kc hkc
  dsimp only at hkc hG ⊢
  rw [plenumref29_votes_b1_eq]
  by_cases hlt : k < l.length
  · have hlt' : (k : Int) < (l.length : Int) := by omega
    have hV := rvote_s m l[k]
    rw [vE_it] at hV
    rw [List.drop_eq_getElem_cons hlt] at hG
    unfold votesG at hG
    cases hv : voteB l[k] with
    | false =>
      rw [hv] at hV hG
      have hG2 : false = g := hG
      subst hG2
      simp (config := {maxSteps := 4000000, implicitDefEqProofs := false}) (disch := omega) only [go_sem, ↓reduceIte, Nat.reduceAdd, Nat.reduceSub, Nat.reduceMul, Nat.reduceLeDiff, Nat.reduceLT, Int.reduceEq, Int.reduceNe, Int.reduceLT, Int.reduceLE, Int.reduceAdd, Int.reduceSub, Int.reduceMul, Int.reduceNeg, Int.reduceToNat, reduceCtorEq, Nat.reduceEqDiff, Nat.reduceBEq, Nat.reduceGT, hlt', hV, w_i64, hkx, plenumref29_votes_r3_eq, plenumref29_votes_r2_eq, plenumref29_votes_r1_eq]
    | true =>
      rw [hv] at hV hG
      cases k with
      | zero =>
        have hz : (0 : Int) < (l.length : Int) := by omega
        have step := hkc ⟨1, by omega, by rw [show (1 : Nat) = 0 + 1 from rfl, prevL_succ, List.getElem?_eq_getElem hlt]; exact hG⟩ (by dsimp only; omega)
        simp (config := {maxSteps := 4000000, implicitDefEqProofs := false}) (disch := omega) only [go_sem, ↓reduceIte, Nat.reduceAdd, Nat.reduceSub, Nat.reduceMul, Nat.reduceLeDiff, Nat.reduceLT, Int.reduceEq, Int.reduceNe, Int.reduceLT, Int.reduceLE, Int.reduceAdd, Int.reduceSub, Int.reduceMul, Int.reduceNeg, Int.reduceToNat, reduceCtorEq, Nat.reduceEqDiff, Nat.reduceBEq, Nat.reduceGT, hz, hV, w_i64, plenumref29_votes_r3_eq, plenumref29_votes_r2_eq, plenumref29_votes_r1_eq]
        exact step
      | succ j =>
        have hj : j < l.length := by omega
        rw [prevL_succ, List.getElem?_eq_getElem hj] at hG
        dsimp only at hG
        have hj0 : (0 : Int) < ((j + 1 : Nat) : Int) := by omega
        have hj1 : ((j + 1 : Nat) : Int) - 1 = (j : Int) := by omega
        by_cases hq : l[j].fr < l[j + 1].fr
        · have hq' : ¬ l[j + 1].fr ≤ l[j].fr := by omega
          have step := hkc ⟨j + 2, by omega, by
            rw [decide_eq_true hq] at hG
            show votesG (prevL l (j + 1 + 1)) _ = g
            rw [prevL_succ, List.getElem?_eq_getElem hlt]; exact hG⟩ (by dsimp only; omega)
          have e2 : ((j + 2 : Nat) : Int) = ((j + 1 : Nat) : Int) + 1 := by omega
          dsimp only at step
          rw [e2] at step
          simp (config := {maxSteps := 4000000, implicitDefEqProofs := false}) (disch := omega) only [go_sem, ↓reduceIte, Nat.reduceAdd, Nat.reduceSub, Nat.reduceMul, Nat.reduceLeDiff, Nat.reduceLT, Int.reduceEq, Int.reduceNe, Int.reduceLT, Int.reduceLE, Int.reduceAdd, Int.reduceSub, Int.reduceMul, Int.reduceNeg, Int.reduceToNat, reduceCtorEq, Nat.reduceEqDiff, Nat.reduceBEq, Nat.reduceGT, hlt', hV, hj0, hj1, hq', w_i64, plenumref29_votes_r3_eq, plenumref29_votes_r2_eq, plenumref29_votes_r1_eq]
          exact step
        · have hq' : l[j + 1].fr ≤ l[j].fr := by omega
          rw [decide_eq_false hq] at hG
          have hG2 : false = g := by rw [← hG]; simp
          subst hG2
          simp (config := {maxSteps := 4000000, implicitDefEqProofs := false}) (disch := omega) only [go_sem, ↓reduceIte, Nat.reduceAdd, Nat.reduceSub, Nat.reduceMul, Nat.reduceLeDiff, Nat.reduceLT, Int.reduceEq, Int.reduceNe, Int.reduceLT, Int.reduceLE, Int.reduceAdd, Int.reduceSub, Int.reduceMul, Int.reduceNeg, Int.reduceToNat, reduceCtorEq, Nat.reduceEqDiff, Nat.reduceBEq, Nat.reduceGT, hlt', hV, hj0, hj1, hq', w_i64, hkx, plenumref29_votes_r3_eq, plenumref29_votes_r2_eq, plenumref29_votes_r1_eq]
  · have hlt' : ¬ (k : Int) < (l.length : Int) := by omega
    rw [List.drop_of_length_le (by omega)] at hG
    have hG2 : true = g := by rw [← hG]; unfold votesG; cases prevL l k <;> rfl
    subst hG2
    simp (config := {maxSteps := 4000000, implicitDefEqProofs := false}) (disch := omega) only [go_sem, ↓reduceIte, Nat.reduceAdd, Nat.reduceSub, Nat.reduceMul, Nat.reduceLeDiff, Nat.reduceLT, Int.reduceEq, Int.reduceNe, Int.reduceLT, Int.reduceLE, Int.reduceAdd, Int.reduceSub, Int.reduceMul, Int.reduceNeg, Int.reduceToNat, reduceCtorEq, Nat.reduceEqDiff, Nat.reduceBEq, Nat.reduceGT, hlt', hkx, plenumref29_votes_r3_eq, plenumref29_votes_r2_eq, plenumref29_votes_r1_eq]
def emptyB (s : So) : Bool := decide (s.vw = 0) && (decide (s.tm = 0) && decide (s.body = []))
def mayB (s : So) : Bool := (s.has || emptyB s) && (numB s.vw && (numB s.tm && (decide (s.body.length ≤ 65536) && (votesG none s.p && votesG none s.c))))
def So.Ok (m : Nat) (s : So) : Prop := s.p.length < m ∧ s.p.length ≤ 1000000 ∧ s.c.length < m ∧ s.c.length ≤ 1000000 ∧ s.body.length ≤ 1000000
theorem may2_s (m : Nat) (s : So) (h : s.Ok m) : slot_May_r2 m ⟨[⟨1, ty_api_Slot, 0, SC s⟩], [(1, OP 0 0)]⟩ = some (bA (numB s.vw && (numB s.tm && (decide (s.body.length ≤ 65536) && (votesG none s.p && votesG none s.c)))), []) := by
  obtain ⟨p1, p2, c1, c2, b1⟩ := h
  have hN1 := number_s m s.vw
  have hN2 := number_s m s.tm
  have hP := votes_s m s.p p1 (by omega)
  have hC := votes_s m s.c c1 (by omega)
  rw [slot_May_r2_eq]
  cases q1 : numB s.vw with
  | false => rw [q1] at hN1; simp (config := {maxSteps := 4000000, implicitDefEqProofs := false}) (disch := omega) only [go_sem, ↓reduceIte, Nat.reduceAdd, Nat.reduceSub, Nat.reduceMul, Nat.reduceLeDiff, Nat.reduceLT, Int.reduceEq, Int.reduceNe, Int.reduceLT, Int.reduceLE, Int.reduceAdd, Int.reduceSub, Int.reduceMul, Int.reduceNeg, Int.reduceToNat, reduceCtorEq, Nat.reduceEqDiff, Nat.reduceBEq, Nat.reduceGT, hN1]
  | true =>
  rw [q1] at hN1
  cases q2 : numB s.tm with
  | false => rw [q2] at hN2; simp (config := {maxSteps := 4000000, implicitDefEqProofs := false}) (disch := omega) only [go_sem, ↓reduceIte, Nat.reduceAdd, Nat.reduceSub, Nat.reduceMul, Nat.reduceLeDiff, Nat.reduceLT, Int.reduceEq, Int.reduceNe, Int.reduceLT, Int.reduceLE, Int.reduceAdd, Int.reduceSub, Int.reduceMul, Int.reduceNeg, Int.reduceToNat, reduceCtorEq, Nat.reduceEqDiff, Nat.reduceBEq, Nat.reduceGT, hN1, hN2]
  | true =>
  rw [q2] at hN2
  by_cases q3 : s.body.length ≤ 65536
  case neg =>
    have q3' : ¬ (s.body.length : Int) ≤ 65536 := by omega
    simp (config := {maxSteps := 4000000, implicitDefEqProofs := false}) (disch := omega) only [go_sem, ↓reduceIte, Nat.reduceAdd, Nat.reduceSub, Nat.reduceMul, Nat.reduceLeDiff, Nat.reduceLT, Int.reduceEq, Int.reduceNe, Int.reduceLT, Int.reduceLE, Int.reduceAdd, Int.reduceSub, Int.reduceMul, Int.reduceNeg, Int.reduceToNat, reduceCtorEq, Nat.reduceEqDiff, Nat.reduceBEq, Nat.reduceGT, hN1, hN2, q3, q3']
  have q3' : (s.body.length : Int) ≤ 65536 := by omega
  cases q4 : votesG none s.p with
  | false => rw [q4] at hP; simp (config := {maxSteps := 4000000, implicitDefEqProofs := false}) (disch := omega) only [go_sem, ↓reduceIte, Nat.reduceAdd, Nat.reduceSub, Nat.reduceMul, Nat.reduceLeDiff, Nat.reduceLT, Int.reduceEq, Int.reduceNe, Int.reduceLT, Int.reduceLE, Int.reduceAdd, Int.reduceSub, Int.reduceMul, Int.reduceNeg, Int.reduceToNat, reduceCtorEq, Nat.reduceEqDiff, Nat.reduceBEq, Nat.reduceGT, hN1, hN2, q3, q3', hP]
  | true =>
  rw [q4] at hP
  simp (config := {maxSteps := 4000000, implicitDefEqProofs := false}) (disch := omega) only [go_sem, ↓reduceIte, Nat.reduceAdd, Nat.reduceSub, Nat.reduceMul, Nat.reduceLeDiff, Nat.reduceLT, Int.reduceEq, Int.reduceNe, Int.reduceLT, Int.reduceLE, Int.reduceAdd, Int.reduceSub, Int.reduceMul, Int.reduceNeg, Int.reduceToNat, reduceCtorEq, Nat.reduceEqDiff, Nat.reduceBEq, Nat.reduceGT, hN1, hN2, q3, q3', hP, hC]
theorem may_s (m : Nat) (s : So) (h : s.Ok m) : slot_May m (SE s) = some (bA (mayB s), []) := by
  have h2 := may2_s m s h
  unfold mayB emptyB
  generalize (numB s.vw && (numB s.tm && (decide (s.body.length ≤ 65536) && (votesG none s.p && votesG none s.c)))) = g at h2 ⊢
  rw [slot_May_eq, SE_it]
  cases q0 : s.has with
  | true => simp (config := {maxSteps := 4000000, implicitDefEqProofs := false}) (disch := omega) only [go_sem, ↓reduceIte, Nat.reduceAdd, Nat.reduceSub, Nat.reduceMul, Nat.reduceLeDiff, Nat.reduceLT, Int.reduceEq, Int.reduceNe, Int.reduceLT, Int.reduceLE, Int.reduceAdd, Int.reduceSub, Int.reduceMul, Int.reduceNeg, Int.reduceToNat, reduceCtorEq, Nat.reduceEqDiff, Nat.reduceBEq, Nat.reduceGT, q0, h2, slot_May_r1_eq]
  | false =>
  by_cases q1 : s.vw = 0
  case neg => simp (config := {maxSteps := 4000000, implicitDefEqProofs := false}) (disch := omega) only [go_sem, ↓reduceIte, Nat.reduceAdd, Nat.reduceSub, Nat.reduceMul, Nat.reduceLeDiff, Nat.reduceLT, Int.reduceEq, Int.reduceNe, Int.reduceLT, Int.reduceLE, Int.reduceAdd, Int.reduceSub, Int.reduceMul, Int.reduceNeg, Int.reduceToNat, reduceCtorEq, Nat.reduceEqDiff, Nat.reduceBEq, Nat.reduceGT, q0, q1, h2, slot_May_r1_eq]
  by_cases q2 : s.tm = 0
  case neg => simp (config := {maxSteps := 4000000, implicitDefEqProofs := false}) (disch := omega) only [go_sem, ↓reduceIte, Nat.reduceAdd, Nat.reduceSub, Nat.reduceMul, Nat.reduceLeDiff, Nat.reduceLT, Int.reduceEq, Int.reduceNe, Int.reduceLT, Int.reduceLE, Int.reduceAdd, Int.reduceSub, Int.reduceMul, Int.reduceNeg, Int.reduceToNat, reduceCtorEq, Nat.reduceEqDiff, Nat.reduceBEq, Nat.reduceGT, q0, q1, q2, h2, slot_May_r1_eq]
  by_cases q3 : s.body = []
  case neg => simp (config := {maxSteps := 4000000, implicitDefEqProofs := false}) (disch := omega) only [go_sem, ↓reduceIte, Nat.reduceAdd, Nat.reduceSub, Nat.reduceMul, Nat.reduceLeDiff, Nat.reduceLT, Int.reduceEq, Int.reduceNe, Int.reduceLT, Int.reduceLE, Int.reduceAdd, Int.reduceSub, Int.reduceMul, Int.reduceNeg, Int.reduceToNat, reduceCtorEq, Nat.reduceEqDiff, Nat.reduceBEq, Nat.reduceGT, q0, q1, q2, q3, h2, slot_May_r1_eq]
  simp (config := {maxSteps := 4000000, implicitDefEqProofs := false}) (disch := omega) only [go_sem, ↓reduceIte, Nat.reduceAdd, Nat.reduceSub, Nat.reduceMul, Nat.reduceLeDiff, Nat.reduceLT, Int.reduceEq, Int.reduceNe, Int.reduceLT, Int.reduceLE, Int.reduceAdd, Int.reduceSub, Int.reduceMul, Int.reduceNeg, Int.reduceToNat, reduceCtorEq, Nat.reduceEqDiff, Nat.reduceBEq, Nat.reduceGT, q0, q1, q2, q3, h2, slot_May_r1_eq]
theorem rmay2_s (m : Nat) (s : So) (h : s.Ok m) : plenumref29_May_r1 m ⟨[⟨1, ty_api_Slot, 0, SC s⟩], [(1, OP 0 0), (3, V (.bool true))]⟩ = some (bA (numB s.vw && (numB s.tm && (decide (s.body.length ≤ 65536) && (votesG none s.p && votesG none s.c)))), []) := by
  obtain ⟨p1, p2, c1, c2, b1⟩ := h
  have hN1 := num_s m s.vw
  have hN2 := num_s m s.tm
  have hP := rvotes_s m s.p p1 (by omega)
  have hC := rvotes_s m s.c c1 (by omega)
  rw [plenumref29_May_r1_eq]
  cases q1 : numB s.vw with
  | false => rw [q1] at hN1; simp (config := {maxSteps := 4000000, implicitDefEqProofs := false}) (disch := omega) only [go_sem, ↓reduceIte, Nat.reduceAdd, Nat.reduceSub, Nat.reduceMul, Nat.reduceLeDiff, Nat.reduceLT, Int.reduceEq, Int.reduceNe, Int.reduceLT, Int.reduceLE, Int.reduceAdd, Int.reduceSub, Int.reduceMul, Int.reduceNeg, Int.reduceToNat, reduceCtorEq, Nat.reduceEqDiff, Nat.reduceBEq, Nat.reduceGT, hN1]
  | true =>
  rw [q1] at hN1
  cases q2 : numB s.tm with
  | false => rw [q2] at hN2; simp (config := {maxSteps := 4000000, implicitDefEqProofs := false}) (disch := omega) only [go_sem, ↓reduceIte, Nat.reduceAdd, Nat.reduceSub, Nat.reduceMul, Nat.reduceLeDiff, Nat.reduceLT, Int.reduceEq, Int.reduceNe, Int.reduceLT, Int.reduceLE, Int.reduceAdd, Int.reduceSub, Int.reduceMul, Int.reduceNeg, Int.reduceToNat, reduceCtorEq, Nat.reduceEqDiff, Nat.reduceBEq, Nat.reduceGT, hN1, hN2]
  | true =>
  rw [q2] at hN2
  by_cases q3 : s.body.length ≤ 65536
  case neg =>
    have q3' : ¬ (s.body.length : Int) ≤ 65536 := by omega
    simp (config := {maxSteps := 4000000, implicitDefEqProofs := false}) (disch := omega) only [go_sem, ↓reduceIte, Nat.reduceAdd, Nat.reduceSub, Nat.reduceMul, Nat.reduceLeDiff, Nat.reduceLT, Int.reduceEq, Int.reduceNe, Int.reduceLT, Int.reduceLE, Int.reduceAdd, Int.reduceSub, Int.reduceMul, Int.reduceNeg, Int.reduceToNat, reduceCtorEq, Nat.reduceEqDiff, Nat.reduceBEq, Nat.reduceGT, hN1, hN2, q3, q3']
  have q3' : (s.body.length : Int) ≤ 65536 := by omega
  cases q4 : votesG none s.p with
  | false => rw [q4] at hP; simp (config := {maxSteps := 4000000, implicitDefEqProofs := false}) (disch := omega) only [go_sem, ↓reduceIte, Nat.reduceAdd, Nat.reduceSub, Nat.reduceMul, Nat.reduceLeDiff, Nat.reduceLT, Int.reduceEq, Int.reduceNe, Int.reduceLT, Int.reduceLE, Int.reduceAdd, Int.reduceSub, Int.reduceMul, Int.reduceNeg, Int.reduceToNat, reduceCtorEq, Nat.reduceEqDiff, Nat.reduceBEq, Nat.reduceGT, hN1, hN2, q3, q3', hP]
  | true =>
  rw [q4] at hP
  simp (config := {maxSteps := 4000000, implicitDefEqProofs := false}) (disch := omega) only [go_sem, ↓reduceIte, Nat.reduceAdd, Nat.reduceSub, Nat.reduceMul, Nat.reduceLeDiff, Nat.reduceLT, Int.reduceEq, Int.reduceNe, Int.reduceLT, Int.reduceLE, Int.reduceAdd, Int.reduceSub, Int.reduceMul, Int.reduceNeg, Int.reduceToNat, reduceCtorEq, Nat.reduceEqDiff, Nat.reduceBEq, Nat.reduceGT, hN1, hN2, q3, q3', hP, hC]
theorem rmay3_s (m : Nat) (s : So) : plenumref29_May_r1 m ⟨[⟨1, ty_api_Slot, 0, SC s⟩], [(1, OP 0 0), (3, V (.bool false))]⟩ = some (bA false, []) := by
  rw [plenumref29_May_r1_eq]
  simp (config := {maxSteps := 4000000, implicitDefEqProofs := false}) (disch := omega) only [go_sem, ↓reduceIte, Nat.reduceAdd, Nat.reduceSub, Nat.reduceMul, Nat.reduceLeDiff, Nat.reduceLT, Int.reduceEq, Int.reduceNe, Int.reduceLT, Int.reduceLE, Int.reduceAdd, Int.reduceSub, Int.reduceMul, Int.reduceNeg, Int.reduceToNat, reduceCtorEq, Nat.reduceEqDiff, Nat.reduceBEq, Nat.reduceGT]
theorem rmay_s (m : Nat) (s : So) (h : s.Ok m) : plenumref29_May m (SE s) = some (bA (mayB s), []) := by
  have h2 := rmay2_s m s h
  have h3 := rmay3_s m s
  unfold mayB emptyB
  generalize (numB s.vw && (numB s.tm && (decide (s.body.length ≤ 65536) && (votesG none s.p && votesG none s.c)))) = g at h2 ⊢
  rw [plenumref29_May_eq, SE_it]
  cases q0 : s.has with
  | true => simp (config := {maxSteps := 4000000, implicitDefEqProofs := false}) (disch := omega) only [go_sem, ↓reduceIte, Nat.reduceAdd, Nat.reduceSub, Nat.reduceMul, Nat.reduceLeDiff, Nat.reduceLT, Int.reduceEq, Int.reduceNe, Int.reduceLT, Int.reduceLE, Int.reduceAdd, Int.reduceSub, Int.reduceMul, Int.reduceNeg, Int.reduceToNat, reduceCtorEq, Nat.reduceEqDiff, Nat.reduceBEq, Nat.reduceGT, q0, h2, h3]
  | false =>
  by_cases q1 : s.vw = 0
  case neg => simp (config := {maxSteps := 4000000, implicitDefEqProofs := false}) (disch := omega) only [go_sem, ↓reduceIte, Nat.reduceAdd, Nat.reduceSub, Nat.reduceMul, Nat.reduceLeDiff, Nat.reduceLT, Int.reduceEq, Int.reduceNe, Int.reduceLT, Int.reduceLE, Int.reduceAdd, Int.reduceSub, Int.reduceMul, Int.reduceNeg, Int.reduceToNat, reduceCtorEq, Nat.reduceEqDiff, Nat.reduceBEq, Nat.reduceGT, q0, q1, h2, h3]
  by_cases q2 : s.tm = 0
  case neg => simp (config := {maxSteps := 4000000, implicitDefEqProofs := false}) (disch := omega) only [go_sem, ↓reduceIte, Nat.reduceAdd, Nat.reduceSub, Nat.reduceMul, Nat.reduceLeDiff, Nat.reduceLT, Int.reduceEq, Int.reduceNe, Int.reduceLT, Int.reduceLE, Int.reduceAdd, Int.reduceSub, Int.reduceMul, Int.reduceNeg, Int.reduceToNat, reduceCtorEq, Nat.reduceEqDiff, Nat.reduceBEq, Nat.reduceGT, q0, q1, q2, h2, h3]
  by_cases q3 : s.body = []
  case neg => simp (config := {maxSteps := 4000000, implicitDefEqProofs := false}) (disch := omega) only [go_sem, ↓reduceIte, Nat.reduceAdd, Nat.reduceSub, Nat.reduceMul, Nat.reduceLeDiff, Nat.reduceLT, Int.reduceEq, Int.reduceNe, Int.reduceLT, Int.reduceLE, Int.reduceAdd, Int.reduceSub, Int.reduceMul, Int.reduceNeg, Int.reduceToNat, reduceCtorEq, Nat.reduceEqDiff, Nat.reduceBEq, Nat.reduceGT, q0, q1, q2, q3, h2, h3]
  simp (config := {maxSteps := 4000000, implicitDefEqProofs := false}) (disch := omega) only [go_sem, ↓reduceIte, Nat.reduceAdd, Nat.reduceSub, Nat.reduceMul, Nat.reduceLeDiff, Nat.reduceLT, Int.reduceEq, Int.reduceNe, Int.reduceLT, Int.reduceLE, Int.reduceAdd, Int.reduceSub, Int.reduceMul, Int.reduceNeg, Int.reduceToNat, reduceCtorEq, Nat.reduceEqDiff, Nat.reduceBEq, Nat.reduceGT, q0, q1, q2, q3, h2, h3]
def againI (v w : Int) (same : Bool) : Int := if v < w then 18 else if w < v then 0 else if same = true then 16 else 23
theorem again_s (m : Nat) (v w : Int) (same : Bool) : slot_again m (nA v) (nA w) (bA same) = some (nA (againI v w same), []) := by
  rw [slot_again_eq]
  unfold againI
  by_cases h1 : v < w
  · simp (config := {maxSteps := 4000000, implicitDefEqProofs := false}) (disch := omega) only [go_sem, ↓reduceIte, Nat.reduceAdd, Nat.reduceSub, Nat.reduceMul, Nat.reduceLeDiff, Nat.reduceLT, Int.reduceEq, Int.reduceNe, Int.reduceLT, Int.reduceLE, Int.reduceAdd, Int.reduceSub, Int.reduceMul, Int.reduceNeg, Int.reduceToNat, reduceCtorEq, Nat.reduceEqDiff, Nat.reduceBEq, Nat.reduceGT, h1]
  · by_cases h2 : w < v
    · simp (config := {maxSteps := 4000000, implicitDefEqProofs := false}) (disch := omega) only [go_sem, ↓reduceIte, Nat.reduceAdd, Nat.reduceSub, Nat.reduceMul, Nat.reduceLeDiff, Nat.reduceLT, Int.reduceEq, Int.reduceNe, Int.reduceLT, Int.reduceLE, Int.reduceAdd, Int.reduceSub, Int.reduceMul, Int.reduceNeg, Int.reduceToNat, reduceCtorEq, Nat.reduceEqDiff, Nat.reduceBEq, Nat.reduceGT, h1, h2]
    · cases same <;> simp (config := {maxSteps := 4000000, implicitDefEqProofs := false}) (disch := omega) only [go_sem, ↓reduceIte, Nat.reduceAdd, Nat.reduceSub, Nat.reduceMul, Nat.reduceLeDiff, Nat.reduceLT, Int.reduceEq, Int.reduceNe, Int.reduceLT, Int.reduceLE, Int.reduceAdd, Int.reduceSub, Int.reduceMul, Int.reduceNeg, Int.reduceToNat, reduceCtorEq, Nat.reduceEqDiff, Nat.reduceBEq, Nat.reduceGT, h1, h2]
section
variable {s : So} {n i j k : Nat} {x y : AV} {R : Type} {K1 : AV → Option R} {H : List AObj}
theorem sc_set4 : setCells (SC s) 4 [x] = [bA s.has, nA s.vw, nA s.tm, sA s.body, x, SL (s.c.map vE)] := _root_.id rfl
theorem zs_set6 {a b c d e f : AV} : setCells zc_api_Slot 0 [a, b, c, d, e, f] = [a, b, c, d, e, f] := _root_.id rfl
theorem sc_set6 {a b c d e f : AV} : setCells (SC s) 0 [a, b, c, d, e, f] = [a, b, c, d, e, f] := _root_.id rfl
theorem tA_PR : ltA n (PR i k) = decide (i < n) := _root_.id rfl
theorem t1_PR : lt1 n (PR i k) = decide (i < n) := _root_.id rfl
theorem tT_PR : ltT n (PR i k) = decide (i < n) := _root_.id rfl
theorem r1_PR : ro1 H (PR i k) = PR i k := _root_.id rfl
end
theorem own_s2 (m : Nat) (s : So) (a b : AObj) (h : s.Ok m) (ha : ∀ n, ltO n a = true) (hb : ∀ n, ltO n b = true) : slot_own m (SE s) [a, b] = some (.agg [bA s.has, nA s.vw, nA s.tm, sA s.body, PR 4 s.p.length, PR 5 s.c.length], [a, b, ⟨1, ty_api_Slot, 0, [bA s.has, nA s.vw, nA s.tm, sA s.body, PR 4 s.p.length, PR 5 s.c.length]⟩, ⟨1, ty_api_Slot, 0, [bA s.has, nA s.vw, nA s.tm, sA s.body, PR 4 s.p.length, PR 5 s.c.length]⟩, ⟨4, ty_api_Vote, 3, s.p.map vE⟩, ⟨4, ty_api_Vote, 3, s.c.map vE⟩]) := by
  obtain ⟨p1, p2, c1, c2, b1⟩ := h
  have hP : ∀ n, slices_Clone_Vote_t m [SL (s.p.map vE)] n = some (PR n (s.p.map vE).length, [⟨4, ty_api_Vote, 3, s.p.map vE⟩]) := fun n => slices_Clone_Vote_e m n (s.p.map vE) (by unfold allCE; rw [List.all_map]; exact vs_len3) (by rw [List.length_map]; omega)
  have hC : ∀ n, slices_Clone_Vote_t m [SL (s.c.map vE)] n = some (PR n (s.c.map vE).length, [⟨4, ty_api_Vote, 3, s.c.map vE⟩]) := fun n => slices_Clone_Vote_e m n (s.c.map vE) (by unfold allCE; rw [List.all_map]; exact vs_len3) (by rw [List.length_map]; omega)
  rw [slot_own_eq, SE_it]
  simp (config := {maxSteps := 4000000, implicitDefEqProofs := false}) (disch := omega) only [go_sem, ↓reduceIte, Nat.reduceAdd, Nat.reduceSub, Nat.reduceMul, Nat.reduceLeDiff, Nat.reduceLT, Int.reduceEq, Int.reduceNe, Int.reduceLT, Int.reduceLE, Int.reduceAdd, Int.reduceSub, Int.reduceMul, Int.reduceNeg, Int.reduceToNat, reduceCtorEq, Nat.reduceEqDiff, Nat.reduceBEq, Nat.reduceGT, hP, hC, u_addS, sc_set4, zs_set6, sc_set6, tA_PR, t1_PR, tT_PR, r1_PR, ha, hb]
theorem own_s3 (m : Nat) (s : So) (a b c : AObj) (h : s.Ok m) (ha : ∀ n, ltO n a = true) (hb : ∀ n, ltO n b = true) (hc : ∀ n, ltO n c = true) : slot_own m (SE s) [a, b, c] = some (.agg [bA s.has, nA s.vw, nA s.tm, sA s.body, PR 5 s.p.length, PR 6 s.c.length], [a, b, c, ⟨1, ty_api_Slot, 0, [bA s.has, nA s.vw, nA s.tm, sA s.body, PR 5 s.p.length, PR 6 s.c.length]⟩, ⟨1, ty_api_Slot, 0, [bA s.has, nA s.vw, nA s.tm, sA s.body, PR 5 s.p.length, PR 6 s.c.length]⟩, ⟨4, ty_api_Vote, 3, s.p.map vE⟩, ⟨4, ty_api_Vote, 3, s.c.map vE⟩]) := by
  obtain ⟨p1, p2, c1, c2, b1⟩ := h
  have hP : ∀ n, slices_Clone_Vote_t m [SL (s.p.map vE)] n = some (PR n (s.p.map vE).length, [⟨4, ty_api_Vote, 3, s.p.map vE⟩]) := fun n => slices_Clone_Vote_e m n (s.p.map vE) (by unfold allCE; rw [List.all_map]; exact vs_len3) (by rw [List.length_map]; omega)
  have hC : ∀ n, slices_Clone_Vote_t m [SL (s.c.map vE)] n = some (PR n (s.c.map vE).length, [⟨4, ty_api_Vote, 3, s.c.map vE⟩]) := fun n => slices_Clone_Vote_e m n (s.c.map vE) (by unfold allCE; rw [List.all_map]; exact vs_len3) (by rw [List.length_map]; omega)
  rw [slot_own_eq, SE_it]
  simp (config := {maxSteps := 4000000, implicitDefEqProofs := false}) (disch := omega) only [go_sem, ↓reduceIte, Nat.reduceAdd, Nat.reduceSub, Nat.reduceMul, Nat.reduceLeDiff, Nat.reduceLT, Int.reduceEq, Int.reduceNe, Int.reduceLT, Int.reduceLE, Int.reduceAdd, Int.reduceSub, Int.reduceMul, Int.reduceNeg, Int.reduceToNat, reduceCtorEq, Nat.reduceEqDiff, Nat.reduceBEq, Nat.reduceGT, hP, hC, u_addS, sc_set4, zs_set6, sc_set6, tA_PR, t1_PR, tT_PR, r1_PR, ha, hb, hc]
theorem fz_own {X0 X1 X2 X3 : AObj} {h : Bool} {v t k : Int} {b : List UInt8} {p c : List Vo} : fzV [X0, X1, X2, X3, ⟨4, ty_api_Vote, 3, p.map vE⟩, ⟨4, ty_api_Vote, 3, c.map vE⟩] (TU [.agg [bA h, nA v, nA t, sA b, PR 4 p.length, PR 5 c.length], nA k]) = TU [SE ⟨h, v, t, b, p, c⟩, nA k] := by
  have hp : (p.map vE).all (ltA 0) = true := by rw [List.all_map]; exact vs_ltA
  have hc : (c.map vE).all (ltA 0) = true := by rw [List.all_map]; exact vs_ltA
  simp [fzV, fzA, fz1, fzO, hp, hc]
  rfl
theorem se_lt {n : Nat} {s : So} {k : Int} : ltT n (TU [SE s, nA k]) = true := _root_.id rfl
theorem prop4_s (m : Nat) (s : So) (v t : Int) (b : List UInt8) (h : s.Ok m) : slot_Propose_r4 m ⟨[⟨1, ty_api_Slot, 0, SC s⟩, ⟨1, ty_api_Slot, 0, zc_api_Slot⟩], [(1, nA v), (2, nA t), (3, sA b), (4, OP 0 0), (8, OP 1 0)]⟩ = some (TU [SE ⟨true, v, t, b, s.p, s.c⟩, nA 0], []) := by
  have hO := own_s2 m s ⟨1, ty_api_Slot, 0, SC s⟩ ⟨1, ty_api_Slot, 0, zc_api_Slot⟩ h (fun n => rfl) (fun n => rfl)
  rw [SE_it] at hO
  rw [slot_Propose_r4_eq]
  simp (config := {maxSteps := 4000000, implicitDefEqProofs := false}) (disch := omega) only [go_sem, ↓reduceIte, Nat.reduceAdd, Nat.reduceSub, Nat.reduceMul, Nat.reduceLeDiff, Nat.reduceLT, Int.reduceEq, Int.reduceNe, Int.reduceLT, Int.reduceLE, Int.reduceAdd, Int.reduceSub, Int.reduceMul, Int.reduceNeg, Int.reduceToNat, reduceCtorEq, Nat.reduceEqDiff, Nat.reduceBEq, Nat.reduceGT, hO, zs_set6, sc_set6, tA_PR, t1_PR, tT_PR, r1_PR, u_tellZ, fz_own, se_lt]
def propF (s : So) (v t : Int) (b : List UInt8) : So × Int :=
  if mayB s = true ∧ numB v = true ∧ numB t = true ∧ b.length ≤ 65536 then
    if s.has = true ∧ againI v s.vw (decide (t = s.tm) && decide (b = s.body)) ≠ 0 then (SZ, againI v s.vw (decide (t = s.tm) && decide (b = s.body)))
    else (⟨true, v, t, b, s.p, s.c⟩, 0)
  else (SZ, 1)
theorem prop1_s (m : Nat) (s : So) (v t : Int) (b : List UInt8) : slot_Propose_r1 m ⟨[⟨1, ty_api_Slot, 0, SC s⟩, ⟨1, ty_api_Slot, 0, zc_api_Slot⟩], [(1, nA v), (2, nA t), (3, sA b), (4, OP 0 0), (8, OP 1 0), (28, V (.bool true))]⟩ = some (TU [SE SZ, nA 1], []) := by
  rw [slot_Propose_r1_eq]
  simp (config := {maxSteps := 4000000, implicitDefEqProofs := false}) (disch := omega) only [go_sem, ↓reduceIte, Nat.reduceAdd, Nat.reduceSub, Nat.reduceMul, Nat.reduceLeDiff, Nat.reduceLT, Int.reduceEq, Int.reduceNe, Int.reduceLT, Int.reduceLE, Int.reduceAdd, Int.reduceSub, Int.reduceMul, Int.reduceNeg, Int.reduceToNat, reduceCtorEq, Nat.reduceEqDiff, Nat.reduceBEq, Nat.reduceGT]
  try rfl
theorem prop3_s (m : Nat) (s : So) (v t e : Int) (b : List UInt8) (he : ¬ e = 0) : slot_Propose_r3 m ⟨[⟨1, ty_api_Slot, 0, SC s⟩, ⟨1, ty_api_Slot, 0, zc_api_Slot⟩], [(1, nA v), (2, nA t), (3, sA b), (4, OP 0 0), (8, OP 1 0), (10, nA e)]⟩ = some (TU [SE SZ, nA e], []) := by
  rw [slot_Propose_r3_eq]
  simp (config := {maxSteps := 4000000, implicitDefEqProofs := false}) (disch := omega) only [go_sem, ↓reduceIte, Nat.reduceAdd, Nat.reduceSub, Nat.reduceMul, Nat.reduceLeDiff, Nat.reduceLT, Int.reduceEq, Int.reduceNe, Int.reduceLT, Int.reduceLE, Int.reduceAdd, Int.reduceSub, Int.reduceMul, Int.reduceNeg, Int.reduceToNat, reduceCtorEq, Nat.reduceEqDiff, Nat.reduceBEq, Nat.reduceGT, he]
  try rfl
theorem prop2_s (m : Nat) (s : So) (v t : Int) (b : List UInt8) (h : s.Ok m) : slot_Propose_r2 m ⟨[⟨1, ty_api_Slot, 0, SC s⟩, ⟨1, ty_api_Slot, 0, zc_api_Slot⟩], [(1, nA v), (2, nA t), (3, sA b), (4, OP 0 0), (8, OP 1 0)]⟩ = some (if s.has = true ∧ againI v s.vw (decide (t = s.tm) && decide (b = s.body)) ≠ 0 then TU [SE SZ, nA (againI v s.vw (decide (t = s.tm) && decide (b = s.body)))] else TU [SE ⟨true, v, t, b, s.p, s.c⟩, nA 0], []) := by
  have h4 := prop4_s m s v t b h
  rw [slot_Propose_r2_eq]
  cases q0 : s.has with
  | false =>
    rw [if_neg (by simp)]
    simp (config := {maxSteps := 4000000, implicitDefEqProofs := false}) (disch := omega) only [go_sem, ↓reduceIte, Nat.reduceAdd, Nat.reduceSub, Nat.reduceMul, Nat.reduceLeDiff, Nat.reduceLT, Int.reduceEq, Int.reduceNe, Int.reduceLT, Int.reduceLE, Int.reduceAdd, Int.reduceSub, Int.reduceMul, Int.reduceNeg, Int.reduceToNat, reduceCtorEq, Nat.reduceEqDiff, Nat.reduceBEq, Nat.reduceGT, q0, h4]
  | true =>
  have fin : ∀ e, slot_Propose_r3 m ⟨[⟨1, ty_api_Slot, 0, SC s⟩, ⟨1, ty_api_Slot, 0, zc_api_Slot⟩], [(1, nA v), (2, nA t), (3, sA b), (4, OP 0 0), (8, OP 1 0), (10, nA e)]⟩ = some (if e ≠ 0 then TU [SE SZ, nA e] else TU [SE ⟨true, v, t, b, s.p, s.c⟩, nA 0], []) := fun e => by
    by_cases he : e = 0
    · rw [if_neg (by simpa using he), slot_Propose_r3_eq]
      simp (config := {maxSteps := 4000000, implicitDefEqProofs := false}) (disch := omega) only [go_sem, ↓reduceIte, Nat.reduceAdd, Nat.reduceSub, Nat.reduceMul, Nat.reduceLeDiff, Nat.reduceLT, Int.reduceEq, Int.reduceNe, Int.reduceLT, Int.reduceLE, Int.reduceAdd, Int.reduceSub, Int.reduceMul, Int.reduceNeg, Int.reduceToNat, reduceCtorEq, Nat.reduceEqDiff, Nat.reduceBEq, Nat.reduceGT, he, h4]
    · rw [if_pos he]
      exact prop3_s m s v t e b he
  have e0 : ∀ P : Prop, (true = true ∧ P) = P := fun P => by simp
  simp only [e0]
  by_cases q1 : t = s.tm
  · have hA := again_s m v s.vw (decide (b = s.body))
    rw [decide_eq_true q1, Bool.true_and]
    simp (config := {maxSteps := 4000000, implicitDefEqProofs := false}) (disch := omega) only [go_sem, ↓reduceIte, Nat.reduceAdd, Nat.reduceSub, Nat.reduceMul, Nat.reduceLeDiff, Nat.reduceLT, Int.reduceEq, Int.reduceNe, Int.reduceLT, Int.reduceLE, Int.reduceAdd, Int.reduceSub, Int.reduceMul, Int.reduceNeg, Int.reduceToNat, reduceCtorEq, Nat.reduceEqDiff, Nat.reduceBEq, Nat.reduceGT, q0, q1, hA]
    have := fin (againI v s.vw (decide (b = s.body)))
    rw [q1] at this
    exact this
  · have hA := again_s m v s.vw false
    rw [decide_eq_false q1, Bool.false_and]
    simp (config := {maxSteps := 4000000, implicitDefEqProofs := false}) (disch := omega) only [go_sem, ↓reduceIte, Nat.reduceAdd, Nat.reduceSub, Nat.reduceMul, Nat.reduceLeDiff, Nat.reduceLT, Int.reduceEq, Int.reduceNe, Int.reduceLT, Int.reduceLE, Int.reduceAdd, Int.reduceSub, Int.reduceMul, Int.reduceNeg, Int.reduceToNat, reduceCtorEq, Nat.reduceEqDiff, Nat.reduceBEq, Nat.reduceGT, q0, q1, hA]
    exact fin (againI v s.vw false)
theorem propose_s (m : Nat) (s : So) (v t : Int) (b : List UInt8) (h : s.Ok m) : slot_Propose m (SE s) (nA v) (nA t) (sA b) = some (TU [SE (propF s v t b).1, nA (propF s v t b).2], []) := by
  have hM := may_s m s h
  have hN1 := number_s m v
  have hN2 := number_s m t
  have h1 := prop1_s m s v t b
  have h2 := prop2_s m s v t b h
  rw [SE_it] at hM
  rw [slot_Propose_eq, SE_it]
  unfold propF
  cases q1 : mayB s with
  | false =>
    rw [q1] at hM
    rw [if_neg (by simp)]
    simp (config := {maxSteps := 4000000, implicitDefEqProofs := false}) (disch := omega) only [go_sem, ↓reduceIte, Nat.reduceAdd, Nat.reduceSub, Nat.reduceMul, Nat.reduceLeDiff, Nat.reduceLT, Int.reduceEq, Int.reduceNe, Int.reduceLT, Int.reduceLE, Int.reduceAdd, Int.reduceSub, Int.reduceMul, Int.reduceNeg, Int.reduceToNat, reduceCtorEq, Nat.reduceEqDiff, Nat.reduceBEq, Nat.reduceGT, hM, h1]
  | true =>
  rw [q1] at hM
  cases q2 : numB v with
  | false =>
    rw [q2] at hN1
    rw [if_neg (by simp)]
    simp (config := {maxSteps := 4000000, implicitDefEqProofs := false}) (disch := omega) only [go_sem, ↓reduceIte, Nat.reduceAdd, Nat.reduceSub, Nat.reduceMul, Nat.reduceLeDiff, Nat.reduceLT, Int.reduceEq, Int.reduceNe, Int.reduceLT, Int.reduceLE, Int.reduceAdd, Int.reduceSub, Int.reduceMul, Int.reduceNeg, Int.reduceToNat, reduceCtorEq, Nat.reduceEqDiff, Nat.reduceBEq, Nat.reduceGT, hM, hN1, h1]
  | true =>
  rw [q2] at hN1
  cases q3 : numB t with
  | false =>
    rw [q3] at hN2
    rw [if_neg (by simp)]
    simp (config := {maxSteps := 4000000, implicitDefEqProofs := false}) (disch := omega) only [go_sem, ↓reduceIte, Nat.reduceAdd, Nat.reduceSub, Nat.reduceMul, Nat.reduceLeDiff, Nat.reduceLT, Int.reduceEq, Int.reduceNe, Int.reduceLT, Int.reduceLE, Int.reduceAdd, Int.reduceSub, Int.reduceMul, Int.reduceNeg, Int.reduceToNat, reduceCtorEq, Nat.reduceEqDiff, Nat.reduceBEq, Nat.reduceGT, hM, hN1, hN2, h1]
  | true =>
  rw [q3] at hN2
  by_cases q4 : b.length ≤ 65536
  case neg =>
    have q4' : (65536 : Int) < (b.length : Int) := by omega
    rw [if_neg (by simp [q4])]
    simp (config := {maxSteps := 4000000, implicitDefEqProofs := false}) (disch := omega) only [go_sem, ↓reduceIte, Nat.reduceAdd, Nat.reduceSub, Nat.reduceMul, Nat.reduceLeDiff, Nat.reduceLT, Int.reduceEq, Int.reduceNe, Int.reduceLT, Int.reduceLE, Int.reduceAdd, Int.reduceSub, Int.reduceMul, Int.reduceNeg, Int.reduceToNat, reduceCtorEq, Nat.reduceEqDiff, Nat.reduceBEq, Nat.reduceGT, hM, hN1, hN2, q4', h1]
  have q4' : ¬ (65536 : Int) < (b.length : Int) := by omega
  rw [if_pos ⟨rfl, rfl, rfl, q4⟩]
  simp (config := {maxSteps := 4000000, implicitDefEqProofs := false}) (disch := omega) only [go_sem, ↓reduceIte, Nat.reduceAdd, Nat.reduceSub, Nat.reduceMul, Nat.reduceLeDiff, Nat.reduceLT, Int.reduceEq, Int.reduceNe, Int.reduceLT, Int.reduceLE, Int.reduceAdd, Int.reduceSub, Int.reduceMul, Int.reduceNeg, Int.reduceToNat, reduceCtorEq, Nat.reduceEqDiff, Nat.reduceBEq, Nat.reduceGT, hM, hN1, hN2, q4', slot_Propose_r1_eq, h2]
  split <;> rfl
end Go.Proofs.YtaaafkoeddgaaaaDoor

namespace Go.Proofs.YtaaafkoeddgaaaaDoor
open Go.RowKit
set_option linter.unusedVariables false
set_option linter.unusedSimpArgs false
set_option maxRecDepth 20000
attribute [local go_sem] Nat.zero_add Nat.add_zero Nat.mul_one Int.toNat_natCast Int.natCast_zero Int.cast_ofNat_Int or_false false_or or_true true_or Nat.sub_zero Int.natCast_nonneg Int.toNat_zero Bool.true_and Bool.and_true Bool.false_and Bool.and_false Bool.true_or Bool.or_true Bool.false_or Bool.or_false Bool.not_true Bool.not_false Bool.not_not true_and and_true false_and and_false not_true_eq_false not_false_eq_true eq_self decide_true decide_false ne_eq implies_true forall_const true_implies false_implies Bool.true_eq_false Bool.false_eq_true List.map_cons List.map_nil List.all_cons List.all_nil List.length_cons List.length_nil List.length_map List.length_append List.nil_append List.cons_append List.set_cons_zero List.set_cons_succ List.set_nil List.drop_zero List.drop_succ_cons List.drop_nil List.take_zero List.take_succ_cons List.take_nil Option.map_some Option.map_none Option.isSome_some List.all_append List.all_map Function.comp_def decide_eq_true_eq Bool.and_eq_true beq_self_eq_true or_self and_self ite_true ite_false Nat.le_refl Bool.not_eq_true decide_not Bool.not_eq_true' decide_eq_false_iff_not Bool.not_eq_false Bool.or_eq_true if_true if_false ite_self vE_it vc_len vc_sure vc_ltA vc_lt1 vc_all1 vc_ro vc_take vc_sl vc_set vc_fr vc_vw vc_tm zcV_eq sc_len sc_sure sc_ltA sc_lt1 sc_all1 sc_ro sc_take sc_set sc_has sc_vw sc_tm sc_body sc_p sc_c zs_len zs_sure zs_ltA zs_ro zs_set zs_set2 zs_set3 zs_take zs_b vs_ltA vs_len3 natInt u_nthM all_tt
theorem rpropose_s (m : Nat) (s : So) (v t : Int) (b : List UInt8) (h : s.Ok m) : plenumref29_Propose m (SE s) (nA v) (nA t) (sA b) = some (TU [SE (propF s v t b).1, nA (propF s v t b).2], []) := by
  have hM := rmay_s m s h
  have hN1 := num_s m v
  have hN2 := num_s m t
  rw [SE_it] at hM
  rw [plenumref29_Propose_eq, SE_it]
  have hb : ∀ {K1 : AV → RO}, buildE (some pl_api_Slot) (some zc_api_Slot) [(0, V (.bool true)), (1, nA v), (2, nA t), (3, sA b), (4, SL (s.p.map vE)), (5, SL (s.c.map vE))] K1 = K1 (.agg (SC ⟨true, v, t, b, s.p, s.c⟩)) := fun {K1} => _root_.id rfl
  have h1 : plenumref29_Propose_r1 m ⟨[⟨1, ty_api_Slot, 0, SC s⟩, ⟨1, ty_api_Slot, 0, zc_api_Slot⟩], [(1, nA v), (2, nA t), (3, sA b), (4, OP 0 0), (8, OP 1 0), (27, V (.bool true))]⟩ = some (TU [SE SZ, nA 1], []) := by
    rw [plenumref29_Propose_r1_eq]
    simp (config := {maxSteps := 4000000, implicitDefEqProofs := false}) (disch := omega) only [go_sem, ↓reduceIte, Nat.reduceAdd, Nat.reduceSub, Nat.reduceMul, Nat.reduceLeDiff, Nat.reduceLT, Int.reduceEq, Int.reduceNe, Int.reduceLT, Int.reduceLE, Int.reduceAdd, Int.reduceSub, Int.reduceMul, Int.reduceNeg, Int.reduceToNat, reduceCtorEq, Nat.reduceEqDiff, Nat.reduceBEq, Nat.reduceGT]
    try rfl
  unfold propF
  cases q1 : mayB s with
  | false =>
    rw [q1] at hM
    rw [if_neg (by simp)]
    simp (config := {maxSteps := 4000000, implicitDefEqProofs := false}) (disch := omega) only [go_sem, ↓reduceIte, Nat.reduceAdd, Nat.reduceSub, Nat.reduceMul, Nat.reduceLeDiff, Nat.reduceLT, Int.reduceEq, Int.reduceNe, Int.reduceLT, Int.reduceLE, Int.reduceAdd, Int.reduceSub, Int.reduceMul, Int.reduceNeg, Int.reduceToNat, reduceCtorEq, Nat.reduceEqDiff, Nat.reduceBEq, Nat.reduceGT, hM, h1]
  | true =>
  rw [q1] at hM
  cases q2 : numB v with
  | false =>
    rw [q2] at hN1
    rw [if_neg (by simp)]
    simp (config := {maxSteps := 4000000, implicitDefEqProofs := false}) (disch := omega) only [go_sem, ↓reduceIte, Nat.reduceAdd, Nat.reduceSub, Nat.reduceMul, Nat.reduceLeDiff, Nat.reduceLT, Int.reduceEq, Int.reduceNe, Int.reduceLT, Int.reduceLE, Int.reduceAdd, Int.reduceSub, Int.reduceMul, Int.reduceNeg, Int.reduceToNat, reduceCtorEq, Nat.reduceEqDiff, Nat.reduceBEq, Nat.reduceGT, hM, hN1, h1]
  | true =>
  rw [q2] at hN1
  cases q3 : numB t with
  | false =>
    rw [q3] at hN2
    rw [if_neg (by simp)]
    simp (config := {maxSteps := 4000000, implicitDefEqProofs := false}) (disch := omega) only [go_sem, ↓reduceIte, Nat.reduceAdd, Nat.reduceSub, Nat.reduceMul, Nat.reduceLeDiff, Nat.reduceLT, Int.reduceEq, Int.reduceNe, Int.reduceLT, Int.reduceLE, Int.reduceAdd, Int.reduceSub, Int.reduceMul, Int.reduceNeg, Int.reduceToNat, reduceCtorEq, Nat.reduceEqDiff, Nat.reduceBEq, Nat.reduceGT, hM, hN1, hN2, h1]
  | true =>
  rw [q3] at hN2
  by_cases q4 : b.length ≤ 65536
  case neg =>
    have q4' : (65536 : Int) < (b.length : Int) := by omega
    rw [if_neg (by simp [q4])]
    simp (config := {maxSteps := 4000000, implicitDefEqProofs := false}) (disch := omega) only [go_sem, ↓reduceIte, Nat.reduceAdd, Nat.reduceSub, Nat.reduceMul, Nat.reduceLeDiff, Nat.reduceLT, Int.reduceEq, Int.reduceNe, Int.reduceLT, Int.reduceLE, Int.reduceAdd, Int.reduceSub, Int.reduceMul, Int.reduceNeg, Int.reduceToNat, reduceCtorEq, Nat.reduceEqDiff, Nat.reduceBEq, Nat.reduceGT, hM, hN1, hN2, q4', h1]
  have q4' : ¬ (65536 : Int) < (b.length : Int) := by omega
  rw [if_pos ⟨rfl, rfl, rfl, q4⟩]
  cases q0 : s.has with
  | false =>
    rw [if_neg (by simp)]
    simp (config := {maxSteps := 4000000, implicitDefEqProofs := false}) (disch := omega) only [go_sem, ↓reduceIte, Nat.reduceAdd, Nat.reduceSub, Nat.reduceMul, Nat.reduceLeDiff, Nat.reduceLT, Int.reduceEq, Int.reduceNe, Int.reduceLT, Int.reduceLE, Int.reduceAdd, Int.reduceSub, Int.reduceMul, Int.reduceNeg, Int.reduceToNat, reduceCtorEq, Nat.reduceEqDiff, Nat.reduceBEq, Nat.reduceGT, hM, hN1, hN2, q4', q0, hb, plenumref29_Propose_r8_eq, plenumref29_Propose_r7_eq, plenumref29_Propose_r6_eq, plenumref29_Propose_r5_eq, plenumref29_Propose_r4_eq, plenumref29_Propose_r3_eq, plenumref29_Propose_r2_eq, plenumref29_Propose_r1_eq]
    try rfl
  | true =>
  have e0 : ∀ P : Prop, (true = true ∧ P) = P := fun P => by simp
  simp only [e0]
  unfold againI
  by_cases c1 : v < s.vw
  · rw [if_pos c1]
    simp (config := {maxSteps := 4000000, implicitDefEqProofs := false}) (disch := omega) only [go_sem, ↓reduceIte, Nat.reduceAdd, Nat.reduceSub, Nat.reduceMul, Nat.reduceLeDiff, Nat.reduceLT, Int.reduceEq, Int.reduceNe, Int.reduceLT, Int.reduceLE, Int.reduceAdd, Int.reduceSub, Int.reduceMul, Int.reduceNeg, Int.reduceToNat, reduceCtorEq, Nat.reduceEqDiff, Nat.reduceBEq, Nat.reduceGT, hM, hN1, hN2, q4', q0, c1, hb, plenumref29_Propose_r8_eq, plenumref29_Propose_r7_eq, plenumref29_Propose_r6_eq, plenumref29_Propose_r5_eq, plenumref29_Propose_r4_eq, plenumref29_Propose_r3_eq, plenumref29_Propose_r2_eq, plenumref29_Propose_r1_eq]
    try rfl
  rw [if_neg c1]
  by_cases c2 : s.vw < v
  · have c3 : ¬ s.vw = v := by omega
    rw [if_pos c2]
    simp (config := {maxSteps := 4000000, implicitDefEqProofs := false}) (disch := omega) only [go_sem, ↓reduceIte, Nat.reduceAdd, Nat.reduceSub, Nat.reduceMul, Nat.reduceLeDiff, Nat.reduceLT, Int.reduceEq, Int.reduceNe, Int.reduceLT, Int.reduceLE, Int.reduceAdd, Int.reduceSub, Int.reduceMul, Int.reduceNeg, Int.reduceToNat, reduceCtorEq, Nat.reduceEqDiff, Nat.reduceBEq, Nat.reduceGT, hM, hN1, hN2, q4', q0, c1, c3, hb, plenumref29_Propose_r8_eq, plenumref29_Propose_r7_eq, plenumref29_Propose_r6_eq, plenumref29_Propose_r5_eq, plenumref29_Propose_r4_eq, plenumref29_Propose_r3_eq, plenumref29_Propose_r2_eq, plenumref29_Propose_r1_eq]
    try rfl
  have c3 : s.vw = v := by omega
  have c0 : ¬ v < v := by omega
  rw [if_neg c2]
  by_cases c4 : t = s.tm
  · subst c4
    by_cases c5 : b = s.body
    · subst c5
      simp (config := {maxSteps := 4000000, implicitDefEqProofs := false}) (disch := omega) only [go_sem, ↓reduceIte, Nat.reduceAdd, Nat.reduceSub, Nat.reduceMul, Nat.reduceLeDiff, Nat.reduceLT, Int.reduceEq, Int.reduceNe, Int.reduceLT, Int.reduceLE, Int.reduceAdd, Int.reduceSub, Int.reduceMul, Int.reduceNeg, Int.reduceToNat, reduceCtorEq, Nat.reduceEqDiff, Nat.reduceBEq, Nat.reduceGT, hM, hN1, hN2, q4', q0, c0, c1, c3, hb, plenumref29_Propose_r8_eq, plenumref29_Propose_r7_eq, plenumref29_Propose_r6_eq, plenumref29_Propose_r5_eq, plenumref29_Propose_r4_eq, plenumref29_Propose_r3_eq, plenumref29_Propose_r2_eq, plenumref29_Propose_r1_eq]
      try rfl
    · have c6 : ¬ s.body = b := fun e => c5 e.symm
      simp (config := {maxSteps := 4000000, implicitDefEqProofs := false}) (disch := omega) only [go_sem, ↓reduceIte, Nat.reduceAdd, Nat.reduceSub, Nat.reduceMul, Nat.reduceLeDiff, Nat.reduceLT, Int.reduceEq, Int.reduceNe, Int.reduceLT, Int.reduceLE, Int.reduceAdd, Int.reduceSub, Int.reduceMul, Int.reduceNeg, Int.reduceToNat, reduceCtorEq, Nat.reduceEqDiff, Nat.reduceBEq, Nat.reduceGT, hM, hN1, hN2, q4', q0, c0, c1, c3, c5, c6, hb, plenumref29_Propose_r8_eq, plenumref29_Propose_r7_eq, plenumref29_Propose_r6_eq, plenumref29_Propose_r5_eq, plenumref29_Propose_r4_eq, plenumref29_Propose_r3_eq, plenumref29_Propose_r2_eq, plenumref29_Propose_r1_eq]
      try rfl
  · have c6 : ¬ s.tm = t := fun e => c4 e.symm
    simp (config := {maxSteps := 4000000, implicitDefEqProofs := false}) (disch := omega) only [go_sem, ↓reduceIte, Nat.reduceAdd, Nat.reduceSub, Nat.reduceMul, Nat.reduceLeDiff, Nat.reduceLT, Int.reduceEq, Int.reduceNe, Int.reduceLT, Int.reduceLE, Int.reduceAdd, Int.reduceSub, Int.reduceMul, Int.reduceNeg, Int.reduceToNat, reduceCtorEq, Nat.reduceEqDiff, Nat.reduceBEq, Nat.reduceGT, hM, hN1, hN2, q4', q0, c0, c1, c3, c4, c6, hb, plenumref29_Propose_r8_eq, plenumref29_Propose_r7_eq, plenumref29_Propose_r6_eq, plenumref29_Propose_r5_eq, plenumref29_Propose_r4_eq, plenumref29_Propose_r3_eq, plenumref29_Propose_r2_eq, plenumref29_Propose_r1_eq]
    try rfl
theorem flV_at : ∀ (l : List Vo) (k j : Nat) (h : k < l.length), j < 3 → (flat (l.map vE))[k * 3 + j]? = (vC l[k])[j]?
  | [], k, j, h, _ => by simp at h
  | x :: r, 0, j, h, hj => by
    have e : flat ((x :: r).map vE) = vC x ++ flat (r.map vE) := by simp [flat]; rfl
    rw [e, Nat.zero_mul, Nat.zero_add, List.getElem?_append_left (by rw [vc_len]; exact hj)]
    rfl
  | x :: r, k + 1, j, h, hj => by
    have e : flat ((x :: r).map vE) = vC x ++ flat (r.map vE) := by simp [flat]; rfl
    rw [e, List.getElem?_append_right (by rw [vc_len]; omega), vc_len, show (k + 1) * 3 + j - 3 = k * 3 + j by omega, flV_at r k j (by simpa using h) hj]
    rfl
theorem flV_nth {R : Type} {K : AV → Option R} {l : List Vo} {k : Nat} (h : k < l.length) : nthE (flat (l.map vE)) (k * 3) K = K (nA l[k].fr) ∧ nthE (flat (l.map vE)) (k * 3 + 1) K = K (nA l[k].vw) ∧ nthE (flat (l.map vE)) (k * 3 + 2) K = K (nA l[k].tm) := by
  have h0 := flV_at l k 0 h (by omega)
  have h1 := flV_at l k 1 h (by omega)
  have h2 := flV_at l k 2 h (by omega)
  rw [Nat.add_zero] at h0
  unfold nthE
  rw [h0, h1, h2]
  exact ⟨rfl, rfl, rfl⟩
theorem callV_lay {R : Type} {m k : Nat} {H : List AObj} {K : AV → List AObj → Option R} : callVE (sort_Search_env m) (CL (.func 55) 0 [OP 7 0, OP 8 0]) [nA (k : Int)] H K = keepE (slot_lay_1_t m [nA (k : Int), OP 7 0, OP 8 0] H) K := _root_.id rfl
theorem flV_0 {R : Type} {K : AV → Option R} {l : List Vo} {k : Nat} (h : k < l.length) : nthE (flat (l.map vE)) (k * 3) K = K (nA l[k].fr) := (flV_nth h).1
theorem flV_1 {R : Type} {K : AV → Option R} {l : List Vo} {k : Nat} (h : k < l.length) : nthE (flat (l.map vE)) (k * 3 + 1) K = K (nA l[k].vw) := (flV_nth h).2.1
theorem flV_2 {R : Type} {K : AV → Option R} {l : List Vo} {k : Nat} (h : k < l.length) : nthE (flat (l.map vE)) (k * 3 + 2) K = K (nA l[k].tm) := (flV_nth h).2.2
def posV (l : List Vo) (x : Vo) : Nat := l.findIdx fun y => decide (x.fr ≤ y.fr)
def Srt (l : List Vo) : Prop := ∀ (i j : Nat) (hj : j < l.length) (h : i < j), l[i].fr < l[j].fr
theorem pos_at {l : List Vo} {x : Vo} {k : Nat} (hk : k ≤ l.length) (h1 : ∀ (i : Nat) (h : i < l.length), i < k → l[i].fr < x.fr) (h2 : ∀ h : k < l.length, x.fr ≤ l[k].fr) : posV l x = k := by
  unfold posV
  rcases Nat.lt_or_ge k l.length with q | q
  · refine (List.findIdx_eq q).2 ⟨by simpa using h2 q, fun j hj => by have := h1 j (by omega) hj; simp; omega⟩
  · obtain rfl : k = l.length := by omega
    refine List.findIdx_eq_length.2 fun y hy => ?_
    obtain ⟨i, hi, rfl⟩ := List.getElem_of_mem hy
    have := h1 i hi hi
    simp; omega
theorem pos_le (l : List Vo) (x : Vo) : posV l x ≤ l.length := List.findIdx_le_length
theorem pos_lt {l : List Vo} {x : Vo} : ∀ (i : Nat) (h : i < l.length), i < posV l x → l[i].fr < x.fr := fun i h hi => by
  have := List.not_of_lt_findIdx hi
  simp at this; omega
theorem pos_ge {l : List Vo} {x : Vo} (h : posV l x < l.length) : x.fr ≤ l[posV l x].fr := by
  have := List.findIdx_getElem (w := h)
  exact of_decide_eq_true this
theorem votes_srt : ∀ {l : List Vo} {p : Option Vo}, votesG p l = true → Srt l ∧ ∀ y, p = some y → ∀ x ∈ l, y.fr < x.fr
  | [], p, h => ⟨fun i j hj => by simp at hj, fun y _ x hx => by cases hx⟩
  | a :: r, p, h => by
    unfold votesG at h
    simp only [Bool.and_eq_true] at h
    obtain ⟨⟨h1, h2⟩, h3⟩ := h
    obtain ⟨q1, q2⟩ := votes_srt h3
    refine ⟨fun i j hj hi => ?_, fun y hy x hx => ?_⟩
    · cases j with
      | zero => omega
      | succ j =>
        cases i with
        | zero => exact q2 a rfl _ (List.getElem_mem (by simpa using hj))
        | succ i => exact q1 i j (by simpa using hj) (by omega)
    · subst hy
      have h2 : y.fr < a.fr := of_decide_eq_true h2
      rcases List.mem_cons.1 hx with rfl | hx
      · exact h2
      · have := q2 a rfl x hx; omega
theorem votes_ok : ∀ {l : List Vo} {p : Option Vo}, votesG p l = true → ∀ x ∈ l, voteB x = true
  | [], p, h => fun x hx => by cases hx
  | a :: r, p, h => by
    unfold votesG at h
    simp only [Bool.and_eq_true] at h
    intro x hx
    rcases List.mem_cons.1 hx with rfl | hx
    · exact h.1.1
    · exact votes_ok h.2 x hx
theorem zs_lt {n : Nat} : zc_api_Slot.all (ltA n) = true := _root_.id rfl
theorem zs_all1 {n : Nat} {H : List AObj} : (zc_api_Slot.all fun y => lt1 n (ro1 H y)) = true := _root_.id rfl
theorem ptr_ro {H : List AObj} {i o : Nat} : ro1 H (OP i o) = OP i o := _root_.id rfl
abbrev S0 (s : So) : List AV := [bA s.has, nA s.vw, nA s.tm, sA s.body, PR 5 s.p.length, PR 6 s.c.length]
abbrev HB (s : So) (x : Vo) : List AObj := [⟨1, ty_api_Slot, 0, S0 s⟩, ⟨1, ty_api_Vote, 0, vC x⟩, ⟨1, ty_api_Slot, 0, zc_api_Slot⟩, ⟨1, ty_api_Slot, 0, S0 s⟩, ⟨1, ty_api_Slot, 0, S0 s⟩, ⟨4, ty_api_Vote, 3, s.p.map vE⟩, ⟨4, ty_api_Vote, 3, s.c.map vE⟩]
abbrev HLP (s : So) (x : Vo) : List AObj := [⟨1, ty_api_Slot, 0, S0 s⟩, ⟨1, ty_api_Vote, 0, vC x⟩, ⟨1, ty_api_Slot, 0, zc_api_Slot⟩, ⟨1, ty_api_Slot, 0, S0 s⟩, ⟨1, ty_api_Slot, 0, S0 s⟩, ⟨4, ty_api_Vote, 3, s.p.map vE⟩, ⟨4, ty_api_Vote, 3, s.c.map vE⟩, ⟨1, ty_p_sl_api_Vote, 0, [OP 0 4]⟩, ⟨1, ty_api_Vote, 0, vC x⟩]
theorem cloP (m k : Nat) (s : So) (x : Vo) (hk : k < s.p.length) : slot_lay_1_t m [nA k, OP 7 0, OP 8 0] (HLP s x) = some (bA (decide (x.fr ≤ s.p[k].fr)), HLP s x) := by
  show slot_lay_1 m _ _ _ _ = _
  rw [slot_lay_1_eq]
  have hk' : (k : Int) < (s.p.length : Int) := by omega
  have hpos : 0 < s.p.length := by omega
  simp (config := {maxSteps := 4000000, implicitDefEqProofs := false}) (disch := omega) only [go_sem, ↓reduceIte, Nat.reduceAdd, Nat.reduceSub, Nat.reduceMul, Nat.reduceLeDiff, Nat.reduceLT, Int.reduceEq, Int.reduceNe, Int.reduceLT, Int.reduceLE, Int.reduceAdd, Int.reduceSub, Int.reduceMul, Int.reduceNeg, Int.reduceToNat, reduceCtorEq, Nat.reduceEqDiff, Nat.reduceBEq, Nat.reduceGT, tA_PR, t1_PR, tT_PR, r1_PR, zs_lt, hk', hpos, flV_0]
theorem searchP (m : Nat) (s : So) (x : Vo) (hm : s.p.length < m) (hl : s.p.length ≤ 1000000) (hs : Srt s.p) : sort_Search m (nA s.p.length) (CL (.func 55) 0 [OP 7 0, OP 8 0]) (HLP s x) = some (nA (posV s.p x), HLP s x) := by
  rw [sort_Search_eq]
  refine iter_go (ι := {p : Nat × Nat // p.1 ≤ p.2 ∧ p.2 ≤ s.p.length ∧ (∀ (i : Nat) (h : i < s.p.length), i < p.1 → s.p[i].fr < x.fr) ∧ (∀ (i : Nat) (h : i < s.p.length), p.2 ≤ i → x.fr ≤ s.p[i].fr)}) (fun p => ⟨HLP s x, [(1, CL (.func 55) 0 [OP 7 0, OP 8 0]), (5, nA p.1.1), (6, nA p.1.2)]⟩) (fun p => p.1.2 - p.1.1) (fun _ => some (nA (posV s.p x), HLP s x)) ?_ ⟨(0, s.p.length), Nat.zero_le _, Nat.le_refl _, (by intro i h h2; omega), (by intro i h h2; dsimp only at h2; omega)⟩ (by dsimp only; omega)
  rintro kx hkx ⟨⟨lo, hi⟩, h1, h2, h3, h4⟩ kc hkc
  dsimp only at hkc h1 h2 h3 h4 ⊢
  rw [sort_Search_b1_eq]
  by_cases hlt : lo < hi
  · have hlt' : (lo : Int) < (hi : Int) := by omega
    obtain ⟨d, hd⟩ : ∃ d : Nat, d = (lo + hi) / 2 := ⟨_, rfl⟩
    have hdl : d < s.p.length := by omega
    have hdd : ((lo : Int) + (hi : Int)) / 2 = (d : Int) := by omega
    have hw : IntKind.i64.wrap ((IntKind.u64.wrap ((lo : Int) + (hi : Int))).fdiv (2 ^ min 1 64)) = (d : Int) := by
      rw [w_u64 (by omega) (by omega), Int.fdiv_eq_ediv_of_nonneg _ (by decide)]
      show IntKind.i64.wrap (((lo : Int) + (hi : Int)) / 2) = _
      rw [hdd, w_i64 (by omega) (by omega)]
    have hC := cloP m d s x hdl
    by_cases hq : x.fr ≤ s.p[d].fr
    · have step := hkc ⟨(lo, d), by omega, by omega, h3, fun i h hi' => by
        rcases Nat.lt_or_ge d i with e | e
        · have := hs d i h e; omega
        · have : i = d := by omega
          subst this; exact hq⟩ (by dsimp only; omega)
      dsimp only at step
      simp (config := {maxSteps := 4000000, implicitDefEqProofs := false}) (disch := omega) only [go_sem, ↓reduceIte, Nat.reduceAdd, Nat.reduceSub, Nat.reduceMul, Nat.reduceLeDiff, Nat.reduceLT, Int.reduceEq, Int.reduceNe, Int.reduceLT, Int.reduceLE, Int.reduceAdd, Int.reduceSub, Int.reduceMul, Int.reduceNeg, Int.reduceToNat, reduceCtorEq, Nat.reduceEqDiff, Nat.reduceBEq, Nat.reduceGT, tA_PR, t1_PR, tT_PR, r1_PR, zs_lt, hlt', hw, w_i64, callV_lay, hC, hq]
      exact step
    · have step := hkc ⟨(d + 1, hi), by omega, h2, (fun i h hi' => by
        rcases Nat.lt_or_ge i d with e | e
        · have := hs i d hdl e; omega
        · have : i = d := by omega
          subst this; omega), h4⟩ (by dsimp only; omega)
      have e1 : ((d + 1 : Nat) : Int) = (d : Int) + 1 := by omega
      dsimp only at step
      rw [e1] at step
      simp (config := {maxSteps := 4000000, implicitDefEqProofs := false}) (disch := omega) only [go_sem, ↓reduceIte, Nat.reduceAdd, Nat.reduceSub, Nat.reduceMul, Nat.reduceLeDiff, Nat.reduceLT, Int.reduceEq, Int.reduceNe, Int.reduceLT, Int.reduceLE, Int.reduceAdd, Int.reduceSub, Int.reduceMul, Int.reduceNeg, Int.reduceToNat, reduceCtorEq, Nat.reduceEqDiff, Nat.reduceBEq, Nat.reduceGT, tA_PR, t1_PR, tT_PR, r1_PR, zs_lt, hlt', hw, w_i64, callV_lay, hC, hq]
      exact step
  · have hlt' : ¬ (lo : Int) < (hi : Int) := by omega
    have : lo = hi := by omega
    subst this
    have hp := pos_at h2 (fun i h hi => h3 i h hi) (fun h => h4 lo h (Nat.le_refl _))
    rw [hp]
    simp (config := {maxSteps := 4000000, implicitDefEqProofs := false}) (disch := omega) only [go_sem, ↓reduceIte, Nat.reduceAdd, Nat.reduceSub, Nat.reduceMul, Nat.reduceLeDiff, Nat.reduceLT, Int.reduceEq, Int.reduceNe, Int.reduceLT, Int.reduceLE, Int.reduceAdd, Int.reduceSub, Int.reduceMul, Int.reduceNeg, Int.reduceToNat, reduceCtorEq, Nat.reduceEqDiff, Nat.reduceBEq, Nat.reduceGT, tA_PR, t1_PR, tT_PR, r1_PR, zs_lt, hlt', hkx, sort_Search_r1_eq]
theorem lay1P (m : Nat) (s : So) (x : Vo) (p : Nat) (hp : p ≤ s.p.length) (hl : s.p.length ≤ 1000000) : slot_lay_r1 m 7 ⟨HLP s x, [(2, OP 7 0), (3, OP 8 0), (5, nA p), (31, V (.bool true))]⟩ = some (nA 0, ((HB s x).set 0 ⟨1, ty_api_Slot, 0, (S0 s).set 4 (SL ((s.p.take p ++ x :: s.p.drop p).map vE))⟩).set 5 ⟨0, ty_api_Vote, 3, []⟩) := by
  have hI : slices_Insert_Vote_t m [PR 5 s.p.length, nA (p : Int), SL [.agg (vC x)]] (HLP s x) = some (SL ((s.p.take p ++ x :: s.p.drop p).map vE), (HLP s x).set 5 ⟨0, ty_api_Vote, 3, []⟩) := by
    have := slices_Insert_Vote_e m (i := 5) (H := HLP s x) (es := s.p.map vE) (x := .agg (vC x)) (k := p) rfl (by rw [List.length_map]; exact hp) (by rw [List.length_map]; omega) (by rw [List.all_map]; exact vs_ltA) rfl
    rw [List.length_map] at this
    refine this.trans ?_
    rw [List.map_append, List.map_take, List.map_cons, List.map_drop]
    rfl
  rw [slot_lay_r1_eq]
  simp (config := {maxSteps := 4000000, implicitDefEqProofs := false}) (disch := omega) only [go_sem, ↓reduceIte, Nat.reduceAdd, Nat.reduceSub, Nat.reduceMul, Nat.reduceLeDiff, Nat.reduceLT, Int.reduceEq, Int.reduceNe, Int.reduceLT, Int.reduceLE, Int.reduceAdd, Int.reduceSub, Int.reduceMul, Int.reduceNeg, Int.reduceToNat, reduceCtorEq, Nat.reduceEqDiff, Nat.reduceBEq, Nat.reduceGT, tA_PR, t1_PR, tT_PR, r1_PR, ptr_ro, zs_lt, hI]
theorem lay2P (m : Nat) (s : So) (x : Vo) (p : Nat) (hp : p < s.p.length) (hl : s.p.length ≤ 1000000) : slot_lay_r1 m 7 ⟨HLP s x, [(2, OP 7 0), (3, OP 8 0), (5, nA p), (31, V (.bool false))]⟩ = some (nA (againI x.vw s.p[p].vw (decide (x.tm = s.p[p].tm))), if againI x.vw s.p[p].vw (decide (x.tm = s.p[p].tm)) = 0 then (HB s x).set 5 ⟨4, ty_api_Vote, 3, (s.p.set p x).map vE⟩ else HB s x) := by
  have hA := again_s m x.vw s.p[p].vw (decide (x.tm = s.p[p].tm))
  have hp' : (p : Int) < (s.p.length : Int) := by omega
  have hpos : 0 < s.p.length := by omega
  have hm7 : p * 3 % 3 = 0 := Nat.mul_mod_left p 3
  have hd7 : p * 3 / 3 = p := Nat.mul_div_cancel p (by omega)
  have hst : (s.p.map vE).set p (.agg (vC x)) = (s.p.set p x).map vE := by rw [List.map_set]; rfl
  rw [slot_lay_r1_eq]
  by_cases he : againI x.vw s.p[p].vw (decide (x.tm = s.p[p].tm)) = 0
  · rw [if_pos he]
    rw [he] at hA ⊢
    simp (config := {maxSteps := 4000000, implicitDefEqProofs := false}) (disch := omega) only [go_sem, ↓reduceIte, Nat.reduceAdd, Nat.reduceSub, Nat.reduceMul, Nat.reduceLeDiff, Nat.reduceLT, Int.reduceEq, Int.reduceNe, Int.reduceLT, Int.reduceLE, Int.reduceAdd, Int.reduceSub, Int.reduceMul, Int.reduceNeg, Int.reduceToNat, reduceCtorEq, Nat.reduceEqDiff, Nat.reduceBEq, Nat.reduceGT, tA_PR, t1_PR, tT_PR, r1_PR, ptr_ro, zs_lt, hp, hp', hpos, flV_0, flV_1, flV_2, slot_lay_r2_eq, hA, hm7, hd7, hst]
  · rw [if_neg he]
    generalize againI x.vw s.p[p].vw (decide (x.tm = s.p[p].tm)) = e at he hA ⊢
    simp (config := {maxSteps := 4000000, implicitDefEqProofs := false}) (disch := omega) only [go_sem, ↓reduceIte, Nat.reduceAdd, Nat.reduceSub, Nat.reduceMul, Nat.reduceLeDiff, Nat.reduceLT, Int.reduceEq, Int.reduceNe, Int.reduceLT, Int.reduceLE, Int.reduceAdd, Int.reduceSub, Int.reduceMul, Int.reduceNeg, Int.reduceToNat, reduceCtorEq, Nat.reduceEqDiff, Nat.reduceBEq, Nat.reduceGT, tA_PR, t1_PR, tT_PR, r1_PR, ptr_ro, zs_lt, hp', hpos, flV_0, flV_1, flV_2, slot_lay_r2_eq, hA, he]
abbrev HLC (s : So) (x : Vo) : List AObj := [⟨1, ty_api_Slot, 0, S0 s⟩, ⟨1, ty_api_Vote, 0, vC x⟩, ⟨1, ty_api_Slot, 0, zc_api_Slot⟩, ⟨1, ty_api_Slot, 0, S0 s⟩, ⟨1, ty_api_Slot, 0, S0 s⟩, ⟨4, ty_api_Vote, 3, s.p.map vE⟩, ⟨4, ty_api_Vote, 3, s.c.map vE⟩, ⟨1, ty_p_sl_api_Vote, 0, [OP 0 5]⟩, ⟨1, ty_api_Vote, 0, vC x⟩]
theorem cloC (m k : Nat) (s : So) (x : Vo) (hk : k < s.c.length) : slot_lay_1_t m [nA k, OP 7 0, OP 8 0] (HLC s x) = some (bA (decide (x.fr ≤ s.c[k].fr)), HLC s x) := by
  show slot_lay_1 m _ _ _ _ = _
  rw [slot_lay_1_eq]
  have hk' : (k : Int) < (s.c.length : Int) := by omega
  have hpos : 0 < s.c.length := by omega
  simp (config := {maxSteps := 4000000, implicitDefEqProofs := false}) (disch := omega) only [go_sem, ↓reduceIte, Nat.reduceAdd, Nat.reduceSub, Nat.reduceMul, Nat.reduceLeDiff, Nat.reduceLT, Int.reduceEq, Int.reduceNe, Int.reduceLT, Int.reduceLE, Int.reduceAdd, Int.reduceSub, Int.reduceMul, Int.reduceNeg, Int.reduceToNat, reduceCtorEq, Nat.reduceEqDiff, Nat.reduceBEq, Nat.reduceGT, tA_PR, t1_PR, tT_PR, r1_PR, zs_lt, hk', hpos, flV_0]
theorem searchC (m : Nat) (s : So) (x : Vo) (hm : s.c.length < m) (hl : s.c.length ≤ 1000000) (hs : Srt s.c) : sort_Search m (nA s.c.length) (CL (.func 55) 0 [OP 7 0, OP 8 0]) (HLC s x) = some (nA (posV s.c x), HLC s x) := by
  rw [sort_Search_eq]
  refine iter_go (ι := {p : Nat × Nat // p.1 ≤ p.2 ∧ p.2 ≤ s.c.length ∧ (∀ (i : Nat) (h : i < s.c.length), i < p.1 → s.c[i].fr < x.fr) ∧ (∀ (i : Nat) (h : i < s.c.length), p.2 ≤ i → x.fr ≤ s.c[i].fr)}) (fun p => ⟨HLC s x, [(1, CL (.func 55) 0 [OP 7 0, OP 8 0]), (5, nA p.1.1), (6, nA p.1.2)]⟩) (fun p => p.1.2 - p.1.1) (fun _ => some (nA (posV s.c x), HLC s x)) ?_ ⟨(0, s.c.length), Nat.zero_le _, Nat.le_refl _, (by intro i h h2; omega), (by intro i h h2; dsimp only at h2; omega)⟩ (by dsimp only; omega)
  rintro kx hkx ⟨⟨lo, hi⟩, h1, h2, h3, h4⟩ kc hkc
  dsimp only at hkc h1 h2 h3 h4 ⊢
  rw [sort_Search_b1_eq]
  by_cases hlt : lo < hi
  · have hlt' : (lo : Int) < (hi : Int) := by omega
    obtain ⟨d, hd⟩ : ∃ d : Nat, d = (lo + hi) / 2 := ⟨_, rfl⟩
    have hdl : d < s.c.length := by omega
    have hdd : ((lo : Int) + (hi : Int)) / 2 = (d : Int) := by omega
    have hw : IntKind.i64.wrap ((IntKind.u64.wrap ((lo : Int) + (hi : Int))).fdiv (2 ^ min 1 64)) = (d : Int) := by
      rw [w_u64 (by omega) (by omega), Int.fdiv_eq_ediv_of_nonneg _ (by decide)]
      show IntKind.i64.wrap (((lo : Int) + (hi : Int)) / 2) = _
      rw [hdd, w_i64 (by omega) (by omega)]
    have hC := cloC m d s x hdl
    by_cases hq : x.fr ≤ s.c[d].fr
    · have step := hkc ⟨(lo, d), by omega, by omega, h3, fun i h hi' => by
        rcases Nat.lt_or_ge d i with e | e
        · have := hs d i h e; omega
        · have : i = d := by omega
          subst this; exact hq⟩ (by dsimp only; omega)
      dsimp only at step
      simp (config := {maxSteps := 4000000, implicitDefEqProofs := false}) (disch := omega) only [go_sem, ↓reduceIte, Nat.reduceAdd, Nat.reduceSub, Nat.reduceMul, Nat.reduceLeDiff, Nat.reduceLT, Int.reduceEq, Int.reduceNe, Int.reduceLT, Int.reduceLE, Int.reduceAdd, Int.reduceSub, Int.reduceMul, Int.reduceNeg, Int.reduceToNat, reduceCtorEq, Nat.reduceEqDiff, Nat.reduceBEq, Nat.reduceGT, tA_PR, t1_PR, tT_PR, r1_PR, zs_lt, hlt', hw, w_i64, callV_lay, hC, hq]
      exact step
    · have step := hkc ⟨(d + 1, hi), by omega, h2, (fun i h hi' => by
        rcases Nat.lt_or_ge i d with e | e
        · have := hs i d hdl e; omega
        · have : i = d := by omega
          subst this; omega), h4⟩ (by dsimp only; omega)
      have e1 : ((d + 1 : Nat) : Int) = (d : Int) + 1 := by omega
      dsimp only at step
      rw [e1] at step
      simp (config := {maxSteps := 4000000, implicitDefEqProofs := false}) (disch := omega) only [go_sem, ↓reduceIte, Nat.reduceAdd, Nat.reduceSub, Nat.reduceMul, Nat.reduceLeDiff, Nat.reduceLT, Int.reduceEq, Int.reduceNe, Int.reduceLT, Int.reduceLE, Int.reduceAdd, Int.reduceSub, Int.reduceMul, Int.reduceNeg, Int.reduceToNat, reduceCtorEq, Nat.reduceEqDiff, Nat.reduceBEq, Nat.reduceGT, tA_PR, t1_PR, tT_PR, r1_PR, zs_lt, hlt', hw, w_i64, callV_lay, hC, hq]
      exact step
  · have hlt' : ¬ (lo : Int) < (hi : Int) := by omega
    have : lo = hi := by omega
    subst this
    have hp := pos_at h2 (fun i h hi => h3 i h hi) (fun h => h4 lo h (Nat.le_refl _))
    rw [hp]
    simp (config := {maxSteps := 4000000, implicitDefEqProofs := false}) (disch := omega) only [go_sem, ↓reduceIte, Nat.reduceAdd, Nat.reduceSub, Nat.reduceMul, Nat.reduceLeDiff, Nat.reduceLT, Int.reduceEq, Int.reduceNe, Int.reduceLT, Int.reduceLE, Int.reduceAdd, Int.reduceSub, Int.reduceMul, Int.reduceNeg, Int.reduceToNat, reduceCtorEq, Nat.reduceEqDiff, Nat.reduceBEq, Nat.reduceGT, tA_PR, t1_PR, tT_PR, r1_PR, zs_lt, hlt', hkx, sort_Search_r1_eq]
theorem lay1C (m : Nat) (s : So) (x : Vo) (p : Nat) (hp : p ≤ s.c.length) (hl : s.c.length ≤ 1000000) : slot_lay_r1 m 7 ⟨HLC s x, [(2, OP 7 0), (3, OP 8 0), (5, nA p), (31, V (.bool true))]⟩ = some (nA 0, ((HB s x).set 0 ⟨1, ty_api_Slot, 0, (S0 s).set 5 (SL ((s.c.take p ++ x :: s.c.drop p).map vE))⟩).set 6 ⟨0, ty_api_Vote, 3, []⟩) := by
  have hI : slices_Insert_Vote_t m [PR 6 s.c.length, nA (p : Int), SL [.agg (vC x)]] (HLC s x) = some (SL ((s.c.take p ++ x :: s.c.drop p).map vE), (HLC s x).set 6 ⟨0, ty_api_Vote, 3, []⟩) := by
    have := slices_Insert_Vote_e m (i := 6) (H := HLC s x) (es := s.c.map vE) (x := .agg (vC x)) (k := p) rfl (by rw [List.length_map]; exact hp) (by rw [List.length_map]; omega) (by rw [List.all_map]; exact vs_ltA) rfl
    rw [List.length_map] at this
    refine this.trans ?_
    rw [List.map_append, List.map_take, List.map_cons, List.map_drop]
    rfl
  rw [slot_lay_r1_eq]
  simp (config := {maxSteps := 4000000, implicitDefEqProofs := false}) (disch := omega) only [go_sem, ↓reduceIte, Nat.reduceAdd, Nat.reduceSub, Nat.reduceMul, Nat.reduceLeDiff, Nat.reduceLT, Int.reduceEq, Int.reduceNe, Int.reduceLT, Int.reduceLE, Int.reduceAdd, Int.reduceSub, Int.reduceMul, Int.reduceNeg, Int.reduceToNat, reduceCtorEq, Nat.reduceEqDiff, Nat.reduceBEq, Nat.reduceGT, tA_PR, t1_PR, tT_PR, r1_PR, ptr_ro, zs_lt, hI]
theorem lay2C (m : Nat) (s : So) (x : Vo) (p : Nat) (hp : p < s.c.length) (hl : s.c.length ≤ 1000000) : slot_lay_r1 m 7 ⟨HLC s x, [(2, OP 7 0), (3, OP 8 0), (5, nA p), (31, V (.bool false))]⟩ = some (nA (againI x.vw s.c[p].vw (decide (x.tm = s.c[p].tm))), if againI x.vw s.c[p].vw (decide (x.tm = s.c[p].tm)) = 0 then (HB s x).set 6 ⟨4, ty_api_Vote, 3, (s.c.set p x).map vE⟩ else HB s x) := by
  have hA := again_s m x.vw s.c[p].vw (decide (x.tm = s.c[p].tm))
  have hp' : (p : Int) < (s.c.length : Int) := by omega
  have hpos : 0 < s.c.length := by omega
  have hm7 : p * 3 % 3 = 0 := Nat.mul_mod_left p 3
  have hd7 : p * 3 / 3 = p := Nat.mul_div_cancel p (by omega)
  have hst : (s.c.map vE).set p (.agg (vC x)) = (s.c.set p x).map vE := by rw [List.map_set]; rfl
  rw [slot_lay_r1_eq]
  by_cases he : againI x.vw s.c[p].vw (decide (x.tm = s.c[p].tm)) = 0
  · rw [if_pos he]
    rw [he] at hA ⊢
    simp (config := {maxSteps := 4000000, implicitDefEqProofs := false}) (disch := omega) only [go_sem, ↓reduceIte, Nat.reduceAdd, Nat.reduceSub, Nat.reduceMul, Nat.reduceLeDiff, Nat.reduceLT, Int.reduceEq, Int.reduceNe, Int.reduceLT, Int.reduceLE, Int.reduceAdd, Int.reduceSub, Int.reduceMul, Int.reduceNeg, Int.reduceToNat, reduceCtorEq, Nat.reduceEqDiff, Nat.reduceBEq, Nat.reduceGT, tA_PR, t1_PR, tT_PR, r1_PR, ptr_ro, zs_lt, hp, hp', hpos, flV_0, flV_1, flV_2, slot_lay_r2_eq, hA, hm7, hd7, hst]
  · rw [if_neg he]
    generalize againI x.vw s.c[p].vw (decide (x.tm = s.c[p].tm)) = e at he hA ⊢
    simp (config := {maxSteps := 4000000, implicitDefEqProofs := false}) (disch := omega) only [go_sem, ↓reduceIte, Nat.reduceAdd, Nat.reduceSub, Nat.reduceMul, Nat.reduceLeDiff, Nat.reduceLT, Int.reduceEq, Int.reduceNe, Int.reduceLT, Int.reduceLE, Int.reduceAdd, Int.reduceSub, Int.reduceMul, Int.reduceNeg, Int.reduceToNat, reduceCtorEq, Nat.reduceEqDiff, Nat.reduceBEq, Nat.reduceGT, tA_PR, t1_PR, tT_PR, r1_PR, ptr_ro, zs_lt, hp', hpos, flV_0, flV_1, flV_2, slot_lay_r2_eq, hA, he]
end Go.Proofs.YtaaafkoeddgaaaaDoor

namespace Go.Proofs.YtaaafkoeddgaaaaDoor
open Go.RowKit
set_option linter.unusedVariables false
set_option linter.unusedSimpArgs false
set_option maxRecDepth 20000
attribute [local go_sem] Nat.zero_add Nat.add_zero Nat.mul_one Int.toNat_natCast Int.natCast_zero Int.cast_ofNat_Int or_false false_or or_true true_or Nat.sub_zero Int.natCast_nonneg Int.toNat_zero Bool.true_and Bool.and_true Bool.false_and Bool.and_false Bool.true_or Bool.or_true Bool.false_or Bool.or_false Bool.not_true Bool.not_false Bool.not_not true_and and_true false_and and_false not_true_eq_false not_false_eq_true eq_self decide_true decide_false ne_eq implies_true forall_const true_implies false_implies Bool.true_eq_false Bool.false_eq_true List.map_cons List.map_nil List.all_cons List.all_nil List.length_cons List.length_nil List.length_map List.length_append List.nil_append List.cons_append List.set_cons_zero List.set_cons_succ List.set_nil List.drop_zero List.drop_succ_cons List.drop_nil List.take_zero List.take_succ_cons List.take_nil Option.map_some Option.map_none Option.isSome_some List.all_append List.all_map Function.comp_def decide_eq_true_eq Bool.and_eq_true beq_self_eq_true or_self and_self ite_true ite_false Nat.le_refl Bool.not_eq_true decide_not Bool.not_eq_true' decide_eq_false_iff_not Bool.not_eq_false Bool.or_eq_true if_true if_false ite_self vE_it vc_len vc_sure vc_ltA vc_lt1 vc_all1 vc_ro vc_take vc_sl vc_set vc_fr vc_vw vc_tm zcV_eq sc_len sc_sure sc_ltA sc_lt1 sc_all1 sc_ro sc_take sc_set sc_has sc_vw sc_tm sc_body sc_p sc_c zs_len zs_sure zs_ltA zs_ro zs_set zs_set2 zs_set3 zs_take zs_b vs_ltA vs_len3 natInt u_nthM all_tt
def layF (l : List Vo) (x : Vo) : List Vo × Int := match l[posV l x]? with
  | some y => if y.fr = x.fr then (if againI x.vw y.vw (decide (x.tm = y.tm)) = 0 then (l.set (posV l x) x, 0) else ([], againI x.vw y.vw (decide (x.tm = y.tm)))) else (l.take (posV l x) ++ x :: l.drop (posV l x), 0)
  | none => (l.take (posV l x) ++ x :: l.drop (posV l x), 0)
def hiV (l : List Vo) (x : Vo) : List Vo := l.filter fun y => decide (x.fr < y.fr)
theorem hi_split {l : List Vo} {x : Vo} {q : Nat} (hq : q ≤ l.length) (h1 : ∀ (i : Nat) (h : i < l.length), i < q → ¬ x.fr < l[i].fr) (h2 : ∀ (i : Nat) (h : i < l.length), q ≤ i → x.fr < l[i].fr) : hiV l x = l.drop q := by
  unfold hiV
  conv => lhs; rw [← List.take_append_drop q l]
  rw [List.filter_append]
  have e1 : (l.take q).filter (fun y => decide (x.fr < y.fr)) = [] := by
    refine List.filter_eq_nil_iff.2 fun y hy => ?_
    obtain ⟨i, hi, rfl⟩ := List.getElem_of_mem hy
    rw [List.length_take] at hi
    rw [List.getElem_take]
    have := h1 i (by omega) (by omega)
    simpa using this
  have e2 : (l.drop q).filter (fun y => decide (x.fr < y.fr)) = l.drop q := by
    refine List.filter_eq_self.2 fun y hy => ?_
    obtain ⟨i, hi, rfl⟩ := List.getElem_of_mem hy
    rw [List.length_drop] at hi
    rw [List.getElem_drop]
    have := h2 (q + i) (by omega) (by omega)
    simpa using this
  rw [e1, e2, List.nil_append]
theorem pos_of_eq {l : List Vo} {x : Vo} (hs : Srt l) {k : Nat} (hk : k < l.length) (h : l[k].fr = x.fr) : posV l x = k :=
  pos_at (by omega) (fun i hi hik => by have := hs i k hk hik; omega) (fun _ => by omega)
theorem lay_bad {l : List Vo} {x : Vo} (hs : Srt l) {k : Nat} (hk : k < l.length) (h : l[k].fr = x.fr) (he : againI x.vw l[k].vw (decide (x.tm = l[k].tm)) ≠ 0) : layF l x = ([], againI x.vw l[k].vw (decide (x.tm = l[k].tm))) := by
  unfold layF
  rw [pos_of_eq hs hk h, List.getElem?_eq_getElem hk]
  dsimp only
  rw [if_pos h, if_neg he]
theorem lay_end {l : List Vo} {x : Vo} (hs : Srt l) (h : ∀ (i : Nat) (h : i < l.length), l[i].fr = x.fr → againI x.vw l[i].vw (decide (x.tm = l[i].tm)) = 0) : layF l x = (l.take (posV l x) ++ x :: hiV l x, 0) := by
  have hlt := pos_lt (l := l) (x := x)
  have hle := pos_le l x
  unfold layF
  rcases Nat.lt_or_ge (posV l x) l.length with q | q
  · have hge := pos_ge q
    rw [List.getElem?_eq_getElem q]
    dsimp only
    by_cases c : l[posV l x].fr = x.fr
    · rw [if_pos c, if_pos (h _ q c)]
      generalize posV l x = p at *
      rw [hi_split (q := p + 1) (by omega) (fun i hi hip => by
        rcases Nat.lt_or_ge i p with r | r
        · have := hlt i hi r; omega
        · have : i = p := by omega
          subst this; omega) (fun i hi hip => by have := hs p i hi (by omega); omega), List.set_eq_take_append_cons_drop, if_pos q]
    · rw [if_neg c]
      generalize posV l x = p at *
      rw [hi_split (q := p) (by omega) (fun i hi hip => by have := hlt i hi hip; omega) (fun i hi hip => by
        rcases Nat.lt_or_ge p i with r | r
        · have := hs p i hi r; omega
        · have : i = p := by omega
          subst this; omega)]
  · rw [List.getElem?_eq_none (by omega)]
    dsimp only
    have e : posV l x = l.length := by omega
    rw [hi_split (q := posV l x) hle (fun i hi hip => by have := hlt i hi hip; omega) (fun i hi hip => by omega)]
theorem rlay_s (m : Nat) (l : List Vo) (x : Vo) (hm : l.length < m) (hl : l.length ≤ 1000000) (hs : Srt l) : plenumref29_lay m (SL (l.map vE)) (vE x) = some (TU [SL ((layF l x).1.map vE), nA (layF l x).2], []) := by
  generalize hg : (TU [SL ((layF l x).1.map vE), nA (layF l x).2] : AV) = g
  rw [plenumref29_lay_eq, vE_it]
  simp (config := {maxSteps := 4000000, implicitDefEqProofs := false}) (disch := omega) only [go_sem, ↓reduceIte, Nat.reduceAdd, Nat.reduceSub, Nat.reduceMul, Nat.reduceLeDiff, Nat.reduceLT, Int.reduceEq, Int.reduceNe, Int.reduceLT, Int.reduceLE, Int.reduceAdd, Int.reduceSub, Int.reduceMul, Int.reduceNeg, Int.reduceToNat, reduceCtorEq, Nat.reduceEqDiff, Nat.reduceBEq, Nat.reduceGT]
  refine iter_go (ι := {k : Nat // k ≤ l.length ∧ ∀ (i : Nat) (h : i < l.length), i < k → l[i].fr < x.fr}) (fun k => ⟨[⟨1, ty_api_Vote, 0, vC x⟩, ⟨2, ty_api_Vote, 3, (l.take k.1).map vE⟩], [(0, SL (l.map vE)), (3, OP 0 0), (6, OW 1 (l.take k.1).length), (7, nA k.1)]⟩) (fun k => l.length - k.1) (fun _ => some (g, [])) ?_ ⟨0, Nat.zero_le _, fun i h h2 => by omega⟩ (by dsimp only; omega)
  rintro kx hkx ⟨k, hk, hall⟩ kc hkc
  dsimp only at hkc ⊢
  rw [plenumref29_lay_b1_eq]
  have hlen1 : (l.take k).length + 1 ≤ 34359738368 := by rw [List.length_take]; omega
  have fin : posV l x = k → plenumref29_lay_r1 m ⟨[⟨1, ty_api_Vote, 0, vC x⟩, ⟨2, ty_api_Vote, 3, (l.take k).map vE⟩], [(0, SL (l.map vE)), (3, OP 0 0), (6, OW 1 (l.take k).length)]⟩ = some (g, []) := by
    intro hp
    rw [plenumref29_lay_r1_eq]
    simp (config := {maxSteps := 4000000, implicitDefEqProofs := false}) (disch := omega) only [go_sem, ↓reduceIte, Nat.reduceAdd, Nat.reduceSub, Nat.reduceMul, Nat.reduceLeDiff, Nat.reduceLT, Int.reduceEq, Int.reduceNe, Int.reduceLT, Int.reduceLE, Int.reduceAdd, Int.reduceSub, Int.reduceMul, Int.reduceNeg, Int.reduceToNat, reduceCtorEq, Nat.reduceEqDiff, Nat.reduceBEq, Nat.reduceGT, hlen1]
    have e0 : (List.map vE (l.take k) ++ [DataW.agg (vC x)] : List AV) = (l.take k ++ x :: hiV (l.take 0) x).map vE := by rw [List.map_append, List.take_zero]; rfl
    have e1 : (l.take k).length + 1 = (l.take k ++ x :: hiV (l.take 0) x).length := by rw [List.take_zero, List.length_append]; rfl
    rw [e0, e1]
    refine iter_go (ι := {j : Nat // j ≤ l.length ∧ ∀ (i : Nat) (h : i < l.length), i < j → l[i].fr = x.fr → againI x.vw l[i].vw (decide (x.tm = l[i].tm)) = 0}) (fun j => ⟨[⟨1, ty_api_Vote, 0, vC x⟩, ⟨2, ty_api_Vote, 3, (l.take k ++ x :: hiV (l.take j.1) x).map vE⟩], [(0, SL (l.map vE)), (3, OP 0 0), (6, OW 1 (l.take k ++ x :: hiV (l.take j.1) x).length), (8, nA j.1)]⟩) (fun j => l.length - j.1) (fun _ => some (g, [])) ?_ ⟨0, Nat.zero_le _, fun i h h2 => by omega⟩ (by dsimp only; omega)
    clear e0 e1
    rintro kx hkx ⟨j, hj, hok⟩ kc hkc
    dsimp only at hkc ⊢
    rw [plenumref29_lay_b2_eq]
    have hlen2 : (hiV (l.take j) x).length ≤ l.length := Nat.le_trans (List.length_filter_le ..) (by rw [List.length_take]; omega)
    have hlen3 : (l.take k ++ x :: hiV (l.take j) x).length + 1 ≤ 34359738368 := by rw [List.length_append, List.length_cons, List.length_take]; omega
    generalize hG : l.take k ++ x :: hiV (l.take j) x = G at hlen3 ⊢
    by_cases hlt : j < l.length
    · have hlt' : (j : Int) < (l.length : Int) := by omega
      have bad : l[j].fr = x.fr → againI x.vw l[j].vw (decide (x.tm = l[j].tm)) ≠ 0 → g = TU [SL [], nA (againI x.vw l[j].vw (decide (x.tm = l[j].tm)))] := fun h1 h2 => by
        rw [← hg, lay_bad hs hlt h1 h2]; rfl
      have stp : (l[j].fr = x.fr → againI x.vw l[j].vw (decide (x.tm = l[j].tm)) = 0) → kc ⟨[⟨1, ty_api_Vote, 0, vC x⟩, ⟨2, ty_api_Vote, 3, (l.take k ++ x :: hiV (l.take (j + 1)) x).map vE⟩], [(0, SL (l.map vE)), (3, OP 0 0), (6, OW 1 (l.take k ++ x :: hiV (l.take (j + 1)) x).length), (8, nA ((j + 1 : Nat) : Int))]⟩ = some (g, []) := fun hq => hkc ⟨j + 1, by omega, fun i h h2 => by
        rcases Nat.lt_or_ge i j with r | r
        · exact hok i h r
        · have : i = j := by omega
          subst this; exact hq⟩ (by dsimp only; omega)
      rw [List.take_succ_eq_append_getElem hlt] at stp
      by_cases c1 : x.fr < l[j].fr
      · have c2 : ¬ l[j].fr = x.fr := by omega
        have step := stp fun q => absurd q c2
        have e2 : l.take k ++ x :: hiV (l.take j ++ [l[j]]) x = G ++ [l[j]] := by rw [← hG]; unfold hiV; rw [List.filter_append]; simp [c1]
        rw [e2, List.map_append, List.length_append] at step
        simp (config := {maxSteps := 4000000, implicitDefEqProofs := false}) (disch := omega) only [go_sem, ↓reduceIte, Nat.reduceAdd, Nat.reduceSub, Nat.reduceMul, Nat.reduceLeDiff, Nat.reduceLT, Int.reduceEq, Int.reduceNe, Int.reduceLT, Int.reduceLE, Int.reduceAdd, Int.reduceSub, Int.reduceMul, Int.reduceNeg, Int.reduceToNat, reduceCtorEq, Nat.reduceEqDiff, Nat.reduceBEq, Nat.reduceGT, hlt', c1, c2, w_i64, hlen3, plenumref29_lay_r4_eq, plenumref29_lay_r6_eq]
        exact step
      · have e2 : l.take k ++ x :: hiV (l.take j ++ [l[j]]) x = G := by rw [← hG]; unfold hiV; rw [List.filter_append]; simp [c1]
        rw [e2] at stp
        by_cases c2 : l[j].fr = x.fr
        · have c8 : ¬ x.fr < x.fr := by omega
          unfold againI at bad stp
          by_cases c3 : x.vw < l[j].vw
          · have hb := bad c2 (by rw [if_pos c3]; omega)
            rw [if_pos c3] at hb
            rw [hb]
            simp (config := {maxSteps := 4000000, implicitDefEqProofs := false}) (disch := omega) only [go_sem, ↓reduceIte, Nat.reduceAdd, Nat.reduceSub, Nat.reduceMul, Nat.reduceLeDiff, Nat.reduceLT, Int.reduceEq, Int.reduceNe, Int.reduceLT, Int.reduceLE, Int.reduceAdd, Int.reduceSub, Int.reduceMul, Int.reduceNeg, Int.reduceToNat, reduceCtorEq, Nat.reduceEqDiff, Nat.reduceBEq, Nat.reduceGT, hlt', c8, c1, c2, c3, w_i64, hkx, plenumref29_lay_r4_eq]
          · rw [if_neg c3] at bad stp
            by_cases c4 : l[j].vw < x.vw
            · have c5 : ¬ l[j].vw = x.vw := by omega
              have step := stp fun _ => by rw [if_pos c4]
              simp (config := {maxSteps := 4000000, implicitDefEqProofs := false}) (disch := omega) only [go_sem, ↓reduceIte, Nat.reduceAdd, Nat.reduceSub, Nat.reduceMul, Nat.reduceLeDiff, Nat.reduceLT, Int.reduceEq, Int.reduceNe, Int.reduceLT, Int.reduceLE, Int.reduceAdd, Int.reduceSub, Int.reduceMul, Int.reduceNeg, Int.reduceToNat, reduceCtorEq, Nat.reduceEqDiff, Nat.reduceBEq, Nat.reduceGT, hlt', c8, c1, c2, c3, c5, w_i64, hkx, plenumref29_lay_r4_eq, plenumref29_lay_r7_eq, plenumref29_lay_r8_eq, plenumref29_lay_r10_eq]
              exact step
            · have c5 : l[j].vw = x.vw := by omega
              have c0 : ¬ x.vw < x.vw := by omega
              rw [if_neg c4] at bad
              by_cases c6 : l[j].tm = x.tm
              · have hb := bad c2 (by rw [if_pos (by simp [c6])]; omega)
                rw [if_pos (by simp [c6])] at hb
                rw [hb]
                simp (config := {maxSteps := 4000000, implicitDefEqProofs := false}) (disch := omega) only [go_sem, ↓reduceIte, Nat.reduceAdd, Nat.reduceSub, Nat.reduceMul, Nat.reduceLeDiff, Nat.reduceLT, Int.reduceEq, Int.reduceNe, Int.reduceLT, Int.reduceLE, Int.reduceAdd, Int.reduceSub, Int.reduceMul, Int.reduceNeg, Int.reduceToNat, reduceCtorEq, Nat.reduceEqDiff, Nat.reduceBEq, Nat.reduceGT, hlt', c0, c8, c1, c2, c3, c5, c6, w_i64, hkx, plenumref29_lay_r4_eq, plenumref29_lay_r7_eq, plenumref29_lay_r8_eq, plenumref29_lay_r10_eq]
              · have c7 : ¬ x.tm = l[j].tm := fun e => c6 e.symm
                have hb := bad c2 (by rw [if_neg (by simp [c7])]; omega)
                rw [if_neg (by simp [c7])] at hb
                rw [hb]
                simp (config := {maxSteps := 4000000, implicitDefEqProofs := false}) (disch := omega) only [go_sem, ↓reduceIte, Nat.reduceAdd, Nat.reduceSub, Nat.reduceMul, Nat.reduceLeDiff, Nat.reduceLT, Int.reduceEq, Int.reduceNe, Int.reduceLT, Int.reduceLE, Int.reduceAdd, Int.reduceSub, Int.reduceMul, Int.reduceNeg, Int.reduceToNat, reduceCtorEq, Nat.reduceEqDiff, Nat.reduceBEq, Nat.reduceGT, hlt', c0, c8, c1, c2, c3, c5, c6, w_i64, hkx, plenumref29_lay_r4_eq, plenumref29_lay_r7_eq, plenumref29_lay_r8_eq, plenumref29_lay_r10_eq]
        · have step := stp fun q => absurd q c2
          simp (config := {maxSteps := 4000000, implicitDefEqProofs := false}) (disch := omega) only [go_sem, ↓reduceIte, Nat.reduceAdd, Nat.reduceSub, Nat.reduceMul, Nat.reduceLeDiff, Nat.reduceLT, Int.reduceEq, Int.reduceNe, Int.reduceLT, Int.reduceLE, Int.reduceAdd, Int.reduceSub, Int.reduceMul, Int.reduceNeg, Int.reduceToNat, reduceCtorEq, Nat.reduceEqDiff, Nat.reduceBEq, Nat.reduceGT, hlt', c1, c2, w_i64, plenumref29_lay_r4_eq, plenumref29_lay_r6_eq]
          exact step
    · have hlt' : ¬ (j : Int) < (l.length : Int) := by omega
      have : j = l.length := by omega
      subst this
      rw [List.take_length] at hG
      have e := lay_end hs (fun i h => hok i h h)
      rw [hp, hG] at e
      rw [e] at hg
      rw [← hg]
      simp (config := {maxSteps := 4000000, implicitDefEqProofs := false}) (disch := omega) only [go_sem, ↓reduceIte, Nat.reduceAdd, Nat.reduceSub, Nat.reduceMul, Nat.reduceLeDiff, Nat.reduceLT, Int.reduceEq, Int.reduceNe, Int.reduceLT, Int.reduceLE, Int.reduceAdd, Int.reduceSub, Int.reduceMul, Int.reduceNeg, Int.reduceToNat, reduceCtorEq, Nat.reduceEqDiff, Nat.reduceBEq, Nat.reduceGT, hkx, hlt', plenumref29_lay_r3_eq]
  by_cases hlt : k < l.length
  · have hlt' : (k : Int) < (l.length : Int) := by omega
    by_cases hx : l[k].fr < x.fr
    · have step := hkc ⟨k + 1, by omega, fun i h h2 => by
        rcases Nat.lt_or_ge i k with r | r
        · exact hall i h r
        · have : i = k := by omega
          subst this; exact hx⟩ (by dsimp only; omega)
      dsimp only at step
      rw [List.take_succ_eq_append_getElem hlt, List.map_append, List.length_append] at step
      simp (config := {maxSteps := 4000000, implicitDefEqProofs := false}) (disch := omega) only [go_sem, ↓reduceIte, Nat.reduceAdd, Nat.reduceSub, Nat.reduceMul, Nat.reduceLeDiff, Nat.reduceLT, Int.reduceEq, Int.reduceNe, Int.reduceLT, Int.reduceLE, Int.reduceAdd, Int.reduceSub, Int.reduceMul, Int.reduceNeg, Int.reduceToNat, reduceCtorEq, Nat.reduceEqDiff, Nat.reduceBEq, Nat.reduceGT, hlt', hx, w_i64, hlen1, plenumref29_lay_r2_eq, plenumref29_lay_r5_eq]
      exact step
    · have hf := fin (pos_at (by omega) hall fun _ => by omega)
      simp (config := {maxSteps := 4000000, implicitDefEqProofs := false}) (disch := omega) only [go_sem, ↓reduceIte, Nat.reduceAdd, Nat.reduceSub, Nat.reduceMul, Nat.reduceLeDiff, Nat.reduceLT, Int.reduceEq, Int.reduceNe, Int.reduceLT, Int.reduceLE, Int.reduceAdd, Int.reduceSub, Int.reduceMul, Int.reduceNeg, Int.reduceToNat, reduceCtorEq, Nat.reduceEqDiff, Nat.reduceBEq, Nat.reduceGT, hlt', hx, hkx, hf, plenumref29_lay_r2_eq]
  · have hlt' : ¬ (k : Int) < (l.length : Int) := by omega
    have hf := fin (pos_at (by omega) hall fun h => by omega)
    simp (config := {maxSteps := 4000000, implicitDefEqProofs := false}) (disch := omega) only [go_sem, ↓reduceIte, Nat.reduceAdd, Nat.reduceSub, Nat.reduceMul, Nat.reduceLeDiff, Nat.reduceLT, Int.reduceEq, Int.reduceNe, Int.reduceLT, Int.reduceLE, Int.reduceAdd, Int.reduceSub, Int.reduceMul, Int.reduceNeg, Int.reduceToNat, reduceCtorEq, Nat.reduceEqDiff, Nat.reduceBEq, Nat.reduceGT, hlt', hkx, hf, plenumref29_lay_r2_eq]
end Go.Proofs.YtaaafkoeddgaaaaDoor
