/-
  Texts laid together, part 4 of 7: laws of a walk over data, contracts of functions, each whole by itself.
-/
import Derived.Test.YtbdbmfifclmpcaaMgc
namespace Go.Proofs.Ytbdbmfifclmpcaa
open Go.RowKit
set_option linter.unusedVariables false
set_option maxRecDepth 100000
def ty_api_Cert : TypeId := 89
def ty_api_Change : TypeId := 43
def ty_api_Msg : TypeId := 27
def ty_api_Stmt : TypeId := 56
def ty_int : TypeId := 3
def zc_api_Cert : List AV := [(V (.int .i64 0)), (V (.int .i64 0)), (V (.int .i64 0)), (V (.string ⟨#[]⟩)), (V (.slice none 0 0))]
def zc_api_Change : List AV := [(V (.int .i64 0)), (V (.int .i64 0)), (V (.int .i64 0)), (V (.int .i64 0)), (V (.slice none 0 0)), (V (.slice none 0 0))]
def zc_api_Stmt : List AV := [(V (.int .i64 0)), (V (.int .i64 0)), (V (.int .i64 0)), (V (.int .i64 0)), (V (.int .i64 0))]
noncomputable def wire_number_c : Code := (Try.f53.body).getD .skip
def wire_number_h : Hint := (.two .n (.join [] (.two .n (.one (.lp [] [5, 6, 7] [2] (.two .n (.two (.two .n .n) (.join [5, 6, 7] (.one (.two .n (.join [5, 6, 7, 16] .n (.two (.two .n .n) .n)))) .n)))))) (.two .n .n)))
noncomputable def wire_number_env (m : Nat) : Env := []
noncomputable abbrev wire_number_fin : KO (AV × List AObj) := tellFK Try.prog [.tmp 2]
noncomputable def wire_number_r3 (m : Nat) (n0 : Nat) (kc : ASt → RO) (kx : KO (AV × List AObj)) (s : ASt) : RO := joinW Try.prog GG (wire_number_env m) m ⟨18, []⟩ (cdR (cdR (cdR (cdL (cdL (cdR (cdL (cdR wire_number_c)))))))) wire_number_h.r.l.r.c.c.r.r.r s (backW n0 [5, 6, 7] [2] kc kx)
noncomputable def wire_number_r2 (m : Nat) (n0 : Nat) (kc : ASt → RO) (kx : KO (AV × List AObj)) (s : ASt) : RO := joinW Try.prog GG (wire_number_env m) m ⟨18, []⟩ (cdR (cdR (cdL (cdL (cdR (cdR (cdL (cdL (cdR (cdL (cdR wire_number_c))))))))))) wire_number_h.r.l.r.c.c.r.r.l.c.r.r s (blockX 1 (seqX (fun s => wire_number_r3 m n0 kc kx ⟨s.H, [(5, gt s.T 5), (6, gt s.T 6), (7, gt s.T 7)]⟩) (backW n0 [5, 6, 7] [2] kc kx)))
noncomputable def wire_number_r1 (m : Nat) (s : ASt) : RO := joinW Try.prog GG (wire_number_env m) m ⟨18, []⟩ (cdR (cdR wire_number_c)) wire_number_h.r.r s (wire_number_fin)
noncomputable def wire_number_b1 (m : Nat) (s : ASt) (kc : ASt → RO) (kx : KO (AV × List AObj)) : RO := bodyW Try.prog GG (wire_number_env m) m ⟨18, []⟩ (cdL (cdL (cdR (cdL (cdR wire_number_c))))) wire_number_h.r.l.r.c.c [5, 6, 7] [2] s kc kx
noncomputable def wire_number (m : Nat) (t0 : AV) : RO := exec Try.prog GG (wire_number_env m) m ⟨18, []⟩ wire_number_c wire_number_h ⟨[], argsT 0 [t0]⟩ (wire_number_fin)
theorem wire_number_r3_eq (m : Nat) (n0 : Nat) (kc : ASt → RO) (kx : KO (AV × List AObj)) (H : List AObj) (t5 t6 t7 : AV) : wire_number_r3 m n0 kc kx ⟨H, [(5, t5), (6, t6), (7, t7)]⟩ =
  binE none false false .add t7 (V (.int .i64 1)) fun t17 =>
  backE n0 H [(5, t5), (6, t6), (7, t17)] kc := by
  refine (joinW_eq Try.prog GG (wire_number_env m) m ⟨18, []⟩ (cdR (cdR (cdR (cdL (cdL (cdR (cdL (cdR wire_number_c)))))))) wire_number_h.r.l.r.c.c.r.r.r ⟨H, [(5, t5), (6, t6), (7, t7)]⟩ (backW n0 [5, 6, 7] [2] kc kx)).trans ?_
  kernel_rfl
theorem wire_number_r2_eq (m : Nat) (n0 : Nat) (kc : ASt → RO) (kx : KO (AV × List AObj)) (H : List AObj) (t5 t6 t7 t16 : AV) : wire_number_r2 m n0 kc kx ⟨H, [(5, t5), (6, t6), (7, t7), (16, t16)]⟩ =
  condE t16 (
   kx .ret ⟨H, [(2, (V (.bool false)))]⟩) (
   wire_number_r3 m n0 kc kx ⟨H, [(5, t5), (6, t6), (7, t7)]⟩) := by
  refine (joinW_eq Try.prog GG (wire_number_env m) m ⟨18, []⟩ (cdR (cdR (cdL (cdL (cdR (cdR (cdL (cdL (cdR (cdL (cdR wire_number_c))))))))))) wire_number_h.r.l.r.c.c.r.r.l.c.r.r ⟨H, [(5, t5), (6, t6), (7, t7), (16, t16)]⟩ (blockX 1 (seqX (fun s => wire_number_r3 m n0 kc kx ⟨s.H, [(5, gt s.T 5), (6, gt s.T 6), (7, gt s.T 7)]⟩) (backW n0 [5, 6, 7] [2] kc kx)))).trans ?_
  kernel_rfl
theorem wire_number_r1_eq (m : Nat) (H : List AObj) : wire_number_r1 m ⟨H, []⟩ =
  tellK H (ro H (V (.bool true))) := by
  refine (joinW_eq Try.prog GG (wire_number_env m) m ⟨18, []⟩ (cdR (cdR wire_number_c)) wire_number_h.r.r ⟨H, []⟩ (wire_number_fin)).trans ?_
  kernel_rfl
theorem wire_number_b1_eq (m : Nat) (H : List AObj) (t5 t6 t7 : AV) (kc : ASt → RO) (kx : KO (AV × List AObj)) : wire_number_b1 m ⟨H, [(5, t5), (6, t6), (7, t7)]⟩ kc kx =
  binE none false false .lss t7 t6 fun t8 =>
  condE t8 (
   idxSE 1 H t5 t7 fun t9 =>
   loadE 1 H t9 fun t10 =>
   binE none false false .lss t10 (V (.int .i64 0)) fun t12 =>
   condE t12 (
    wire_number_r2 m H.length kc kx ⟨H, [(5, t5), (6, t6), (7, t7), (16, (V (.bool true)))]⟩) (
    binE none false false .gtr t10 (V (.int .i64 2147483647)) fun t15 =>
    wire_number_r2 m H.length kc kx ⟨H, [(5, t5), (6, t6), (7, t7), (16, t15)]⟩)) (
   kx (.exit 0) ⟨H, [(2, .nil)]⟩) := by
  refine (bodyW_eq Try.prog GG (wire_number_env m) m ⟨18, []⟩ (cdL (cdL (cdR (cdL (cdR wire_number_c))))) wire_number_h.r.l.r.c.c [5, 6, 7] [2] ⟨H, [(5, t5), (6, t6), (7, t7)]⟩ kc kx).trans ?_
  kernel_rfl
theorem wire_number_eq (m : Nat) (t0 : AV) : wire_number m t0 =
  lenE false true [] t0 fun t6 =>
  iterC m (wire_number_b1 m) ⟨[], [(5, t0), (6, t6), (7, (V (.int .i64 0)))]⟩ (blockX 0 (seqX (fun s => wire_number_r1 m ⟨s.H, []⟩) (wire_number_fin))) := by
  refine (tellX Try.prog GG (wire_number_env m) m ⟨18, []⟩ wire_number_c wire_number_h ⟨[], argsT 0 [t0]⟩ [.tmp 2]).trans ?_
  kernel_rfl
noncomputable def wire_number_t (m : Nat) : List AV → RO | [t0] => wire_number m t0 | _ => none
theorem wire_number_ok (m : Nat) : ∀ args X H', wire_number_t m args = some (X, H') → ACp Try.prog GG 53 args X := by
  intro args X H' h
  unfold wire_number_t at h
  split at h
  · exact tell_okK MIX (by intro f e h; cases h) (f := 53) (c := wire_number_c) Try.func53 rfl (by kernel_rfl) _ rfl Try.ntmps53 (Nat.le_of_ble_eq_true rfl) wire_number_h h
  · cases h
noncomputable def wire_party_c : Code := (Try.f52.body).getD .skip
def wire_party_h : Hint := (.two .n (.two .n .n))
noncomputable def wire_party_env (m : Nat) : Env := []
noncomputable abbrev wire_party_fin : KO (AV × List AObj) := tellFK Try.prog [.tmp 2]
noncomputable def wire_party (m : Nat) (t0 : AV) : RO := exec Try.prog GG (wire_party_env m) m ⟨9, []⟩ wire_party_c wire_party_h ⟨[], argsT 0 [t0]⟩ (wire_party_fin)
theorem wire_party_eq (m : Nat) (t0 : AV) : wire_party m t0 =
  binE none false false .geq t0 (V (.int .i64 0)) fun t4 =>
  condE t4 (
   binE none false false .lss t0 (V (.int .i64 64)) fun t7 =>
   tellK [] (ro [] t7)) (
   tellK [] (ro [] (V (.bool false)))) := by
  refine (tellX Try.prog GG (wire_party_env m) m ⟨9, []⟩ wire_party_c wire_party_h ⟨[], argsT 0 [t0]⟩ [.tmp 2]).trans ?_
  kernel_rfl
noncomputable def wire_party_t (m : Nat) : List AV → RO | [t0] => wire_party m t0 | _ => none
theorem wire_party_ok (m : Nat) : ∀ args X H', wire_party_t m args = some (X, H') → ACp Try.prog GG 52 args X := by
  intro args X H' h
  unfold wire_party_t at h
  split at h
  · exact tell_okK MIX (by intro f e h; cases h) (f := 52) (c := wire_party_c) Try.func52 rfl (by kernel_rfl) _ rfl Try.ntmps52 (Nat.le_of_ble_eq_true rfl) wire_party_h h
  · cases h
noncomputable def wire_stmt_c : Code := (Try.f55.body).getD .skip
def wire_stmt_h : Hint := (.two .n (.two .n .n))
noncomputable def wire_stmt_env (m : Nat) : Env := [(52, .tell (wire_party_t m)), (53, .tell (wire_number_t m))]
noncomputable abbrev wire_stmt_fin : KO (AV × List AObj) := tellFK Try.prog [.tmp 2]
noncomputable def wire_stmt (m : Nat) (t0 : AV) : RO := exec Try.prog GG (wire_stmt_env m) m ⟨18, []⟩ wire_stmt_c wire_stmt_h ⟨[], argsT 0 [t0]⟩ (wire_stmt_fin)
theorem wire_stmt_eq (m : Nat) (t0 : AV) : wire_stmt m t0 =
  boxE ty_api_Stmt [] t0 fun t1 H1 =>
  fieldE (some (0, 1)) t1 fun t3 =>
  loadE 1 H1 t3 fun t4 =>
  tellE (wire_party m (ro H1 t4)) [(ro H1 t4)] fun t5 =>
  condE t5 (
   fieldE (some (1, 1)) t1 fun t7 =>
   loadE 1 H1 t7 fun t8 =>
   fieldE (some (2, 1)) t1 fun t9 =>
   loadE 1 H1 t9 fun t10 =>
   fieldE (some (3, 1)) t1 fun t11 =>
   loadE 1 H1 t11 fun t12 =>
   fieldE (some (4, 1)) t1 fun t13 =>
   loadE 1 H1 t13 fun t14 =>
   buildSE (some (ty_int, 1)) 4 [(0, t8), (1, t10), (2, t12), (3, t14)] fun t15 =>
   tellE (wire_number m (ro H1 t15)) [(ro H1 t15)] fun t16 =>
   tellK H1 (ro H1 t16)) (
   tellK H1 (ro H1 (V (.bool false)))) := by
  refine (tellX Try.prog GG (wire_stmt_env m) m ⟨18, []⟩ wire_stmt_c wire_stmt_h ⟨[], argsT 0 [t0]⟩ [.tmp 2]).trans ?_
  kernel_rfl
noncomputable def wire_stmt_t (m : Nat) : List AV → RO | [t0] => wire_stmt m t0 | _ => none
theorem wire_stmt_ok (m : Nat) : ∀ args X H', wire_stmt_t m args = some (X, H') → ACp Try.prog GG 55 args X := by
  intro args X H' h
  unfold wire_stmt_t at h
  split at h
  · exact tell_okK MIX (by
    intro f e h
    simp only [wire_stmt_env, Prod.mk.injEq, List.mem_cons, List.not_mem_nil, or_false] at h
    rcases h with ⟨rfl, rfl⟩ | ⟨rfl, rfl⟩
    · exact wire_party_ok m
    · exact wire_number_ok m) (f := 55) (c := wire_stmt_c) Try.func55 rfl (by kernel_rfl) _ rfl Try.ntmps55 (Nat.le_of_ble_eq_true rfl) wire_stmt_h h
  · cases h
noncomputable def wire_list_Stmt_c : Code := (Try.f54.body).getD .skip
def wire_list_Stmt_h : Hint := (.two .n (.two (.two .n (.two (.two .n .n) .n)) (.join [] (.two .n (.one (.lp [] [1, 10, 11, 12] [4] (.two .n (.two (.two .n .n) (.two (.one (.two .n (.two .n (.two (.two .n .n) .n)))) .n)))))) (.two .n .n))))
noncomputable def wire_list_Stmt_env (m : Nat) : Env := [(55, .tell (wire_stmt_t m))]
noncomputable abbrev wire_list_Stmt_fin : KO (AV × List AObj) := tellFK Try.prog [.tmp 4]
noncomputable def wire_list_Stmt_r1 (m : Nat) (s : ASt) : RO := joinW Try.prog GG (wire_list_Stmt_env m) m ⟨21, []⟩ (cdR (cdR (cdR wire_list_Stmt_c))) wire_list_Stmt_h.r.r.r s (wire_list_Stmt_fin)
noncomputable def wire_list_Stmt_b1 (m : Nat) (s : ASt) (kc : ASt → RO) (kx : KO (AV × List AObj)) : RO := bodyW Try.prog GG (wire_list_Stmt_env m) m ⟨21, []⟩ (cdL (cdL (cdR (cdL (cdR (cdR wire_list_Stmt_c)))))) wire_list_Stmt_h.r.r.l.r.c.c [1, 10, 11, 12] [4] s kc kx
noncomputable def wire_list_Stmt (m : Nat) (t0 t1 : AV) : RO := exec Try.prog GG (wire_list_Stmt_env m) m ⟨21, []⟩ wire_list_Stmt_c wire_list_Stmt_h ⟨[], argsT 0 [t0, t1]⟩ (wire_list_Stmt_fin)
theorem wire_list_Stmt_r1_eq (m : Nat) (H : List AObj) : wire_list_Stmt_r1 m ⟨H, []⟩ =
  tellK H (ro H (V (.bool true))) := by
  refine (joinW_eq Try.prog GG (wire_list_Stmt_env m) m ⟨21, []⟩ (cdR (cdR (cdR wire_list_Stmt_c))) wire_list_Stmt_h.r.r.r ⟨H, []⟩ (wire_list_Stmt_fin)).trans ?_
  kernel_rfl
theorem wire_list_Stmt_b1_eq (m : Nat) (H : List AObj) (t1 t10 t11 t12 : AV) (kc : ASt → RO) (kx : KO (AV × List AObj)) : wire_list_Stmt_b1 m ⟨H, [(1, t1), (10, t10), (11, t11), (12, t12)]⟩ kc kx =
  binE none false false .lss t12 t11 fun t13 =>
  condE t13 (
   idxSE 7 H t10 t12 fun t14 =>
   loadE 7 H t14 fun t15 =>
   allocE (some zc_api_Stmt) ty_api_Stmt H fun t6 H2 =>
   storeE 7 H2 t6 t15 fun H3 =>
   loadE 7 H3 t6 fun t17 =>
   callVE (wire_list_Stmt_env m) t1 [t17] H3 fun t18 H4 =>
   unE .not t18 fun t19 =>
   condE t19 (
    kx .ret ⟨H4, [(4, (V (.bool false)))]⟩) (
    binE none false false .add t12 (V (.int .i64 1)) fun t20 =>
    backE H.length H4 [(1, t1), (10, t10), (11, t11), (12, t20)] kc)) (
   kx (.exit 0) ⟨H, [(4, .nil)]⟩) := by
  refine (bodyW_eq Try.prog GG (wire_list_Stmt_env m) m ⟨21, []⟩ (cdL (cdL (cdR (cdL (cdR (cdR wire_list_Stmt_c)))))) wire_list_Stmt_h.r.r.l.r.c.c [1, 10, 11, 12] [4] ⟨H, [(1, t1), (10, t10), (11, t11), (12, t12)]⟩ kc kx).trans ?_
  kernel_rfl
theorem wire_list_Stmt_eq (m : Nat) (t0 t1 : AV) : wire_list_Stmt m t0 t1 =
  lenE false true [] t0 fun t8 =>
  binE none false false .gtr t8 (V (.int .i64 64)) fun t9 =>
  condE t9 (
   tellK [] (ro [] (V (.bool false)))) (
   lenE false true [] t0 fun t11 =>
   iterC m (wire_list_Stmt_b1 m) ⟨[], [(1, t1), (10, t0), (11, t11), (12, (V (.int .i64 0)))]⟩ (blockX 0 (seqX (fun s => wire_list_Stmt_r1 m ⟨s.H, []⟩) (wire_list_Stmt_fin)))) := by
  refine (tellX Try.prog GG (wire_list_Stmt_env m) m ⟨21, []⟩ wire_list_Stmt_c wire_list_Stmt_h ⟨[], argsT 0 [t0, t1]⟩ [.tmp 4]).trans ?_
  kernel_rfl
noncomputable def wire_list_Stmt_t (m : Nat) : List AV → RO | [t0, t1] => wire_list_Stmt m t0 t1 | _ => none
theorem wire_list_Stmt_ok (m : Nat) : ∀ args X H', wire_list_Stmt_t m args = some (X, H') → ACp Try.prog GG 54 args X := by
  intro args X H' h
  unfold wire_list_Stmt_t at h
  split at h
  · exact tell_okK MIX (by
    intro f e h
    simp only [wire_list_Stmt_env, Prod.mk.injEq, List.mem_cons, List.not_mem_nil, or_false] at h
    obtain ⟨rfl, rfl⟩ := h
    · exact wire_stmt_ok m) (f := 54) (c := wire_list_Stmt_c) Try.func54 rfl (by kernel_rfl) _ rfl Try.ntmps54 (Nat.le_of_ble_eq_true rfl) wire_list_Stmt_h h
  · cases h
noncomputable def wire_cert_c : Code := (Try.f69.body).getD .skip
def wire_cert_h : Hint := (.two .n (.two .n .n))
noncomputable def wire_cert_env (m : Nat) : Env := [(53, .tell (wire_number_t m)), (54, .tell (wire_list_Stmt_t m))]
noncomputable abbrev wire_cert_fin : KO (AV × List AObj) := tellFK Try.prog [.tmp 2]
noncomputable def wire_cert (m : Nat) (t0 : AV) : RO := exec Try.prog GG (wire_cert_env m) m ⟨22, []⟩ wire_cert_c wire_cert_h ⟨[], argsT 0 [t0]⟩ (wire_cert_fin)
theorem wire_cert_eq (m : Nat) (t0 : AV) : wire_cert m t0 =
  boxE ty_api_Cert [] t0 fun t1 H1 =>
  fieldE (some (0, 1)) t1 fun t3 =>
  loadE 1 H1 t3 fun t4 =>
  fieldE (some (1, 1)) t1 fun t5 =>
  loadE 1 H1 t5 fun t6 =>
  fieldE (some (2, 1)) t1 fun t7 =>
  loadE 1 H1 t7 fun t8 =>
  buildSE (some (ty_int, 1)) 3 [(0, t4), (1, t6), (2, t8)] fun t9 =>
  tellE (wire_number m (ro H1 t9)) [(ro H1 t9)] fun t10 =>
  condE t10 (
   fieldE (some (3, 1)) t1 fun t12 =>
   loadE 1 H1 t12 fun t13 =>
   lenE true false H1 t13 fun t14 =>
   binE none false false .leq t14 (V (.int .i64 65536)) fun t15 =>
   condE t15 (
   fieldE (some (4, 1)) t1 fun t18 =>
   loadE 1 H1 t18 fun t19 =>
   tellE (wire_list_Stmt m (ro H1 t19) (ro H1 (V (.func (.func 55) #[] #[])))) [(ro H1 t19), (ro H1 (V (.func (.func 55) #[] #[])))] fun t20 =>
   tellK H1 (ro H1 t20)) (
   tellK H1 (ro H1 (V (.bool false))))) (
   tellK H1 (ro H1 (V (.bool false)))) := by
  refine (tellX Try.prog GG (wire_cert_env m) m ⟨22, []⟩ wire_cert_c wire_cert_h ⟨[], argsT 0 [t0]⟩ [.tmp 2]).trans ?_
  kernel_rfl
noncomputable def wire_cert_t (m : Nat) : List AV → RO | [t0] => wire_cert m t0 | _ => none
theorem wire_cert_ok (m : Nat) : ∀ args X H', wire_cert_t m args = some (X, H') → ACp Try.prog GG 69 args X := by
  intro args X H' h
  unfold wire_cert_t at h
  split at h
  · exact tell_okK MIX (by
    intro f e h
    simp only [wire_cert_env, Prod.mk.injEq, List.mem_cons, List.not_mem_nil, or_false] at h
    rcases h with ⟨rfl, rfl⟩ | ⟨rfl, rfl⟩
    · exact wire_number_ok m
    · exact wire_list_Stmt_ok m) (f := 69) (c := wire_cert_c) Try.func69 rfl (by kernel_rfl) _ rfl Try.ntmps69 (Nat.le_of_ble_eq_true rfl) wire_cert_h h
  · cases h
noncomputable def wire_list_Cert_c : Code := (Try.f68.body).getD .skip
def wire_list_Cert_h : Hint := (.two .n (.two (.two .n (.two (.two .n .n) .n)) (.join [] (.two .n (.one (.lp [] [1, 10, 11, 12] [4] (.two .n (.two (.two .n .n) (.two (.one (.two .n (.two .n (.two (.two .n .n) .n)))) .n)))))) (.two .n .n))))
noncomputable def wire_list_Cert_env (m : Nat) : Env := [(69, .tell (wire_cert_t m))]
noncomputable abbrev wire_list_Cert_fin : KO (AV × List AObj) := tellFK Try.prog [.tmp 4]
noncomputable def wire_list_Cert_r1 (m : Nat) (s : ASt) : RO := joinW Try.prog GG (wire_list_Cert_env m) m ⟨21, []⟩ (cdR (cdR (cdR wire_list_Cert_c))) wire_list_Cert_h.r.r.r s (wire_list_Cert_fin)
noncomputable def wire_list_Cert_b1 (m : Nat) (s : ASt) (kc : ASt → RO) (kx : KO (AV × List AObj)) : RO := bodyW Try.prog GG (wire_list_Cert_env m) m ⟨21, []⟩ (cdL (cdL (cdR (cdL (cdR (cdR wire_list_Cert_c)))))) wire_list_Cert_h.r.r.l.r.c.c [1, 10, 11, 12] [4] s kc kx
noncomputable def wire_list_Cert (m : Nat) (t0 t1 : AV) : RO := exec Try.prog GG (wire_list_Cert_env m) m ⟨21, []⟩ wire_list_Cert_c wire_list_Cert_h ⟨[], argsT 0 [t0, t1]⟩ (wire_list_Cert_fin)
theorem wire_list_Cert_r1_eq (m : Nat) (H : List AObj) : wire_list_Cert_r1 m ⟨H, []⟩ =
  tellK H (ro H (V (.bool true))) := by
  refine (joinW_eq Try.prog GG (wire_list_Cert_env m) m ⟨21, []⟩ (cdR (cdR (cdR wire_list_Cert_c))) wire_list_Cert_h.r.r.r ⟨H, []⟩ (wire_list_Cert_fin)).trans ?_
  kernel_rfl
theorem wire_list_Cert_b1_eq (m : Nat) (H : List AObj) (t1 t10 t11 t12 : AV) (kc : ASt → RO) (kx : KO (AV × List AObj)) : wire_list_Cert_b1 m ⟨H, [(1, t1), (10, t10), (11, t11), (12, t12)]⟩ kc kx =
  binE none false false .lss t12 t11 fun t13 =>
  condE t13 (
   idxSE 7 H t10 t12 fun t14 =>
   loadE 7 H t14 fun t15 =>
   allocE (some zc_api_Cert) ty_api_Cert H fun t6 H2 =>
   storeE 7 H2 t6 t15 fun H3 =>
   loadE 7 H3 t6 fun t17 =>
   callVE (wire_list_Cert_env m) t1 [t17] H3 fun t18 H4 =>
   unE .not t18 fun t19 =>
   condE t19 (
    kx .ret ⟨H4, [(4, (V (.bool false)))]⟩) (
    binE none false false .add t12 (V (.int .i64 1)) fun t20 =>
    backE H.length H4 [(1, t1), (10, t10), (11, t11), (12, t20)] kc)) (
   kx (.exit 0) ⟨H, [(4, .nil)]⟩) := by
  refine (bodyW_eq Try.prog GG (wire_list_Cert_env m) m ⟨21, []⟩ (cdL (cdL (cdR (cdL (cdR (cdR wire_list_Cert_c)))))) wire_list_Cert_h.r.r.l.r.c.c [1, 10, 11, 12] [4] ⟨H, [(1, t1), (10, t10), (11, t11), (12, t12)]⟩ kc kx).trans ?_
  kernel_rfl
theorem wire_list_Cert_eq (m : Nat) (t0 t1 : AV) : wire_list_Cert m t0 t1 =
  lenE false true [] t0 fun t8 =>
  binE none false false .gtr t8 (V (.int .i64 64)) fun t9 =>
  condE t9 (
   tellK [] (ro [] (V (.bool false)))) (
   lenE false true [] t0 fun t11 =>
   iterC m (wire_list_Cert_b1 m) ⟨[], [(1, t1), (10, t0), (11, t11), (12, (V (.int .i64 0)))]⟩ (blockX 0 (seqX (fun s => wire_list_Cert_r1 m ⟨s.H, []⟩) (wire_list_Cert_fin)))) := by
  refine (tellX Try.prog GG (wire_list_Cert_env m) m ⟨21, []⟩ wire_list_Cert_c wire_list_Cert_h ⟨[], argsT 0 [t0, t1]⟩ [.tmp 4]).trans ?_
  kernel_rfl
noncomputable def wire_list_Cert_t (m : Nat) : List AV → RO | [t0, t1] => wire_list_Cert m t0 t1 | _ => none
theorem wire_list_Cert_ok (m : Nat) : ∀ args X H', wire_list_Cert_t m args = some (X, H') → ACp Try.prog GG 68 args X := by
  intro args X H' h
  unfold wire_list_Cert_t at h
  split at h
  · exact tell_okK MIX (by
    intro f e h
    simp only [wire_list_Cert_env, Prod.mk.injEq, List.mem_cons, List.not_mem_nil, or_false] at h
    obtain ⟨rfl, rfl⟩ := h
    · exact wire_cert_ok m) (f := 68) (c := wire_list_Cert_c) Try.func68 rfl (by kernel_rfl) _ rfl Try.ntmps68 (Nat.le_of_ble_eq_true rfl) wire_list_Cert_h h
  · cases h
noncomputable def wire_change_c : Code := (Try.f51.body).getD .skip
def wire_change_h : Hint := (.two .n (.two .n .n))
noncomputable def wire_change_env (m : Nat) : Env := [(52, .tell (wire_party_t m)), (53, .tell (wire_number_t m)), (54, .tell (wire_list_Stmt_t m)), (68, .tell (wire_list_Cert_t m))]
noncomputable abbrev wire_change_fin : KO (AV × List AObj) := tellFK Try.prog [.tmp 2]
noncomputable def wire_change (m : Nat) (t0 : AV) : RO := exec Try.prog GG (wire_change_env m) m ⟨26, []⟩ wire_change_c wire_change_h ⟨[], argsT 0 [t0]⟩ (wire_change_fin)
theorem wire_change_eq (m : Nat) (t0 : AV) : wire_change m t0 =
  boxE ty_api_Change [] t0 fun t1 H1 =>
  fieldE (some (0, 1)) t1 fun t3 =>
  loadE 1 H1 t3 fun t4 =>
  tellE (wire_party m (ro H1 t4)) [(ro H1 t4)] fun t5 =>
  condE t5 (
   fieldE (some (1, 1)) t1 fun t7 =>
   loadE 1 H1 t7 fun t8 =>
   fieldE (some (2, 1)) t1 fun t9 =>
   loadE 1 H1 t9 fun t10 =>
   fieldE (some (3, 1)) t1 fun t11 =>
   loadE 1 H1 t11 fun t12 =>
   buildSE (some (ty_int, 1)) 3 [(0, t8), (1, t10), (2, t12)] fun t13 =>
   tellE (wire_number m (ro H1 t13)) [(ro H1 t13)] fun t14 =>
   condE t14 (
   fieldE (some (4, 1)) t1 fun t17 =>
   loadE 1 H1 t17 fun t18 =>
   tellE (wire_list_Stmt m (ro H1 t18) (ro H1 (V (.func (.func 55) #[] #[])))) [(ro H1 t18), (ro H1 (V (.func (.func 55) #[] #[])))] fun t19 =>
   condE t19 (
   fieldE (some (5, 1)) t1 fun t22 =>
   loadE 1 H1 t22 fun t23 =>
   tellE (wire_list_Cert m (ro H1 t23) (ro H1 (V (.func (.func 69) #[] #[])))) [(ro H1 t23), (ro H1 (V (.func (.func 69) #[] #[])))] fun t24 =>
   tellK H1 (ro H1 t24)) (
   tellK H1 (ro H1 (V (.bool false))))) (
   tellK H1 (ro H1 (V (.bool false))))) (
   tellK H1 (ro H1 (V (.bool false)))) := by
  refine (tellX Try.prog GG (wire_change_env m) m ⟨26, []⟩ wire_change_c wire_change_h ⟨[], argsT 0 [t0]⟩ [.tmp 2]).trans ?_
  kernel_rfl
noncomputable def wire_change_t (m : Nat) : List AV → RO | [t0] => wire_change m t0 | _ => none
theorem wire_change_ok (m : Nat) : ∀ args X H', wire_change_t m args = some (X, H') → ACp Try.prog GG 51 args X := by
  intro args X H' h
  unfold wire_change_t at h
  split at h
  · exact tell_okK MIX (by
    intro f e h
    simp only [wire_change_env, Prod.mk.injEq, List.mem_cons, List.not_mem_nil, or_false] at h
    rcases h with ⟨rfl, rfl⟩ | ⟨rfl, rfl⟩ | ⟨rfl, rfl⟩ | ⟨rfl, rfl⟩
    · exact wire_party_ok m
    · exact wire_number_ok m
    · exact wire_list_Stmt_ok m
    · exact wire_list_Cert_ok m) (f := 51) (c := wire_change_c) Try.func51 rfl (by kernel_rfl) _ rfl Try.ntmps51 (Nat.le_of_ble_eq_true rfl) wire_change_h h
  · cases h
noncomputable def wire_list_Change_c : Code := (Try.f56.body).getD .skip
def wire_list_Change_h : Hint := (.two .n (.two (.two .n (.two (.two .n .n) .n)) (.join [] (.two .n (.one (.lp [] [1, 10, 11, 12] [4] (.two .n (.two (.two .n .n) (.two (.one (.two .n (.two .n (.two (.two .n .n) .n)))) .n)))))) (.two .n .n))))
noncomputable def wire_list_Change_env (m : Nat) : Env := [(51, .tell (wire_change_t m))]
noncomputable abbrev wire_list_Change_fin : KO (AV × List AObj) := tellFK Try.prog [.tmp 4]
noncomputable def wire_list_Change_r1 (m : Nat) (s : ASt) : RO := joinW Try.prog GG (wire_list_Change_env m) m ⟨21, []⟩ (cdR (cdR (cdR wire_list_Change_c))) wire_list_Change_h.r.r.r s (wire_list_Change_fin)
noncomputable def wire_list_Change_b1 (m : Nat) (s : ASt) (kc : ASt → RO) (kx : KO (AV × List AObj)) : RO := bodyW Try.prog GG (wire_list_Change_env m) m ⟨21, []⟩ (cdL (cdL (cdR (cdL (cdR (cdR wire_list_Change_c)))))) wire_list_Change_h.r.r.l.r.c.c [1, 10, 11, 12] [4] s kc kx
noncomputable def wire_list_Change (m : Nat) (t0 t1 : AV) : RO := exec Try.prog GG (wire_list_Change_env m) m ⟨21, []⟩ wire_list_Change_c wire_list_Change_h ⟨[], argsT 0 [t0, t1]⟩ (wire_list_Change_fin)
theorem wire_list_Change_r1_eq (m : Nat) (H : List AObj) : wire_list_Change_r1 m ⟨H, []⟩ =
  tellK H (ro H (V (.bool true))) := by
  refine (joinW_eq Try.prog GG (wire_list_Change_env m) m ⟨21, []⟩ (cdR (cdR (cdR wire_list_Change_c))) wire_list_Change_h.r.r.r ⟨H, []⟩ (wire_list_Change_fin)).trans ?_
  kernel_rfl
theorem wire_list_Change_b1_eq (m : Nat) (H : List AObj) (t1 t10 t11 t12 : AV) (kc : ASt → RO) (kx : KO (AV × List AObj)) : wire_list_Change_b1 m ⟨H, [(1, t1), (10, t10), (11, t11), (12, t12)]⟩ kc kx =
  binE none false false .lss t12 t11 fun t13 =>
  condE t13 (
   idxSE 8 H t10 t12 fun t14 =>
   loadE 8 H t14 fun t15 =>
   allocE (some zc_api_Change) ty_api_Change H fun t6 H2 =>
   storeE 8 H2 t6 t15 fun H3 =>
   loadE 8 H3 t6 fun t17 =>
   callVE (wire_list_Change_env m) t1 [t17] H3 fun t18 H4 =>
   unE .not t18 fun t19 =>
   condE t19 (
    kx .ret ⟨H4, [(4, (V (.bool false)))]⟩) (
    binE none false false .add t12 (V (.int .i64 1)) fun t20 =>
    backE H.length H4 [(1, t1), (10, t10), (11, t11), (12, t20)] kc)) (
   kx (.exit 0) ⟨H, [(4, .nil)]⟩) := by
  refine (bodyW_eq Try.prog GG (wire_list_Change_env m) m ⟨21, []⟩ (cdL (cdL (cdR (cdL (cdR (cdR wire_list_Change_c)))))) wire_list_Change_h.r.r.l.r.c.c [1, 10, 11, 12] [4] ⟨H, [(1, t1), (10, t10), (11, t11), (12, t12)]⟩ kc kx).trans ?_
  kernel_rfl
theorem wire_list_Change_eq (m : Nat) (t0 t1 : AV) : wire_list_Change m t0 t1 =
  lenE false true [] t0 fun t8 =>
  binE none false false .gtr t8 (V (.int .i64 64)) fun t9 =>
  condE t9 (
   tellK [] (ro [] (V (.bool false)))) (
   lenE false true [] t0 fun t11 =>
   iterC m (wire_list_Change_b1 m) ⟨[], [(1, t1), (10, t0), (11, t11), (12, (V (.int .i64 0)))]⟩ (blockX 0 (seqX (fun s => wire_list_Change_r1 m ⟨s.H, []⟩) (wire_list_Change_fin)))) := by
  refine (tellX Try.prog GG (wire_list_Change_env m) m ⟨21, []⟩ wire_list_Change_c wire_list_Change_h ⟨[], argsT 0 [t0, t1]⟩ [.tmp 4]).trans ?_
  kernel_rfl
noncomputable def wire_list_Change_t (m : Nat) : List AV → RO | [t0, t1] => wire_list_Change m t0 t1 | _ => none
theorem wire_list_Change_ok (m : Nat) : ∀ args X H', wire_list_Change_t m args = some (X, H') → ACp Try.prog GG 56 args X := by
  intro args X H' h
  unfold wire_list_Change_t at h
  split at h
  · exact tell_okK MIX (by
    intro f e h
    simp only [wire_list_Change_env, Prod.mk.injEq, List.mem_cons, List.not_mem_nil, or_false] at h
    obtain ⟨rfl, rfl⟩ := h
    · exact wire_change_ok m) (f := 56) (c := wire_list_Change_c) Try.func56 rfl (by kernel_rfl) _ rfl Try.ntmps56 (Nat.le_of_ble_eq_true rfl) wire_list_Change_h h
  · cases h
noncomputable def wire_May_c : Code := (Try.f19.body).getD .skip
def wire_May_h : Hint := (.two .n (.two .n .n))
noncomputable def wire_May_env (m : Nat) : Env := [(52, .tell (wire_party_t m)), (53, .tell (wire_number_t m)), (54, .tell (wire_list_Stmt_t m)), (56, .tell (wire_list_Change_t m))]
noncomputable abbrev wire_May_fin : KO (AV × List AObj) := tellFK Try.prog [.tmp 2]
noncomputable def wire_May (m : Nat) (t0 : AV) : RO := exec Try.prog GG (wire_May_env m) m ⟨42, []⟩ wire_May_c wire_May_h ⟨[], argsT 0 [t0]⟩ (wire_May_fin)
theorem wire_May_eq (m : Nat) (t0 : AV) : wire_May m t0 =
  boxE ty_api_Msg [] t0 fun t1 H1 =>
  fieldE (some (0, 1)) t1 fun t3 =>
  loadE 1 H1 t3 fun t4 =>
  binE none false false .geq t4 (V (.int .i64 1)) fun t5 =>
  condE t5 (
   fieldE (some (0, 1)) t1 fun t7 =>
   loadE 1 H1 t7 fun t8 =>
   binE none false false .leq t8 (V (.int .i64 10)) fun t9 =>
   condE t9 (
   fieldE (some (1, 1)) t1 fun t12 =>
   loadE 1 H1 t12 fun t13 =>
   tellE (wire_party m (ro H1 t13)) [(ro H1 t13)] fun t14 =>
   condE t14 (
   fieldE (some (2, 1)) t1 fun t17 =>
   loadE 1 H1 t17 fun t18 =>
   fieldE (some (3, 1)) t1 fun t19 =>
   loadE 1 H1 t19 fun t20 =>
   fieldE (some (4, 1)) t1 fun t21 =>
   loadE 1 H1 t21 fun t22 =>
   buildSE (some (ty_int, 1)) 3 [(0, t18), (1, t20), (2, t22)] fun t23 =>
   tellE (wire_number m (ro H1 t23)) [(ro H1 t23)] fun t24 =>
   condE t24 (
   fieldE (some (5, 1)) t1 fun t27 =>
   loadE 1 H1 t27 fun t28 =>
   lenE true false H1 t28 fun t29 =>
   binE none false false .leq t29 (V (.int .i64 65536)) fun t30 =>
   condE t30 (
   fieldE (some (6, 1)) t1 fun t33 =>
   loadE 1 H1 t33 fun t34 =>
   tellE (wire_list_Stmt m (ro H1 t34) (ro H1 (V (.func (.func 55) #[] #[])))) [(ro H1 t34), (ro H1 (V (.func (.func 55) #[] #[])))] fun t35 =>
   condE t35 (
   fieldE (some (7, 1)) t1 fun t38 =>
   loadE 1 H1 t38 fun t39 =>
   tellE (wire_list_Change m (ro H1 t39) (ro H1 (V (.func (.func 51) #[] #[])))) [(ro H1 t39), (ro H1 (V (.func (.func 51) #[] #[])))] fun t40 =>
   tellK H1 (ro H1 t40)) (
   tellK H1 (ro H1 (V (.bool false))))) (
   tellK H1 (ro H1 (V (.bool false))))) (
   tellK H1 (ro H1 (V (.bool false))))) (
   tellK H1 (ro H1 (V (.bool false))))) (
   tellK H1 (ro H1 (V (.bool false))))) (
   tellK H1 (ro H1 (V (.bool false)))) := by
  refine (tellX Try.prog GG (wire_May_env m) m ⟨42, []⟩ wire_May_c wire_May_h ⟨[], argsT 0 [t0]⟩ [.tmp 2]).trans ?_
  kernel_rfl
noncomputable def wire_May_t (m : Nat) : List AV → RO | [t0] => wire_May m t0 | _ => none
theorem wire_May_ok (m : Nat) : ∀ args X H', wire_May_t m args = some (X, H') → ACp Try.prog GG 19 args X := by
  intro args X H' h
  unfold wire_May_t at h
  split at h
  · exact tell_okK MIX (by
    intro f e h
    simp only [wire_May_env, Prod.mk.injEq, List.mem_cons, List.not_mem_nil, or_false] at h
    rcases h with ⟨rfl, rfl⟩ | ⟨rfl, rfl⟩ | ⟨rfl, rfl⟩ | ⟨rfl, rfl⟩
    · exact wire_party_ok m
    · exact wire_number_ok m
    · exact wire_list_Stmt_ok m
    · exact wire_list_Change_ok m) (f := 19) (c := wire_May_c) Try.func19 rfl (by kernel_rfl) _ rfl Try.ntmps19 (Nat.le_of_ble_eq_true rfl) wire_May_h h
  · cases h
noncomputable def slices_Equal_Stmt_c : Code := (Try.f57.body).getD .skip
def slices_Equal_Stmt_h : Hint := (.two .n (.two (.two .n (.two (.two .n .n) .n)) (.join [] (.two .n (.one (.lp [] [0, 1, 12, 13] [4] (.two .n (.two (.two .n .n) (.two (.one (.two .n (.two .n (.two (.two .n .n) .n)))) .n)))))) (.two .n .n))))
noncomputable def slices_Equal_Stmt_env (m : Nat) : Env := []
noncomputable abbrev slices_Equal_Stmt_fin : KO (AV × List AObj) := tellFK Try.prog [.tmp 4]
noncomputable def slices_Equal_Stmt_r1 (m : Nat) (s : ASt) : RO := joinW Try.prog GG (slices_Equal_Stmt_env m) m ⟨26, []⟩ (cdR (cdR (cdR slices_Equal_Stmt_c))) slices_Equal_Stmt_h.r.r.r s (slices_Equal_Stmt_fin)
noncomputable def slices_Equal_Stmt_b1 (m : Nat) (s : ASt) (kc : ASt → RO) (kx : KO (AV × List AObj)) : RO := bodyW Try.prog GG (slices_Equal_Stmt_env m) m ⟨26, []⟩ (cdL (cdL (cdR (cdL (cdR (cdR slices_Equal_Stmt_c)))))) slices_Equal_Stmt_h.r.r.l.r.c.c [0, 1, 12, 13] [4] s kc kx
noncomputable def slices_Equal_Stmt (m : Nat) (t0 t1 : AV) : RO := exec Try.prog GG (slices_Equal_Stmt_env m) m ⟨26, []⟩ slices_Equal_Stmt_c slices_Equal_Stmt_h ⟨[], argsT 0 [t0, t1]⟩ (slices_Equal_Stmt_fin)
theorem slices_Equal_Stmt_r1_eq (m : Nat) (H : List AObj) : slices_Equal_Stmt_r1 m ⟨H, []⟩ =
  tellK H (ro H (V (.bool true))) := by
  refine (joinW_eq Try.prog GG (slices_Equal_Stmt_env m) m ⟨26, []⟩ (cdR (cdR (cdR slices_Equal_Stmt_c))) slices_Equal_Stmt_h.r.r.r ⟨H, []⟩ (slices_Equal_Stmt_fin)).trans ?_
  kernel_rfl
theorem slices_Equal_Stmt_b1_eq (m : Nat) (H : List AObj) (t0 t1 t12 t13 : AV) (kc : ASt → RO) (kx : KO (AV × List AObj)) : slices_Equal_Stmt_b1 m ⟨H, [(0, t0), (1, t1), (12, t12), (13, t13)]⟩ kc kx =
  binE none false false .lss t13 t12 fun t14 =>
  condE t14 (
   idxSE 7 H t0 t13 fun t18 =>
   loadE 7 H t18 fun t19 =>
   idxSE 7 H t1 t13 fun t22 =>
   loadE 7 H t22 fun t23 =>
   binE (some [.i .i64, .i .i64, .i .i64, .i .i64, .i .i64]) false false .neq t19 t23 fun t24 =>
   condE t24 (
    kx .ret ⟨H, [(4, (V (.bool false)))]⟩) (
    binE none false false .add t13 (V (.int .i64 1)) fun t25 =>
    backE H.length H [(0, t0), (1, t1), (12, t12), (13, t25)] kc)) (
   kx (.exit 0) ⟨H, [(4, .nil)]⟩) := by
  refine (bodyW_eq Try.prog GG (slices_Equal_Stmt_env m) m ⟨26, []⟩ (cdL (cdL (cdR (cdL (cdR (cdR slices_Equal_Stmt_c)))))) slices_Equal_Stmt_h.r.r.l.r.c.c [0, 1, 12, 13] [4] ⟨H, [(0, t0), (1, t1), (12, t12), (13, t13)]⟩ kc kx).trans ?_
  kernel_rfl
theorem slices_Equal_Stmt_eq (m : Nat) (t0 t1 : AV) : slices_Equal_Stmt m t0 t1 =
  lenE false true [] t0 fun t7 =>
  lenE false true [] t1 fun t9 =>
  binE none false false .neq t7 t9 fun t10 =>
  condE t10 (
   tellK [] (ro [] (V (.bool false)))) (
   lenE false true [] t0 fun t12 =>
   iterC m (slices_Equal_Stmt_b1 m) ⟨[], [(0, t0), (1, t1), (12, t12), (13, (V (.int .i64 0)))]⟩ (blockX 0 (seqX (fun s => slices_Equal_Stmt_r1 m ⟨s.H, []⟩) (slices_Equal_Stmt_fin)))) := by
  refine (tellX Try.prog GG (slices_Equal_Stmt_env m) m ⟨26, []⟩ slices_Equal_Stmt_c slices_Equal_Stmt_h ⟨[], argsT 0 [t0, t1]⟩ [.tmp 4]).trans ?_
  kernel_rfl
noncomputable def slices_Equal_Stmt_t (m : Nat) : List AV → RO | [t0, t1] => slices_Equal_Stmt m t0 t1 | _ => none
theorem slices_Equal_Stmt_ok (m : Nat) : ∀ args X H', slices_Equal_Stmt_t m args = some (X, H') → ACp Try.prog GG 57 args X := by
  intro args X H' h
  unfold slices_Equal_Stmt_t at h
  split at h
  · exact tell_okK MIX (by intro f e h; cases h) (f := 57) (c := slices_Equal_Stmt_c) Try.func57 rfl (by kernel_rfl) _ rfl Try.ntmps57 (Nat.le_of_ble_eq_true rfl) slices_Equal_Stmt_h h
  · cases h
noncomputable def wire_certs_c : Code := (Try.f71.body).getD .skip
def wire_certs_h : Hint := (.two .n (.two .n .n))
noncomputable def wire_certs_env (m : Nat) : Env := [(57, .tell (slices_Equal_Stmt_t m))]
noncomputable abbrev wire_certs_fin : KO (AV × List AObj) := tellFK Try.prog [.tmp 4]
noncomputable def wire_certs (m : Nat) (t0 t1 : AV) : RO := exec Try.prog GG (wire_certs_env m) m ⟨38, []⟩ wire_certs_c wire_certs_h ⟨[], argsT 0 [t0, t1]⟩ (wire_certs_fin)
theorem wire_certs_eq (m : Nat) (t0 t1 : AV) : wire_certs m t0 t1 =
  boxE ty_api_Cert [] t0 fun t2 H1 =>
  boxE ty_api_Cert H1 t1 fun t3 H2 =>
  fieldE (some (0, 1)) t2 fun t5 =>
  loadE 1 H2 t5 fun t6 =>
  fieldE (some (0, 1)) t3 fun t7 =>
  loadE 1 H2 t7 fun t8 =>
  binE none false false .eql t6 t8 fun t9 =>
  condE t9 (
   fieldE (some (1, 1)) t2 fun t11 =>
   loadE 1 H2 t11 fun t12 =>
   fieldE (some (1, 1)) t3 fun t13 =>
   loadE 1 H2 t13 fun t14 =>
   binE none false false .eql t12 t14 fun t15 =>
   condE t15 (
   fieldE (some (2, 1)) t2 fun t18 =>
   loadE 1 H2 t18 fun t19 =>
   fieldE (some (2, 1)) t3 fun t20 =>
   loadE 1 H2 t20 fun t21 =>
   binE none false false .eql t19 t21 fun t22 =>
   condE t22 (
   fieldE (some (3, 1)) t2 fun t25 =>
   loadE 1 H2 t25 fun t26 =>
   fieldE (some (3, 1)) t3 fun t27 =>
   loadE 1 H2 t27 fun t28 =>
   binE none false false .eql t26 t28 fun t29 =>
   condE t29 (
   fieldE (some (4, 1)) t2 fun t32 =>
   loadE 1 H2 t32 fun t33 =>
   fieldE (some (4, 1)) t3 fun t34 =>
   loadE 1 H2 t34 fun t35 =>
   tellE (slices_Equal_Stmt m (ro H2 t33) (ro H2 t35)) [(ro H2 t33), (ro H2 t35)] fun t36 =>
   tellK H2 (ro H2 t36)) (
   tellK H2 (ro H2 (V (.bool false))))) (
   tellK H2 (ro H2 (V (.bool false))))) (
   tellK H2 (ro H2 (V (.bool false))))) (
   tellK H2 (ro H2 (V (.bool false)))) := by
  refine (tellX Try.prog GG (wire_certs_env m) m ⟨38, []⟩ wire_certs_c wire_certs_h ⟨[], argsT 0 [t0, t1]⟩ [.tmp 4]).trans ?_
  kernel_rfl
noncomputable def wire_certs_t (m : Nat) : List AV → RO | [t0, t1] => wire_certs m t0 t1 | _ => none
theorem wire_certs_ok (m : Nat) : ∀ args X H', wire_certs_t m args = some (X, H') → ACp Try.prog GG 71 args X := by
  intro args X H' h
  unfold wire_certs_t at h
  split at h
  · exact tell_okK MIX (by
    intro f e h
    simp only [wire_certs_env, Prod.mk.injEq, List.mem_cons, List.not_mem_nil, or_false] at h
    obtain ⟨rfl, rfl⟩ := h
    · exact slices_Equal_Stmt_ok m) (f := 71) (c := wire_certs_c) Try.func71 rfl (by kernel_rfl) _ rfl Try.ntmps71 (Nat.le_of_ble_eq_true rfl) wire_certs_h h
  · cases h
noncomputable def slices_EqualFunc_api_Cert_Cert_c : Code := (Try.f70.body).getD .skip
def slices_EqualFunc_api_Cert_Cert_h : Hint := (.two .n (.two (.two .n (.two (.two .n .n) .n)) (.join [] (.two .n (.one (.lp [] [1, 2, 15, 16, 17] [6] (.two .n (.two (.two .n .n) (.two (.one (.two .n (.two .n (.two .n (.two (.two .n .n) .n))))) .n)))))) (.two .n .n))))
noncomputable def slices_EqualFunc_api_Cert_Cert_env (m : Nat) : Env := [(71, .tell (wire_certs_t m))]
noncomputable abbrev slices_EqualFunc_api_Cert_Cert_fin : KO (AV × List AObj) := tellFK Try.prog [.tmp 6]
noncomputable def slices_EqualFunc_api_Cert_Cert_r1 (m : Nat) (s : ASt) : RO := joinW Try.prog GG (slices_EqualFunc_api_Cert_Cert_env m) m ⟨32, []⟩ (cdR (cdR (cdR slices_EqualFunc_api_Cert_Cert_c))) slices_EqualFunc_api_Cert_Cert_h.r.r.r s (slices_EqualFunc_api_Cert_Cert_fin)
noncomputable def slices_EqualFunc_api_Cert_Cert_b1 (m : Nat) (s : ASt) (kc : ASt → RO) (kx : KO (AV × List AObj)) : RO := bodyW Try.prog GG (slices_EqualFunc_api_Cert_Cert_env m) m ⟨32, []⟩ (cdL (cdL (cdR (cdL (cdR (cdR slices_EqualFunc_api_Cert_Cert_c)))))) slices_EqualFunc_api_Cert_Cert_h.r.r.l.r.c.c [1, 2, 15, 16, 17] [6] s kc kx
noncomputable def slices_EqualFunc_api_Cert_Cert (m : Nat) (t0 t1 t2 : AV) : RO := exec Try.prog GG (slices_EqualFunc_api_Cert_Cert_env m) m ⟨32, []⟩ slices_EqualFunc_api_Cert_Cert_c slices_EqualFunc_api_Cert_Cert_h ⟨[], argsT 0 [t0, t1, t2]⟩ (slices_EqualFunc_api_Cert_Cert_fin)
theorem slices_EqualFunc_api_Cert_Cert_r1_eq (m : Nat) (H : List AObj) : slices_EqualFunc_api_Cert_Cert_r1 m ⟨H, []⟩ =
  tellK H (ro H (V (.bool true))) := by
  refine (joinW_eq Try.prog GG (slices_EqualFunc_api_Cert_Cert_env m) m ⟨32, []⟩ (cdR (cdR (cdR slices_EqualFunc_api_Cert_Cert_c))) slices_EqualFunc_api_Cert_Cert_h.r.r.r ⟨H, []⟩ (slices_EqualFunc_api_Cert_Cert_fin)).trans ?_
  kernel_rfl
theorem slices_EqualFunc_api_Cert_Cert_b1_eq (m : Nat) (H : List AObj) (t1 t2 t15 t16 t17 : AV) (kc : ASt → RO) (kx : KO (AV × List AObj)) : slices_EqualFunc_api_Cert_Cert_b1 m ⟨H, [(1, t1), (2, t2), (15, t15), (16, t16), (17, t17)]⟩ kc kx =
  binE none false false .lss t17 t16 fun t18 =>
  condE t18 (
   idxSE 7 H t15 t17 fun t20 =>
   loadE 7 H t20 fun t21 =>
   allocE (some zc_api_Cert) ty_api_Cert H fun t8 H2 =>
   storeE 7 H2 t8 t21 fun H3 =>
   idxSE 7 H3 t1 t17 fun t24 =>
   loadE 7 H3 t24 fun t25 =>
   allocE (some zc_api_Cert) ty_api_Cert H3 fun t9 H4 =>
   storeE 7 H4 t9 t25 fun H5 =>
   loadE 7 H5 t8 fun t27 =>
   loadE 7 H5 t9 fun t28 =>
   callVE (slices_EqualFunc_api_Cert_Cert_env m) t2 [t27, t28] H5 fun t29 H6 =>
   unE .not t29 fun t30 =>
   condE t30 (
    kx .ret ⟨H6, [(6, (V (.bool false)))]⟩) (
    binE none false false .add t17 (V (.int .i64 1)) fun t31 =>
    backE H.length H6 [(1, t1), (2, t2), (15, t15), (16, t16), (17, t31)] kc)) (
   kx (.exit 0) ⟨H, [(6, .nil)]⟩) := by
  refine (bodyW_eq Try.prog GG (slices_EqualFunc_api_Cert_Cert_env m) m ⟨32, []⟩ (cdL (cdL (cdR (cdL (cdR (cdR slices_EqualFunc_api_Cert_Cert_c)))))) slices_EqualFunc_api_Cert_Cert_h.r.r.l.r.c.c [1, 2, 15, 16, 17] [6] ⟨H, [(1, t1), (2, t2), (15, t15), (16, t16), (17, t17)]⟩ kc kx).trans ?_
  kernel_rfl
theorem slices_EqualFunc_api_Cert_Cert_eq (m : Nat) (t0 t1 t2 : AV) : slices_EqualFunc_api_Cert_Cert m t0 t1 t2 =
  lenE false true [] t0 fun t11 =>
  lenE false true [] t1 fun t13 =>
  binE none false false .neq t11 t13 fun t14 =>
  condE t14 (
   tellK [] (ro [] (V (.bool false)))) (
   lenE false true [] t0 fun t16 =>
   iterC m (slices_EqualFunc_api_Cert_Cert_b1 m) ⟨[], [(1, t1), (2, t2), (15, t0), (16, t16), (17, (V (.int .i64 0)))]⟩ (blockX 0 (seqX (fun s => slices_EqualFunc_api_Cert_Cert_r1 m ⟨s.H, []⟩) (slices_EqualFunc_api_Cert_Cert_fin)))) := by
  refine (tellX Try.prog GG (slices_EqualFunc_api_Cert_Cert_env m) m ⟨32, []⟩ slices_EqualFunc_api_Cert_Cert_c slices_EqualFunc_api_Cert_Cert_h ⟨[], argsT 0 [t0, t1, t2]⟩ [.tmp 6]).trans ?_
  kernel_rfl
noncomputable def slices_EqualFunc_api_Cert_Cert_t (m : Nat) : List AV → RO | [t0, t1, t2] => slices_EqualFunc_api_Cert_Cert m t0 t1 t2 | _ => none
theorem slices_EqualFunc_api_Cert_Cert_ok (m : Nat) : ∀ args X H', slices_EqualFunc_api_Cert_Cert_t m args = some (X, H') → ACp Try.prog GG 70 args X := by
  intro args X H' h
  unfold slices_EqualFunc_api_Cert_Cert_t at h
  split at h
  · exact tell_okK MIX (by
    intro f e h
    simp only [slices_EqualFunc_api_Cert_Cert_env, Prod.mk.injEq, List.mem_cons, List.not_mem_nil, or_false] at h
    obtain ⟨rfl, rfl⟩ := h
    · exact wire_certs_ok m) (f := 70) (c := slices_EqualFunc_api_Cert_Cert_c) Try.func70 rfl (by kernel_rfl) _ rfl Try.ntmps70 (Nat.le_of_ble_eq_true rfl) slices_EqualFunc_api_Cert_Cert_h h
  · cases h
noncomputable def wire_changes_c : Code := (Try.f59.body).getD .skip
def wire_changes_h : Hint := (.two .n (.two .n .n))
noncomputable def wire_changes_env (m : Nat) : Env := [(57, .tell (slices_Equal_Stmt_t m)), (70, .tell (slices_EqualFunc_api_Cert_Cert_t m))]
noncomputable abbrev wire_changes_fin : KO (AV × List AObj) := tellFK Try.prog [.tmp 4]
noncomputable def wire_changes (m : Nat) (t0 t1 : AV) : RO := exec Try.prog GG (wire_changes_env m) m ⟨45, []⟩ wire_changes_c wire_changes_h ⟨[], argsT 0 [t0, t1]⟩ (wire_changes_fin)
theorem wire_changes_eq (m : Nat) (t0 t1 : AV) : wire_changes m t0 t1 =
  boxE ty_api_Change [] t0 fun t2 H1 =>
  boxE ty_api_Change H1 t1 fun t3 H2 =>
  fieldE (some (0, 1)) t2 fun t5 =>
  loadE 1 H2 t5 fun t6 =>
  fieldE (some (0, 1)) t3 fun t7 =>
  loadE 1 H2 t7 fun t8 =>
  binE none false false .eql t6 t8 fun t9 =>
  condE t9 (
   fieldE (some (1, 1)) t2 fun t11 =>
   loadE 1 H2 t11 fun t12 =>
   fieldE (some (1, 1)) t3 fun t13 =>
   loadE 1 H2 t13 fun t14 =>
   binE none false false .eql t12 t14 fun t15 =>
   condE t15 (
   fieldE (some (2, 1)) t2 fun t18 =>
   loadE 1 H2 t18 fun t19 =>
   fieldE (some (2, 1)) t3 fun t20 =>
   loadE 1 H2 t20 fun t21 =>
   binE none false false .eql t19 t21 fun t22 =>
   condE t22 (
   fieldE (some (3, 1)) t2 fun t25 =>
   loadE 1 H2 t25 fun t26 =>
   fieldE (some (3, 1)) t3 fun t27 =>
   loadE 1 H2 t27 fun t28 =>
   binE none false false .eql t26 t28 fun t29 =>
   condE t29 (
   fieldE (some (4, 1)) t2 fun t32 =>
   loadE 1 H2 t32 fun t33 =>
   fieldE (some (4, 1)) t3 fun t34 =>
   loadE 1 H2 t34 fun t35 =>
   tellE (slices_Equal_Stmt m (ro H2 t33) (ro H2 t35)) [(ro H2 t33), (ro H2 t35)] fun t36 =>
   condE t36 (
   fieldE (some (5, 1)) t2 fun t39 =>
   loadE 1 H2 t39 fun t40 =>
   fieldE (some (5, 1)) t3 fun t41 =>
   loadE 1 H2 t41 fun t42 =>
   tellE (slices_EqualFunc_api_Cert_Cert m (ro H2 t40) (ro H2 t42) (ro H2 (V (.func (.func 71) #[] #[])))) [(ro H2 t40), (ro H2 t42), (ro H2 (V (.func (.func 71) #[] #[])))] fun t43 =>
   tellK H2 (ro H2 t43)) (
   tellK H2 (ro H2 (V (.bool false))))) (
   tellK H2 (ro H2 (V (.bool false))))) (
   tellK H2 (ro H2 (V (.bool false))))) (
   tellK H2 (ro H2 (V (.bool false))))) (
   tellK H2 (ro H2 (V (.bool false)))) := by
  refine (tellX Try.prog GG (wire_changes_env m) m ⟨45, []⟩ wire_changes_c wire_changes_h ⟨[], argsT 0 [t0, t1]⟩ [.tmp 4]).trans ?_
  kernel_rfl
noncomputable def wire_changes_t (m : Nat) : List AV → RO | [t0, t1] => wire_changes m t0 t1 | _ => none
theorem wire_changes_ok (m : Nat) : ∀ args X H', wire_changes_t m args = some (X, H') → ACp Try.prog GG 59 args X := by
  intro args X H' h
  unfold wire_changes_t at h
  split at h
  · exact tell_okK MIX (by
    intro f e h
    simp only [wire_changes_env, Prod.mk.injEq, List.mem_cons, List.not_mem_nil, or_false] at h
    rcases h with ⟨rfl, rfl⟩ | ⟨rfl, rfl⟩
    · exact slices_Equal_Stmt_ok m
    · exact slices_EqualFunc_api_Cert_Cert_ok m) (f := 59) (c := wire_changes_c) Try.func59 rfl (by kernel_rfl) _ rfl Try.ntmps59 (Nat.le_of_ble_eq_true rfl) wire_changes_h h
  · cases h
noncomputable def slices_EqualFunc_api_Change_Change_c : Code := (Try.f58.body).getD .skip
def slices_EqualFunc_api_Change_Change_h : Hint := (.two .n (.two (.two .n (.two (.two .n .n) .n)) (.join [] (.two .n (.one (.lp [] [1, 2, 15, 16, 17] [6] (.two .n (.two (.two .n .n) (.two (.one (.two .n (.two .n (.two .n (.two (.two .n .n) .n))))) .n)))))) (.two .n .n))))
noncomputable def slices_EqualFunc_api_Change_Change_env (m : Nat) : Env := [(59, .tell (wire_changes_t m))]
noncomputable abbrev slices_EqualFunc_api_Change_Change_fin : KO (AV × List AObj) := tellFK Try.prog [.tmp 6]
noncomputable def slices_EqualFunc_api_Change_Change_r1 (m : Nat) (s : ASt) : RO := joinW Try.prog GG (slices_EqualFunc_api_Change_Change_env m) m ⟨32, []⟩ (cdR (cdR (cdR slices_EqualFunc_api_Change_Change_c))) slices_EqualFunc_api_Change_Change_h.r.r.r s (slices_EqualFunc_api_Change_Change_fin)
noncomputable def slices_EqualFunc_api_Change_Change_b1 (m : Nat) (s : ASt) (kc : ASt → RO) (kx : KO (AV × List AObj)) : RO := bodyW Try.prog GG (slices_EqualFunc_api_Change_Change_env m) m ⟨32, []⟩ (cdL (cdL (cdR (cdL (cdR (cdR slices_EqualFunc_api_Change_Change_c)))))) slices_EqualFunc_api_Change_Change_h.r.r.l.r.c.c [1, 2, 15, 16, 17] [6] s kc kx
noncomputable def slices_EqualFunc_api_Change_Change (m : Nat) (t0 t1 t2 : AV) : RO := exec Try.prog GG (slices_EqualFunc_api_Change_Change_env m) m ⟨32, []⟩ slices_EqualFunc_api_Change_Change_c slices_EqualFunc_api_Change_Change_h ⟨[], argsT 0 [t0, t1, t2]⟩ (slices_EqualFunc_api_Change_Change_fin)
theorem slices_EqualFunc_api_Change_Change_r1_eq (m : Nat) (H : List AObj) : slices_EqualFunc_api_Change_Change_r1 m ⟨H, []⟩ =
  tellK H (ro H (V (.bool true))) := by
  refine (joinW_eq Try.prog GG (slices_EqualFunc_api_Change_Change_env m) m ⟨32, []⟩ (cdR (cdR (cdR slices_EqualFunc_api_Change_Change_c))) slices_EqualFunc_api_Change_Change_h.r.r.r ⟨H, []⟩ (slices_EqualFunc_api_Change_Change_fin)).trans ?_
  kernel_rfl
theorem slices_EqualFunc_api_Change_Change_b1_eq (m : Nat) (H : List AObj) (t1 t2 t15 t16 t17 : AV) (kc : ASt → RO) (kx : KO (AV × List AObj)) : slices_EqualFunc_api_Change_Change_b1 m ⟨H, [(1, t1), (2, t2), (15, t15), (16, t16), (17, t17)]⟩ kc kx =
  binE none false false .lss t17 t16 fun t18 =>
  condE t18 (
   idxSE 8 H t15 t17 fun t20 =>
   loadE 8 H t20 fun t21 =>
   allocE (some zc_api_Change) ty_api_Change H fun t8 H2 =>
   storeE 8 H2 t8 t21 fun H3 =>
   idxSE 8 H3 t1 t17 fun t24 =>
   loadE 8 H3 t24 fun t25 =>
   allocE (some zc_api_Change) ty_api_Change H3 fun t9 H4 =>
   storeE 8 H4 t9 t25 fun H5 =>
   loadE 8 H5 t8 fun t27 =>
   loadE 8 H5 t9 fun t28 =>
   callVE (slices_EqualFunc_api_Change_Change_env m) t2 [t27, t28] H5 fun t29 H6 =>
   unE .not t29 fun t30 =>
   condE t30 (
    kx .ret ⟨H6, [(6, (V (.bool false)))]⟩) (
    binE none false false .add t17 (V (.int .i64 1)) fun t31 =>
    backE H.length H6 [(1, t1), (2, t2), (15, t15), (16, t16), (17, t31)] kc)) (
   kx (.exit 0) ⟨H, [(6, .nil)]⟩) := by
  refine (bodyW_eq Try.prog GG (slices_EqualFunc_api_Change_Change_env m) m ⟨32, []⟩ (cdL (cdL (cdR (cdL (cdR (cdR slices_EqualFunc_api_Change_Change_c)))))) slices_EqualFunc_api_Change_Change_h.r.r.l.r.c.c [1, 2, 15, 16, 17] [6] ⟨H, [(1, t1), (2, t2), (15, t15), (16, t16), (17, t17)]⟩ kc kx).trans ?_
  kernel_rfl
theorem slices_EqualFunc_api_Change_Change_eq (m : Nat) (t0 t1 t2 : AV) : slices_EqualFunc_api_Change_Change m t0 t1 t2 =
  lenE false true [] t0 fun t11 =>
  lenE false true [] t1 fun t13 =>
  binE none false false .neq t11 t13 fun t14 =>
  condE t14 (
   tellK [] (ro [] (V (.bool false)))) (
   lenE false true [] t0 fun t16 =>
   iterC m (slices_EqualFunc_api_Change_Change_b1 m) ⟨[], [(1, t1), (2, t2), (15, t0), (16, t16), (17, (V (.int .i64 0)))]⟩ (blockX 0 (seqX (fun s => slices_EqualFunc_api_Change_Change_r1 m ⟨s.H, []⟩) (slices_EqualFunc_api_Change_Change_fin)))) := by
  refine (tellX Try.prog GG (slices_EqualFunc_api_Change_Change_env m) m ⟨32, []⟩ slices_EqualFunc_api_Change_Change_c slices_EqualFunc_api_Change_Change_h ⟨[], argsT 0 [t0, t1, t2]⟩ [.tmp 6]).trans ?_
  kernel_rfl
noncomputable def slices_EqualFunc_api_Change_Change_t (m : Nat) : List AV → RO | [t0, t1, t2] => slices_EqualFunc_api_Change_Change m t0 t1 t2 | _ => none
theorem slices_EqualFunc_api_Change_Change_ok (m : Nat) : ∀ args X H', slices_EqualFunc_api_Change_Change_t m args = some (X, H') → ACp Try.prog GG 58 args X := by
  intro args X H' h
  unfold slices_EqualFunc_api_Change_Change_t at h
  split at h
  · exact tell_okK MIX (by
    intro f e h
    simp only [slices_EqualFunc_api_Change_Change_env, Prod.mk.injEq, List.mem_cons, List.not_mem_nil, or_false] at h
    obtain ⟨rfl, rfl⟩ := h
    · exact wire_changes_ok m) (f := 58) (c := slices_EqualFunc_api_Change_Change_c) Try.func58 rfl (by kernel_rfl) _ rfl Try.ntmps58 (Nat.le_of_ble_eq_true rfl) slices_EqualFunc_api_Change_Change_h h
  · cases h
noncomputable def wire_Same_c : Code := (Try.f20.body).getD .skip
def wire_Same_h : Hint := (.two .n (.two .n .n))
noncomputable def wire_Same_env (m : Nat) : Env := [(57, .tell (slices_Equal_Stmt_t m)), (58, .tell (slices_EqualFunc_api_Change_Change_t m))]
noncomputable abbrev wire_Same_fin : KO (AV × List AObj) := tellFK Try.prog [.tmp 4]
noncomputable def wire_Same (m : Nat) (t0 t1 : AV) : RO := exec Try.prog GG (wire_Same_env m) m ⟨59, []⟩ wire_Same_c wire_Same_h ⟨[], argsT 0 [t0, t1]⟩ (wire_Same_fin)
theorem wire_Same_eq (m : Nat) (t0 t1 : AV) : wire_Same m t0 t1 =
  boxE ty_api_Msg [] t0 fun t2 H1 =>
  boxE ty_api_Msg H1 t1 fun t3 H2 =>
  fieldE (some (0, 1)) t2 fun t5 =>
  loadE 1 H2 t5 fun t6 =>
  fieldE (some (0, 1)) t3 fun t7 =>
  loadE 1 H2 t7 fun t8 =>
  binE none false false .eql t6 t8 fun t9 =>
  condE t9 (
   fieldE (some (1, 1)) t2 fun t11 =>
   loadE 1 H2 t11 fun t12 =>
   fieldE (some (1, 1)) t3 fun t13 =>
   loadE 1 H2 t13 fun t14 =>
   binE none false false .eql t12 t14 fun t15 =>
   condE t15 (
   fieldE (some (2, 1)) t2 fun t18 =>
   loadE 1 H2 t18 fun t19 =>
   fieldE (some (2, 1)) t3 fun t20 =>
   loadE 1 H2 t20 fun t21 =>
   binE none false false .eql t19 t21 fun t22 =>
   condE t22 (
   fieldE (some (3, 1)) t2 fun t25 =>
   loadE 1 H2 t25 fun t26 =>
   fieldE (some (3, 1)) t3 fun t27 =>
   loadE 1 H2 t27 fun t28 =>
   binE none false false .eql t26 t28 fun t29 =>
   condE t29 (
   fieldE (some (4, 1)) t2 fun t32 =>
   loadE 1 H2 t32 fun t33 =>
   fieldE (some (4, 1)) t3 fun t34 =>
   loadE 1 H2 t34 fun t35 =>
   binE none false false .eql t33 t35 fun t36 =>
   condE t36 (
   fieldE (some (5, 1)) t2 fun t39 =>
   loadE 1 H2 t39 fun t40 =>
   fieldE (some (5, 1)) t3 fun t41 =>
   loadE 1 H2 t41 fun t42 =>
   binE none false false .eql t40 t42 fun t43 =>
   condE t43 (
   fieldE (some (6, 1)) t2 fun t46 =>
   loadE 1 H2 t46 fun t47 =>
   fieldE (some (6, 1)) t3 fun t48 =>
   loadE 1 H2 t48 fun t49 =>
   tellE (slices_Equal_Stmt m (ro H2 t47) (ro H2 t49)) [(ro H2 t47), (ro H2 t49)] fun t50 =>
   condE t50 (
   fieldE (some (7, 1)) t2 fun t53 =>
   loadE 1 H2 t53 fun t54 =>
   fieldE (some (7, 1)) t3 fun t55 =>
   loadE 1 H2 t55 fun t56 =>
   tellE (slices_EqualFunc_api_Change_Change m (ro H2 t54) (ro H2 t56) (ro H2 (V (.func (.func 59) #[] #[])))) [(ro H2 t54), (ro H2 t56), (ro H2 (V (.func (.func 59) #[] #[])))] fun t57 =>
   tellK H2 (ro H2 t57)) (
   tellK H2 (ro H2 (V (.bool false))))) (
   tellK H2 (ro H2 (V (.bool false))))) (
   tellK H2 (ro H2 (V (.bool false))))) (
   tellK H2 (ro H2 (V (.bool false))))) (
   tellK H2 (ro H2 (V (.bool false))))) (
   tellK H2 (ro H2 (V (.bool false))))) (
   tellK H2 (ro H2 (V (.bool false)))) := by
  refine (tellX Try.prog GG (wire_Same_env m) m ⟨59, []⟩ wire_Same_c wire_Same_h ⟨[], argsT 0 [t0, t1]⟩ [.tmp 4]).trans ?_
  kernel_rfl
noncomputable def wire_Same_t (m : Nat) : List AV → RO | [t0, t1] => wire_Same m t0 t1 | _ => none
theorem wire_Same_ok (m : Nat) : ∀ args X H', wire_Same_t m args = some (X, H') → ACp Try.prog GG 20 args X := by
  intro args X H' h
  unfold wire_Same_t at h
  split at h
  · exact tell_okK MIX (by
    intro f e h
    simp only [wire_Same_env, Prod.mk.injEq, List.mem_cons, List.not_mem_nil, or_false] at h
    rcases h with ⟨rfl, rfl⟩ | ⟨rfl, rfl⟩
    · exact slices_Equal_Stmt_ok m
    · exact slices_EqualFunc_api_Change_Change_ok m) (f := 20) (c := wire_Same_c) Try.func20 rfl (by kernel_rfl) _ rfl Try.ntmps20 (Nat.le_of_ble_eq_true rfl) wire_Same_h h
  · cases h
end Go.Proofs.Ytbdbmfifclmpcaa

namespace Go.Proofs.Ytbdbmfifclmpcaa
open Go.RowKit
set_option linter.unusedVariables false
set_option maxRecDepth 100000
def ty_uint8 : TypeId := 5
def ty_wire_writer : TypeId := 79
def zc_wire_writer : List AV := [(V (.slice none 0 0))]
def pl_wire_writer : List (Nat × Nat) := [(0, 1)]
noncomputable def wire_writer_nums_c : Code := (Try.f43.body).getD .skip
def wire_writer_nums_h : Hint := (.two .n (.one (.lp [] [0, 6, 7, 8] [] (.two .n (.two (.two .n .n) (.two (.one (.two .n .n)) .n))))))
noncomputable def wire_writer_nums_env (m : Nat) : Env := [(64, .add (varint_Put_t m))]
noncomputable abbrev wire_writer_nums_fin (n0 : Nat) : KO (AV × List AObj) := keepFK Try.prog n0 []
noncomputable def wire_writer_nums_b1 (m : Nat) (s : ASt) (kc : ASt → RO) (kx : KO (AV × List AObj)) : RO := bodyW Try.prog GG (wire_writer_nums_env m) m ⟨24, []⟩ (cdL (cdL (cdR wire_writer_nums_c))) wire_writer_nums_h.r.c.c [0, 6, 7, 8] [] s kc kx
noncomputable def wire_writer_nums (m : Nat) (t0 t1 : AV) (H : List AObj) : RO := exec Try.prog GG (wire_writer_nums_env m) m ⟨24, []⟩ wire_writer_nums_c wire_writer_nums_h ⟨H, argsT 0 [t0, t1]⟩ (wire_writer_nums_fin H.length)
theorem wire_writer_nums_b1_eq (m : Nat) (H : List AObj) (t0 t6 t7 t8 : AV) (kc : ASt → RO) (kx : KO (AV × List AObj)) : wire_writer_nums_b1 m ⟨H, [(0, t0), (6, t6), (7, t7), (8, t8)]⟩ kc kx =
  binE none false false .lss t8 t7 fun t9 =>
  condE t9 (
   idxSE 1 H t6 t8 fun t10 =>
   loadE 1 H t10 fun t11 =>
   nilE t0 fun t14 =>
   fieldE (some (0, 1)) t14 fun t15 =>
   loadE 1 H t15 fun t16 =>
   convE false (some .u64) true false (ro H t11) fun t18 =>
   addE (varint_Put_t m [(ro H t18)] H.length) H fun t19 H2 =>
   appE (some (ty_uint8, 1)) H2 t16 t19 fun t20 H3 =>
   nilE t0 fun t21 =>
   fieldE (some (0, 1)) t21 fun t22 =>
   storeE 1 H3 t22 t20 fun H4 =>
   binE none false false .add t8 (V (.int .i64 1)) fun t23 =>
   backE H.length H4 [(0, t0), (6, t6), (7, t7), (8, t23)] kc) (
   kx (.exit 0) ⟨H, []⟩) := by
  refine (bodyW_eq Try.prog GG (wire_writer_nums_env m) m ⟨24, []⟩ (cdL (cdL (cdR wire_writer_nums_c))) wire_writer_nums_h.r.c.c [0, 6, 7, 8] [] ⟨H, [(0, t0), (6, t6), (7, t7), (8, t8)]⟩ kc kx).trans ?_
  kernel_rfl
theorem wire_writer_nums_eq (m : Nat) (t0 t1 : AV) (H : List AObj) : wire_writer_nums m t0 t1 H =
  lenE false true H t1 fun t7 =>
  iterC m (wire_writer_nums_b1 m) ⟨H, [(0, t0), (6, t1), (7, t7), (8, (V (.int .i64 0)))]⟩ (blockX 0 (wire_writer_nums_fin H.length)) := by
  refine (keepX Try.prog GG (wire_writer_nums_env m) m ⟨24, []⟩ H.length wire_writer_nums_c wire_writer_nums_h ⟨H, argsT 0 [t0, t1]⟩ []).trans ?_
  kernel_rfl
noncomputable def wire_writer_nums_t (m : Nat) : List AV → List AObj → RO | [t0, t1], H => wire_writer_nums m t0 t1 H | _, _ => none
theorem wire_writer_nums_ok (m : Nat) : ∀ args H X H', wire_writer_nums_t m args H = some (X, H') → AC Try.prog GG 43 args H (Is X H') := by
  intro args H X H' h
  unfold wire_writer_nums_t at h
  split at h
  · exact keep_okK MIX (by
    intro f e h
    simp only [wire_writer_nums_env, Prod.mk.injEq, List.mem_cons, List.not_mem_nil, or_false] at h
    obtain ⟨rfl, rfl⟩ := h
    · exact varint_Put_ok m) (f := 43) (c := wire_writer_nums_c) Try.func43 rfl (by kernel_rfl) _ rfl Try.ntmps43 (Nat.le_of_ble_eq_true rfl) wire_writer_nums_h h
  · cases h
noncomputable def wire_writer_text_c : Code := (Try.f44.body).getD .skip
def wire_writer_text_h : Hint := (.two .n .n)
noncomputable def wire_writer_text_env (m : Nat) : Env := [(43, .keep (wire_writer_nums_t m))]
noncomputable abbrev wire_writer_text_fin (n0 : Nat) : KO (AV × List AObj) := keepFK Try.prog n0 []
noncomputable def wire_writer_text (m : Nat) (t0 t1 : AV) (H : List AObj) : RO := exec Try.prog GG (wire_writer_text_env m) m ⟨18, []⟩ wire_writer_text_c wire_writer_text_h ⟨H, argsT 0 [t0, t1]⟩ (wire_writer_text_fin H.length)
theorem wire_writer_text_eq (m : Nat) (t0 t1 : AV) (H : List AObj) : wire_writer_text m t0 t1 H =
  lenE true false H t1 fun t6 =>
  buildSE (some (ty_int, 1)) 1 [(0, t6)] fun t7 =>
  keepE (wire_writer_nums m (ro H t0) (ro H t7) H) fun t8 H2 =>
  nilE t0 fun t11 =>
  fieldE (some (0, 1)) t11 fun t12 =>
  loadE 1 H2 t12 fun t13 =>
  appSE (some (ty_uint8, 1)) H2 t13 t1 fun t15 H3 =>
  nilE t0 fun t16 =>
  fieldE (some (0, 1)) t16 fun t17 =>
  storeE 1 H3 t17 t15 fun H4 =>
  keepK H.length H4 (ro H4 (TU [])) := by
  refine (keepX Try.prog GG (wire_writer_text_env m) m ⟨18, []⟩ H.length wire_writer_text_c wire_writer_text_h ⟨H, argsT 0 [t0, t1]⟩ []).trans ?_
  kernel_rfl
noncomputable def wire_writer_text_t (m : Nat) : List AV → List AObj → RO | [t0, t1], H => wire_writer_text m t0 t1 H | _, _ => none
theorem wire_writer_text_ok (m : Nat) : ∀ args H X H', wire_writer_text_t m args H = some (X, H') → AC Try.prog GG 44 args H (Is X H') := by
  intro args H X H' h
  unfold wire_writer_text_t at h
  split at h
  · exact keep_okK MIX (by
    intro f e h
    simp only [wire_writer_text_env, Prod.mk.injEq, List.mem_cons, List.not_mem_nil, or_false] at h
    obtain ⟨rfl, rfl⟩ := h
    · exact wire_writer_nums_ok m) (f := 44) (c := wire_writer_text_c) Try.func44 rfl (by kernel_rfl) _ rfl Try.ntmps44 (Nat.le_of_ble_eq_true rfl) wire_writer_text_h h
  · cases h
noncomputable def wire_writer_stmt_c : Code := (Try.f46.body).getD .skip
def wire_writer_stmt_h : Hint := (.two .n .n)
noncomputable def wire_writer_stmt_env (m : Nat) : Env := [(43, .keep (wire_writer_nums_t m))]
noncomputable abbrev wire_writer_stmt_fin (n0 : Nat) : KO (AV × List AObj) := keepFK Try.prog n0 []
noncomputable def wire_writer_stmt (m : Nat) (t0 t1 : AV) (H : List AObj) : RO := exec Try.prog GG (wire_writer_stmt_env m) m ⟨17, []⟩ wire_writer_stmt_c wire_writer_stmt_h ⟨H, argsT 0 [t0, t1]⟩ (wire_writer_stmt_fin H.length)
theorem wire_writer_stmt_eq (m : Nat) (t0 t1 : AV) (H : List AObj) : wire_writer_stmt m t0 t1 H =
  boxE ty_api_Stmt H t1 fun t3 H2 =>
  fieldE (some (0, 1)) t3 fun t5 =>
  loadE 1 H2 t5 fun t6 =>
  fieldE (some (1, 1)) t3 fun t7 =>
  loadE 1 H2 t7 fun t8 =>
  fieldE (some (2, 1)) t3 fun t9 =>
  loadE 1 H2 t9 fun t10 =>
  fieldE (some (3, 1)) t3 fun t11 =>
  loadE 1 H2 t11 fun t12 =>
  fieldE (some (4, 1)) t3 fun t13 =>
  loadE 1 H2 t13 fun t14 =>
  buildSE (some (ty_int, 1)) 5 [(0, t6), (1, t8), (2, t10), (3, t12), (4, t14)] fun t15 =>
  keepE (wire_writer_nums m (ro H2 t0) (ro H2 t15) H2) fun t16 H3 =>
  keepK H.length H3 (ro H3 (TU [])) := by
  refine (keepX Try.prog GG (wire_writer_stmt_env m) m ⟨17, []⟩ H.length wire_writer_stmt_c wire_writer_stmt_h ⟨H, argsT 0 [t0, t1]⟩ []).trans ?_
  kernel_rfl
noncomputable def wire_writer_stmt_t (m : Nat) : List AV → List AObj → RO | [t0, t1], H => wire_writer_stmt m t0 t1 H | _, _ => none
theorem wire_writer_stmt_ok (m : Nat) : ∀ args H X H', wire_writer_stmt_t m args H = some (X, H') → AC Try.prog GG 46 args H (Is X H') := by
  intro args H X H' h
  unfold wire_writer_stmt_t at h
  split at h
  · exact keep_okK MIX (by
    intro f e h
    simp only [wire_writer_stmt_env, Prod.mk.injEq, List.mem_cons, List.not_mem_nil, or_false] at h
    obtain ⟨rfl, rfl⟩ := h
    · exact wire_writer_nums_ok m) (f := 46) (c := wire_writer_stmt_c) Try.func46 rfl (by kernel_rfl) _ rfl Try.ntmps46 (Nat.le_of_ble_eq_true rfl) wire_writer_stmt_h h
  · cases h
noncomputable def wire_each_Stmt_c : Code := (Try.f45.body).getD .skip
def wire_each_Stmt_h : Hint := (.two .n (.two .n (.one (.lp [] [2, 13, 14, 15] [] (.two .n (.two (.two .n .n) (.two (.one (.two .n .n)) .n)))))))
noncomputable def wire_each_Stmt_env (m : Nat) : Env := [(43, .keep (wire_writer_nums_t m)), (46, .keep (wire_writer_stmt_t m))]
noncomputable abbrev wire_each_Stmt_fin (n0 : Nat) : KO (AV × List AObj) := keepFK Try.prog n0 []
noncomputable def wire_each_Stmt_b1 (m : Nat) (s : ASt) (kc : ASt → RO) (kx : KO (AV × List AObj)) : RO := bodyW Try.prog GG (wire_each_Stmt_env m) m ⟨23, []⟩ (cdL (cdL (cdR (cdR wire_each_Stmt_c)))) wire_each_Stmt_h.r.r.c.c [2, 13, 14, 15] [] s kc kx
noncomputable def wire_each_Stmt (m : Nat) (t0 t1 t2 : AV) (H : List AObj) : RO := exec Try.prog GG (wire_each_Stmt_env m) m ⟨23, []⟩ wire_each_Stmt_c wire_each_Stmt_h ⟨H, argsT 0 [t0, t1, t2]⟩ (wire_each_Stmt_fin H.length)
theorem wire_each_Stmt_b1_eq (m : Nat) (H : List AObj) (t2 t13 t14 t15 : AV) (kc : ASt → RO) (kx : KO (AV × List AObj)) : wire_each_Stmt_b1 m ⟨H, [(2, t2), (13, t13), (14, t14), (15, t15)]⟩ kc kx =
  binE none false false .lss t15 t14 fun t16 =>
  condE t16 (
   idxSE 7 H t13 t15 fun t17 =>
   loadE 7 H t17 fun t18 =>
   allocE (some zc_api_Stmt) ty_api_Stmt H fun t7 H2 =>
   storeE 7 H2 t7 t18 fun H3 =>
   loadE 7 H3 t7 fun t20 =>
   callVE (wire_each_Stmt_env m) t2 [t20] H3 fun t21 H4 =>
   binE none false false .add t15 (V (.int .i64 1)) fun t22 =>
   backE H.length H4 [(2, t2), (13, t13), (14, t14), (15, t22)] kc) (
   kx (.exit 0) ⟨H, []⟩) := by
  refine (bodyW_eq Try.prog GG (wire_each_Stmt_env m) m ⟨23, []⟩ (cdL (cdL (cdR (cdR wire_each_Stmt_c)))) wire_each_Stmt_h.r.r.c.c [2, 13, 14, 15] [] ⟨H, [(2, t2), (13, t13), (14, t14), (15, t15)]⟩ kc kx).trans ?_
  kernel_rfl
theorem wire_each_Stmt_eq (m : Nat) (t0 t1 t2 : AV) (H : List AObj) : wire_each_Stmt m t0 t1 t2 H =
  lenE false true H t1 fun t10 =>
  buildSE (some (ty_int, 1)) 1 [(0, t10)] fun t11 =>
  keepE (wire_writer_nums m (ro H t0) (ro H t11) H) fun t12 H2 =>
  lenE false true H2 t1 fun t14 =>
  iterC m (wire_each_Stmt_b1 m) ⟨H2, [(2, t2), (13, t1), (14, t14), (15, (V (.int .i64 0)))]⟩ (blockX 0 (wire_each_Stmt_fin H.length)) := by
  refine (keepX Try.prog GG (wire_each_Stmt_env m) m ⟨23, []⟩ H.length wire_each_Stmt_c wire_each_Stmt_h ⟨H, argsT 0 [t0, t1, t2]⟩ []).trans ?_
  kernel_rfl
noncomputable def wire_each_Stmt_t (m : Nat) : List AV → List AObj → RO | [t0, t1, t2], H => wire_each_Stmt m t0 t1 t2 H | _, _ => none
theorem wire_each_Stmt_ok (m : Nat) : ∀ args H X H', wire_each_Stmt_t m args H = some (X, H') → AC Try.prog GG 45 args H (Is X H') := by
  intro args H X H' h
  unfold wire_each_Stmt_t at h
  split at h
  · exact keep_okK MIX (by
    intro f e h
    simp only [wire_each_Stmt_env, Prod.mk.injEq, List.mem_cons, List.not_mem_nil, or_false] at h
    rcases h with ⟨rfl, rfl⟩ | ⟨rfl, rfl⟩
    · exact wire_writer_nums_ok m
    · exact wire_writer_stmt_ok m) (f := 45) (c := wire_each_Stmt_c) Try.func45 rfl (by kernel_rfl) _ rfl Try.ntmps45 (Nat.le_of_ble_eq_true rfl) wire_each_Stmt_h h
  · cases h
noncomputable def wire_writer_cert_c : Code := (Try.f66.body).getD .skip
def wire_writer_cert_h : Hint := (.two .n (.two .n (.two .n .n)))
noncomputable def wire_writer_cert_env (m : Nat) : Env := [(43, .keep (wire_writer_nums_t m)), (44, .keep (wire_writer_text_t m)), (45, .keep (wire_each_Stmt_t m))]
noncomputable abbrev wire_writer_cert_fin (n0 : Nat) : KO (AV × List AObj) := keepFK Try.prog n0 []
noncomputable def wire_writer_cert (m : Nat) (t0 t1 : AV) (H : List AObj) : RO := exec Try.prog GG (wire_writer_cert_env m) m ⟨23, []⟩ wire_writer_cert_c wire_writer_cert_h ⟨H, argsT 0 [t0, t1]⟩ (wire_writer_cert_fin H.length)
theorem wire_writer_cert_eq (m : Nat) (t0 t1 : AV) (H : List AObj) : wire_writer_cert m t0 t1 H =
  boxE ty_api_Cert H t1 fun t3 H2 =>
  fieldE (some (0, 1)) t3 fun t5 =>
  loadE 1 H2 t5 fun t6 =>
  fieldE (some (1, 1)) t3 fun t7 =>
  loadE 1 H2 t7 fun t8 =>
  fieldE (some (2, 1)) t3 fun t9 =>
  loadE 1 H2 t9 fun t10 =>
  buildSE (some (ty_int, 1)) 3 [(0, t6), (1, t8), (2, t10)] fun t11 =>
  keepE (wire_writer_nums m (ro H2 t0) (ro H2 t11) H2) fun t12 H3 =>
  fieldE (some (3, 1)) t3 fun t14 =>
  loadE 1 H3 t14 fun t15 =>
  keepE (wire_writer_text m (ro H3 t0) (ro H3 t15) H3) fun t16 H4 =>
  fieldE (some (4, 1)) t3 fun t18 =>
  loadE 1 H4 t18 fun t19 =>
  whenE (([t0] : List AV).all cap0) (
  keepE (wire_each_Stmt m (ro H4 t0) (ro H4 t19) (ro H4 (CL (.func 46) 1 [t0])) H4) fun t22 H5 =>
  keepK H.length H5 (ro H5 (TU []))) := by
  refine (keepX Try.prog GG (wire_writer_cert_env m) m ⟨23, []⟩ H.length wire_writer_cert_c wire_writer_cert_h ⟨H, argsT 0 [t0, t1]⟩ []).trans ?_
  kernel_rfl
noncomputable def wire_writer_cert_t (m : Nat) : List AV → List AObj → RO | [t0, t1], H => wire_writer_cert m t0 t1 H | _, _ => none
theorem wire_writer_cert_ok (m : Nat) : ∀ args H X H', wire_writer_cert_t m args H = some (X, H') → AC Try.prog GG 66 args H (Is X H') := by
  intro args H X H' h
  unfold wire_writer_cert_t at h
  split at h
  · exact keep_okK MIX (by
    intro f e h
    simp only [wire_writer_cert_env, Prod.mk.injEq, List.mem_cons, List.not_mem_nil, or_false] at h
    rcases h with ⟨rfl, rfl⟩ | ⟨rfl, rfl⟩ | ⟨rfl, rfl⟩
    · exact wire_writer_nums_ok m
    · exact wire_writer_text_ok m
    · exact wire_each_Stmt_ok m) (f := 66) (c := wire_writer_cert_c) Try.func66 rfl (by kernel_rfl) _ rfl Try.ntmps66 (Nat.le_of_ble_eq_true rfl) wire_writer_cert_h h
  · cases h
noncomputable def wire_each_Cert_c : Code := (Try.f65.body).getD .skip
def wire_each_Cert_h : Hint := (.two .n (.two .n (.one (.lp [] [2, 13, 14, 15] [] (.two .n (.two (.two .n .n) (.two (.one (.two .n .n)) .n)))))))
noncomputable def wire_each_Cert_env (m : Nat) : Env := [(43, .keep (wire_writer_nums_t m)), (66, .keep (wire_writer_cert_t m))]
noncomputable abbrev wire_each_Cert_fin (n0 : Nat) : KO (AV × List AObj) := keepFK Try.prog n0 []
noncomputable def wire_each_Cert_b1 (m : Nat) (s : ASt) (kc : ASt → RO) (kx : KO (AV × List AObj)) : RO := bodyW Try.prog GG (wire_each_Cert_env m) m ⟨23, []⟩ (cdL (cdL (cdR (cdR wire_each_Cert_c)))) wire_each_Cert_h.r.r.c.c [2, 13, 14, 15] [] s kc kx
noncomputable def wire_each_Cert (m : Nat) (t0 t1 t2 : AV) (H : List AObj) : RO := exec Try.prog GG (wire_each_Cert_env m) m ⟨23, []⟩ wire_each_Cert_c wire_each_Cert_h ⟨H, argsT 0 [t0, t1, t2]⟩ (wire_each_Cert_fin H.length)
theorem wire_each_Cert_b1_eq (m : Nat) (H : List AObj) (t2 t13 t14 t15 : AV) (kc : ASt → RO) (kx : KO (AV × List AObj)) : wire_each_Cert_b1 m ⟨H, [(2, t2), (13, t13), (14, t14), (15, t15)]⟩ kc kx =
  binE none false false .lss t15 t14 fun t16 =>
  condE t16 (
   idxSE 7 H t13 t15 fun t17 =>
   loadE 7 H t17 fun t18 =>
   allocE (some zc_api_Cert) ty_api_Cert H fun t7 H2 =>
   storeE 7 H2 t7 t18 fun H3 =>
   loadE 7 H3 t7 fun t20 =>
   callVE (wire_each_Cert_env m) t2 [t20] H3 fun t21 H4 =>
   binE none false false .add t15 (V (.int .i64 1)) fun t22 =>
   backE H.length H4 [(2, t2), (13, t13), (14, t14), (15, t22)] kc) (
   kx (.exit 0) ⟨H, []⟩) := by
  refine (bodyW_eq Try.prog GG (wire_each_Cert_env m) m ⟨23, []⟩ (cdL (cdL (cdR (cdR wire_each_Cert_c)))) wire_each_Cert_h.r.r.c.c [2, 13, 14, 15] [] ⟨H, [(2, t2), (13, t13), (14, t14), (15, t15)]⟩ kc kx).trans ?_
  kernel_rfl
theorem wire_each_Cert_eq (m : Nat) (t0 t1 t2 : AV) (H : List AObj) : wire_each_Cert m t0 t1 t2 H =
  lenE false true H t1 fun t10 =>
  buildSE (some (ty_int, 1)) 1 [(0, t10)] fun t11 =>
  keepE (wire_writer_nums m (ro H t0) (ro H t11) H) fun t12 H2 =>
  lenE false true H2 t1 fun t14 =>
  iterC m (wire_each_Cert_b1 m) ⟨H2, [(2, t2), (13, t1), (14, t14), (15, (V (.int .i64 0)))]⟩ (blockX 0 (wire_each_Cert_fin H.length)) := by
  refine (keepX Try.prog GG (wire_each_Cert_env m) m ⟨23, []⟩ H.length wire_each_Cert_c wire_each_Cert_h ⟨H, argsT 0 [t0, t1, t2]⟩ []).trans ?_
  kernel_rfl
noncomputable def wire_each_Cert_t (m : Nat) : List AV → List AObj → RO | [t0, t1, t2], H => wire_each_Cert m t0 t1 t2 H | _, _ => none
theorem wire_each_Cert_ok (m : Nat) : ∀ args H X H', wire_each_Cert_t m args H = some (X, H') → AC Try.prog GG 65 args H (Is X H') := by
  intro args H X H' h
  unfold wire_each_Cert_t at h
  split at h
  · exact keep_okK MIX (by
    intro f e h
    simp only [wire_each_Cert_env, Prod.mk.injEq, List.mem_cons, List.not_mem_nil, or_false] at h
    rcases h with ⟨rfl, rfl⟩ | ⟨rfl, rfl⟩
    · exact wire_writer_nums_ok m
    · exact wire_writer_cert_ok m) (f := 65) (c := wire_each_Cert_c) Try.func65 rfl (by kernel_rfl) _ rfl Try.ntmps65 (Nat.le_of_ble_eq_true rfl) wire_each_Cert_h h
  · cases h
noncomputable def wire_writer_change_c : Code := (Try.f48.body).getD .skip
def wire_writer_change_h : Hint := (.two .n (.two .n (.two .n .n)))
noncomputable def wire_writer_change_env (m : Nat) : Env := [(43, .keep (wire_writer_nums_t m)), (45, .keep (wire_each_Stmt_t m)), (65, .keep (wire_each_Cert_t m))]
noncomputable abbrev wire_writer_change_fin (n0 : Nat) : KO (AV × List AObj) := keepFK Try.prog n0 []
noncomputable def wire_writer_change (m : Nat) (t0 t1 : AV) (H : List AObj) : RO := exec Try.prog GG (wire_writer_change_env m) m ⟨27, []⟩ wire_writer_change_c wire_writer_change_h ⟨H, argsT 0 [t0, t1]⟩ (wire_writer_change_fin H.length)
theorem wire_writer_change_eq (m : Nat) (t0 t1 : AV) (H : List AObj) : wire_writer_change m t0 t1 H =
  boxE ty_api_Change H t1 fun t3 H2 =>
  fieldE (some (0, 1)) t3 fun t5 =>
  loadE 1 H2 t5 fun t6 =>
  fieldE (some (1, 1)) t3 fun t7 =>
  loadE 1 H2 t7 fun t8 =>
  fieldE (some (2, 1)) t3 fun t9 =>
  loadE 1 H2 t9 fun t10 =>
  fieldE (some (3, 1)) t3 fun t11 =>
  loadE 1 H2 t11 fun t12 =>
  buildSE (some (ty_int, 1)) 4 [(0, t6), (1, t8), (2, t10), (3, t12)] fun t13 =>
  keepE (wire_writer_nums m (ro H2 t0) (ro H2 t13) H2) fun t14 H3 =>
  fieldE (some (4, 1)) t3 fun t16 =>
  loadE 1 H3 t16 fun t17 =>
  whenE (([t0] : List AV).all cap0) (
  keepE (wire_each_Stmt m (ro H3 t0) (ro H3 t17) (ro H3 (CL (.func 46) 1 [t0])) H3) fun t20 H4 =>
  fieldE (some (5, 1)) t3 fun t22 =>
  loadE 1 H4 t22 fun t23 =>
  whenE (([t0] : List AV).all cap0) (
  keepE (wire_each_Cert m (ro H4 t0) (ro H4 t23) (ro H4 (CL (.func 66) 1 [t0])) H4) fun t26 H5 =>
  keepK H.length H5 (ro H5 (TU [])))) := by
  refine (keepX Try.prog GG (wire_writer_change_env m) m ⟨27, []⟩ H.length wire_writer_change_c wire_writer_change_h ⟨H, argsT 0 [t0, t1]⟩ []).trans ?_
  kernel_rfl
noncomputable def wire_writer_change_t (m : Nat) : List AV → List AObj → RO | [t0, t1], H => wire_writer_change m t0 t1 H | _, _ => none
theorem wire_writer_change_ok (m : Nat) : ∀ args H X H', wire_writer_change_t m args H = some (X, H') → AC Try.prog GG 48 args H (Is X H') := by
  intro args H X H' h
  unfold wire_writer_change_t at h
  split at h
  · exact keep_okK MIX (by
    intro f e h
    simp only [wire_writer_change_env, Prod.mk.injEq, List.mem_cons, List.not_mem_nil, or_false] at h
    rcases h with ⟨rfl, rfl⟩ | ⟨rfl, rfl⟩ | ⟨rfl, rfl⟩
    · exact wire_writer_nums_ok m
    · exact wire_each_Stmt_ok m
    · exact wire_each_Cert_ok m) (f := 48) (c := wire_writer_change_c) Try.func48 rfl (by kernel_rfl) _ rfl Try.ntmps48 (Nat.le_of_ble_eq_true rfl) wire_writer_change_h h
  · cases h
noncomputable def wire_each_Change_c : Code := (Try.f47.body).getD .skip
def wire_each_Change_h : Hint := (.two .n (.two .n (.one (.lp [] [2, 13, 14, 15] [] (.two .n (.two (.two .n .n) (.two (.one (.two .n .n)) .n)))))))
noncomputable def wire_each_Change_env (m : Nat) : Env := [(43, .keep (wire_writer_nums_t m)), (48, .keep (wire_writer_change_t m))]
noncomputable abbrev wire_each_Change_fin (n0 : Nat) : KO (AV × List AObj) := keepFK Try.prog n0 []
noncomputable def wire_each_Change_b1 (m : Nat) (s : ASt) (kc : ASt → RO) (kx : KO (AV × List AObj)) : RO := bodyW Try.prog GG (wire_each_Change_env m) m ⟨23, []⟩ (cdL (cdL (cdR (cdR wire_each_Change_c)))) wire_each_Change_h.r.r.c.c [2, 13, 14, 15] [] s kc kx
noncomputable def wire_each_Change (m : Nat) (t0 t1 t2 : AV) (H : List AObj) : RO := exec Try.prog GG (wire_each_Change_env m) m ⟨23, []⟩ wire_each_Change_c wire_each_Change_h ⟨H, argsT 0 [t0, t1, t2]⟩ (wire_each_Change_fin H.length)
theorem wire_each_Change_b1_eq (m : Nat) (H : List AObj) (t2 t13 t14 t15 : AV) (kc : ASt → RO) (kx : KO (AV × List AObj)) : wire_each_Change_b1 m ⟨H, [(2, t2), (13, t13), (14, t14), (15, t15)]⟩ kc kx =
  binE none false false .lss t15 t14 fun t16 =>
  condE t16 (
   idxSE 8 H t13 t15 fun t17 =>
   loadE 8 H t17 fun t18 =>
   allocE (some zc_api_Change) ty_api_Change H fun t7 H2 =>
   storeE 8 H2 t7 t18 fun H3 =>
   loadE 8 H3 t7 fun t20 =>
   callVE (wire_each_Change_env m) t2 [t20] H3 fun t21 H4 =>
   binE none false false .add t15 (V (.int .i64 1)) fun t22 =>
   backE H.length H4 [(2, t2), (13, t13), (14, t14), (15, t22)] kc) (
   kx (.exit 0) ⟨H, []⟩) := by
  refine (bodyW_eq Try.prog GG (wire_each_Change_env m) m ⟨23, []⟩ (cdL (cdL (cdR (cdR wire_each_Change_c)))) wire_each_Change_h.r.r.c.c [2, 13, 14, 15] [] ⟨H, [(2, t2), (13, t13), (14, t14), (15, t15)]⟩ kc kx).trans ?_
  kernel_rfl
theorem wire_each_Change_eq (m : Nat) (t0 t1 t2 : AV) (H : List AObj) : wire_each_Change m t0 t1 t2 H =
  lenE false true H t1 fun t10 =>
  buildSE (some (ty_int, 1)) 1 [(0, t10)] fun t11 =>
  keepE (wire_writer_nums m (ro H t0) (ro H t11) H) fun t12 H2 =>
  lenE false true H2 t1 fun t14 =>
  iterC m (wire_each_Change_b1 m) ⟨H2, [(2, t2), (13, t1), (14, t14), (15, (V (.int .i64 0)))]⟩ (blockX 0 (wire_each_Change_fin H.length)) := by
  refine (keepX Try.prog GG (wire_each_Change_env m) m ⟨23, []⟩ H.length wire_each_Change_c wire_each_Change_h ⟨H, argsT 0 [t0, t1, t2]⟩ []).trans ?_
  kernel_rfl
noncomputable def wire_each_Change_t (m : Nat) : List AV → List AObj → RO | [t0, t1, t2], H => wire_each_Change m t0 t1 t2 H | _, _ => none
theorem wire_each_Change_ok (m : Nat) : ∀ args H X H', wire_each_Change_t m args H = some (X, H') → AC Try.prog GG 47 args H (Is X H') := by
  intro args H X H' h
  unfold wire_each_Change_t at h
  split at h
  · exact keep_okK MIX (by
    intro f e h
    simp only [wire_each_Change_env, Prod.mk.injEq, List.mem_cons, List.not_mem_nil, or_false] at h
    rcases h with ⟨rfl, rfl⟩ | ⟨rfl, rfl⟩
    · exact wire_writer_nums_ok m
    · exact wire_writer_change_ok m) (f := 47) (c := wire_each_Change_c) Try.func47 rfl (by kernel_rfl) _ rfl Try.ntmps47 (Nat.le_of_ble_eq_true rfl) wire_each_Change_h h
  · cases h
noncomputable def wire_EncodeChange_c : Code := (Try.f18.body).getD .skip
def wire_EncodeChange_h : Hint := (.two .n (.two (.two .n (.two (.two .n .n) .n)) (.gh (3, 0, ty_uint8, 1) [1, 3] .n (.two .n (.two .n .n)))))
noncomputable def wire_EncodeChange_env (m : Nat) : Env := [(51, .tell (wire_change_t m)), (48, .keep (wire_writer_change_t m))]
noncomputable abbrev wire_EncodeChange_fin : KO (AV × List AObj) := tellFK Try.prog [.tmp 2]
noncomputable def wire_EncodeChange_r1 (m : Nat) (s : ASt) : RO := joinW Try.prog GG (wire_EncodeChange_env m) m ⟨16, []⟩ (cdR (cdR (cdR wire_EncodeChange_c))) wire_EncodeChange_h.r.r.r s (wire_EncodeChange_fin)
noncomputable def wire_EncodeChange (m : Nat) (t0 : AV) : RO := exec Try.prog GG (wire_EncodeChange_env m) m ⟨16, []⟩ wire_EncodeChange_c wire_EncodeChange_h ⟨[], argsT 0 [t0]⟩ (wire_EncodeChange_fin)
theorem wire_EncodeChange_r1_eq (m : Nat) (H : List AObj) (t1 t3 : AV) : wire_EncodeChange_r1 m ⟨H, [(1, t1), (3, t3)]⟩ =
  loadE 8 H t1 fun t10 =>
  keepE (wire_writer_change m (ro H t3) (ro H t10) H) fun t11 H2 =>
  nilE t3 fun t13 =>
  fieldE (some (0, 1)) t13 fun t14 =>
  loadE 1 H2 t14 fun t15 =>
  tellK H2 (ro H2 t15) := by
  refine (joinW_eq Try.prog GG (wire_EncodeChange_env m) m ⟨16, []⟩ (cdR (cdR (cdR wire_EncodeChange_c))) wire_EncodeChange_h.r.r.r ⟨H, [(1, t1), (3, t3)]⟩ (wire_EncodeChange_fin)).trans ?_
  kernel_rfl
theorem wire_EncodeChange_eq (m : Nat) (t0 : AV) : wire_EncodeChange m t0 =
  boxE ty_api_Change [] t0 fun t1 H1 =>
  loadE 8 H1 t1 fun t4 =>
  tellE (wire_change m (ro H1 t4)) [(ro H1 t4)] fun t5 =>
  unE .not t5 fun t6 =>
  condE t6 (
   tellK H1 (ro H1 (V (.slice none 0 0)))) (
   buildE (some pl_wire_writer) (some zc_wire_writer) [] fun t7 =>
   boxE ty_wire_writer H1 t7 fun t8 H2 =>
   wire_EncodeChange_r1 m (ghS 3 0 ty_uint8 1 ⟨H2, [(1, t1), (3, t8)]⟩)) := by
  refine (tellX Try.prog GG (wire_EncodeChange_env m) m ⟨16, []⟩ wire_EncodeChange_c wire_EncodeChange_h ⟨[], argsT 0 [t0]⟩ [.tmp 2]).trans ?_
  kernel_rfl
noncomputable def wire_EncodeChange_t (m : Nat) : List AV → RO | [t0] => wire_EncodeChange m t0 | _ => none
theorem wire_EncodeChange_ok (m : Nat) : ∀ args X H', wire_EncodeChange_t m args = some (X, H') → ACp Try.prog GG 18 args X := by
  intro args X H' h
  unfold wire_EncodeChange_t at h
  split at h
  · exact tell_okK MIX (by
    intro f e h
    simp only [wire_EncodeChange_env, Prod.mk.injEq, List.mem_cons, List.not_mem_nil, or_false] at h
    rcases h with ⟨rfl, rfl⟩ | ⟨rfl, rfl⟩
    · exact wire_change_ok m
    · exact wire_writer_change_ok m) (f := 18) (c := wire_EncodeChange_c) Try.func18 rfl (by kernel_rfl) _ rfl Try.ntmps18 (Nat.le_of_ble_eq_true rfl) wire_EncodeChange_h h
  · cases h
noncomputable def wire_Encode_c : Code := (Try.f14.body).getD .skip
def wire_Encode_h : Hint := (.two .n (.two (.two .n (.two (.two .n .n) .n)) (.gh (3, 0, ty_uint8, 1) [1, 3] .n (.two .n (.two .n (.two .n (.two .n (.two .n .n))))))))
noncomputable def wire_Encode_env (m : Nat) : Env := [(19, .tell (wire_May_t m)), (43, .keep (wire_writer_nums_t m)), (44, .keep (wire_writer_text_t m)), (45, .keep (wire_each_Stmt_t m)), (47, .keep (wire_each_Change_t m))]
noncomputable abbrev wire_Encode_fin : KO (AV × List AObj) := tellFK Try.prog [.tmp 2]
noncomputable def wire_Encode_r1 (m : Nat) (s : ASt) : RO := joinW Try.prog GG (wire_Encode_env m) m ⟨42, []⟩ (cdR (cdR (cdR wire_Encode_c))) wire_Encode_h.r.r.r s (wire_Encode_fin)
noncomputable def wire_Encode (m : Nat) (t0 : AV) : RO := exec Try.prog GG (wire_Encode_env m) m ⟨42, []⟩ wire_Encode_c wire_Encode_h ⟨[], argsT 0 [t0]⟩ (wire_Encode_fin)
theorem wire_Encode_r1_eq (m : Nat) (H : List AObj) (t1 t3 : AV) : wire_Encode_r1 m ⟨H, [(1, t1), (3, t3)]⟩ =
  fieldE (some (0, 1)) t1 fun t10 =>
  loadE 1 H t10 fun t11 =>
  fieldE (some (1, 1)) t1 fun t12 =>
  loadE 1 H t12 fun t13 =>
  fieldE (some (2, 1)) t1 fun t14 =>
  loadE 1 H t14 fun t15 =>
  fieldE (some (3, 1)) t1 fun t16 =>
  loadE 1 H t16 fun t17 =>
  fieldE (some (4, 1)) t1 fun t18 =>
  loadE 1 H t18 fun t19 =>
  buildSE (some (ty_int, 1)) 5 [(0, t11), (1, t13), (2, t15), (3, t17), (4, t19)] fun t20 =>
  keepE (wire_writer_nums m (ro H t3) (ro H t20) H) fun t21 H2 =>
  fieldE (some (5, 1)) t1 fun t23 =>
  loadE 1 H2 t23 fun t24 =>
  keepE (wire_writer_text m (ro H2 t3) (ro H2 t24) H2) fun t25 H3 =>
  fieldE (some (6, 1)) t1 fun t27 =>
  loadE 1 H3 t27 fun t28 =>
  whenE (([t3] : List AV).all cap0) (
  keepE (wire_each_Stmt m (ro H3 t3) (ro H3 t28) (ro H3 (CL (.func 46) 1 [t3])) H3) fun t31 H4 =>
  fieldE (some (7, 1)) t1 fun t33 =>
  loadE 1 H4 t33 fun t34 =>
  whenE (([t3] : List AV).all cap0) (
  keepE (wire_each_Change m (ro H4 t3) (ro H4 t34) (ro H4 (CL (.func 48) 1 [t3])) H4) fun t37 H5 =>
  nilE t3 fun t39 =>
  fieldE (some (0, 1)) t39 fun t40 =>
  loadE 1 H5 t40 fun t41 =>
  tellK H5 (ro H5 t41))) := by
  refine (joinW_eq Try.prog GG (wire_Encode_env m) m ⟨42, []⟩ (cdR (cdR (cdR wire_Encode_c))) wire_Encode_h.r.r.r ⟨H, [(1, t1), (3, t3)]⟩ (wire_Encode_fin)).trans ?_
  kernel_rfl
theorem wire_Encode_eq (m : Nat) (t0 : AV) : wire_Encode m t0 =
  boxE ty_api_Msg [] t0 fun t1 H1 =>
  loadE 10 H1 t1 fun t4 =>
  tellE (wire_May m (ro H1 t4)) [(ro H1 t4)] fun t5 =>
  unE .not t5 fun t6 =>
  condE t6 (
   tellK H1 (ro H1 (V (.slice none 0 0)))) (
   buildE (some pl_wire_writer) (some zc_wire_writer) [] fun t7 =>
   boxE ty_wire_writer H1 t7 fun t8 H2 =>
   wire_Encode_r1 m (ghS 3 0 ty_uint8 1 ⟨H2, [(1, t1), (3, t8)]⟩)) := by
  refine (tellX Try.prog GG (wire_Encode_env m) m ⟨42, []⟩ wire_Encode_c wire_Encode_h ⟨[], argsT 0 [t0]⟩ [.tmp 2]).trans ?_
  kernel_rfl
noncomputable def wire_Encode_t (m : Nat) : List AV → RO | [t0] => wire_Encode m t0 | _ => none
theorem wire_Encode_ok (m : Nat) : ∀ args X H', wire_Encode_t m args = some (X, H') → ACp Try.prog GG 14 args X := by
  intro args X H' h
  unfold wire_Encode_t at h
  split at h
  · exact tell_okK MIX (by
    intro f e h
    simp only [wire_Encode_env, Prod.mk.injEq, List.mem_cons, List.not_mem_nil, or_false] at h
    rcases h with ⟨rfl, rfl⟩ | ⟨rfl, rfl⟩ | ⟨rfl, rfl⟩ | ⟨rfl, rfl⟩ | ⟨rfl, rfl⟩
    · exact wire_May_ok m
    · exact wire_writer_nums_ok m
    · exact wire_writer_text_ok m
    · exact wire_each_Stmt_ok m
    · exact wire_each_Change_ok m) (f := 14) (c := wire_Encode_c) Try.func14 rfl (by kernel_rfl) _ rfl Try.ntmps14 (Nat.le_of_ble_eq_true rfl) wire_Encode_h h
  · cases h
end Go.Proofs.Ytbdbmfifclmpcaa

namespace Go.Proofs.Ytbdbmfifclmpcaa
open Go.RowKit
set_option linter.unusedVariables false
set_option maxRecDepth 100000
def zc_api_Msg : List AV := [(V (.int .i64 0)), (V (.int .i64 0)), (V (.int .i64 0)), (V (.int .i64 0)), (V (.int .i64 0)), (V (.string ⟨#[]⟩)), (V (.slice none 0 0)), (V (.slice none 0 0))]
noncomputable def plenumref28_in_c : Code := (Try.f40.body).getD .skip
def plenumref28_in_h : Hint := (.two .n (.two .n .n))
noncomputable def plenumref28_in_env (m : Nat) : Env := []
noncomputable abbrev plenumref28_in_fin : KO (AV × List AObj) := tellFK Try.prog [.tmp 4]
noncomputable def plenumref28_in (m : Nat) (t0 t1 : AV) : RO := exec Try.prog GG (plenumref28_in_env m) m ⟨12, []⟩ plenumref28_in_c plenumref28_in_h ⟨[], argsT 0 [t0, t1]⟩ (plenumref28_in_fin)
theorem plenumref28_in_eq (m : Nat) (t0 t1 : AV) : plenumref28_in m t0 t1 =
  binE none false false .leq (V (.int .i64 0)) t0 fun t6 =>
  condE t6 (
   binE none false false .leq t0 t1 fun t10 =>
   tellK [] (ro [] t10)) (
   tellK [] (ro [] (V (.bool false)))) := by
  refine (tellX Try.prog GG (plenumref28_in_env m) m ⟨12, []⟩ plenumref28_in_c plenumref28_in_h ⟨[], argsT 0 [t0, t1]⟩ [.tmp 4]).trans ?_
  kernel_rfl
noncomputable def plenumref28_in_t (m : Nat) : List AV → RO | [t0, t1] => plenumref28_in m t0 t1 | _ => none
theorem plenumref28_in_ok (m : Nat) : ∀ args X H', plenumref28_in_t m args = some (X, H') → ACp Try.prog GG 40 args X := by
  intro args X H' h
  unfold plenumref28_in_t at h
  split at h
  · exact tell_okK MIX (by intro f e h; cases h) (f := 40) (c := plenumref28_in_c) Try.func40 rfl (by kernel_rfl) _ rfl Try.ntmps40 (Nat.le_of_ble_eq_true rfl) plenumref28_in_h h
  · cases h
noncomputable def plenumref28_num_c : Code := (Try.f41.body).getD .skip
def plenumref28_num_h : Hint := (.two .n (.two .n .n))
noncomputable def plenumref28_num_env (m : Nat) : Env := [(40, .tell (plenumref28_in_t m))]
noncomputable abbrev plenumref28_num_fin : KO (AV × List AObj) := tellFK Try.prog [.tmp 2]
noncomputable def plenumref28_num (m : Nat) (t0 : AV) : RO := exec Try.prog GG (plenumref28_num_env m) m ⟨5, []⟩ plenumref28_num_c plenumref28_num_h ⟨[], argsT 0 [t0]⟩ (plenumref28_num_fin)
theorem plenumref28_num_eq (m : Nat) (t0 : AV) : plenumref28_num m t0 =
  tellE (plenumref28_in m (ro [] t0) (V (.int .i64 2147483647))) [(ro [] t0), (V (.int .i64 2147483647))] fun t4 =>
  tellK [] (ro [] t4) := by
  refine (tellX Try.prog GG (plenumref28_num_env m) m ⟨5, []⟩ plenumref28_num_c plenumref28_num_h ⟨[], argsT 0 [t0]⟩ [.tmp 2]).trans ?_
  kernel_rfl
noncomputable def plenumref28_num_t (m : Nat) : List AV → RO | [t0] => plenumref28_num m t0 | _ => none
theorem plenumref28_num_ok (m : Nat) : ∀ args X H', plenumref28_num_t m args = some (X, H') → ACp Try.prog GG 41 args X := by
  intro args X H' h
  unfold plenumref28_num_t at h
  split at h
  · exact tell_okK MIX (by
    intro f e h
    simp only [plenumref28_num_env, Prod.mk.injEq, List.mem_cons, List.not_mem_nil, or_false] at h
    obtain ⟨rfl, rfl⟩ := h
    · exact plenumref28_in_ok m) (f := 41) (c := plenumref28_num_c) Try.func41 rfl (by kernel_rfl) _ rfl Try.ntmps41 (Nat.le_of_ble_eq_true rfl) plenumref28_num_h h
  · cases h
noncomputable def plenumref28_stmts_c : Code := (Try.f42.body).getD .skip
def plenumref28_stmts_h : Hint := (.two .n (.join [0] (.two .n (.one (.lp [] [0, 3] [0, 2] (.two (.two .n (.two .n .n)) (.join [0, 3] (.one (.join [0, 3, 52] .n (.two (.two .n .n) .n))) .n))))) (.two .n .n)))
noncomputable def plenumref28_stmts_env (m : Nat) : Env := [(40, .tell (plenumref28_in_t m)), (41, .tell (plenumref28_num_t m))]
noncomputable abbrev plenumref28_stmts_fin : KO (AV × List AObj) := tellFK Try.prog [.tmp 2]
noncomputable def plenumref28_stmts_r3 (m : Nat) (n0 : Nat) (kc : ASt → RO) (kx : KO (AV × List AObj)) (s : ASt) : RO := joinW Try.prog GG (plenumref28_stmts_env m) m ⟨56, []⟩ (cdR (cdR (cdL (cdL (cdR (cdL (cdR plenumref28_stmts_c))))))) plenumref28_stmts_h.r.l.r.c.c.r.r s (backW n0 [0, 3] [0, 2] kc kx)
noncomputable def plenumref28_stmts_r2 (m : Nat) (n0 : Nat) (kc : ASt → RO) (kx : KO (AV × List AObj)) (s : ASt) : RO := joinW Try.prog GG (plenumref28_stmts_env m) m ⟨56, []⟩ (cdR (cdL (cdL (cdR (cdL (cdL (cdR (cdL (cdR plenumref28_stmts_c))))))))) plenumref28_stmts_h.r.l.r.c.c.r.l.c.r s (blockX 1 (seqX (fun s => plenumref28_stmts_r3 m n0 kc kx ⟨s.H, [(0, gt s.T 0), (3, gt s.T 3)]⟩) (backW n0 [0, 3] [0, 2] kc kx)))
noncomputable def plenumref28_stmts_r1 (m : Nat) (s : ASt) : RO := joinW Try.prog GG (plenumref28_stmts_env m) m ⟨56, []⟩ (cdR (cdR plenumref28_stmts_c)) plenumref28_stmts_h.r.r s (plenumref28_stmts_fin)
noncomputable def plenumref28_stmts_b1 (m : Nat) (s : ASt) (kc : ASt → RO) (kx : KO (AV × List AObj)) : RO := bodyW Try.prog GG (plenumref28_stmts_env m) m ⟨56, []⟩ (cdL (cdL (cdR (cdL (cdR plenumref28_stmts_c))))) plenumref28_stmts_h.r.l.r.c.c [0, 3] [0, 2] s kc kx
noncomputable def plenumref28_stmts (m : Nat) (t0 : AV) : RO := exec Try.prog GG (plenumref28_stmts_env m) m ⟨56, []⟩ plenumref28_stmts_c plenumref28_stmts_h ⟨[], argsT 0 [t0]⟩ (plenumref28_stmts_fin)
theorem plenumref28_stmts_r3_eq (m : Nat) (n0 : Nat) (kc : ASt → RO) (kx : KO (AV × List AObj)) (H : List AObj) (t0 t3 : AV) : plenumref28_stmts_r3 m n0 kc kx ⟨H, [(0, t0), (3, t3)]⟩ =
  binE none false false .add t3 (V (.int .i64 1)) fun t9 =>
  backE n0 H [(0, t0), (3, t9)] kc := by
  refine (joinW_eq Try.prog GG (plenumref28_stmts_env m) m ⟨56, []⟩ (cdR (cdR (cdL (cdL (cdR (cdL (cdR plenumref28_stmts_c))))))) plenumref28_stmts_h.r.l.r.c.c.r.r ⟨H, [(0, t0), (3, t3)]⟩ (backW n0 [0, 3] [0, 2] kc kx)).trans ?_
  kernel_rfl
theorem plenumref28_stmts_r2_eq (m : Nat) (n0 : Nat) (kc : ASt → RO) (kx : KO (AV × List AObj)) (H : List AObj) (t0 t3 t52 : AV) : plenumref28_stmts_r2 m n0 kc kx ⟨H, [(0, t0), (3, t3), (52, t52)]⟩ =
  condE t52 (
   kx .ret ⟨H, [(0, t0), (2, (V (.bool false)))]⟩) (
   plenumref28_stmts_r3 m n0 kc kx ⟨H, [(0, t0), (3, t3)]⟩) := by
  refine (joinW_eq Try.prog GG (plenumref28_stmts_env m) m ⟨56, []⟩ (cdR (cdL (cdL (cdR (cdL (cdL (cdR (cdL (cdR plenumref28_stmts_c))))))))) plenumref28_stmts_h.r.l.r.c.c.r.l.c.r ⟨H, [(0, t0), (3, t3), (52, t52)]⟩ (blockX 1 (seqX (fun s => plenumref28_stmts_r3 m n0 kc kx ⟨s.H, [(0, gt s.T 0), (3, gt s.T 3)]⟩) (backW n0 [0, 3] [0, 2] kc kx)))).trans ?_
  kernel_rfl
theorem plenumref28_stmts_r1_eq (m : Nat) (H : List AObj) (t0 : AV) : plenumref28_stmts_r1 m ⟨H, [(0, t0)]⟩ =
  lenE false true H t0 fun t54 =>
  binE none false false .leq t54 (V (.int .i64 64)) fun t55 =>
  tellK H (ro H t55) := by
  refine (joinW_eq Try.prog GG (plenumref28_stmts_env m) m ⟨56, []⟩ (cdR (cdR plenumref28_stmts_c)) plenumref28_stmts_h.r.r ⟨H, [(0, t0)]⟩ (plenumref28_stmts_fin)).trans ?_
  kernel_rfl
theorem plenumref28_stmts_b1_eq (m : Nat) (H : List AObj) (t0 t3 : AV) (kc : ASt → RO) (kx : KO (AV × List AObj)) : plenumref28_stmts_b1 m ⟨H, [(0, t0), (3, t3)]⟩ kc kx =
  lenE false true H t0 fun t6 =>
  binE none false false .lss t3 t6 fun t7 =>
  condE t7 (
   idxSE 7 H t0 t3 fun t12 =>
   fieldE (some (0, 1)) t12 fun t13 =>
   loadE 1 H t13 fun t14 =>
   tellE (plenumref28_in m (ro H t14) (V (.int .i64 63))) [(ro H t14), (V (.int .i64 63))] fun t15 =>
   unE .not t15 fun t16 =>
   condE t16 (
    plenumref28_stmts_r2 m H.length kc kx ⟨H, [(0, t0), (3, t3), (52, (V (.bool true)))]⟩) (
    idxSE 7 H t0 t3 fun t20 =>
    fieldE (some (1, 1)) t20 fun t21 =>
    loadE 1 H t21 fun t22 =>
    tellE (plenumref28_num m (ro H t22)) [(ro H t22)] fun t23 =>
    unE .not t23 fun t24 =>
    condE t24 (
    plenumref28_stmts_r2 m H.length kc kx ⟨H, [(0, t0), (3, t3), (52, (V (.bool true)))]⟩) (
    idxSE 7 H t0 t3 fun t29 =>
    fieldE (some (2, 1)) t29 fun t30 =>
    loadE 1 H t30 fun t31 =>
    tellE (plenumref28_num m (ro H t31)) [(ro H t31)] fun t32 =>
    unE .not t32 fun t33 =>
    condE t33 (
    plenumref28_stmts_r2 m H.length kc kx ⟨H, [(0, t0), (3, t3), (52, (V (.bool true)))]⟩) (
    idxSE 7 H t0 t3 fun t38 =>
    fieldE (some (3, 1)) t38 fun t39 =>
    loadE 1 H t39 fun t40 =>
    tellE (plenumref28_num m (ro H t40)) [(ro H t40)] fun t41 =>
    unE .not t41 fun t42 =>
    condE t42 (
    plenumref28_stmts_r2 m H.length kc kx ⟨H, [(0, t0), (3, t3), (52, (V (.bool true)))]⟩) (
    idxSE 7 H t0 t3 fun t47 =>
    fieldE (some (4, 1)) t47 fun t48 =>
    loadE 1 H t48 fun t49 =>
    tellE (plenumref28_num m (ro H t49)) [(ro H t49)] fun t50 =>
    unE .not t50 fun t51 =>
    plenumref28_stmts_r2 m H.length kc kx ⟨H, [(0, t0), (3, t3), (52, t51)]⟩))))) (
   kx (.exit 0) ⟨H, [(0, t0), (2, .nil)]⟩) := by
  refine (bodyW_eq Try.prog GG (plenumref28_stmts_env m) m ⟨56, []⟩ (cdL (cdL (cdR (cdL (cdR plenumref28_stmts_c))))) plenumref28_stmts_h.r.l.r.c.c [0, 3] [0, 2] ⟨H, [(0, t0), (3, t3)]⟩ kc kx).trans ?_
  kernel_rfl
theorem plenumref28_stmts_eq (m : Nat) (t0 : AV) : plenumref28_stmts m t0 =
  iterC m (plenumref28_stmts_b1 m) ⟨[], [(0, t0), (3, (V (.int .i64 0)))]⟩ (blockX 0 (seqX (fun s => plenumref28_stmts_r1 m ⟨s.H, [(0, gt s.T 0)]⟩) (plenumref28_stmts_fin))) := by
  refine (tellX Try.prog GG (plenumref28_stmts_env m) m ⟨56, []⟩ plenumref28_stmts_c plenumref28_stmts_h ⟨[], argsT 0 [t0]⟩ [.tmp 2]).trans ?_
  kernel_rfl
noncomputable def plenumref28_stmts_t (m : Nat) : List AV → RO | [t0] => plenumref28_stmts m t0 | _ => none
theorem plenumref28_stmts_ok (m : Nat) : ∀ args X H', plenumref28_stmts_t m args = some (X, H') → ACp Try.prog GG 42 args X := by
  intro args X H' h
  unfold plenumref28_stmts_t at h
  split at h
  · exact tell_okK MIX (by
    intro f e h
    simp only [plenumref28_stmts_env, Prod.mk.injEq, List.mem_cons, List.not_mem_nil, or_false] at h
    rcases h with ⟨rfl, rfl⟩ | ⟨rfl, rfl⟩
    · exact plenumref28_in_ok m
    · exact plenumref28_num_ok m) (f := 42) (c := plenumref28_stmts_c) Try.func42 rfl (by kernel_rfl) _ rfl Try.ntmps42 (Nat.le_of_ble_eq_true rfl) plenumref28_stmts_h h
  · cases h
noncomputable def plenumref28_Change_c : Code := (Try.f16.body).getD .skip
def plenumref28_Change_h : Hint := (.two .n (.join [1] (.join [1, 38] .n (.two (.two .n .n) .n)) (.join [] (.two .n (.one (.lp [] [1, 3] [2] (.two (.two .n (.two .n .n)) (.join [1, 3] (.one (.two .n (.join [1, 3, 78] .n (.two (.two .n .n) .n)))) .n))))) (.two .n .n))))
noncomputable def plenumref28_Change_env (m : Nat) : Env := [(40, .tell (plenumref28_in_t m)), (41, .tell (plenumref28_num_t m)), (42, .tell (plenumref28_stmts_t m))]
noncomputable abbrev plenumref28_Change_fin : KO (AV × List AObj) := tellFK Try.prog [.tmp 2]
noncomputable def plenumref28_Change_r5 (m : Nat) (n0 : Nat) (kc : ASt → RO) (kx : KO (AV × List AObj)) (s : ASt) : RO := joinW Try.prog GG (plenumref28_Change_env m) m ⟨79, []⟩ (cdR (cdR (cdL (cdL (cdR (cdL (cdR (cdR plenumref28_Change_c)))))))) plenumref28_Change_h.r.r.l.r.c.c.r.r s (backW n0 [1, 3] [2] kc kx)
noncomputable def plenumref28_Change_r4 (m : Nat) (n0 : Nat) (kc : ASt → RO) (kx : KO (AV × List AObj)) (s : ASt) : RO := joinW Try.prog GG (plenumref28_Change_env m) m ⟨79, []⟩ (cdR (cdR (cdL (cdL (cdR (cdL (cdL (cdR (cdL (cdR (cdR plenumref28_Change_c))))))))))) plenumref28_Change_h.r.r.l.r.c.c.r.l.c.r.r s (blockX 1 (seqX (fun s => plenumref28_Change_r5 m n0 kc kx ⟨s.H, [(1, gt s.T 1), (3, gt s.T 3)]⟩) (backW n0 [1, 3] [2] kc kx)))
noncomputable def plenumref28_Change_r3 (m : Nat) (s : ASt) : RO := joinW Try.prog GG (plenumref28_Change_env m) m ⟨79, []⟩ (cdR (cdR (cdR plenumref28_Change_c))) plenumref28_Change_h.r.r.r s (plenumref28_Change_fin)
noncomputable def plenumref28_Change_b1 (m : Nat) (s : ASt) (kc : ASt → RO) (kx : KO (AV × List AObj)) : RO := bodyW Try.prog GG (plenumref28_Change_env m) m ⟨79, []⟩ (cdL (cdL (cdR (cdL (cdR (cdR plenumref28_Change_c)))))) plenumref28_Change_h.r.r.l.r.c.c [1, 3] [2] s kc kx
noncomputable def plenumref28_Change_r2 (m : Nat) (s : ASt) : RO := joinW Try.prog GG (plenumref28_Change_env m) m ⟨79, []⟩ (cdR (cdR plenumref28_Change_c)) plenumref28_Change_h.r.r s (plenumref28_Change_fin)
noncomputable def plenumref28_Change_r1 (m : Nat) (s : ASt) : RO := joinW Try.prog GG (plenumref28_Change_env m) m ⟨79, []⟩ (cdR (cdL (cdR plenumref28_Change_c))) plenumref28_Change_h.r.l.r s (seqX (fun s => plenumref28_Change_r2 m ⟨s.H, [(1, gt s.T 1)]⟩) (plenumref28_Change_fin))
noncomputable def plenumref28_Change (m : Nat) (t0 : AV) : RO := exec Try.prog GG (plenumref28_Change_env m) m ⟨79, []⟩ plenumref28_Change_c plenumref28_Change_h ⟨[], argsT 0 [t0]⟩ (plenumref28_Change_fin)
theorem plenumref28_Change_r5_eq (m : Nat) (n0 : Nat) (kc : ASt → RO) (kx : KO (AV × List AObj)) (H : List AObj) (t1 t3 : AV) : plenumref28_Change_r5 m n0 kc kx ⟨H, [(1, t1), (3, t3)]⟩ =
  binE none false false .add t3 (V (.int .i64 1)) fun t45 =>
  backE n0 H [(1, t1), (3, t45)] kc := by
  refine (joinW_eq Try.prog GG (plenumref28_Change_env m) m ⟨79, []⟩ (cdR (cdR (cdL (cdL (cdR (cdL (cdR (cdR plenumref28_Change_c)))))))) plenumref28_Change_h.r.r.l.r.c.c.r.r ⟨H, [(1, t1), (3, t3)]⟩ (backW n0 [1, 3] [2] kc kx)).trans ?_
  kernel_rfl
theorem plenumref28_Change_r4_eq (m : Nat) (n0 : Nat) (kc : ASt → RO) (kx : KO (AV × List AObj)) (H : List AObj) (t1 t3 t78 : AV) : plenumref28_Change_r4 m n0 kc kx ⟨H, [(1, t1), (3, t3), (78, t78)]⟩ =
  condE t78 (
   kx .ret ⟨H, [(2, (V (.bool false)))]⟩) (
   plenumref28_Change_r5 m n0 kc kx ⟨H, [(1, t1), (3, t3)]⟩) := by
  refine (joinW_eq Try.prog GG (plenumref28_Change_env m) m ⟨79, []⟩ (cdR (cdR (cdL (cdL (cdR (cdL (cdL (cdR (cdL (cdR (cdR plenumref28_Change_c))))))))))) plenumref28_Change_h.r.r.l.r.c.c.r.l.c.r.r ⟨H, [(1, t1), (3, t3), (78, t78)]⟩ (blockX 1 (seqX (fun s => plenumref28_Change_r5 m n0 kc kx ⟨s.H, [(1, gt s.T 1), (3, gt s.T 3)]⟩) (backW n0 [1, 3] [2] kc kx)))).trans ?_
  kernel_rfl
theorem plenumref28_Change_r3_eq (m : Nat) (H : List AObj) : plenumref28_Change_r3 m ⟨H, []⟩ =
  tellK H (ro H (V (.bool true))) := by
  refine (joinW_eq Try.prog GG (plenumref28_Change_env m) m ⟨79, []⟩ (cdR (cdR (cdR plenumref28_Change_c))) plenumref28_Change_h.r.r.r ⟨H, []⟩ (plenumref28_Change_fin)).trans ?_
  kernel_rfl
theorem plenumref28_Change_b1_eq (m : Nat) (H : List AObj) (t1 t3 : AV) (kc : ASt → RO) (kx : KO (AV × List AObj)) : plenumref28_Change_b1 m ⟨H, [(1, t1), (3, t3)]⟩ kc kx =
  fieldE (some (5, 1)) t1 fun t40 =>
  loadE 1 H t40 fun t41 =>
  lenE false true H t41 fun t42 =>
  binE none false false .lss t3 t42 fun t43 =>
  condE t43 (
   fieldE (some (5, 1)) t1 fun t46 =>
   loadE 1 H t46 fun t47 =>
   idxSE 7 H t47 t3 fun t49 =>
   loadE 7 H t49 fun t50 =>
   allocE (some zc_api_Cert) ty_api_Cert H fun t4 H2 =>
   storeE 7 H2 t4 t50 fun H3 =>
   fieldE (some (0, 1)) t4 fun t51 =>
   loadE 1 H3 t51 fun t52 =>
   tellE (plenumref28_num m (ro H3 t52)) [(ro H3 t52)] fun t53 =>
   unE .not t53 fun t54 =>
   condE t54 (
    plenumref28_Change_r4 m H.length kc kx ⟨H3, [(1, t1), (3, t3), (78, (V (.bool true)))]⟩) (
    fieldE (some (1, 1)) t4 fun t56 =>
    loadE 1 H3 t56 fun t57 =>
    tellE (plenumref28_num m (ro H3 t57)) [(ro H3 t57)] fun t58 =>
    unE .not t58 fun t59 =>
    condE t59 (
    plenumref28_Change_r4 m H.length kc kx ⟨H3, [(1, t1), (3, t3), (78, (V (.bool true)))]⟩) (
    fieldE (some (2, 1)) t4 fun t62 =>
    loadE 1 H3 t62 fun t63 =>
    tellE (plenumref28_num m (ro H3 t63)) [(ro H3 t63)] fun t64 =>
    unE .not t64 fun t65 =>
    condE t65 (
    plenumref28_Change_r4 m H.length kc kx ⟨H3, [(1, t1), (3, t3), (78, (V (.bool true)))]⟩) (
    fieldE (some (3, 1)) t4 fun t68 =>
    loadE 1 H3 t68 fun t69 =>
    lenE true false H3 t69 fun t70 =>
    binE none false false .gtr t70 (V (.int .i64 65536)) fun t71 =>
    condE t71 (
    plenumref28_Change_r4 m H.length kc kx ⟨H3, [(1, t1), (3, t3), (78, (V (.bool true)))]⟩) (
    fieldE (some (4, 1)) t4 fun t74 =>
    loadE 1 H3 t74 fun t75 =>
    tellE (plenumref28_stmts m (ro H3 t75)) [(ro H3 t75)] fun t76 =>
    unE .not t76 fun t77 =>
    plenumref28_Change_r4 m H.length kc kx ⟨H3, [(1, t1), (3, t3), (78, t77)]⟩))))) (
   kx (.exit 0) ⟨H, [(2, .nil)]⟩) := by
  refine (bodyW_eq Try.prog GG (plenumref28_Change_env m) m ⟨79, []⟩ (cdL (cdL (cdR (cdL (cdR (cdR plenumref28_Change_c)))))) plenumref28_Change_h.r.r.l.r.c.c [1, 3] [2] ⟨H, [(1, t1), (3, t3)]⟩ kc kx).trans ?_
  kernel_rfl
theorem plenumref28_Change_r2_eq (m : Nat) (H : List AObj) (t1 : AV) : plenumref28_Change_r2 m ⟨H, [(1, t1)]⟩ =
  iterC m (plenumref28_Change_b1 m) ⟨H, [(1, t1), (3, (V (.int .i64 0)))]⟩ (blockX 0 (seqX (fun s => plenumref28_Change_r3 m ⟨s.H, []⟩) (plenumref28_Change_fin))) := by
  refine (joinW_eq Try.prog GG (plenumref28_Change_env m) m ⟨79, []⟩ (cdR (cdR plenumref28_Change_c)) plenumref28_Change_h.r.r ⟨H, [(1, t1)]⟩ (plenumref28_Change_fin)).trans ?_
  kernel_rfl
theorem plenumref28_Change_r1_eq (m : Nat) (H : List AObj) (t1 t38 : AV) : plenumref28_Change_r1 m ⟨H, [(1, t1), (38, t38)]⟩ =
  condE t38 (
   tellK H (ro H (V (.bool false)))) (
   plenumref28_Change_r2 m ⟨H, [(1, t1)]⟩) := by
  refine (joinW_eq Try.prog GG (plenumref28_Change_env m) m ⟨79, []⟩ (cdR (cdL (cdR plenumref28_Change_c))) plenumref28_Change_h.r.l.r ⟨H, [(1, t1), (38, t38)]⟩ (seqX (fun s => plenumref28_Change_r2 m ⟨s.H, [(1, gt s.T 1)]⟩) (plenumref28_Change_fin))).trans ?_
  kernel_rfl
theorem plenumref28_Change_eq (m : Nat) (t0 : AV) : plenumref28_Change m t0 =
  boxE ty_api_Change [] t0 fun t1 H1 =>
  fieldE (some (0, 1)) t1 fun t5 =>
  loadE 1 H1 t5 fun t6 =>
  tellE (plenumref28_in m (ro H1 t6) (V (.int .i64 63))) [(ro H1 t6), (V (.int .i64 63))] fun t7 =>
  unE .not t7 fun t8 =>
  condE t8 (
   plenumref28_Change_r1 m ⟨H1, [(1, t1), (38, (V (.bool true)))]⟩) (
   fieldE (some (1, 1)) t1 fun t10 =>
   loadE 1 H1 t10 fun t11 =>
   tellE (plenumref28_num m (ro H1 t11)) [(ro H1 t11)] fun t12 =>
   unE .not t12 fun t13 =>
   condE t13 (
   plenumref28_Change_r1 m ⟨H1, [(1, t1), (38, (V (.bool true)))]⟩) (
   fieldE (some (2, 1)) t1 fun t16 =>
   loadE 1 H1 t16 fun t17 =>
   tellE (plenumref28_num m (ro H1 t17)) [(ro H1 t17)] fun t18 =>
   unE .not t18 fun t19 =>
   condE t19 (
   plenumref28_Change_r1 m ⟨H1, [(1, t1), (38, (V (.bool true)))]⟩) (
   fieldE (some (3, 1)) t1 fun t22 =>
   loadE 1 H1 t22 fun t23 =>
   tellE (plenumref28_num m (ro H1 t23)) [(ro H1 t23)] fun t24 =>
   unE .not t24 fun t25 =>
   condE t25 (
   plenumref28_Change_r1 m ⟨H1, [(1, t1), (38, (V (.bool true)))]⟩) (
   fieldE (some (4, 1)) t1 fun t28 =>
   loadE 1 H1 t28 fun t29 =>
   tellE (plenumref28_stmts m (ro H1 t29)) [(ro H1 t29)] fun t30 =>
   unE .not t30 fun t31 =>
   condE t31 (
   plenumref28_Change_r1 m ⟨H1, [(1, t1), (38, (V (.bool true)))]⟩) (
   fieldE (some (5, 1)) t1 fun t34 =>
   loadE 1 H1 t34 fun t35 =>
   lenE false true H1 t35 fun t36 =>
   binE none false false .gtr t36 (V (.int .i64 64)) fun t37 =>
   plenumref28_Change_r1 m ⟨H1, [(1, t1), (38, t37)]⟩))))) := by
  refine (tellX Try.prog GG (plenumref28_Change_env m) m ⟨79, []⟩ plenumref28_Change_c plenumref28_Change_h ⟨[], argsT 0 [t0]⟩ [.tmp 2]).trans ?_
  kernel_rfl
noncomputable def plenumref28_Change_t (m : Nat) : List AV → RO | [t0] => plenumref28_Change m t0 | _ => none
theorem plenumref28_Change_ok (m : Nat) : ∀ args X H', plenumref28_Change_t m args = some (X, H') → ACp Try.prog GG 16 args X := by
  intro args X H' h
  unfold plenumref28_Change_t at h
  split at h
  · exact tell_okK MIX (by
    intro f e h
    simp only [plenumref28_Change_env, Prod.mk.injEq, List.mem_cons, List.not_mem_nil, or_false] at h
    rcases h with ⟨rfl, rfl⟩ | ⟨rfl, rfl⟩ | ⟨rfl, rfl⟩
    · exact plenumref28_in_ok m
    · exact plenumref28_num_ok m
    · exact plenumref28_stmts_ok m) (f := 16) (c := plenumref28_Change_c) Try.func16 rfl (by kernel_rfl) _ rfl Try.ntmps16 (Nat.le_of_ble_eq_true rfl) plenumref28_Change_h h
  · cases h
noncomputable def plenumref28_May_c : Code := (Try.f13.body).getD .skip
def plenumref28_May_h : Hint := (.two .n (.join [1] (.two .n (.one (.lp [] [1, 3] [1, 2] (.two (.two .n (.two .n .n)) (.two (.one (.two .n (.two (.two .n .n) .n))) .n))))) (.two .n .n)))
noncomputable def plenumref28_May_env (m : Nat) : Env := [(16, .tell (plenumref28_Change_t m)), (40, .tell (plenumref28_in_t m)), (41, .tell (plenumref28_num_t m)), (42, .tell (plenumref28_stmts_t m))]
noncomputable abbrev plenumref28_May_fin : KO (AV × List AObj) := tellFK Try.prog [.tmp 2]
noncomputable def plenumref28_May_r1 (m : Nat) (s : ASt) : RO := joinW Try.prog GG (plenumref28_May_env m) m ⟨63, []⟩ (cdR (cdR plenumref28_May_c)) plenumref28_May_h.r.r s (plenumref28_May_fin)
noncomputable def plenumref28_May_b1 (m : Nat) (s : ASt) (kc : ASt → RO) (kx : KO (AV × List AObj)) : RO := bodyW Try.prog GG (plenumref28_May_env m) m ⟨63, []⟩ (cdL (cdL (cdR (cdL (cdR plenumref28_May_c))))) plenumref28_May_h.r.l.r.c.c [1, 3] [1, 2] s kc kx
noncomputable def plenumref28_May (m : Nat) (t0 : AV) : RO := exec Try.prog GG (plenumref28_May_env m) m ⟨63, []⟩ plenumref28_May_c plenumref28_May_h ⟨[], argsT 0 [t0]⟩ (plenumref28_May_fin)
theorem plenumref28_May_r1_eq (m : Nat) (H : List AObj) (t1 : AV) : plenumref28_May_r1 m ⟨H, [(1, t1)]⟩ =
  fieldE (some (0, 1)) t1 fun t18 =>
  loadE 1 H t18 fun t19 =>
  binE none false false .geq t19 (V (.int .i64 1)) fun t20 =>
  condE t20 (
   fieldE (some (0, 1)) t1 fun t22 =>
   loadE 1 H t22 fun t23 =>
   binE none false false .leq t23 (V (.int .i64 10)) fun t24 =>
   condE t24 (
   fieldE (some (1, 1)) t1 fun t27 =>
   loadE 1 H t27 fun t28 =>
   tellE (plenumref28_in m (ro H t28) (V (.int .i64 63))) [(ro H t28), (V (.int .i64 63))] fun t29 =>
   condE t29 (
   fieldE (some (2, 1)) t1 fun t32 =>
   loadE 1 H t32 fun t33 =>
   tellE (plenumref28_num m (ro H t33)) [(ro H t33)] fun t34 =>
   condE t34 (
   fieldE (some (3, 1)) t1 fun t37 =>
   loadE 1 H t37 fun t38 =>
   tellE (plenumref28_num m (ro H t38)) [(ro H t38)] fun t39 =>
   condE t39 (
   fieldE (some (4, 1)) t1 fun t42 =>
   loadE 1 H t42 fun t43 =>
   tellE (plenumref28_num m (ro H t43)) [(ro H t43)] fun t44 =>
   condE t44 (
   fieldE (some (5, 1)) t1 fun t47 =>
   loadE 1 H t47 fun t48 =>
   lenE true false H t48 fun t49 =>
   binE none false false .leq t49 (V (.int .i64 65536)) fun t50 =>
   condE t50 (
   fieldE (some (6, 1)) t1 fun t53 =>
   loadE 1 H t53 fun t54 =>
   tellE (plenumref28_stmts m (ro H t54)) [(ro H t54)] fun t55 =>
   condE t55 (
   fieldE (some (7, 1)) t1 fun t58 =>
   loadE 1 H t58 fun t59 =>
   lenE false true H t59 fun t60 =>
   binE none false false .leq t60 (V (.int .i64 64)) fun t61 =>
   tellK H (ro H t61)) (
   tellK H (ro H (V (.bool false))))) (
   tellK H (ro H (V (.bool false))))) (
   tellK H (ro H (V (.bool false))))) (
   tellK H (ro H (V (.bool false))))) (
   tellK H (ro H (V (.bool false))))) (
   tellK H (ro H (V (.bool false))))) (
   tellK H (ro H (V (.bool false))))) (
   tellK H (ro H (V (.bool false)))) := by
  refine (joinW_eq Try.prog GG (plenumref28_May_env m) m ⟨63, []⟩ (cdR (cdR plenumref28_May_c)) plenumref28_May_h.r.r ⟨H, [(1, t1)]⟩ (plenumref28_May_fin)).trans ?_
  kernel_rfl
theorem plenumref28_May_b1_eq (m : Nat) (H : List AObj) (t1 t3 : AV) (kc : ASt → RO) (kx : KO (AV × List AObj)) : plenumref28_May_b1 m ⟨H, [(1, t1), (3, t3)]⟩ kc kx =
  fieldE (some (7, 1)) t1 fun t5 =>
  loadE 1 H t5 fun t6 =>
  lenE false true H t6 fun t7 =>
  binE none false false .lss t3 t7 fun t8 =>
  condE t8 (
   fieldE (some (7, 1)) t1 fun t11 =>
   loadE 1 H t11 fun t12 =>
   idxSE 8 H t12 t3 fun t14 =>
   loadE 8 H t14 fun t15 =>
   tellE (plenumref28_Change m (ro H t15)) [(ro H t15)] fun t16 =>
   unE .not t16 fun t17 =>
   condE t17 (
    kx .ret ⟨H, [(1, t1), (2, (V (.bool false)))]⟩) (
    binE none false false .add t3 (V (.int .i64 1)) fun t10 =>
    backE H.length H [(1, t1), (3, t10)] kc)) (
   kx (.exit 0) ⟨H, [(1, t1), (2, .nil)]⟩) := by
  refine (bodyW_eq Try.prog GG (plenumref28_May_env m) m ⟨63, []⟩ (cdL (cdL (cdR (cdL (cdR plenumref28_May_c))))) plenumref28_May_h.r.l.r.c.c [1, 3] [1, 2] ⟨H, [(1, t1), (3, t3)]⟩ kc kx).trans ?_
  kernel_rfl
theorem plenumref28_May_eq (m : Nat) (t0 : AV) : plenumref28_May m t0 =
  boxE ty_api_Msg [] t0 fun t1 H1 =>
  iterC m (plenumref28_May_b1 m) ⟨H1, [(1, t1), (3, (V (.int .i64 0)))]⟩ (blockX 0 (seqX (fun s => plenumref28_May_r1 m ⟨s.H, [(1, gt s.T 1)]⟩) (plenumref28_May_fin))) := by
  refine (tellX Try.prog GG (plenumref28_May_env m) m ⟨63, []⟩ plenumref28_May_c plenumref28_May_h ⟨[], argsT 0 [t0]⟩ [.tmp 2]).trans ?_
  kernel_rfl
noncomputable def plenumref28_May_t (m : Nat) : List AV → RO | [t0] => plenumref28_May m t0 | _ => none
theorem plenumref28_May_ok (m : Nat) : ∀ args X H', plenumref28_May_t m args = some (X, H') → ACp Try.prog GG 13 args X := by
  intro args X H' h
  unfold plenumref28_May_t at h
  split at h
  · exact tell_okK MIX (by
    intro f e h
    simp only [plenumref28_May_env, Prod.mk.injEq, List.mem_cons, List.not_mem_nil, or_false] at h
    rcases h with ⟨rfl, rfl⟩ | ⟨rfl, rfl⟩ | ⟨rfl, rfl⟩ | ⟨rfl, rfl⟩
    · exact plenumref28_Change_ok m
    · exact plenumref28_in_ok m
    · exact plenumref28_num_ok m
    · exact plenumref28_stmts_ok m) (f := 13) (c := plenumref28_May_c) Try.func13 rfl (by kernel_rfl) _ rfl Try.ntmps13 (Nat.le_of_ble_eq_true rfl) plenumref28_May_h h
  · cases h
noncomputable def plenumref28_put_c : Code := (Try.f49.body).getD .skip
def plenumref28_put_h : Hint := (.two .n (.two .n (.join [3] (.two .n (.one (.lp [] [0, 3, 4] [3] (.two (.two .n (.two .n .n)) (.two (.one .n) .n))))) (.two .n .n))))
noncomputable def plenumref28_put_env (m : Nat) : Env := [(67, .tell (plenumref01_Put_t m))]
noncomputable abbrev plenumref28_put_fin : KO (AV × List AObj) := tellFK Try.prog [.tmp 2]
noncomputable def plenumref28_put_r1 (m : Nat) (s : ASt) : RO := joinW Try.prog GG (plenumref28_put_env m) m ⟨20, []⟩ (cdR (cdR (cdR plenumref28_put_c))) plenumref28_put_h.r.r.r s (plenumref28_put_fin)
noncomputable def plenumref28_put_b1 (m : Nat) (s : ASt) (kc : ASt → RO) (kx : KO (AV × List AObj)) : RO := bodyW Try.prog GG (plenumref28_put_env m) m ⟨20, []⟩ (cdL (cdL (cdR (cdL (cdR (cdR plenumref28_put_c)))))) plenumref28_put_h.r.r.l.r.c.c [0, 3, 4] [3] s kc kx
noncomputable def plenumref28_put (m : Nat) (t0 : AV) : RO := exec Try.prog GG (plenumref28_put_env m) m ⟨20, []⟩ plenumref28_put_c plenumref28_put_h ⟨[], argsT 0 [t0]⟩ (plenumref28_put_fin)
theorem plenumref28_put_r1_eq (m : Nat) (H : List AObj) (t3 : AV) : plenumref28_put_r1 m ⟨H, [(3, t3)]⟩ =
  tellK H (ro H t3) := by
  refine (joinW_eq Try.prog GG (plenumref28_put_env m) m ⟨20, []⟩ (cdR (cdR (cdR plenumref28_put_c))) plenumref28_put_h.r.r.r ⟨H, [(3, t3)]⟩ (plenumref28_put_fin)).trans ?_
  kernel_rfl
theorem plenumref28_put_b1_eq (m : Nat) (H : List AObj) (t0 t3 t4 : AV) (kc : ASt → RO) (kx : KO (AV × List AObj)) : plenumref28_put_b1 m ⟨H, [(0, t0), (3, t3), (4, t4)]⟩ kc kx =
  lenE false true H t0 fun t7 =>
  binE none false false .lss t4 t7 fun t8 =>
  condE t8 (
   idxSE 1 H t0 t4 fun t14 =>
   loadE 1 H t14 fun t15 =>
   convE false (some .u64) true false (ro H t15) fun t16 =>
   tellE (plenumref01_Put_t m [(ro H t16)]) [(ro H t16)] fun t17 =>
   binE none false false .add t3 t17 fun t18 =>
   binE none false false .add t4 (V (.int .i64 1)) fun t10 =>
   backE H.length H [(0, t0), (3, t18), (4, t10)] kc) (
   kx (.exit 0) ⟨H, [(3, t3)]⟩) := by
  refine (bodyW_eq Try.prog GG (plenumref28_put_env m) m ⟨20, []⟩ (cdL (cdL (cdR (cdL (cdR (cdR plenumref28_put_c)))))) plenumref28_put_h.r.r.l.r.c.c [0, 3, 4] [3] ⟨H, [(0, t0), (3, t3), (4, t4)]⟩ kc kx).trans ?_
  kernel_rfl
theorem plenumref28_put_eq (m : Nat) (t0 : AV) : plenumref28_put m t0 =
  iterC m (plenumref28_put_b1 m) ⟨[], [(0, t0), (3, (V (.string ⟨#[]⟩))), (4, (V (.int .i64 0)))]⟩ (blockX 0 (seqX (fun s => plenumref28_put_r1 m ⟨s.H, [(3, gt s.T 3)]⟩) (plenumref28_put_fin))) := by
  refine (tellX Try.prog GG (plenumref28_put_env m) m ⟨20, []⟩ plenumref28_put_c plenumref28_put_h ⟨[], argsT 0 [t0]⟩ [.tmp 2]).trans ?_
  kernel_rfl
noncomputable def plenumref28_put_t (m : Nat) : List AV → RO | [t0] => plenumref28_put m t0 | _ => none
theorem plenumref28_put_ok (m : Nat) : ∀ args X H', plenumref28_put_t m args = some (X, H') → ACp Try.prog GG 49 args X := by
  intro args X H' h
  unfold plenumref28_put_t at h
  split at h
  · exact tell_okK MIX (by
    intro f e h
    simp only [plenumref28_put_env, Prod.mk.injEq, List.mem_cons, List.not_mem_nil, or_false] at h
    obtain ⟨rfl, rfl⟩ := h
    · exact plenumref01_Put_ok m) (f := 49) (c := plenumref28_put_c) Try.func49 rfl (by kernel_rfl) _ rfl Try.ntmps49 (Nat.le_of_ble_eq_true rfl) plenumref28_put_h h
  · cases h
noncomputable def plenumref28_voices_c : Code := (Try.f50.body).getD .skip
def plenumref28_voices_h : Hint := (.two .n (.two .n (.join [3] (.two .n (.one (.lp [] [0, 3, 4] [3] (.two (.two .n (.two .n .n)) (.two (.one .n) .n))))) (.two .n .n))))
noncomputable def plenumref28_voices_env (m : Nat) : Env := [(49, .tell (plenumref28_put_t m))]
noncomputable abbrev plenumref28_voices_fin : KO (AV × List AObj) := tellFK Try.prog [.tmp 2]
noncomputable def plenumref28_voices_r1 (m : Nat) (s : ASt) : RO := joinW Try.prog GG (plenumref28_voices_env m) m ⟨45, []⟩ (cdR (cdR (cdR plenumref28_voices_c))) plenumref28_voices_h.r.r.r s (plenumref28_voices_fin)
noncomputable def plenumref28_voices_b1 (m : Nat) (s : ASt) (kc : ASt → RO) (kx : KO (AV × List AObj)) : RO := bodyW Try.prog GG (plenumref28_voices_env m) m ⟨45, []⟩ (cdL (cdL (cdR (cdL (cdR (cdR plenumref28_voices_c)))))) plenumref28_voices_h.r.r.l.r.c.c [0, 3, 4] [3] s kc kx
noncomputable def plenumref28_voices (m : Nat) (t0 : AV) : RO := exec Try.prog GG (plenumref28_voices_env m) m ⟨45, []⟩ plenumref28_voices_c plenumref28_voices_h ⟨[], argsT 0 [t0]⟩ (plenumref28_voices_fin)
theorem plenumref28_voices_r1_eq (m : Nat) (H : List AObj) (t3 : AV) : plenumref28_voices_r1 m ⟨H, [(3, t3)]⟩ =
  tellK H (ro H t3) := by
  refine (joinW_eq Try.prog GG (plenumref28_voices_env m) m ⟨45, []⟩ (cdR (cdR (cdR plenumref28_voices_c))) plenumref28_voices_h.r.r.r ⟨H, [(3, t3)]⟩ (plenumref28_voices_fin)).trans ?_
  kernel_rfl
theorem plenumref28_voices_b1_eq (m : Nat) (H : List AObj) (t0 t3 t4 : AV) (kc : ASt → RO) (kx : KO (AV × List AObj)) : plenumref28_voices_b1 m ⟨H, [(0, t0), (3, t3), (4, t4)]⟩ kc kx =
  lenE false true H t0 fun t11 =>
  binE none false false .lss t4 t11 fun t12 =>
  condE t12 (
   idxSE 7 H t0 t4 fun t18 =>
   fieldE (some (0, 1)) t18 fun t19 =>
   loadE 1 H t19 fun t20 =>
   idxSE 7 H t0 t4 fun t23 =>
   fieldE (some (1, 1)) t23 fun t24 =>
   loadE 1 H t24 fun t25 =>
   idxSE 7 H t0 t4 fun t28 =>
   fieldE (some (2, 1)) t28 fun t29 =>
   loadE 1 H t29 fun t30 =>
   idxSE 7 H t0 t4 fun t33 =>
   fieldE (some (3, 1)) t33 fun t34 =>
   loadE 1 H t34 fun t35 =>
   idxSE 7 H t0 t4 fun t38 =>
   fieldE (some (4, 1)) t38 fun t39 =>
   loadE 1 H t39 fun t40 =>
   buildSE (some (ty_int, 1)) 5 [(0, t20), (1, t25), (2, t30), (3, t35), (4, t40)] fun t41 =>
   tellE (plenumref28_put m (ro H t41)) [(ro H t41)] fun t42 =>
   binE none false false .add t3 t42 fun t43 =>
   binE none false false .add t4 (V (.int .i64 1)) fun t14 =>
   backE H.length H [(0, t0), (3, t43), (4, t14)] kc) (
   kx (.exit 0) ⟨H, [(3, t3)]⟩) := by
  refine (bodyW_eq Try.prog GG (plenumref28_voices_env m) m ⟨45, []⟩ (cdL (cdL (cdR (cdL (cdR (cdR plenumref28_voices_c)))))) plenumref28_voices_h.r.r.l.r.c.c [0, 3, 4] [3] ⟨H, [(0, t0), (3, t3), (4, t4)]⟩ kc kx).trans ?_
  kernel_rfl
theorem plenumref28_voices_eq (m : Nat) (t0 : AV) : plenumref28_voices m t0 =
  lenE false true [] t0 fun t6 =>
  buildSE (some (ty_int, 1)) 1 [(0, t6)] fun t7 =>
  tellE (plenumref28_put m (ro [] t7)) [(ro [] t7)] fun t8 =>
  iterC m (plenumref28_voices_b1 m) ⟨[], [(0, t0), (3, t8), (4, (V (.int .i64 0)))]⟩ (blockX 0 (seqX (fun s => plenumref28_voices_r1 m ⟨s.H, [(3, gt s.T 3)]⟩) (plenumref28_voices_fin))) := by
  refine (tellX Try.prog GG (plenumref28_voices_env m) m ⟨45, []⟩ plenumref28_voices_c plenumref28_voices_h ⟨[], argsT 0 [t0]⟩ [.tmp 2]).trans ?_
  kernel_rfl
noncomputable def plenumref28_voices_t (m : Nat) : List AV → RO | [t0] => plenumref28_voices m t0 | _ => none
theorem plenumref28_voices_ok (m : Nat) : ∀ args X H', plenumref28_voices_t m args = some (X, H') → ACp Try.prog GG 50 args X := by
  intro args X H' h
  unfold plenumref28_voices_t at h
  split at h
  · exact tell_okK MIX (by
    intro f e h
    simp only [plenumref28_voices_env, Prod.mk.injEq, List.mem_cons, List.not_mem_nil, or_false] at h
    obtain ⟨rfl, rfl⟩ := h
    · exact plenumref28_put_ok m) (f := 50) (c := plenumref28_voices_c) Try.func50 rfl (by kernel_rfl) _ rfl Try.ntmps50 (Nat.le_of_ble_eq_true rfl) plenumref28_voices_h h
  · cases h
noncomputable def plenumref28_EncodeChange_c : Code := (Try.f17.body).getD .skip
def plenumref28_EncodeChange_h : Hint := (.two .n (.two .n (.join [3] (.two .n (.one (.lp [] [1, 3, 4] [3] (.two (.two .n (.two .n .n)) (.two (.one (.two .n .n)) .n))))) (.two .n .n))))
noncomputable def plenumref28_EncodeChange_env (m : Nat) : Env := [(49, .tell (plenumref28_put_t m)), (50, .tell (plenumref28_voices_t m))]
noncomputable abbrev plenumref28_EncodeChange_fin : KO (AV × List AObj) := tellFK Try.prog [.tmp 2]
noncomputable def plenumref28_EncodeChange_r1 (m : Nat) (s : ASt) : RO := joinW Try.prog GG (plenumref28_EncodeChange_env m) m ⟨59, []⟩ (cdR (cdR (cdR plenumref28_EncodeChange_c))) plenumref28_EncodeChange_h.r.r.r s (plenumref28_EncodeChange_fin)
noncomputable def plenumref28_EncodeChange_b1 (m : Nat) (s : ASt) (kc : ASt → RO) (kx : KO (AV × List AObj)) : RO := bodyW Try.prog GG (plenumref28_EncodeChange_env m) m ⟨59, []⟩ (cdL (cdL (cdR (cdL (cdR (cdR plenumref28_EncodeChange_c)))))) plenumref28_EncodeChange_h.r.r.l.r.c.c [1, 3, 4] [3] s kc kx
noncomputable def plenumref28_EncodeChange (m : Nat) (t0 : AV) : RO := exec Try.prog GG (plenumref28_EncodeChange_env m) m ⟨59, []⟩ plenumref28_EncodeChange_c plenumref28_EncodeChange_h ⟨[], argsT 0 [t0]⟩ (plenumref28_EncodeChange_fin)
theorem plenumref28_EncodeChange_r1_eq (m : Nat) (H : List AObj) (t3 : AV) : plenumref28_EncodeChange_r1 m ⟨H, [(3, t3)]⟩ =
  tellK H (ro H t3) := by
  refine (joinW_eq Try.prog GG (plenumref28_EncodeChange_env m) m ⟨59, []⟩ (cdR (cdR (cdR plenumref28_EncodeChange_c))) plenumref28_EncodeChange_h.r.r.r ⟨H, [(3, t3)]⟩ (plenumref28_EncodeChange_fin)).trans ?_
  kernel_rfl
theorem plenumref28_EncodeChange_b1_eq (m : Nat) (H : List AObj) (t1 t3 t4 : AV) (kc : ASt → RO) (kx : KO (AV × List AObj)) : plenumref28_EncodeChange_b1 m ⟨H, [(1, t1), (3, t3), (4, t4)]⟩ kc kx =
  fieldE (some (5, 1)) t1 fun t27 =>
  loadE 1 H t27 fun t28 =>
  lenE false true H t28 fun t29 =>
  binE none false false .lss t4 t29 fun t30 =>
  condE t30 (
   fieldE (some (5, 1)) t1 fun t33 =>
   loadE 1 H t33 fun t34 =>
   idxSE 7 H t34 t4 fun t36 =>
   loadE 7 H t36 fun t37 =>
   allocE (some zc_api_Cert) ty_api_Cert H fun t5 H2 =>
   storeE 7 H2 t5 t37 fun H3 =>
   fieldE (some (0, 1)) t5 fun t39 =>
   loadE 1 H3 t39 fun t40 =>
   fieldE (some (1, 1)) t5 fun t41 =>
   loadE 1 H3 t41 fun t42 =>
   fieldE (some (2, 1)) t5 fun t43 =>
   loadE 1 H3 t43 fun t44 =>
   fieldE (some (3, 1)) t5 fun t45 =>
   loadE 1 H3 t45 fun t46 =>
   lenE true false H3 t46 fun t47 =>
   buildSE (some (ty_int, 1)) 4 [(0, t40), (1, t42), (2, t44), (3, t47)] fun t48 =>
   tellE (plenumref28_put m (ro H3 t48)) [(ro H3 t48)] fun t49 =>
   fieldE (some (3, 1)) t5 fun t50 =>
   loadE 1 H3 t50 fun t51 =>
   binE none false false .add t49 t51 fun t52 =>
   fieldE (some (4, 1)) t5 fun t53 =>
   loadE 1 H3 t53 fun t54 =>
   tellE (plenumref28_voices m (ro H3 t54)) [(ro H3 t54)] fun t55 =>
   binE none false false .add t52 t55 fun t56 =>
   binE none false false .add t3 t56 fun t57 =>
   binE none false false .add t4 (V (.int .i64 1)) fun t32 =>
   backE H.length H3 [(1, t1), (3, t57), (4, t32)] kc) (
   kx (.exit 0) ⟨H, [(3, t3)]⟩) := by
  refine (bodyW_eq Try.prog GG (plenumref28_EncodeChange_env m) m ⟨59, []⟩ (cdL (cdL (cdR (cdL (cdR (cdR plenumref28_EncodeChange_c)))))) plenumref28_EncodeChange_h.r.r.l.r.c.c [1, 3, 4] [3] ⟨H, [(1, t1), (3, t3), (4, t4)]⟩ kc kx).trans ?_
  kernel_rfl
theorem plenumref28_EncodeChange_eq (m : Nat) (t0 : AV) : plenumref28_EncodeChange m t0 =
  boxE ty_api_Change [] t0 fun t1 H1 =>
  fieldE (some (0, 1)) t1 fun t6 =>
  loadE 1 H1 t6 fun t7 =>
  fieldE (some (1, 1)) t1 fun t8 =>
  loadE 1 H1 t8 fun t9 =>
  fieldE (some (2, 1)) t1 fun t10 =>
  loadE 1 H1 t10 fun t11 =>
  fieldE (some (3, 1)) t1 fun t12 =>
  loadE 1 H1 t12 fun t13 =>
  buildSE (some (ty_int, 1)) 4 [(0, t7), (1, t9), (2, t11), (3, t13)] fun t14 =>
  tellE (plenumref28_put m (ro H1 t14)) [(ro H1 t14)] fun t15 =>
  fieldE (some (4, 1)) t1 fun t16 =>
  loadE 1 H1 t16 fun t17 =>
  tellE (plenumref28_voices m (ro H1 t17)) [(ro H1 t17)] fun t18 =>
  binE none false false .add t15 t18 fun t19 =>
  fieldE (some (5, 1)) t1 fun t20 =>
  loadE 1 H1 t20 fun t21 =>
  lenE false true H1 t21 fun t22 =>
  buildSE (some (ty_int, 1)) 1 [(0, t22)] fun t23 =>
  tellE (plenumref28_put m (ro H1 t23)) [(ro H1 t23)] fun t24 =>
  binE none false false .add t19 t24 fun t25 =>
  iterC m (plenumref28_EncodeChange_b1 m) ⟨H1, [(1, t1), (3, t25), (4, (V (.int .i64 0)))]⟩ (blockX 0 (seqX (fun s => plenumref28_EncodeChange_r1 m ⟨s.H, [(3, gt s.T 3)]⟩) (plenumref28_EncodeChange_fin))) := by
  refine (tellX Try.prog GG (plenumref28_EncodeChange_env m) m ⟨59, []⟩ plenumref28_EncodeChange_c plenumref28_EncodeChange_h ⟨[], argsT 0 [t0]⟩ [.tmp 2]).trans ?_
  kernel_rfl
noncomputable def plenumref28_EncodeChange_t (m : Nat) : List AV → RO | [t0] => plenumref28_EncodeChange m t0 | _ => none
theorem plenumref28_EncodeChange_ok (m : Nat) : ∀ args X H', plenumref28_EncodeChange_t m args = some (X, H') → ACp Try.prog GG 17 args X := by
  intro args X H' h
  unfold plenumref28_EncodeChange_t at h
  split at h
  · exact tell_okK MIX (by
    intro f e h
    simp only [plenumref28_EncodeChange_env, Prod.mk.injEq, List.mem_cons, List.not_mem_nil, or_false] at h
    rcases h with ⟨rfl, rfl⟩ | ⟨rfl, rfl⟩
    · exact plenumref28_put_ok m
    · exact plenumref28_voices_ok m) (f := 17) (c := plenumref28_EncodeChange_c) Try.func17 rfl (by kernel_rfl) _ rfl Try.ntmps17 (Nat.le_of_ble_eq_true rfl) plenumref28_EncodeChange_h h
  · cases h
noncomputable def plenumref28_Encode_c : Code := (Try.f15.body).getD .skip
def plenumref28_Encode_h : Hint := (.two .n (.two .n (.join [3] (.two .n (.one (.lp [] [1, 3, 4] [3] (.two (.two .n (.two .n .n)) (.two (.one .n) .n))))) (.two .n .n))))
noncomputable def plenumref28_Encode_env (m : Nat) : Env := [(49, .tell (plenumref28_put_t m)), (50, .tell (plenumref28_voices_t m)), (17, .tell (plenumref28_EncodeChange_t m))]
noncomputable abbrev plenumref28_Encode_fin : KO (AV × List AObj) := tellFK Try.prog [.tmp 2]
noncomputable def plenumref28_Encode_r1 (m : Nat) (s : ASt) : RO := joinW Try.prog GG (plenumref28_Encode_env m) m ⟨49, []⟩ (cdR (cdR (cdR plenumref28_Encode_c))) plenumref28_Encode_h.r.r.r s (plenumref28_Encode_fin)
noncomputable def plenumref28_Encode_b1 (m : Nat) (s : ASt) (kc : ASt → RO) (kx : KO (AV × List AObj)) : RO := bodyW Try.prog GG (plenumref28_Encode_env m) m ⟨49, []⟩ (cdL (cdL (cdR (cdL (cdR (cdR plenumref28_Encode_c)))))) plenumref28_Encode_h.r.r.l.r.c.c [1, 3, 4] [3] s kc kx
noncomputable def plenumref28_Encode (m : Nat) (t0 : AV) : RO := exec Try.prog GG (plenumref28_Encode_env m) m ⟨49, []⟩ plenumref28_Encode_c plenumref28_Encode_h ⟨[], argsT 0 [t0]⟩ (plenumref28_Encode_fin)
theorem plenumref28_Encode_r1_eq (m : Nat) (H : List AObj) (t3 : AV) : plenumref28_Encode_r1 m ⟨H, [(3, t3)]⟩ =
  tellK H (ro H t3) := by
  refine (joinW_eq Try.prog GG (plenumref28_Encode_env m) m ⟨49, []⟩ (cdR (cdR (cdR plenumref28_Encode_c))) plenumref28_Encode_h.r.r.r ⟨H, [(3, t3)]⟩ (plenumref28_Encode_fin)).trans ?_
  kernel_rfl
theorem plenumref28_Encode_b1_eq (m : Nat) (H : List AObj) (t1 t3 t4 : AV) (kc : ASt → RO) (kx : KO (AV × List AObj)) : plenumref28_Encode_b1 m ⟨H, [(1, t1), (3, t3), (4, t4)]⟩ kc kx =
  fieldE (some (7, 1)) t1 fun t34 =>
  loadE 1 H t34 fun t35 =>
  lenE false true H t35 fun t36 =>
  binE none false false .lss t4 t36 fun t37 =>
  condE t37 (
   fieldE (some (7, 1)) t1 fun t41 =>
   loadE 1 H t41 fun t42 =>
   idxSE 8 H t42 t4 fun t44 =>
   loadE 8 H t44 fun t45 =>
   tellE (plenumref28_EncodeChange m (ro H t45)) [(ro H t45)] fun t46 =>
   binE none false false .add t3 t46 fun t47 =>
   binE none false false .add t4 (V (.int .i64 1)) fun t39 =>
   backE H.length H [(1, t1), (3, t47), (4, t39)] kc) (
   kx (.exit 0) ⟨H, [(3, t3)]⟩) := by
  refine (bodyW_eq Try.prog GG (plenumref28_Encode_env m) m ⟨49, []⟩ (cdL (cdL (cdR (cdL (cdR (cdR plenumref28_Encode_c)))))) plenumref28_Encode_h.r.r.l.r.c.c [1, 3, 4] [3] ⟨H, [(1, t1), (3, t3), (4, t4)]⟩ kc kx).trans ?_
  kernel_rfl
theorem plenumref28_Encode_eq (m : Nat) (t0 : AV) : plenumref28_Encode m t0 =
  boxE ty_api_Msg [] t0 fun t1 H1 =>
  fieldE (some (0, 1)) t1 fun t5 =>
  loadE 1 H1 t5 fun t6 =>
  fieldE (some (1, 1)) t1 fun t7 =>
  loadE 1 H1 t7 fun t8 =>
  fieldE (some (2, 1)) t1 fun t9 =>
  loadE 1 H1 t9 fun t10 =>
  fieldE (some (3, 1)) t1 fun t11 =>
  loadE 1 H1 t11 fun t12 =>
  fieldE (some (4, 1)) t1 fun t13 =>
  loadE 1 H1 t13 fun t14 =>
  fieldE (some (5, 1)) t1 fun t15 =>
  loadE 1 H1 t15 fun t16 =>
  lenE true false H1 t16 fun t17 =>
  buildSE (some (ty_int, 1)) 6 [(0, t6), (1, t8), (2, t10), (3, t12), (4, t14), (5, t17)] fun t18 =>
  tellE (plenumref28_put m (ro H1 t18)) [(ro H1 t18)] fun t19 =>
  fieldE (some (5, 1)) t1 fun t20 =>
  loadE 1 H1 t20 fun t21 =>
  binE none false false .add t19 t21 fun t22 =>
  fieldE (some (6, 1)) t1 fun t23 =>
  loadE 1 H1 t23 fun t24 =>
  tellE (plenumref28_voices m (ro H1 t24)) [(ro H1 t24)] fun t25 =>
  binE none false false .add t22 t25 fun t26 =>
  fieldE (some (7, 1)) t1 fun t27 =>
  loadE 1 H1 t27 fun t28 =>
  lenE false true H1 t28 fun t29 =>
  buildSE (some (ty_int, 1)) 1 [(0, t29)] fun t30 =>
  tellE (plenumref28_put m (ro H1 t30)) [(ro H1 t30)] fun t31 =>
  binE none false false .add t26 t31 fun t32 =>
  iterC m (plenumref28_Encode_b1 m) ⟨H1, [(1, t1), (3, t32), (4, (V (.int .i64 0)))]⟩ (blockX 0 (seqX (fun s => plenumref28_Encode_r1 m ⟨s.H, [(3, gt s.T 3)]⟩) (plenumref28_Encode_fin))) := by
  refine (tellX Try.prog GG (plenumref28_Encode_env m) m ⟨49, []⟩ plenumref28_Encode_c plenumref28_Encode_h ⟨[], argsT 0 [t0]⟩ [.tmp 2]).trans ?_
  kernel_rfl
noncomputable def plenumref28_Encode_t (m : Nat) : List AV → RO | [t0] => plenumref28_Encode m t0 | _ => none
theorem plenumref28_Encode_ok (m : Nat) : ∀ args X H', plenumref28_Encode_t m args = some (X, H') → ACp Try.prog GG 15 args X := by
  intro args X H' h
  unfold plenumref28_Encode_t at h
  split at h
  · exact tell_okK MIX (by
    intro f e h
    simp only [plenumref28_Encode_env, Prod.mk.injEq, List.mem_cons, List.not_mem_nil, or_false] at h
    rcases h with ⟨rfl, rfl⟩ | ⟨rfl, rfl⟩ | ⟨rfl, rfl⟩
    · exact plenumref28_put_ok m
    · exact plenumref28_voices_ok m
    · exact plenumref28_EncodeChange_ok m) (f := 15) (c := plenumref28_Encode_c) Try.func15 rfl (by kernel_rfl) _ rfl Try.ntmps15 (Nat.le_of_ble_eq_true rfl) plenumref28_Encode_h h
  · cases h
noncomputable def plenumref28_Stmts_c : Code := (Try.f35.body).getD .skip
def plenumref28_Stmts_h : Hint := (.two .n (.two (.two .n (.two (.two .n .n) .n)) (.join [] (.two .n (.one (.lp [] [0, 1, 5] [4] (.two (.two .n (.two .n .n)) (.two (.one (.two .n (.two (.two .n .n) .n))) .n))))) (.two .n .n))))
noncomputable def plenumref28_Stmts_env (m : Nat) : Env := []
noncomputable abbrev plenumref28_Stmts_fin : KO (AV × List AObj) := tellFK Try.prog [.tmp 4]
noncomputable def plenumref28_Stmts_r1 (m : Nat) (s : ASt) : RO := joinW Try.prog GG (plenumref28_Stmts_env m) m ⟨26, []⟩ (cdR (cdR (cdR plenumref28_Stmts_c))) plenumref28_Stmts_h.r.r.r s (plenumref28_Stmts_fin)
noncomputable def plenumref28_Stmts_b1 (m : Nat) (s : ASt) (kc : ASt → RO) (kx : KO (AV × List AObj)) : RO := bodyW Try.prog GG (plenumref28_Stmts_env m) m ⟨26, []⟩ (cdL (cdL (cdR (cdL (cdR (cdR plenumref28_Stmts_c)))))) plenumref28_Stmts_h.r.r.l.r.c.c [0, 1, 5] [4] s kc kx
noncomputable def plenumref28_Stmts (m : Nat) (t0 t1 : AV) : RO := exec Try.prog GG (plenumref28_Stmts_env m) m ⟨26, []⟩ plenumref28_Stmts_c plenumref28_Stmts_h ⟨[], argsT 0 [t0, t1]⟩ (plenumref28_Stmts_fin)
theorem plenumref28_Stmts_r1_eq (m : Nat) (H : List AObj) : plenumref28_Stmts_r1 m ⟨H, []⟩ =
  tellK H (ro H (V (.bool true))) := by
  refine (joinW_eq Try.prog GG (plenumref28_Stmts_env m) m ⟨26, []⟩ (cdR (cdR (cdR plenumref28_Stmts_c))) plenumref28_Stmts_h.r.r.r ⟨H, []⟩ (plenumref28_Stmts_fin)).trans ?_
  kernel_rfl
theorem plenumref28_Stmts_b1_eq (m : Nat) (H : List AObj) (t0 t1 t5 : AV) (kc : ASt → RO) (kx : KO (AV × List AObj)) : plenumref28_Stmts_b1 m ⟨H, [(0, t0), (1, t1), (5, t5)]⟩ kc kx =
  lenE false true H t0 fun t13 =>
  binE none false false .lss t5 t13 fun t14 =>
  condE t14 (
   idxSE 7 H t0 t5 fun t19 =>
   loadE 7 H t19 fun t20 =>
   idxSE 7 H t1 t5 fun t23 =>
   loadE 7 H t23 fun t24 =>
   binE (some [.i .i64, .i .i64, .i .i64, .i .i64, .i .i64]) false false .neq t20 t24 fun t25 =>
   condE t25 (
    kx .ret ⟨H, [(4, (V (.bool false)))]⟩) (
    binE none false false .add t5 (V (.int .i64 1)) fun t16 =>
    backE H.length H [(0, t0), (1, t1), (5, t16)] kc)) (
   kx (.exit 0) ⟨H, [(4, .nil)]⟩) := by
  refine (bodyW_eq Try.prog GG (plenumref28_Stmts_env m) m ⟨26, []⟩ (cdL (cdL (cdR (cdL (cdR (cdR plenumref28_Stmts_c)))))) plenumref28_Stmts_h.r.r.l.r.c.c [0, 1, 5] [4] ⟨H, [(0, t0), (1, t1), (5, t5)]⟩ kc kx).trans ?_
  kernel_rfl
theorem plenumref28_Stmts_eq (m : Nat) (t0 t1 : AV) : plenumref28_Stmts m t0 t1 =
  lenE false true [] t0 fun t7 =>
  lenE false true [] t1 fun t9 =>
  binE none false false .neq t7 t9 fun t10 =>
  condE t10 (
   tellK [] (ro [] (V (.bool false)))) (
   iterC m (plenumref28_Stmts_b1 m) ⟨[], [(0, t0), (1, t1), (5, (V (.int .i64 0)))]⟩ (blockX 0 (seqX (fun s => plenumref28_Stmts_r1 m ⟨s.H, []⟩) (plenumref28_Stmts_fin)))) := by
  refine (tellX Try.prog GG (plenumref28_Stmts_env m) m ⟨26, []⟩ plenumref28_Stmts_c plenumref28_Stmts_h ⟨[], argsT 0 [t0, t1]⟩ [.tmp 4]).trans ?_
  kernel_rfl
noncomputable def plenumref28_Stmts_t (m : Nat) : List AV → RO | [t0, t1] => plenumref28_Stmts m t0 t1 | _ => none
theorem plenumref28_Stmts_ok (m : Nat) : ∀ args X H', plenumref28_Stmts_t m args = some (X, H') → ACp Try.prog GG 35 args X := by
  intro args X H' h
  unfold plenumref28_Stmts_t at h
  split at h
  · exact tell_okK MIX (by intro f e h; cases h) (f := 35) (c := plenumref28_Stmts_c) Try.func35 rfl (by kernel_rfl) _ rfl Try.ntmps35 (Nat.le_of_ble_eq_true rfl) plenumref28_Stmts_h h
  · cases h
noncomputable def plenumref28_Changes_c : Code := (Try.f36.body).getD .skip
def plenumref28_Changes_h : Hint := (.two .n (.join [2, 3] (.join [2, 3, 50] .n (.two (.two .n .n) .n)) (.join [] (.two .n (.one (.lp [] [2, 3, 5] [4] (.two (.two .n (.two .n .n)) (.join [2, 3, 5] (.one (.two .n (.join [2, 3, 5, 101] .n (.two (.two .n .n) .n)))) .n))))) (.two .n .n))))
noncomputable def plenumref28_Changes_env (m : Nat) : Env := [(35, .tell (plenumref28_Stmts_t m))]
noncomputable abbrev plenumref28_Changes_fin : KO (AV × List AObj) := tellFK Try.prog [.tmp 4]
noncomputable def plenumref28_Changes_r5 (m : Nat) (n0 : Nat) (kc : ASt → RO) (kx : KO (AV × List AObj)) (s : ASt) : RO := joinW Try.prog GG (plenumref28_Changes_env m) m ⟨102, []⟩ (cdR (cdR (cdL (cdL (cdR (cdL (cdR (cdR plenumref28_Changes_c)))))))) plenumref28_Changes_h.r.r.l.r.c.c.r.r s (backW n0 [2, 3, 5] [4] kc kx)
noncomputable def plenumref28_Changes_r4 (m : Nat) (n0 : Nat) (kc : ASt → RO) (kx : KO (AV × List AObj)) (s : ASt) : RO := joinW Try.prog GG (plenumref28_Changes_env m) m ⟨102, []⟩ (cdR (cdR (cdL (cdL (cdR (cdL (cdL (cdR (cdL (cdR (cdR plenumref28_Changes_c))))))))))) plenumref28_Changes_h.r.r.l.r.c.c.r.l.c.r.r s (blockX 1 (seqX (fun s => plenumref28_Changes_r5 m n0 kc kx ⟨s.H, [(2, gt s.T 2), (3, gt s.T 3), (5, gt s.T 5)]⟩) (backW n0 [2, 3, 5] [4] kc kx)))
noncomputable def plenumref28_Changes_r3 (m : Nat) (s : ASt) : RO := joinW Try.prog GG (plenumref28_Changes_env m) m ⟨102, []⟩ (cdR (cdR (cdR plenumref28_Changes_c))) plenumref28_Changes_h.r.r.r s (plenumref28_Changes_fin)
noncomputable def plenumref28_Changes_b1 (m : Nat) (s : ASt) (kc : ASt → RO) (kx : KO (AV × List AObj)) : RO := bodyW Try.prog GG (plenumref28_Changes_env m) m ⟨102, []⟩ (cdL (cdL (cdR (cdL (cdR (cdR plenumref28_Changes_c)))))) plenumref28_Changes_h.r.r.l.r.c.c [2, 3, 5] [4] s kc kx
noncomputable def plenumref28_Changes_r2 (m : Nat) (s : ASt) : RO := joinW Try.prog GG (plenumref28_Changes_env m) m ⟨102, []⟩ (cdR (cdR plenumref28_Changes_c)) plenumref28_Changes_h.r.r s (plenumref28_Changes_fin)
noncomputable def plenumref28_Changes_r1 (m : Nat) (s : ASt) : RO := joinW Try.prog GG (plenumref28_Changes_env m) m ⟨102, []⟩ (cdR (cdL (cdR plenumref28_Changes_c))) plenumref28_Changes_h.r.l.r s (seqX (fun s => plenumref28_Changes_r2 m ⟨s.H, [(2, gt s.T 2), (3, gt s.T 3)]⟩) (plenumref28_Changes_fin))
noncomputable def plenumref28_Changes (m : Nat) (t0 t1 : AV) : RO := exec Try.prog GG (plenumref28_Changes_env m) m ⟨102, []⟩ plenumref28_Changes_c plenumref28_Changes_h ⟨[], argsT 0 [t0, t1]⟩ (plenumref28_Changes_fin)
theorem plenumref28_Changes_r5_eq (m : Nat) (n0 : Nat) (kc : ASt → RO) (kx : KO (AV × List AObj)) (H : List AObj) (t2 t3 t5 : AV) : plenumref28_Changes_r5 m n0 kc kx ⟨H, [(2, t2), (3, t3), (5, t5)]⟩ =
  binE none false false .add t5 (V (.int .i64 1)) fun t57 =>
  backE n0 H [(2, t2), (3, t3), (5, t57)] kc := by
  refine (joinW_eq Try.prog GG (plenumref28_Changes_env m) m ⟨102, []⟩ (cdR (cdR (cdL (cdL (cdR (cdL (cdR (cdR plenumref28_Changes_c)))))))) plenumref28_Changes_h.r.r.l.r.c.c.r.r ⟨H, [(2, t2), (3, t3), (5, t5)]⟩ (backW n0 [2, 3, 5] [4] kc kx)).trans ?_
  kernel_rfl
theorem plenumref28_Changes_r4_eq (m : Nat) (n0 : Nat) (kc : ASt → RO) (kx : KO (AV × List AObj)) (H : List AObj) (t2 t3 t5 t101 : AV) : plenumref28_Changes_r4 m n0 kc kx ⟨H, [(2, t2), (3, t3), (5, t5), (101, t101)]⟩ =
  condE t101 (
   kx .ret ⟨H, [(4, (V (.bool false)))]⟩) (
   plenumref28_Changes_r5 m n0 kc kx ⟨H, [(2, t2), (3, t3), (5, t5)]⟩) := by
  refine (joinW_eq Try.prog GG (plenumref28_Changes_env m) m ⟨102, []⟩ (cdR (cdR (cdL (cdL (cdR (cdL (cdL (cdR (cdL (cdR (cdR plenumref28_Changes_c))))))))))) plenumref28_Changes_h.r.r.l.r.c.c.r.l.c.r.r ⟨H, [(2, t2), (3, t3), (5, t5), (101, t101)]⟩ (blockX 1 (seqX (fun s => plenumref28_Changes_r5 m n0 kc kx ⟨s.H, [(2, gt s.T 2), (3, gt s.T 3), (5, gt s.T 5)]⟩) (backW n0 [2, 3, 5] [4] kc kx)))).trans ?_
  kernel_rfl
theorem plenumref28_Changes_r3_eq (m : Nat) (H : List AObj) : plenumref28_Changes_r3 m ⟨H, []⟩ =
  tellK H (ro H (V (.bool true))) := by
  refine (joinW_eq Try.prog GG (plenumref28_Changes_env m) m ⟨102, []⟩ (cdR (cdR (cdR plenumref28_Changes_c))) plenumref28_Changes_h.r.r.r ⟨H, []⟩ (plenumref28_Changes_fin)).trans ?_
  kernel_rfl
theorem plenumref28_Changes_b1_eq (m : Nat) (H : List AObj) (t2 t3 t5 : AV) (kc : ASt → RO) (kx : KO (AV × List AObj)) : plenumref28_Changes_b1 m ⟨H, [(2, t2), (3, t3), (5, t5)]⟩ kc kx =
  fieldE (some (5, 1)) t2 fun t52 =>
  loadE 1 H t52 fun t53 =>
  lenE false true H t53 fun t54 =>
  binE none false false .lss t5 t54 fun t55 =>
  condE t55 (
   fieldE (some (5, 1)) t2 fun t58 =>
   loadE 1 H t58 fun t59 =>
   idxSE 7 H t59 t5 fun t61 =>
   loadE 7 H t61 fun t62 =>
   fieldE (some (5, 1)) t3 fun t63 =>
   loadE 1 H t63 fun t64 =>
   idxSE 7 [] t64 t5 fun t66 =>
   loadE 7 H t66 fun t67 =>
   allocE (some zc_api_Cert) ty_api_Cert H fun t6 H2 =>
   loadE 7 H2 t66 fun t8021 =>
   eqE t67 t8021 (
   loadE 1 H2 t63 fun t8022 =>
   eqE t64 t8022 (
   allocE (some zc_api_Cert) ty_api_Cert H2 fun t7 H3 =>
   loadE 7 H3 t66 fun t8025 =>
   eqE t67 t8025 (
   loadE 1 H3 t63 fun t8026 =>
   eqE t64 t8026 (
   storeE 7 H3 t6 t62 fun H4 =>
   loadE 7 H4 t66 fun t8028 =>
   eqE t67 t8028 (
   loadE 1 H4 t63 fun t8029 =>
   eqE t64 t8029 (
   storeE 7 H4 t7 t67 fun H5 =>
   fieldE (some (0, 1)) t6 fun t68 =>
   loadE 1 H5 t68 fun t69 =>
   fieldE (some (0, 1)) t7 fun t70 =>
   loadE 1 H5 t70 fun t71 =>
   binE none false false .neq t69 t71 fun t72 =>
   condE t72 (
    plenumref28_Changes_r4 m H.length kc kx ⟨H5, [(2, t2), (3, t3), (5, t5), (101, (V (.bool true)))]⟩) (
    fieldE (some (1, 1)) t6 fun t74 =>
    loadE 1 H5 t74 fun t75 =>
    fieldE (some (1, 1)) t7 fun t76 =>
    loadE 1 H5 t76 fun t77 =>
    binE none false false .neq t75 t77 fun t78 =>
    condE t78 (
    plenumref28_Changes_r4 m H.length kc kx ⟨H5, [(2, t2), (3, t3), (5, t5), (101, (V (.bool true)))]⟩) (
    fieldE (some (2, 1)) t6 fun t81 =>
    loadE 1 H5 t81 fun t82 =>
    fieldE (some (2, 1)) t7 fun t83 =>
    loadE 1 H5 t83 fun t84 =>
    binE none false false .neq t82 t84 fun t85 =>
    condE t85 (
    plenumref28_Changes_r4 m H.length kc kx ⟨H5, [(2, t2), (3, t3), (5, t5), (101, (V (.bool true)))]⟩) (
    fieldE (some (3, 1)) t6 fun t88 =>
    loadE 1 H5 t88 fun t89 =>
    fieldE (some (3, 1)) t7 fun t90 =>
    loadE 1 H5 t90 fun t91 =>
    binE none false false .neq t89 t91 fun t92 =>
    condE t92 (
    plenumref28_Changes_r4 m H.length kc kx ⟨H5, [(2, t2), (3, t3), (5, t5), (101, (V (.bool true)))]⟩) (
    fieldE (some (4, 1)) t6 fun t95 =>
    loadE 1 H5 t95 fun t96 =>
    fieldE (some (4, 1)) t7 fun t97 =>
    loadE 1 H5 t97 fun t98 =>
    tellE (plenumref28_Stmts m (ro H5 t96) (ro H5 t98)) [(ro H5 t96), (ro H5 t98)] fun t99 =>
    unE .not t99 fun t100 =>
    plenumref28_Changes_r4 m H.length kc kx ⟨H5, [(2, t2), (3, t3), (5, t5), (101, t100)]⟩))))))))))) (
   kx (.exit 0) ⟨H, [(4, .nil)]⟩) := by
  refine (bodyW_eq Try.prog GG (plenumref28_Changes_env m) m ⟨102, []⟩ (cdL (cdL (cdR (cdL (cdR (cdR plenumref28_Changes_c)))))) plenumref28_Changes_h.r.r.l.r.c.c [2, 3, 5] [4] ⟨H, [(2, t2), (3, t3), (5, t5)]⟩ kc kx).trans ?_
  kernel_rfl
theorem plenumref28_Changes_r2_eq (m : Nat) (H : List AObj) (t2 t3 : AV) : plenumref28_Changes_r2 m ⟨H, [(2, t2), (3, t3)]⟩ =
  iterC m (plenumref28_Changes_b1 m) ⟨H, [(2, t2), (3, t3), (5, (V (.int .i64 0)))]⟩ (blockX 0 (seqX (fun s => plenumref28_Changes_r3 m ⟨s.H, []⟩) (plenumref28_Changes_fin))) := by
  refine (joinW_eq Try.prog GG (plenumref28_Changes_env m) m ⟨102, []⟩ (cdR (cdR plenumref28_Changes_c)) plenumref28_Changes_h.r.r ⟨H, [(2, t2), (3, t3)]⟩ (plenumref28_Changes_fin)).trans ?_
  kernel_rfl
theorem plenumref28_Changes_r1_eq (m : Nat) (H : List AObj) (t2 t3 t50 : AV) : plenumref28_Changes_r1 m ⟨H, [(2, t2), (3, t3), (50, t50)]⟩ =
  condE t50 (
   tellK H (ro H (V (.bool false)))) (
   plenumref28_Changes_r2 m ⟨H, [(2, t2), (3, t3)]⟩) := by
  refine (joinW_eq Try.prog GG (plenumref28_Changes_env m) m ⟨102, []⟩ (cdR (cdL (cdR plenumref28_Changes_c))) plenumref28_Changes_h.r.l.r ⟨H, [(2, t2), (3, t3), (50, t50)]⟩ (seqX (fun s => plenumref28_Changes_r2 m ⟨s.H, [(2, gt s.T 2), (3, gt s.T 3)]⟩) (plenumref28_Changes_fin))).trans ?_
  kernel_rfl
theorem plenumref28_Changes_eq (m : Nat) (t0 t1 : AV) : plenumref28_Changes m t0 t1 =
  boxE ty_api_Change [] t0 fun t2 H1 =>
  boxE ty_api_Change H1 t1 fun t3 H2 =>
  fieldE (some (0, 1)) t2 fun t8 =>
  loadE 1 H2 t8 fun t9 =>
  fieldE (some (0, 1)) t3 fun t10 =>
  loadE 1 H2 t10 fun t11 =>
  binE none false false .neq t9 t11 fun t12 =>
  condE t12 (
   plenumref28_Changes_r1 m ⟨H2, [(2, t2), (3, t3), (50, (V (.bool true)))]⟩) (
   fieldE (some (1, 1)) t2 fun t14 =>
   loadE 1 H2 t14 fun t15 =>
   fieldE (some (1, 1)) t3 fun t16 =>
   loadE 1 H2 t16 fun t17 =>
   binE none false false .neq t15 t17 fun t18 =>
   condE t18 (
   plenumref28_Changes_r1 m ⟨H2, [(2, t2), (3, t3), (50, (V (.bool true)))]⟩) (
   fieldE (some (2, 1)) t2 fun t21 =>
   loadE 1 H2 t21 fun t22 =>
   fieldE (some (2, 1)) t3 fun t23 =>
   loadE 1 H2 t23 fun t24 =>
   binE none false false .neq t22 t24 fun t25 =>
   condE t25 (
   plenumref28_Changes_r1 m ⟨H2, [(2, t2), (3, t3), (50, (V (.bool true)))]⟩) (
   fieldE (some (3, 1)) t2 fun t28 =>
   loadE 1 H2 t28 fun t29 =>
   fieldE (some (3, 1)) t3 fun t30 =>
   loadE 1 H2 t30 fun t31 =>
   binE none false false .neq t29 t31 fun t32 =>
   condE t32 (
   plenumref28_Changes_r1 m ⟨H2, [(2, t2), (3, t3), (50, (V (.bool true)))]⟩) (
   fieldE (some (4, 1)) t2 fun t35 =>
   loadE 1 H2 t35 fun t36 =>
   fieldE (some (4, 1)) t3 fun t37 =>
   loadE 1 H2 t37 fun t38 =>
   tellE (plenumref28_Stmts m (ro H2 t36) (ro H2 t38)) [(ro H2 t36), (ro H2 t38)] fun t39 =>
   unE .not t39 fun t40 =>
   condE t40 (
   plenumref28_Changes_r1 m ⟨H2, [(2, t2), (3, t3), (50, (V (.bool true)))]⟩) (
   fieldE (some (5, 1)) t2 fun t43 =>
   loadE 1 H2 t43 fun t44 =>
   lenE false true H2 t44 fun t45 =>
   fieldE (some (5, 1)) t3 fun t46 =>
   loadE 1 H2 t46 fun t47 =>
   lenE false true H2 t47 fun t48 =>
   binE none false false .neq t45 t48 fun t49 =>
   plenumref28_Changes_r1 m ⟨H2, [(2, t2), (3, t3), (50, t49)]⟩))))) := by
  refine (tellX Try.prog GG (plenumref28_Changes_env m) m ⟨102, []⟩ plenumref28_Changes_c plenumref28_Changes_h ⟨[], argsT 0 [t0, t1]⟩ [.tmp 4]).trans ?_
  kernel_rfl
noncomputable def plenumref28_Changes_t (m : Nat) : List AV → RO | [t0, t1] => plenumref28_Changes m t0 t1 | _ => none
theorem plenumref28_Changes_ok (m : Nat) : ∀ args X H', plenumref28_Changes_t m args = some (X, H') → ACp Try.prog GG 36 args X := by
  intro args X H' h
  unfold plenumref28_Changes_t at h
  split at h
  · exact tell_okK MIX (by
    intro f e h
    simp only [plenumref28_Changes_env, Prod.mk.injEq, List.mem_cons, List.not_mem_nil, or_false] at h
    obtain ⟨rfl, rfl⟩ := h
    · exact plenumref28_Stmts_ok m) (f := 36) (c := plenumref28_Changes_c) Try.func36 rfl (by kernel_rfl) _ rfl Try.ntmps36 (Nat.le_of_ble_eq_true rfl) plenumref28_Changes_h h
  · cases h
noncomputable def plenumref28_Same_c : Code := (Try.f11.body).getD .skip
def plenumref28_Same_h : Hint := (.two .n (.join [2, 3] (.join [2, 3, 62] .n (.two (.two .n .n) .n)) (.join [] (.two .n (.one (.lp [] [2, 3, 5] [4] (.two (.two .n (.two .n .n)) (.two (.one (.two .n (.two (.two .n .n) .n))) .n))))) (.two .n .n))))
noncomputable def plenumref28_Same_env (m : Nat) : Env := [(35, .tell (plenumref28_Stmts_t m)), (36, .tell (plenumref28_Changes_t m))]
noncomputable abbrev plenumref28_Same_fin : KO (AV × List AObj) := tellFK Try.prog [.tmp 4]
noncomputable def plenumref28_Same_r3 (m : Nat) (s : ASt) : RO := joinW Try.prog GG (plenumref28_Same_env m) m ⟨82, []⟩ (cdR (cdR (cdR plenumref28_Same_c))) plenumref28_Same_h.r.r.r s (plenumref28_Same_fin)
noncomputable def plenumref28_Same_b1 (m : Nat) (s : ASt) (kc : ASt → RO) (kx : KO (AV × List AObj)) : RO := bodyW Try.prog GG (plenumref28_Same_env m) m ⟨82, []⟩ (cdL (cdL (cdR (cdL (cdR (cdR plenumref28_Same_c)))))) plenumref28_Same_h.r.r.l.r.c.c [2, 3, 5] [4] s kc kx
noncomputable def plenumref28_Same_r2 (m : Nat) (s : ASt) : RO := joinW Try.prog GG (plenumref28_Same_env m) m ⟨82, []⟩ (cdR (cdR plenumref28_Same_c)) plenumref28_Same_h.r.r s (plenumref28_Same_fin)
noncomputable def plenumref28_Same_r1 (m : Nat) (s : ASt) : RO := joinW Try.prog GG (plenumref28_Same_env m) m ⟨82, []⟩ (cdR (cdL (cdR plenumref28_Same_c))) plenumref28_Same_h.r.l.r s (seqX (fun s => plenumref28_Same_r2 m ⟨s.H, [(2, gt s.T 2), (3, gt s.T 3)]⟩) (plenumref28_Same_fin))
noncomputable def plenumref28_Same (m : Nat) (t0 t1 : AV) : RO := exec Try.prog GG (plenumref28_Same_env m) m ⟨82, []⟩ plenumref28_Same_c plenumref28_Same_h ⟨[], argsT 0 [t0, t1]⟩ (plenumref28_Same_fin)
theorem plenumref28_Same_r3_eq (m : Nat) (H : List AObj) : plenumref28_Same_r3 m ⟨H, []⟩ =
  tellK H (ro H (V (.bool true))) := by
  refine (joinW_eq Try.prog GG (plenumref28_Same_env m) m ⟨82, []⟩ (cdR (cdR (cdR plenumref28_Same_c))) plenumref28_Same_h.r.r.r ⟨H, []⟩ (plenumref28_Same_fin)).trans ?_
  kernel_rfl
theorem plenumref28_Same_b1_eq (m : Nat) (H : List AObj) (t2 t3 t5 : AV) (kc : ASt → RO) (kx : KO (AV × List AObj)) : plenumref28_Same_b1 m ⟨H, [(2, t2), (3, t3), (5, t5)]⟩ kc kx =
  fieldE (some (7, 1)) t2 fun t64 =>
  loadE 1 H t64 fun t65 =>
  lenE false true H t65 fun t66 =>
  binE none false false .lss t5 t66 fun t67 =>
  condE t67 (
   fieldE (some (7, 1)) t2 fun t70 =>
   loadE 1 H t70 fun t71 =>
   idxSE 8 H t71 t5 fun t73 =>
   loadE 8 H t73 fun t74 =>
   fieldE (some (7, 1)) t3 fun t75 =>
   loadE 1 H t75 fun t76 =>
   idxSE 8 H t76 t5 fun t78 =>
   loadE 8 H t78 fun t79 =>
   tellE (plenumref28_Changes m (ro H t74) (ro H t79)) [(ro H t74), (ro H t79)] fun t80 =>
   unE .not t80 fun t81 =>
   condE t81 (
    kx .ret ⟨H, [(4, (V (.bool false)))]⟩) (
    binE none false false .add t5 (V (.int .i64 1)) fun t69 =>
    backE H.length H [(2, t2), (3, t3), (5, t69)] kc)) (
   kx (.exit 0) ⟨H, [(4, .nil)]⟩) := by
  refine (bodyW_eq Try.prog GG (plenumref28_Same_env m) m ⟨82, []⟩ (cdL (cdL (cdR (cdL (cdR (cdR plenumref28_Same_c)))))) plenumref28_Same_h.r.r.l.r.c.c [2, 3, 5] [4] ⟨H, [(2, t2), (3, t3), (5, t5)]⟩ kc kx).trans ?_
  kernel_rfl
theorem plenumref28_Same_r2_eq (m : Nat) (H : List AObj) (t2 t3 : AV) : plenumref28_Same_r2 m ⟨H, [(2, t2), (3, t3)]⟩ =
  iterC m (plenumref28_Same_b1 m) ⟨H, [(2, t2), (3, t3), (5, (V (.int .i64 0)))]⟩ (blockX 0 (seqX (fun s => plenumref28_Same_r3 m ⟨s.H, []⟩) (plenumref28_Same_fin))) := by
  refine (joinW_eq Try.prog GG (plenumref28_Same_env m) m ⟨82, []⟩ (cdR (cdR plenumref28_Same_c)) plenumref28_Same_h.r.r ⟨H, [(2, t2), (3, t3)]⟩ (plenumref28_Same_fin)).trans ?_
  kernel_rfl
theorem plenumref28_Same_r1_eq (m : Nat) (H : List AObj) (t2 t3 t62 : AV) : plenumref28_Same_r1 m ⟨H, [(2, t2), (3, t3), (62, t62)]⟩ =
  condE t62 (
   tellK H (ro H (V (.bool false)))) (
   plenumref28_Same_r2 m ⟨H, [(2, t2), (3, t3)]⟩) := by
  refine (joinW_eq Try.prog GG (plenumref28_Same_env m) m ⟨82, []⟩ (cdR (cdL (cdR plenumref28_Same_c))) plenumref28_Same_h.r.l.r ⟨H, [(2, t2), (3, t3), (62, t62)]⟩ (seqX (fun s => plenumref28_Same_r2 m ⟨s.H, [(2, gt s.T 2), (3, gt s.T 3)]⟩) (plenumref28_Same_fin))).trans ?_
  kernel_rfl
theorem plenumref28_Same_eq (m : Nat) (t0 t1 : AV) : plenumref28_Same m t0 t1 =
  boxE ty_api_Msg [] t0 fun t2 H1 =>
  boxE ty_api_Msg H1 t1 fun t3 H2 =>
  fieldE (some (0, 1)) t2 fun t6 =>
  loadE 1 H2 t6 fun t7 =>
  fieldE (some (0, 1)) t3 fun t8 =>
  loadE 1 H2 t8 fun t9 =>
  binE none false false .neq t7 t9 fun t10 =>
  condE t10 (
   plenumref28_Same_r1 m ⟨H2, [(2, t2), (3, t3), (62, (V (.bool true)))]⟩) (
   fieldE (some (1, 1)) t2 fun t12 =>
   loadE 1 H2 t12 fun t13 =>
   fieldE (some (1, 1)) t3 fun t14 =>
   loadE 1 H2 t14 fun t15 =>
   binE none false false .neq t13 t15 fun t16 =>
   condE t16 (
   plenumref28_Same_r1 m ⟨H2, [(2, t2), (3, t3), (62, (V (.bool true)))]⟩) (
   fieldE (some (2, 1)) t2 fun t19 =>
   loadE 1 H2 t19 fun t20 =>
   fieldE (some (2, 1)) t3 fun t21 =>
   loadE 1 H2 t21 fun t22 =>
   binE none false false .neq t20 t22 fun t23 =>
   condE t23 (
   plenumref28_Same_r1 m ⟨H2, [(2, t2), (3, t3), (62, (V (.bool true)))]⟩) (
   fieldE (some (3, 1)) t2 fun t26 =>
   loadE 1 H2 t26 fun t27 =>
   fieldE (some (3, 1)) t3 fun t28 =>
   loadE 1 H2 t28 fun t29 =>
   binE none false false .neq t27 t29 fun t30 =>
   condE t30 (
   plenumref28_Same_r1 m ⟨H2, [(2, t2), (3, t3), (62, (V (.bool true)))]⟩) (
   fieldE (some (4, 1)) t2 fun t33 =>
   loadE 1 H2 t33 fun t34 =>
   fieldE (some (4, 1)) t3 fun t35 =>
   loadE 1 H2 t35 fun t36 =>
   binE none false false .neq t34 t36 fun t37 =>
   condE t37 (
   plenumref28_Same_r1 m ⟨H2, [(2, t2), (3, t3), (62, (V (.bool true)))]⟩) (
   fieldE (some (5, 1)) t2 fun t40 =>
   loadE 1 H2 t40 fun t41 =>
   fieldE (some (5, 1)) t3 fun t42 =>
   loadE 1 H2 t42 fun t43 =>
   binE none false false .neq t41 t43 fun t44 =>
   condE t44 (
   plenumref28_Same_r1 m ⟨H2, [(2, t2), (3, t3), (62, (V (.bool true)))]⟩) (
   fieldE (some (6, 1)) t2 fun t47 =>
   loadE 1 H2 t47 fun t48 =>
   fieldE (some (6, 1)) t3 fun t49 =>
   loadE 1 H2 t49 fun t50 =>
   tellE (plenumref28_Stmts m (ro H2 t48) (ro H2 t50)) [(ro H2 t48), (ro H2 t50)] fun t51 =>
   unE .not t51 fun t52 =>
   condE t52 (
   plenumref28_Same_r1 m ⟨H2, [(2, t2), (3, t3), (62, (V (.bool true)))]⟩) (
   fieldE (some (7, 1)) t2 fun t55 =>
   loadE 1 H2 t55 fun t56 =>
   lenE false true H2 t56 fun t57 =>
   fieldE (some (7, 1)) t3 fun t58 =>
   loadE 1 H2 t58 fun t59 =>
   lenE false true H2 t59 fun t60 =>
   binE none false false .neq t57 t60 fun t61 =>
   plenumref28_Same_r1 m ⟨H2, [(2, t2), (3, t3), (62, t61)]⟩))))))) := by
  refine (tellX Try.prog GG (plenumref28_Same_env m) m ⟨82, []⟩ plenumref28_Same_c plenumref28_Same_h ⟨[], argsT 0 [t0, t1]⟩ [.tmp 4]).trans ?_
  kernel_rfl
noncomputable def plenumref28_Same_t (m : Nat) : List AV → RO | [t0, t1] => plenumref28_Same m t0 t1 | _ => none
theorem plenumref28_Same_ok (m : Nat) : ∀ args X H', plenumref28_Same_t m args = some (X, H') → ACp Try.prog GG 11 args X := by
  intro args X H' h
  unfold plenumref28_Same_t at h
  split at h
  · exact tell_okK MIX (by
    intro f e h
    simp only [plenumref28_Same_env, Prod.mk.injEq, List.mem_cons, List.not_mem_nil, or_false] at h
    rcases h with ⟨rfl, rfl⟩ | ⟨rfl, rfl⟩
    · exact plenumref28_Stmts_ok m
    · exact plenumref28_Changes_ok m) (f := 11) (c := plenumref28_Same_c) Try.func11 rfl (by kernel_rfl) _ rfl Try.ntmps11 (Nat.le_of_ble_eq_true rfl) plenumref28_Same_h h
  · cases h
noncomputable def plenumlaw28_text_c : Code := (Try.f37.body).getD .skip
def plenumlaw28_text_h : Hint := (.two .n (.join [0] (.join [0, 10] .n (.two (.two .n .n) .n)) (.two (.two .n (.two (.two .n .n) .n)) (.two .n .n))))
noncomputable def plenumlaw28_text_env (m : Nat) : Env := []
noncomputable abbrev plenumlaw28_text_fin : KO (AV × List AObj) := tellFK Try.prog [.tmp 2]
noncomputable def plenumlaw28_text_r2 (m : Nat) (s : ASt) : RO := joinW Try.prog GG (plenumlaw28_text_env m) m ⟨19, []⟩ (cdR (cdR plenumlaw28_text_c)) plenumlaw28_text_h.r.r s (plenumlaw28_text_fin)
noncomputable def plenumlaw28_text_r1 (m : Nat) (s : ASt) : RO := joinW Try.prog GG (plenumlaw28_text_env m) m ⟨19, []⟩ (cdR (cdL (cdR plenumlaw28_text_c))) plenumlaw28_text_h.r.l.r s (seqX (fun s => plenumlaw28_text_r2 m ⟨s.H, [(0, gt s.T 0)]⟩) (plenumlaw28_text_fin))
noncomputable def plenumlaw28_text (m : Nat) (t0 : AV) : RO := exec Try.prog GG (plenumlaw28_text_env m) m ⟨19, []⟩ plenumlaw28_text_c plenumlaw28_text_h ⟨[], argsT 0 [t0]⟩ (plenumlaw28_text_fin)
theorem plenumlaw28_text_r2_eq (m : Nat) (H : List AObj) (t0 : AV) : plenumlaw28_text_r2 m ⟨H, [(0, t0)]⟩ =
  lenE true false H t0 fun t14 =>
  binE none false false .gtr t14 (V (.int .i64 65540)) fun t15 =>
  condE t15 (
   sliceE true none H t0 none (some (V (.int .i64 65540))) fun t17 =>
   tellK H (ro H t17)) (
   tellK H (ro H t0)) := by
  refine (joinW_eq Try.prog GG (plenumlaw28_text_env m) m ⟨19, []⟩ (cdR (cdR plenumlaw28_text_c)) plenumlaw28_text_h.r.r ⟨H, [(0, t0)]⟩ (plenumlaw28_text_fin)).trans ?_
  kernel_rfl
theorem plenumlaw28_text_r1_eq (m : Nat) (H : List AObj) (t0 t10 : AV) : plenumlaw28_text_r1 m ⟨H, [(0, t0), (10, t10)]⟩ =
  condE t10 (
   sliceE true none H t0 none (some (V (.int .i64 3000))) fun t12 =>
   tellK H (ro H t12)) (
   plenumlaw28_text_r2 m ⟨H, [(0, t0)]⟩) := by
  refine (joinW_eq Try.prog GG (plenumlaw28_text_env m) m ⟨19, []⟩ (cdR (cdL (cdR plenumlaw28_text_c))) plenumlaw28_text_h.r.l.r ⟨H, [(0, t0), (10, t10)]⟩ (seqX (fun s => plenumlaw28_text_r2 m ⟨s.H, [(0, gt s.T 0)]⟩) (plenumlaw28_text_fin))).trans ?_
  kernel_rfl
theorem plenumlaw28_text_eq (m : Nat) (t0 : AV) : plenumlaw28_text m t0 =
  lenE true false [] t0 fun t4 =>
  binE none false false .gtr t4 (V (.int .i64 3000)) fun t5 =>
  condE t5 (
   lenE true false [] t0 fun t8 =>
   binE none false false .leq t8 (V (.int .i64 65536)) fun t9 =>
   plenumlaw28_text_r1 m ⟨[], [(0, t0), (10, t9)]⟩) (
   plenumlaw28_text_r1 m ⟨[], [(0, t0), (10, (V (.bool false)))]⟩) := by
  refine (tellX Try.prog GG (plenumlaw28_text_env m) m ⟨19, []⟩ plenumlaw28_text_c plenumlaw28_text_h ⟨[], argsT 0 [t0]⟩ [.tmp 2]).trans ?_
  kernel_rfl
noncomputable def plenumlaw28_text_t (m : Nat) : List AV → RO | [t0] => plenumlaw28_text m t0 | _ => none
theorem plenumlaw28_text_ok (m : Nat) : ∀ args X H', plenumlaw28_text_t m args = some (X, H') → ACp Try.prog GG 37 args X := by
  intro args X H' h
  unfold plenumlaw28_text_t at h
  split at h
  · exact tell_okK MIX (by intro f e h; cases h) (f := 37) (c := plenumlaw28_text_c) Try.func37 rfl (by kernel_rfl) _ rfl Try.ntmps37 (Nat.le_of_ble_eq_true rfl) plenumlaw28_text_h h
  · cases h
noncomputable def plenumlaw28_stmts_c : Code := (Try.f38.body).getD .skip
def plenumlaw28_stmts_h : Hint := (.two .n (.two (.two .n (.two (.two .n .n) .n)) (.two .n .n)))
noncomputable def plenumlaw28_stmts_env (m : Nat) : Env := []
noncomputable abbrev plenumlaw28_stmts_fin : KO (AV × List AObj) := tellFK Try.prog [.tmp 2]
noncomputable def plenumlaw28_stmts (m : Nat) (t0 : AV) : RO := exec Try.prog GG (plenumlaw28_stmts_env m) m ⟨9, []⟩ plenumlaw28_stmts_c plenumlaw28_stmts_h ⟨[], argsT 0 [t0]⟩ (plenumlaw28_stmts_fin)
theorem plenumlaw28_stmts_eq (m : Nat) (t0 : AV) : plenumlaw28_stmts m t0 =
  lenE false true [] t0 fun t4 =>
  binE none false false .gtr t4 (V (.int .i64 66)) fun t5 =>
  condE t5 (
   sliceE false (some (ty_api_Stmt, 7)) [] t0 none (some (V (.int .i64 66))) fun t7 =>
   tellK [] (ro [] t7)) (
   tellK [] (ro [] t0)) := by
  refine (tellX Try.prog GG (plenumlaw28_stmts_env m) m ⟨9, []⟩ plenumlaw28_stmts_c plenumlaw28_stmts_h ⟨[], argsT 0 [t0]⟩ [.tmp 2]).trans ?_
  kernel_rfl
noncomputable def plenumlaw28_stmts_t (m : Nat) : List AV → RO | [t0] => plenumlaw28_stmts m t0 | _ => none
theorem plenumlaw28_stmts_ok (m : Nat) : ∀ args X H', plenumlaw28_stmts_t m args = some (X, H') → ACp Try.prog GG 38 args X := by
  intro args X H' h
  unfold plenumlaw28_stmts_t at h
  split at h
  · exact tell_okK MIX (by intro f e h; cases h) (f := 38) (c := plenumlaw28_stmts_c) Try.func38 rfl (by kernel_rfl) _ rfl Try.ntmps38 (Nat.le_of_ble_eq_true rfl) plenumlaw28_stmts_h h
  · cases h
noncomputable def plenumlaw28_FewChange_c : Code := (Try.f39.body).getD .skip
def plenumlaw28_FewChange_h : Hint := (.two .n (.two .n (.join [1, 2] (.two .n (.two .n .n)) (.two .n (.join [1, 2, 3] (.two .n (.one (.lp [(3, ty_api_Cert, 5)] [1, 2, 3, 4] [1, 2, 3] (.two (.two .n (.two .n .n)) (.two (.one (.two .n (.two .n (.two .n .n)))) .n))))) (.two .n (.two .n .n)))))))
noncomputable def plenumlaw28_FewChange_env (m : Nat) : Env := [(38, .tell (plenumlaw28_stmts_t m)), (37, .tell (plenumlaw28_text_t m))]
noncomputable abbrev plenumlaw28_FewChange_fin : KO (AV × List AObj) := tellFK Try.prog [.cell 2 43]
noncomputable def plenumlaw28_FewChange_r2 (m : Nat) (s : ASt) : RO := joinW Try.prog GG (plenumlaw28_FewChange_env m) m ⟨45, []⟩ (cdR (cdR (cdR (cdR (cdR plenumlaw28_FewChange_c))))) plenumlaw28_FewChange_h.r.r.r.r.r s (plenumlaw28_FewChange_fin)
noncomputable def plenumlaw28_FewChange_b1 (m : Nat) (s : ASt) (kc : ASt → RO) (kx : KO (AV × List AObj)) : RO := bodyW Try.prog GG (plenumlaw28_FewChange_env m) m ⟨45, []⟩ (cdL (cdL (cdR (cdL (cdR (cdR (cdR (cdR plenumlaw28_FewChange_c)))))))) plenumlaw28_FewChange_h.r.r.r.r.l.r.c.c [1, 2, 3, 4] [1, 2, 3] s kc kx
noncomputable def plenumlaw28_FewChange_r1 (m : Nat) (s : ASt) : RO := joinW Try.prog GG (plenumlaw28_FewChange_env m) m ⟨45, []⟩ (cdR (cdR (cdR plenumlaw28_FewChange_c))) plenumlaw28_FewChange_h.r.r.r s (plenumlaw28_FewChange_fin)
noncomputable def plenumlaw28_FewChange (m : Nat) (t0 : AV) : RO := exec Try.prog GG (plenumlaw28_FewChange_env m) m ⟨45, []⟩ plenumlaw28_FewChange_c plenumlaw28_FewChange_h ⟨[], argsT 0 [t0]⟩ (plenumlaw28_FewChange_fin)
theorem plenumlaw28_FewChange_r2_eq (m : Nat) (H : List AObj) (t1 t2 t3 : AV) : plenumlaw28_FewChange_r2 m ⟨H, [(1, t1), (2, t2), (3, t3)]⟩ =
  fieldE (some (5, 1)) t1 fun t43 =>
  storeE 1 H t43 t3 fun H2 =>
  loadE 8 H2 t1 fun t44 =>
  storeE 8 H2 t2 t44 fun H3 =>
  loadE 8 H3 t2 fun t9000 =>
  tellK H3 (ro H3 t9000) := by
  refine (joinW_eq Try.prog GG (plenumlaw28_FewChange_env m) m ⟨45, []⟩ (cdR (cdR (cdR (cdR (cdR plenumlaw28_FewChange_c))))) plenumlaw28_FewChange_h.r.r.r.r.r ⟨H, [(1, t1), (2, t2), (3, t3)]⟩ (plenumlaw28_FewChange_fin)).trans ?_
  kernel_rfl
theorem plenumlaw28_FewChange_b1_eq (m : Nat) (H : List AObj) (t1 t2 t3 t4 : AV) (kc : ASt → RO) (kx : KO (AV × List AObj)) : plenumlaw28_FewChange_b1 m ⟨H, [(1, t1), (2, t2), (3, t3), (4, t4)]⟩ kc kx =
  fieldE (some (5, 1)) t1 fun t19 =>
  loadE 1 H t19 fun t20 =>
  lenE false true H t20 fun t21 =>
  binE none false false .lss t4 t21 fun t22 =>
  condE t22 (
   fieldE (some (5, 1)) t1 fun t25 =>
   loadE 1 H t25 fun t26 =>
   idxSE 7 H t26 t4 fun t28 =>
   loadE 7 H t28 fun t29 =>
   allocE (some zc_api_Cert) ty_api_Cert H fun t5 H2 =>
   storeE 7 H2 t5 t29 fun H3 =>
   fieldE (some (3, 1)) t5 fun t30 =>
   loadE 1 H3 t30 fun t31 =>
   tellE (plenumlaw28_text m (ro H3 t31)) [(ro H3 t31)] fun t32 =>
   fieldE (some (3, 1)) t5 fun t33 =>
   storeE 1 H3 t33 t32 fun H4 =>
   fieldE (some (4, 1)) t5 fun t34 =>
   loadE 1 H4 t34 fun t35 =>
   tellE (plenumlaw28_stmts m (ro H4 t35)) [(ro H4 t35)] fun t36 =>
   fieldE (some (4, 1)) t5 fun t37 =>
   storeE 1 H4 t37 t36 fun H5 =>
   loadE 7 H5 t5 fun t39 =>
   buildSE (some (ty_api_Cert, 5)) 1 [(0, t39)] fun t40 =>
   appE (some (ty_api_Cert, 5)) H5 t3 t40 fun t41 H6 =>
   binE none false false .add t4 (V (.int .i64 1)) fun t24 =>
   backE H.length H6 [(1, t1), (2, t2), (3, t41), (4, t24)] kc) (
   kx (.exit 0) ⟨H, [(1, t1), (2, t2), (3, t3)]⟩) := by
  refine (bodyW_eq Try.prog GG (plenumlaw28_FewChange_env m) m ⟨45, []⟩ (cdL (cdL (cdR (cdL (cdR (cdR (cdR (cdR plenumlaw28_FewChange_c)))))))) plenumlaw28_FewChange_h.r.r.r.r.l.r.c.c [1, 2, 3, 4] [1, 2, 3] ⟨H, [(1, t1), (2, t2), (3, t3), (4, t4)]⟩ kc kx).trans ?_
  kernel_rfl
theorem plenumlaw28_FewChange_r1_eq (m : Nat) (H : List AObj) (t1 t2 : AV) : plenumlaw28_FewChange_r1 m ⟨H, [(1, t1), (2, t2)]⟩ =
  rowE (V (.slice none 0 0)) ty_api_Cert 5 H fun t3 H2 =>
  iterC m (plenumlaw28_FewChange_b1 m) ⟨H2, [(1, t1), (2, t2), (3, t3), (4, (V (.int .i64 0)))]⟩ (blockX 0 (seqX (fun s => plenumlaw28_FewChange_r2 m ⟨s.H, [(1, gt s.T 1), (2, gt s.T 2), (3, gt s.T 3)]⟩) (plenumlaw28_FewChange_fin))) := by
  refine (joinW_eq Try.prog GG (plenumlaw28_FewChange_env m) m ⟨45, []⟩ (cdR (cdR (cdR plenumlaw28_FewChange_c))) plenumlaw28_FewChange_h.r.r.r ⟨H, [(1, t1), (2, t2)]⟩ (plenumlaw28_FewChange_fin)).trans ?_
  kernel_rfl
theorem plenumlaw28_FewChange_eq (m : Nat) (t0 : AV) : plenumlaw28_FewChange m t0 =
  boxE ty_api_Change [] t0 fun t1 H1 =>
  allocE (some zc_api_Change) ty_api_Change H1 fun t2 H2 =>
  fieldE (some (4, 1)) t1 fun t6 =>
  loadE 1 H2 t6 fun t7 =>
  tellE (plenumlaw28_stmts m (ro H2 t7)) [(ro H2 t7)] fun t8 =>
  fieldE (some (4, 1)) t1 fun t9 =>
  storeE 1 H2 t9 t8 fun H3 =>
  fieldE (some (5, 1)) t1 fun t10 =>
  loadE 1 H3 t10 fun t11 =>
  lenE false true H3 t11 fun t12 =>
  binE none false false .gtr t12 (V (.int .i64 66)) fun t13 =>
  condE t13 (
   fieldE (some (5, 1)) t1 fun t14 =>
   loadE 1 H3 t14 fun t15 =>
   sliceE false (some (ty_api_Cert, 7)) H3 t15 none (some (V (.int .i64 66))) fun t16 =>
   fieldE (some (5, 1)) t1 fun t17 =>
   storeE 1 H3 t17 t16 fun H4 =>
   plenumlaw28_FewChange_r1 m ⟨H4, [(1, t1), (2, t2)]⟩) (
   plenumlaw28_FewChange_r1 m ⟨H3, [(1, t1), (2, t2)]⟩) := by
  refine (tellX Try.prog GG (plenumlaw28_FewChange_env m) m ⟨45, []⟩ plenumlaw28_FewChange_c plenumlaw28_FewChange_h ⟨[], argsT 0 [t0]⟩ [.cell 2 43]).trans ?_
  kernel_rfl
noncomputable def plenumlaw28_FewChange_t (m : Nat) : List AV → RO | [t0] => plenumlaw28_FewChange m t0 | _ => none
theorem plenumlaw28_FewChange_ok (m : Nat) : ∀ args X H', plenumlaw28_FewChange_t m args = some (X, H') → ACp Try.prog GG 39 args X := by
  intro args X H' h
  unfold plenumlaw28_FewChange_t at h
  split at h
  · exact tell_okK MIX (by
    intro f e h
    simp only [plenumlaw28_FewChange_env, Prod.mk.injEq, List.mem_cons, List.not_mem_nil, or_false] at h
    rcases h with ⟨rfl, rfl⟩ | ⟨rfl, rfl⟩
    · exact plenumlaw28_stmts_ok m
    · exact plenumlaw28_text_ok m) (f := 39) (c := plenumlaw28_FewChange_c) Try.func39 rfl (by kernel_rfl) _ rfl Try.ntmps39 (Nat.le_of_ble_eq_true rfl) plenumlaw28_FewChange_h h
  · cases h
noncomputable def plenumlaw28_Few_c : Code := (Try.f12.body).getD .skip
def plenumlaw28_Few_h : Hint := (.two .n (.two .n (.two .n (.join [1, 2] (.two .n (.two .n .n)) (.two .n (.join [1, 2, 3] (.two .n (.one (.lp [(3, ty_api_Change, 6)] [1, 2, 3, 4] [1, 2, 3] (.two (.two .n (.two .n .n)) (.two (.one .n) .n))))) (.two .n (.two .n .n))))))))
noncomputable def plenumlaw28_Few_env (m : Nat) : Env := [(37, .tell (plenumlaw28_text_t m)), (38, .tell (plenumlaw28_stmts_t m)), (39, .tell (plenumlaw28_FewChange_t m))]
noncomputable abbrev plenumlaw28_Few_fin : KO (AV × List AObj) := tellFK Try.prog [.cell 2 27]
noncomputable def plenumlaw28_Few_r2 (m : Nat) (s : ASt) : RO := joinW Try.prog GG (plenumlaw28_Few_env m) m ⟨40, []⟩ (cdR (cdR (cdR (cdR (cdR (cdR plenumlaw28_Few_c)))))) plenumlaw28_Few_h.r.r.r.r.r.r s (plenumlaw28_Few_fin)
noncomputable def plenumlaw28_Few_b1 (m : Nat) (s : ASt) (kc : ASt → RO) (kx : KO (AV × List AObj)) : RO := bodyW Try.prog GG (plenumlaw28_Few_env m) m ⟨40, []⟩ (cdL (cdL (cdR (cdL (cdR (cdR (cdR (cdR (cdR plenumlaw28_Few_c))))))))) plenumlaw28_Few_h.r.r.r.r.r.l.r.c.c [1, 2, 3, 4] [1, 2, 3] s kc kx
noncomputable def plenumlaw28_Few_r1 (m : Nat) (s : ASt) : RO := joinW Try.prog GG (plenumlaw28_Few_env m) m ⟨40, []⟩ (cdR (cdR (cdR (cdR plenumlaw28_Few_c)))) plenumlaw28_Few_h.r.r.r.r s (plenumlaw28_Few_fin)
noncomputable def plenumlaw28_Few (m : Nat) (t0 : AV) : RO := exec Try.prog GG (plenumlaw28_Few_env m) m ⟨40, []⟩ plenumlaw28_Few_c plenumlaw28_Few_h ⟨[], argsT 0 [t0]⟩ (plenumlaw28_Few_fin)
theorem plenumlaw28_Few_r2_eq (m : Nat) (H : List AObj) (t1 t2 t3 : AV) : plenumlaw28_Few_r2 m ⟨H, [(1, t1), (2, t2), (3, t3)]⟩ =
  fieldE (some (7, 1)) t1 fun t38 =>
  storeE 1 H t38 t3 fun H2 =>
  loadE 10 H2 t1 fun t39 =>
  storeE 10 H2 t2 t39 fun H3 =>
  loadE 10 H3 t2 fun t9000 =>
  tellK H3 (ro H3 t9000) := by
  refine (joinW_eq Try.prog GG (plenumlaw28_Few_env m) m ⟨40, []⟩ (cdR (cdR (cdR (cdR (cdR (cdR plenumlaw28_Few_c)))))) plenumlaw28_Few_h.r.r.r.r.r.r ⟨H, [(1, t1), (2, t2), (3, t3)]⟩ (plenumlaw28_Few_fin)).trans ?_
  kernel_rfl
theorem plenumlaw28_Few_b1_eq (m : Nat) (H : List AObj) (t1 t2 t3 t4 : AV) (kc : ASt → RO) (kx : KO (AV × List AObj)) : plenumlaw28_Few_b1 m ⟨H, [(1, t1), (2, t2), (3, t3), (4, t4)]⟩ kc kx =
  fieldE (some (7, 1)) t1 fun t22 =>
  loadE 1 H t22 fun t23 =>
  lenE false true H t23 fun t24 =>
  binE none false false .lss t4 t24 fun t25 =>
  condE t25 (
   fieldE (some (7, 1)) t1 fun t29 =>
   loadE 1 H t29 fun t30 =>
   idxSE 8 H t30 t4 fun t32 =>
   loadE 8 H t32 fun t33 =>
   tellE (plenumlaw28_FewChange m (ro H t33)) [(ro H t33)] fun t34 =>
   buildSE (some (ty_api_Change, 6)) 1 [(0, t34)] fun t35 =>
   appE (some (ty_api_Change, 6)) H t3 t35 fun t36 H2 =>
   binE none false false .add t4 (V (.int .i64 1)) fun t27 =>
   backE H.length H2 [(1, t1), (2, t2), (3, t36), (4, t27)] kc) (
   kx (.exit 0) ⟨H, [(1, t1), (2, t2), (3, t3)]⟩) := by
  refine (bodyW_eq Try.prog GG (plenumlaw28_Few_env m) m ⟨40, []⟩ (cdL (cdL (cdR (cdL (cdR (cdR (cdR (cdR (cdR plenumlaw28_Few_c))))))))) plenumlaw28_Few_h.r.r.r.r.r.l.r.c.c [1, 2, 3, 4] [1, 2, 3] ⟨H, [(1, t1), (2, t2), (3, t3), (4, t4)]⟩ kc kx).trans ?_
  kernel_rfl
theorem plenumlaw28_Few_r1_eq (m : Nat) (H : List AObj) (t1 t2 : AV) : plenumlaw28_Few_r1 m ⟨H, [(1, t1), (2, t2)]⟩ =
  rowE (V (.slice none 0 0)) ty_api_Change 6 H fun t3 H2 =>
  iterC m (plenumlaw28_Few_b1 m) ⟨H2, [(1, t1), (2, t2), (3, t3), (4, (V (.int .i64 0)))]⟩ (blockX 0 (seqX (fun s => plenumlaw28_Few_r2 m ⟨s.H, [(1, gt s.T 1), (2, gt s.T 2), (3, gt s.T 3)]⟩) (plenumlaw28_Few_fin))) := by
  refine (joinW_eq Try.prog GG (plenumlaw28_Few_env m) m ⟨40, []⟩ (cdR (cdR (cdR (cdR plenumlaw28_Few_c)))) plenumlaw28_Few_h.r.r.r.r ⟨H, [(1, t1), (2, t2)]⟩ (plenumlaw28_Few_fin)).trans ?_
  kernel_rfl
theorem plenumlaw28_Few_eq (m : Nat) (t0 : AV) : plenumlaw28_Few m t0 =
  boxE ty_api_Msg [] t0 fun t1 H1 =>
  allocE (some zc_api_Msg) ty_api_Msg H1 fun t2 H2 =>
  fieldE (some (5, 1)) t1 fun t5 =>
  loadE 1 H2 t5 fun t6 =>
  tellE (plenumlaw28_text m (ro H2 t6)) [(ro H2 t6)] fun t7 =>
  fieldE (some (5, 1)) t1 fun t8 =>
  storeE 1 H2 t8 t7 fun H3 =>
  fieldE (some (6, 1)) t1 fun t9 =>
  loadE 1 H3 t9 fun t10 =>
  tellE (plenumlaw28_stmts m (ro H3 t10)) [(ro H3 t10)] fun t11 =>
  fieldE (some (6, 1)) t1 fun t12 =>
  storeE 1 H3 t12 t11 fun H4 =>
  fieldE (some (7, 1)) t1 fun t13 =>
  loadE 1 H4 t13 fun t14 =>
  lenE false true H4 t14 fun t15 =>
  binE none false false .gtr t15 (V (.int .i64 66)) fun t16 =>
  condE t16 (
   fieldE (some (7, 1)) t1 fun t17 =>
   loadE 1 H4 t17 fun t18 =>
   sliceE false (some (ty_api_Change, 8)) H4 t18 none (some (V (.int .i64 66))) fun t19 =>
   fieldE (some (7, 1)) t1 fun t20 =>
   storeE 1 H4 t20 t19 fun H5 =>
   plenumlaw28_Few_r1 m ⟨H5, [(1, t1), (2, t2)]⟩) (
   plenumlaw28_Few_r1 m ⟨H4, [(1, t1), (2, t2)]⟩) := by
  refine (tellX Try.prog GG (plenumlaw28_Few_env m) m ⟨40, []⟩ plenumlaw28_Few_c plenumlaw28_Few_h ⟨[], argsT 0 [t0]⟩ [.cell 2 27]).trans ?_
  kernel_rfl
noncomputable def plenumlaw28_Few_t (m : Nat) : List AV → RO | [t0] => plenumlaw28_Few m t0 | _ => none
theorem plenumlaw28_Few_ok (m : Nat) : ∀ args X H', plenumlaw28_Few_t m args = some (X, H') → ACp Try.prog GG 12 args X := by
  intro args X H' h
  unfold plenumlaw28_Few_t at h
  split at h
  · exact tell_okK MIX (by
    intro f e h
    simp only [plenumlaw28_Few_env, Prod.mk.injEq, List.mem_cons, List.not_mem_nil, or_false] at h
    rcases h with ⟨rfl, rfl⟩ | ⟨rfl, rfl⟩ | ⟨rfl, rfl⟩
    · exact plenumlaw28_text_ok m
    · exact plenumlaw28_stmts_ok m
    · exact plenumlaw28_FewChange_ok m) (f := 12) (c := plenumlaw28_Few_c) Try.func12 rfl (by kernel_rfl) _ rfl Try.ntmps12 (Nat.le_of_ble_eq_true rfl) plenumlaw28_Few_h h
  · cases h
end Go.Proofs.Ytbdbmfifclmpcaa

namespace Go.Proofs.Ytbdbmfifclmpcaa
open Go.RowKit
set_option linter.unusedVariables false
set_option maxRecDepth 100000
def zc_wire_no : List AV := [(V (.int .i64 0)), (V (.int .i64 0))]
def pl_api_Cert : List (Nat × Nat) := [(0, 1), (1, 1), (2, 1), (3, 1), (4, 1)]
def pl_api_Change : List (Nat × Nat) := [(0, 1), (1, 1), (2, 1), (3, 1), (4, 1), (5, 1)]
def pl_api_Stmt : List (Nat × Nat) := [(0, 1), (1, 1), (2, 1), (3, 1), (4, 1)]
def pl_wire_no : List (Nat × Nat) := [(0, 1), (1, 1)]
noncomputable def wire_reader_num_c : Code := (Try.f22.body).getD .skip
def wire_reader_num_h : Hint := (.two .n (.two .n (.join [0, 5, 6, 7] (.join [0, 5, 6, 7, 29] .n (.two .n .n)) (.join [0, 5, 6] (.two .n (.two .n .n)) (.two .n (.two .n .n))))))
noncomputable def wire_reader_num_env (m : Nat) : Env := [(60, .tell (varint_Cut_t m)), (999999, .pan fun _ _ => none)]
noncomputable abbrev wire_reader_num_fin (n0 : Nat) : KO (AV × List AObj) := panFK Try.prog n0 [.tmp 4]
noncomputable def wire_reader_num_r3 (m : Nat) (n0k : Nat) (s : ASt) : RO := joinW Try.prog GG (wire_reader_num_env m) m ⟨49, []⟩ (cdR (cdR (cdR (cdR wire_reader_num_c)))) wire_reader_num_h.r.r.r.r s (wire_reader_num_fin n0k)
noncomputable def wire_reader_num_r2 (m : Nat) (n0k : Nat) (s : ASt) : RO := joinW Try.prog GG (wire_reader_num_env m) m ⟨49, []⟩ (cdR (cdR (cdR wire_reader_num_c))) wire_reader_num_h.r.r.r s (wire_reader_num_fin n0k)
noncomputable def wire_reader_num_r1 (m : Nat) (n0k : Nat) (s : ASt) : RO := joinW Try.prog GG (wire_reader_num_env m) m ⟨49, []⟩ (cdR (cdL (cdR (cdR wire_reader_num_c)))) wire_reader_num_h.r.r.l.r s (seqX (fun s => wire_reader_num_r2 m n0k ⟨s.H, [(0, gt s.T 0), (5, gt s.T 5), (6, gt s.T 6), (7, gt s.T 7)]⟩) (wire_reader_num_fin n0k))
noncomputable def wire_reader_num (m : Nat) (t0 t1 : AV) (H : List AObj) : RO := exec Try.prog GG (wire_reader_num_env m) m ⟨49, []⟩ wire_reader_num_c wire_reader_num_h ⟨H, argsT 0 [t0, t1]⟩ (wire_reader_num_fin H.length)
theorem wire_reader_num_r3_eq (m : Nat) (n0k : Nat) (H : List AObj) (t0 t5 t6 : AV) : wire_reader_num_r3 m n0k ⟨H, [(0, t0), (5, t5), (6, t6)]⟩ =
  nilE t0 fun t40 =>
  fieldE (some (1, 1)) t40 fun t41 =>
  loadE 1 H t41 fun t42 =>
  binE none false false .add t42 t6 fun t44 =>
  nilE t0 fun t45 =>
  fieldE (some (1, 1)) t45 fun t46 =>
  storeE 1 H t46 t44 fun H2 =>
  convE false (some .i64) true false (ro H2 t5) fun t48 =>
  keepK n0k H2 (ro H2 t48) := by
  refine (joinW_eq Try.prog GG (wire_reader_num_env m) m ⟨49, []⟩ (cdR (cdR (cdR (cdR wire_reader_num_c)))) wire_reader_num_h.r.r.r.r ⟨H, [(0, t0), (5, t5), (6, t6)]⟩ (wire_reader_num_fin n0k)).trans ?_
  kernel_rfl
theorem wire_reader_num_r2_eq (m : Nat) (n0k : Nat) (H : List AObj) (t0 t5 t6 t7 : AV) : wire_reader_num_r2 m n0k ⟨H, [(0, t0), (5, t5), (6, t6), (7, t7)]⟩ =
  binE none false false .neq t7 (V (.int .i64 0)) fun t31 =>
  condE t31 (
   nilE t0 fun t34 =>
   fieldE (some (1, 1)) t34 fun t35 =>
   loadE 1 H t35 fun t36 =>
   buildE (some pl_wire_no) (some zc_wire_no) [(0, t7), (1, t36)] fun t37 =>
   whenE true (ifE 47 t37 fun t38 =>
   panicE t38 H fun u1 H2 => panKE n0k H2 u1)) (
   wire_reader_num_r3 m n0k ⟨H, [(0, t0), (5, t5), (6, t6)]⟩) := by
  refine (joinW_eq Try.prog GG (wire_reader_num_env m) m ⟨49, []⟩ (cdR (cdR (cdR wire_reader_num_c))) wire_reader_num_h.r.r.r ⟨H, [(0, t0), (5, t5), (6, t6), (7, t7)]⟩ (wire_reader_num_fin n0k)).trans ?_
  kernel_rfl
theorem wire_reader_num_r1_eq (m : Nat) (n0k : Nat) (H : List AObj) (t0 t5 t6 t7 t29 : AV) : wire_reader_num_r1 m n0k ⟨H, [(0, t0), (5, t5), (6, t6), (7, t7), (29, t29)]⟩ =
  condE t29 (
   wire_reader_num_r2 m n0k ⟨H, [(0, t0), (5, t5), (6, t6), (7, (V (.int .i64 8)))]⟩) (
   wire_reader_num_r2 m n0k ⟨H, [(0, t0), (5, t5), (6, t6), (7, t7)]⟩) := by
  refine (joinW_eq Try.prog GG (wire_reader_num_env m) m ⟨49, []⟩ (cdR (cdL (cdR (cdR wire_reader_num_c)))) wire_reader_num_h.r.r.l.r ⟨H, [(0, t0), (5, t5), (6, t6), (7, t7), (29, t29)]⟩ (seqX (fun s => wire_reader_num_r2 m n0k ⟨s.H, [(0, gt s.T 0), (5, gt s.T 5), (6, gt s.T 6), (7, gt s.T 7)]⟩) (wire_reader_num_fin n0k))).trans ?_
  kernel_rfl
theorem wire_reader_num_eq (m : Nat) (t0 t1 : AV) (H : List AObj) : wire_reader_num m t0 t1 H =
  nilE t0 fun t10 =>
  fieldE (some (0, 1)) t10 fun t11 =>
  loadE 1 H t11 fun t12 =>
  nilE t0 fun t14 =>
  fieldE (some (1, 1)) t14 fun t15 =>
  loadE 1 H t15 fun t16 =>
  sliceE false (some (ty_uint8, 1)) H t12 (some t16) none fun t17 =>
  tellE (varint_Cut_t m [(ro H t17)]) [(ro H t17)] fun t18 =>
  extE t18 0 fun t19 =>
  extE t18 1 fun t20 =>
  extE t18 2 fun t21 =>
  binE none false false .eql t21 (V (.int .i64 0)) fun t23 =>
  condE t23 (
   convE false (some .u64) true false (ro H t1) fun t27 =>
   binE none false false .gtr t19 t27 fun t28 =>
   wire_reader_num_r1 m H.length ⟨H, [(0, t0), (5, t19), (6, t20), (7, t21), (29, t28)]⟩) (
   wire_reader_num_r1 m H.length ⟨H, [(0, t0), (5, t19), (6, t20), (7, t21), (29, (V (.bool false)))]⟩) := by
  refine (panX Try.prog GG (wire_reader_num_env m) m ⟨49, []⟩ H.length wire_reader_num_c wire_reader_num_h ⟨H, argsT 0 [t0, t1]⟩ [.tmp 4]).trans ?_
  kernel_rfl
noncomputable def wire_reader_num_t (m : Nat) : List AV → List AObj → RO | [t0, t1], H => wire_reader_num m t0 t1 H | _, _ => none
theorem wire_reader_num_ok (m : Nat) : ∀ args H X H', wire_reader_num_t m args H = some (X, H') → ACx Try.prog GG 22 args H (Is X H') := by
  intro args H X H' h
  unfold wire_reader_num_t at h
  split at h
  · exact pan_ok MIX (by
    intro f e h
    simp only [wire_reader_num_env, Prod.mk.injEq, Prod.mk.injEq, List.mem_cons, List.not_mem_nil, or_false] at h
    rcases h with ⟨rfl, rfl⟩ | ⟨rfl, rfl⟩
    · exact varint_Cut_ok m
    · intro _ _ _ _ h; cases h) (f := 22) (c := wire_reader_num_c) Try.func22 rfl (by kernel_rfl) _ rfl Try.ntmps22 (Nat.le_of_ble_eq_true rfl) wire_reader_num_h h
  · cases h
noncomputable def wire_reader_party_c : Code := (Try.f23.body).getD .skip
def wire_reader_party_h : Hint := (.two .n (.two .n .n))
noncomputable def wire_reader_party_env (m : Nat) : Env := [(22, .pan (wire_reader_num_t m))]
noncomputable abbrev wire_reader_party_fin (n0 : Nat) : KO (AV × List AObj) := panFK Try.prog n0 [.tmp 2]
noncomputable def wire_reader_party (m : Nat) (t0 : AV) (H : List AObj) : RO := exec Try.prog GG (wire_reader_party_env m) m ⟨5, []⟩ wire_reader_party_c wire_reader_party_h ⟨H, argsT 0 [t0]⟩ (wire_reader_party_fin H.length)
theorem wire_reader_party_eq (m : Nat) (t0 : AV) (H : List AObj) : wire_reader_party m t0 H =
  panE (wire_reader_num m (ro H t0) (V (.int .i64 63)) H) (fun t4 H2 =>
  keepK H.length H2 (ro H2 t4)) (fun u1 H2 => panKE H.length H2 u1) := by
  refine (panX Try.prog GG (wire_reader_party_env m) m ⟨5, []⟩ H.length wire_reader_party_c wire_reader_party_h ⟨H, argsT 0 [t0]⟩ [.tmp 2]).trans ?_
  kernel_rfl
noncomputable def wire_reader_party_t (m : Nat) : List AV → List AObj → RO | [t0], H => wire_reader_party m t0 H | _, _ => none
theorem wire_reader_party_ok (m : Nat) : ∀ args H X H', wire_reader_party_t m args H = some (X, H') → ACx Try.prog GG 23 args H (Is X H') := by
  intro args H X H' h
  unfold wire_reader_party_t at h
  split at h
  · exact pan_ok MIX (by
    intro f e h
    simp only [wire_reader_party_env, Prod.mk.injEq, List.mem_cons, List.not_mem_nil, or_false] at h
    obtain ⟨rfl, rfl⟩ := h
    · exact wire_reader_num_ok m) (f := 23) (c := wire_reader_party_c) Try.func23 rfl (by kernel_rfl) _ rfl Try.ntmps23 (Nat.le_of_ble_eq_true rfl) wire_reader_party_h h
  · cases h
noncomputable def wire_reader_any_c : Code := (Try.f24.body).getD .skip
def wire_reader_any_h : Hint := (.two .n (.two .n .n))
noncomputable def wire_reader_any_env (m : Nat) : Env := [(22, .pan (wire_reader_num_t m))]
noncomputable abbrev wire_reader_any_fin (n0 : Nat) : KO (AV × List AObj) := panFK Try.prog n0 [.tmp 2]
noncomputable def wire_reader_any (m : Nat) (t0 : AV) (H : List AObj) : RO := exec Try.prog GG (wire_reader_any_env m) m ⟨5, []⟩ wire_reader_any_c wire_reader_any_h ⟨H, argsT 0 [t0]⟩ (wire_reader_any_fin H.length)
theorem wire_reader_any_eq (m : Nat) (t0 : AV) (H : List AObj) : wire_reader_any m t0 H =
  panE (wire_reader_num m (ro H t0) (V (.int .i64 2147483647)) H) (fun t4 H2 =>
  keepK H.length H2 (ro H2 t4)) (fun u1 H2 => panKE H.length H2 u1) := by
  refine (panX Try.prog GG (wire_reader_any_env m) m ⟨5, []⟩ H.length wire_reader_any_c wire_reader_any_h ⟨H, argsT 0 [t0]⟩ [.tmp 2]).trans ?_
  kernel_rfl
noncomputable def wire_reader_any_t (m : Nat) : List AV → List AObj → RO | [t0], H => wire_reader_any m t0 H | _, _ => none
theorem wire_reader_any_ok (m : Nat) : ∀ args H X H', wire_reader_any_t m args H = some (X, H') → ACx Try.prog GG 24 args H (Is X H') := by
  intro args H X H' h
  unfold wire_reader_any_t at h
  split at h
  · exact pan_ok MIX (by
    intro f e h
    simp only [wire_reader_any_env, Prod.mk.injEq, List.mem_cons, List.not_mem_nil, or_false] at h
    obtain ⟨rfl, rfl⟩ := h
    · exact wire_reader_num_ok m) (f := 24) (c := wire_reader_any_c) Try.func24 rfl (by kernel_rfl) _ rfl Try.ntmps24 (Nat.le_of_ble_eq_true rfl) wire_reader_any_h h
  · cases h
noncomputable def wire_reader_text_c : Code := (Try.f25.body).getD .skip
def wire_reader_text_h : Hint := (.two .n (.two .n (.join [0, 3] (.two .n (.two .n .n)) (.two .n (.two .n .n)))))
noncomputable def wire_reader_text_env (m : Nat) : Env := [(22, .pan (wire_reader_num_t m))]
noncomputable abbrev wire_reader_text_fin (n0 : Nat) : KO (AV × List AObj) := panFK Try.prog n0 [.tmp 2]
noncomputable def wire_reader_text_r1 (m : Nat) (n0k : Nat) (s : ASt) : RO := joinW Try.prog GG (wire_reader_text_env m) m ⟨48, []⟩ (cdR (cdR (cdR wire_reader_text_c))) wire_reader_text_h.r.r.r s (wire_reader_text_fin n0k)
noncomputable def wire_reader_text (m : Nat) (t0 : AV) (H : List AObj) : RO := exec Try.prog GG (wire_reader_text_env m) m ⟨48, []⟩ wire_reader_text_c wire_reader_text_h ⟨H, argsT 0 [t0]⟩ (wire_reader_text_fin H.length)
theorem wire_reader_text_r1_eq (m : Nat) (n0k : Nat) (H : List AObj) (t0 t3 : AV) : wire_reader_text_r1 m n0k ⟨H, [(0, t0), (3, t3)]⟩ =
  nilE t0 fun t25 =>
  fieldE (some (1, 1)) t25 fun t26 =>
  loadE 1 H t26 fun t27 =>
  binE none false false .add t27 t3 fun t29 =>
  nilE t0 fun t30 =>
  fieldE (some (1, 1)) t30 fun t31 =>
  storeE 1 H t31 t29 fun H2 =>
  nilE t0 fun t33 =>
  fieldE (some (0, 1)) t33 fun t34 =>
  loadE 1 H2 t34 fun t35 =>
  nilE t0 fun t37 =>
  fieldE (some (1, 1)) t37 fun t38 =>
  loadE 1 H2 t38 fun t39 =>
  binE none false false .sub t39 t3 fun t41 =>
  nilE t0 fun t43 =>
  fieldE (some (1, 1)) t43 fun t44 =>
  loadE 1 H2 t44 fun t45 =>
  sliceE false (some (ty_uint8, 1)) H2 t35 (some t41) (some t45) fun t46 =>
  convE false none true true (ro H2 t46) fun t47 =>
  keepK n0k H2 (ro H2 t47) := by
  refine (joinW_eq Try.prog GG (wire_reader_text_env m) m ⟨48, []⟩ (cdR (cdR (cdR wire_reader_text_c))) wire_reader_text_h.r.r.r ⟨H, [(0, t0), (3, t3)]⟩ (wire_reader_text_fin n0k)).trans ?_
  kernel_rfl
theorem wire_reader_text_eq (m : Nat) (t0 : AV) (H : List AObj) : wire_reader_text m t0 H =
  panE (wire_reader_num m (ro H t0) (V (.int .i64 65536)) H) (fun t5 H2 =>
  nilE t0 fun t8 =>
  fieldE (some (0, 1)) t8 fun t9 =>
  loadE 1 H2 t9 fun t10 =>
  lenE false true H2 t10 fun t11 =>
  nilE t0 fun t13 =>
  fieldE (some (1, 1)) t13 fun t14 =>
  loadE 1 H2 t14 fun t15 =>
  binE none false false .sub t11 t15 fun t16 =>
  binE none false false .gtr t5 t16 fun t17 =>
  condE t17 (
   nilE t0 fun t19 =>
   fieldE (some (1, 1)) t19 fun t20 =>
   loadE 1 H2 t20 fun t21 =>
   buildE (some pl_wire_no) (some zc_wire_no) [(0, (V (.int .i64 2))), (1, t21)] fun t22 =>
   whenE true (ifE 47 t22 fun t23 =>
   panicE t23 H2 fun u1 H3 => panKE H.length H3 u1)) (
   wire_reader_text_r1 m H.length ⟨H2, [(0, t0), (3, t5)]⟩)) (fun u1 H2 => panKE H.length H2 u1) := by
  refine (panX Try.prog GG (wire_reader_text_env m) m ⟨48, []⟩ H.length wire_reader_text_c wire_reader_text_h ⟨H, argsT 0 [t0]⟩ [.tmp 2]).trans ?_
  kernel_rfl
noncomputable def wire_reader_text_t (m : Nat) : List AV → List AObj → RO | [t0], H => wire_reader_text m t0 H | _, _ => none
theorem wire_reader_text_ok (m : Nat) : ∀ args H X H', wire_reader_text_t m args H = some (X, H') → ACx Try.prog GG 25 args H (Is X H') := by
  intro args H X H' h
  unfold wire_reader_text_t at h
  split at h
  · exact pan_ok MIX (by
    intro f e h
    simp only [wire_reader_text_env, Prod.mk.injEq, List.mem_cons, List.not_mem_nil, or_false] at h
    obtain ⟨rfl, rfl⟩ := h
    · exact wire_reader_num_ok m) (f := 25) (c := wire_reader_text_c) Try.func25 rfl (by kernel_rfl) _ rfl Try.ntmps25 (Nat.le_of_ble_eq_true rfl) wire_reader_text_h h
  · cases h
noncomputable def wire_reader_stmt_c : Code := (Try.f27.body).getD .skip
def wire_reader_stmt_h : Hint := (.two .n (.two .n .n))
noncomputable def wire_reader_stmt_env (m : Nat) : Env := [(23, .pan (wire_reader_party_t m)), (24, .pan (wire_reader_any_t m))]
noncomputable abbrev wire_reader_stmt_fin (n0 : Nat) : KO (AV × List AObj) := panFK Try.prog n0 [.cell 2 56]
noncomputable def wire_reader_stmt (m : Nat) (t0 : AV) (H : List AObj) : RO := exec Try.prog GG (wire_reader_stmt_env m) m ⟨14, []⟩ wire_reader_stmt_c wire_reader_stmt_h ⟨H, argsT 0 [t0]⟩ (wire_reader_stmt_fin H.length)
theorem wire_reader_stmt_eq (m : Nat) (t0 : AV) (H : List AObj) : wire_reader_stmt m t0 H =
  allocE (some zc_api_Stmt) ty_api_Stmt H fun t2 H2 =>
  panE (wire_reader_party m (ro H2 t0) H2) (fun t4 H3 =>
  panE (wire_reader_any m (ro H3 t0) H3) (fun t6 H4 =>
  panE (wire_reader_any m (ro H4 t0) H4) (fun t8 H5 =>
  panE (wire_reader_any m (ro H5 t0) H5) (fun t10 H6 =>
  panE (wire_reader_any m (ro H6 t0) H6) (fun t12 H7 =>
  buildE (some pl_api_Stmt) (some zc_api_Stmt) [(0, t4), (1, t6), (2, t8), (3, t10), (4, t12)] fun t13 =>
  storeE 7 H7 t2 t13 fun H8 =>
  loadE 7 H8 t2 fun t9000 =>
  keepK H.length H8 (ro H8 t9000)) (fun u1 H7 => panKE H.length H7 u1)) (fun u1 H6 => panKE H.length H6 u1)) (fun u1 H5 => panKE H.length H5 u1)) (fun u1 H4 => panKE H.length H4 u1)) (fun u1 H3 => panKE H.length H3 u1) := by
  refine (panX Try.prog GG (wire_reader_stmt_env m) m ⟨14, []⟩ H.length wire_reader_stmt_c wire_reader_stmt_h ⟨H, argsT 0 [t0]⟩ [.cell 2 56]).trans ?_
  kernel_rfl
noncomputable def wire_reader_stmt_t (m : Nat) : List AV → List AObj → RO | [t0], H => wire_reader_stmt m t0 H | _, _ => none
theorem wire_reader_stmt_ok (m : Nat) : ∀ args H X H', wire_reader_stmt_t m args H = some (X, H') → ACx Try.prog GG 27 args H (Is X H') := by
  intro args H X H' h
  unfold wire_reader_stmt_t at h
  split at h
  · exact pan_ok MIX (by
    intro f e h
    simp only [wire_reader_stmt_env, Prod.mk.injEq, List.mem_cons, List.not_mem_nil, or_false] at h
    rcases h with ⟨rfl, rfl⟩ | ⟨rfl, rfl⟩
    · exact wire_reader_party_ok m
    · exact wire_reader_any_ok m) (f := 27) (c := wire_reader_stmt_c) Try.func27 rfl (by kernel_rfl) _ rfl Try.ntmps27 (Nat.le_of_ble_eq_true rfl) wire_reader_stmt_h h
  · cases h
noncomputable def wire_some_Stmt_c : Code := (Try.f26.body).getD .skip
def wire_some_Stmt_h : Hint := (.two .n (.two .n (.join [5] (.two .n (.one (.lp [(5, ty_api_Stmt, 5)] [1, 5, 7, 8] [5] (.two .n (.two (.two .n .n) (.two (.one .n) .n)))))) (.two .n .n))))
noncomputable def wire_some_Stmt_env (m : Nat) : Env := [(22, .pan (wire_reader_num_t m)), (27, .pan (wire_reader_stmt_t m))]
noncomputable abbrev wire_some_Stmt_fin (n0 : Nat) : KO (AV × List AObj) := panFK Try.prog n0 [.tmp 4]
noncomputable def wire_some_Stmt_r1 (m : Nat) (n0k : Nat) (s : ASt) : RO := joinW Try.prog GG (wire_some_Stmt_env m) m ⟨17, []⟩ (cdR (cdR (cdR wire_some_Stmt_c))) wire_some_Stmt_h.r.r.r s (wire_some_Stmt_fin n0k)
noncomputable def wire_some_Stmt_b1 (m : Nat) (s : ASt) (kc : ASt → RO) (kx : KO (AV × List AObj)) : RO := bodyW Try.prog GG (wire_some_Stmt_env m) m ⟨17, []⟩ (cdL (cdL (cdR (cdL (cdR (cdR wire_some_Stmt_c)))))) wire_some_Stmt_h.r.r.l.r.c.c [1, 5, 7, 8] [5] s kc kx
noncomputable def wire_some_Stmt (m : Nat) (t0 t1 : AV) (H : List AObj) : RO := exec Try.prog GG (wire_some_Stmt_env m) m ⟨17, []⟩ wire_some_Stmt_c wire_some_Stmt_h ⟨H, argsT 0 [t0, t1]⟩ (wire_some_Stmt_fin H.length)
theorem wire_some_Stmt_r1_eq (m : Nat) (n0k : Nat) (H : List AObj) (t5 : AV) : wire_some_Stmt_r1 m n0k ⟨H, [(5, t5)]⟩ =
  keepK n0k H (ro H t5) := by
  refine (joinW_eq Try.prog GG (wire_some_Stmt_env m) m ⟨17, []⟩ (cdR (cdR (cdR wire_some_Stmt_c))) wire_some_Stmt_h.r.r.r ⟨H, [(5, t5)]⟩ (wire_some_Stmt_fin n0k)).trans ?_
  kernel_rfl
theorem wire_some_Stmt_b1_eq (m : Nat) (H : List AObj) (t1 t5 t7 t8 : AV) (kc : ASt → RO) (kx : KO (AV × List AObj)) : wire_some_Stmt_b1 m ⟨H, [(1, t1), (5, t5), (7, t7), (8, t8)]⟩ kc kx =
  binE none false false .lss t8 t7 fun t9 =>
  condE t9 (
   callVPE (wire_some_Stmt_env m) t1 [] H (fun t12 H2 =>
   buildSE (some (ty_api_Stmt, 5)) 1 [(0, t12)] fun t13 =>
   appE (some (ty_api_Stmt, 5)) H2 t5 t13 fun t14 H3 =>
   binE none false false .add t8 (V (.int .i64 1)) fun t15 =>
   backE H.length H3 [(1, t1), (5, t14), (7, t7), (8, t15)] kc) (fun u1 H2 => kx (.panic (pch u1)) ⟨H2, [(5, t5)]⟩)) (
   kx (.exit 0) ⟨H, [(5, t5)]⟩) := by
  refine (bodyW_eq Try.prog GG (wire_some_Stmt_env m) m ⟨17, []⟩ (cdL (cdL (cdR (cdL (cdR (cdR wire_some_Stmt_c)))))) wire_some_Stmt_h.r.r.l.r.c.c [1, 5, 7, 8] [5] ⟨H, [(1, t1), (5, t5), (7, t7), (8, t8)]⟩ kc kx).trans ?_
  kernel_rfl
theorem wire_some_Stmt_eq (m : Nat) (t0 t1 : AV) (H : List AObj) : wire_some_Stmt m t0 t1 H =
  panE (wire_reader_num m (ro H t0) (V (.int .i64 64)) H) (fun t7 H2 =>
  rowE (V (.slice none 0 0)) ty_api_Stmt 5 H2 fun t5 H3 =>
  iterC m (wire_some_Stmt_b1 m) ⟨H3, [(1, t1), (5, t5), (7, t7), (8, (V (.int .i64 0)))]⟩ (blockX 0 (seqX (fun s => wire_some_Stmt_r1 m H.length ⟨s.H, [(5, gt s.T 5)]⟩) (wire_some_Stmt_fin H.length)))) (fun u1 H2 => panKE H.length H2 u1) := by
  refine (panX Try.prog GG (wire_some_Stmt_env m) m ⟨17, []⟩ H.length wire_some_Stmt_c wire_some_Stmt_h ⟨H, argsT 0 [t0, t1]⟩ [.tmp 4]).trans ?_
  kernel_rfl
noncomputable def wire_some_Stmt_t (m : Nat) : List AV → List AObj → RO | [t0, t1], H => wire_some_Stmt m t0 t1 H | _, _ => none
theorem wire_some_Stmt_ok (m : Nat) : ∀ args H X H', wire_some_Stmt_t m args H = some (X, H') → ACx Try.prog GG 26 args H (Is X H') := by
  intro args H X H' h
  unfold wire_some_Stmt_t at h
  split at h
  · exact pan_ok MIX (by
    intro f e h
    simp only [wire_some_Stmt_env, Prod.mk.injEq, List.mem_cons, List.not_mem_nil, or_false] at h
    rcases h with ⟨rfl, rfl⟩ | ⟨rfl, rfl⟩
    · exact wire_reader_num_ok m
    · exact wire_reader_stmt_ok m) (f := 26) (c := wire_some_Stmt_c) Try.func26 rfl (by kernel_rfl) _ rfl Try.ntmps26 (Nat.le_of_ble_eq_true rfl) wire_some_Stmt_h h
  · cases h
noncomputable def wire_reader_cert_c : Code := (Try.f62.body).getD .skip
def wire_reader_cert_h : Hint := (.two .n (.two .n (.two .n (.two .n .n))))
noncomputable def wire_reader_cert_env (m : Nat) : Env := [(24, .pan (wire_reader_any_t m)), (25, .pan (wire_reader_text_t m)), (26, .pan (wire_some_Stmt_t m))]
noncomputable abbrev wire_reader_cert_fin (n0 : Nat) : KO (AV × List AObj) := panFK Try.prog n0 [.cell 2 89]
noncomputable def wire_reader_cert (m : Nat) (t0 : AV) (H : List AObj) : RO := exec Try.prog GG (wire_reader_cert_env m) m ⟨19, []⟩ wire_reader_cert_c wire_reader_cert_h ⟨H, argsT 0 [t0]⟩ (wire_reader_cert_fin H.length)
theorem wire_reader_cert_eq (m : Nat) (t0 : AV) (H : List AObj) : wire_reader_cert m t0 H =
  allocE (some zc_api_Cert) ty_api_Cert H fun t2 H2 =>
  panE (wire_reader_any m (ro H2 t0) H2) (fun t5 H3 =>
  panE (wire_reader_any m (ro H3 t0) H3) (fun t7 H4 =>
  panE (wire_reader_any m (ro H4 t0) H4) (fun t9 H5 =>
  panE (wire_reader_text m (ro H5 t0) H5) (fun t11 H6 =>
  buildE (some pl_api_Cert) (some zc_api_Cert) [(0, t5), (1, t7), (2, t9), (3, t11)] fun t12 =>
  allocE (some zc_api_Cert) ty_api_Cert H6 fun t3 H7 =>
  storeE 7 H7 t3 t12 fun H8 =>
  whenE (([t0] : List AV).all cap0) (
  panE (wire_some_Stmt m (ro H8 t0) (ro H8 (CL (.func 27) 1 [t0])) H8) (fun t16 H9 =>
  fieldE (some (4, 1)) t3 fun t17 =>
  storeE 1 H9 t17 t16 fun H10 =>
  loadE 7 H10 t3 fun t18 =>
  storeE 7 H10 t2 t18 fun H11 =>
  loadE 7 H11 t2 fun t9000 =>
  keepK H.length H11 (ro H11 t9000)) (fun u1 H9 => panKE H.length H9 u1))) (fun u1 H6 => panKE H.length H6 u1)) (fun u1 H5 => panKE H.length H5 u1)) (fun u1 H4 => panKE H.length H4 u1)) (fun u1 H3 => panKE H.length H3 u1) := by
  refine (panX Try.prog GG (wire_reader_cert_env m) m ⟨19, []⟩ H.length wire_reader_cert_c wire_reader_cert_h ⟨H, argsT 0 [t0]⟩ [.cell 2 89]).trans ?_
  kernel_rfl
noncomputable def wire_reader_cert_t (m : Nat) : List AV → List AObj → RO | [t0], H => wire_reader_cert m t0 H | _, _ => none
theorem wire_reader_cert_ok (m : Nat) : ∀ args H X H', wire_reader_cert_t m args H = some (X, H') → ACx Try.prog GG 62 args H (Is X H') := by
  intro args H X H' h
  unfold wire_reader_cert_t at h
  split at h
  · exact pan_ok MIX (by
    intro f e h
    simp only [wire_reader_cert_env, Prod.mk.injEq, List.mem_cons, List.not_mem_nil, or_false] at h
    rcases h with ⟨rfl, rfl⟩ | ⟨rfl, rfl⟩ | ⟨rfl, rfl⟩
    · exact wire_reader_any_ok m
    · exact wire_reader_text_ok m
    · exact wire_some_Stmt_ok m) (f := 62) (c := wire_reader_cert_c) Try.func62 rfl (by kernel_rfl) _ rfl Try.ntmps62 (Nat.le_of_ble_eq_true rfl) wire_reader_cert_h h
  · cases h
noncomputable def wire_some_Cert_c : Code := (Try.f61.body).getD .skip
def wire_some_Cert_h : Hint := (.two .n (.two .n (.join [5] (.two .n (.one (.lp [(5, ty_api_Cert, 5)] [1, 5, 7, 8] [5] (.two .n (.two (.two .n .n) (.two (.one .n) .n)))))) (.two .n .n))))
noncomputable def wire_some_Cert_env (m : Nat) : Env := [(22, .pan (wire_reader_num_t m)), (62, .pan (wire_reader_cert_t m))]
noncomputable abbrev wire_some_Cert_fin (n0 : Nat) : KO (AV × List AObj) := panFK Try.prog n0 [.tmp 4]
noncomputable def wire_some_Cert_r1 (m : Nat) (n0k : Nat) (s : ASt) : RO := joinW Try.prog GG (wire_some_Cert_env m) m ⟨17, []⟩ (cdR (cdR (cdR wire_some_Cert_c))) wire_some_Cert_h.r.r.r s (wire_some_Cert_fin n0k)
noncomputable def wire_some_Cert_b1 (m : Nat) (s : ASt) (kc : ASt → RO) (kx : KO (AV × List AObj)) : RO := bodyW Try.prog GG (wire_some_Cert_env m) m ⟨17, []⟩ (cdL (cdL (cdR (cdL (cdR (cdR wire_some_Cert_c)))))) wire_some_Cert_h.r.r.l.r.c.c [1, 5, 7, 8] [5] s kc kx
noncomputable def wire_some_Cert (m : Nat) (t0 t1 : AV) (H : List AObj) : RO := exec Try.prog GG (wire_some_Cert_env m) m ⟨17, []⟩ wire_some_Cert_c wire_some_Cert_h ⟨H, argsT 0 [t0, t1]⟩ (wire_some_Cert_fin H.length)
theorem wire_some_Cert_r1_eq (m : Nat) (n0k : Nat) (H : List AObj) (t5 : AV) : wire_some_Cert_r1 m n0k ⟨H, [(5, t5)]⟩ =
  keepK n0k H (ro H t5) := by
  refine (joinW_eq Try.prog GG (wire_some_Cert_env m) m ⟨17, []⟩ (cdR (cdR (cdR wire_some_Cert_c))) wire_some_Cert_h.r.r.r ⟨H, [(5, t5)]⟩ (wire_some_Cert_fin n0k)).trans ?_
  kernel_rfl
theorem wire_some_Cert_b1_eq (m : Nat) (H : List AObj) (t1 t5 t7 t8 : AV) (kc : ASt → RO) (kx : KO (AV × List AObj)) : wire_some_Cert_b1 m ⟨H, [(1, t1), (5, t5), (7, t7), (8, t8)]⟩ kc kx =
  binE none false false .lss t8 t7 fun t9 =>
  condE t9 (
   callVPE (wire_some_Cert_env m) t1 [] H (fun t12 H2 =>
   buildSE (some (ty_api_Cert, 5)) 1 [(0, t12)] fun t13 =>
   appE (some (ty_api_Cert, 5)) H2 t5 t13 fun t14 H3 =>
   binE none false false .add t8 (V (.int .i64 1)) fun t15 =>
   backE H.length H3 [(1, t1), (5, t14), (7, t7), (8, t15)] kc) (fun u1 H2 => kx (.panic (pch u1)) ⟨H2, [(5, t5)]⟩)) (
   kx (.exit 0) ⟨H, [(5, t5)]⟩) := by
  refine (bodyW_eq Try.prog GG (wire_some_Cert_env m) m ⟨17, []⟩ (cdL (cdL (cdR (cdL (cdR (cdR wire_some_Cert_c)))))) wire_some_Cert_h.r.r.l.r.c.c [1, 5, 7, 8] [5] ⟨H, [(1, t1), (5, t5), (7, t7), (8, t8)]⟩ kc kx).trans ?_
  kernel_rfl
theorem wire_some_Cert_eq (m : Nat) (t0 t1 : AV) (H : List AObj) : wire_some_Cert m t0 t1 H =
  panE (wire_reader_num m (ro H t0) (V (.int .i64 64)) H) (fun t7 H2 =>
  rowE (V (.slice none 0 0)) ty_api_Cert 5 H2 fun t5 H3 =>
  iterC m (wire_some_Cert_b1 m) ⟨H3, [(1, t1), (5, t5), (7, t7), (8, (V (.int .i64 0)))]⟩ (blockX 0 (seqX (fun s => wire_some_Cert_r1 m H.length ⟨s.H, [(5, gt s.T 5)]⟩) (wire_some_Cert_fin H.length)))) (fun u1 H2 => panKE H.length H2 u1) := by
  refine (panX Try.prog GG (wire_some_Cert_env m) m ⟨17, []⟩ H.length wire_some_Cert_c wire_some_Cert_h ⟨H, argsT 0 [t0, t1]⟩ [.tmp 4]).trans ?_
  kernel_rfl
noncomputable def wire_some_Cert_t (m : Nat) : List AV → List AObj → RO | [t0, t1], H => wire_some_Cert m t0 t1 H | _, _ => none
theorem wire_some_Cert_ok (m : Nat) : ∀ args H X H', wire_some_Cert_t m args H = some (X, H') → ACx Try.prog GG 61 args H (Is X H') := by
  intro args H X H' h
  unfold wire_some_Cert_t at h
  split at h
  · exact pan_ok MIX (by
    intro f e h
    simp only [wire_some_Cert_env, Prod.mk.injEq, List.mem_cons, List.not_mem_nil, or_false] at h
    rcases h with ⟨rfl, rfl⟩ | ⟨rfl, rfl⟩
    · exact wire_reader_num_ok m
    · exact wire_reader_cert_ok m) (f := 61) (c := wire_some_Cert_c) Try.func61 rfl (by kernel_rfl) _ rfl Try.ntmps61 (Nat.le_of_ble_eq_true rfl) wire_some_Cert_h h
  · cases h
noncomputable def wire_reader_change_c : Code := (Try.f29.body).getD .skip
def wire_reader_change_h : Hint := (.two .n (.two .n (.two .n (.two .n (.two .n .n)))))
noncomputable def wire_reader_change_env (m : Nat) : Env := [(23, .pan (wire_reader_party_t m)), (24, .pan (wire_reader_any_t m)), (26, .pan (wire_some_Stmt_t m)), (61, .pan (wire_some_Cert_t m))]
noncomputable abbrev wire_reader_change_fin (n0 : Nat) : KO (AV × List AObj) := panFK Try.prog n0 [.cell 2 43]
noncomputable def wire_reader_change (m : Nat) (t0 : AV) (H : List AObj) : RO := exec Try.prog GG (wire_reader_change_env m) m ⟨24, []⟩ wire_reader_change_c wire_reader_change_h ⟨H, argsT 0 [t0]⟩ (wire_reader_change_fin H.length)
theorem wire_reader_change_eq (m : Nat) (t0 : AV) (H : List AObj) : wire_reader_change m t0 H =
  allocE (some zc_api_Change) ty_api_Change H fun t2 H2 =>
  panE (wire_reader_party m (ro H2 t0) H2) (fun t5 H3 =>
  panE (wire_reader_any m (ro H3 t0) H3) (fun t7 H4 =>
  panE (wire_reader_any m (ro H4 t0) H4) (fun t9 H5 =>
  panE (wire_reader_any m (ro H5 t0) H5) (fun t11 H6 =>
  buildE (some pl_api_Change) (some zc_api_Change) [(0, t5), (1, t7), (2, t9), (3, t11)] fun t12 =>
  allocE (some zc_api_Change) ty_api_Change H6 fun t3 H7 =>
  storeE 8 H7 t3 t12 fun H8 =>
  whenE (([t0] : List AV).all cap0) (
  panE (wire_some_Stmt m (ro H8 t0) (ro H8 (CL (.func 27) 1 [t0])) H8) (fun t16 H9 =>
  fieldE (some (4, 1)) t3 fun t17 =>
  storeE 1 H9 t17 t16 fun H10 =>
  whenE (([t0] : List AV).all cap0) (
  panE (wire_some_Cert m (ro H10 t0) (ro H10 (CL (.func 62) 1 [t0])) H10) (fun t21 H11 =>
  fieldE (some (5, 1)) t3 fun t22 =>
  storeE 1 H11 t22 t21 fun H12 =>
  loadE 8 H12 t3 fun t23 =>
  storeE 8 H12 t2 t23 fun H13 =>
  loadE 8 H13 t2 fun t9000 =>
  keepK H.length H13 (ro H13 t9000)) (fun u1 H11 => panKE H.length H11 u1))) (fun u1 H9 => panKE H.length H9 u1))) (fun u1 H6 => panKE H.length H6 u1)) (fun u1 H5 => panKE H.length H5 u1)) (fun u1 H4 => panKE H.length H4 u1)) (fun u1 H3 => panKE H.length H3 u1) := by
  refine (panX Try.prog GG (wire_reader_change_env m) m ⟨24, []⟩ H.length wire_reader_change_c wire_reader_change_h ⟨H, argsT 0 [t0]⟩ [.cell 2 43]).trans ?_
  kernel_rfl
noncomputable def wire_reader_change_t (m : Nat) : List AV → List AObj → RO | [t0], H => wire_reader_change m t0 H | _, _ => none
theorem wire_reader_change_ok (m : Nat) : ∀ args H X H', wire_reader_change_t m args H = some (X, H') → ACx Try.prog GG 29 args H (Is X H') := by
  intro args H X H' h
  unfold wire_reader_change_t at h
  split at h
  · exact pan_ok MIX (by
    intro f e h
    simp only [wire_reader_change_env, Prod.mk.injEq, List.mem_cons, List.not_mem_nil, or_false] at h
    rcases h with ⟨rfl, rfl⟩ | ⟨rfl, rfl⟩ | ⟨rfl, rfl⟩ | ⟨rfl, rfl⟩
    · exact wire_reader_party_ok m
    · exact wire_reader_any_ok m
    · exact wire_some_Stmt_ok m
    · exact wire_some_Cert_ok m) (f := 29) (c := wire_reader_change_c) Try.func29 rfl (by kernel_rfl) _ rfl Try.ntmps29 (Nat.le_of_ble_eq_true rfl) wire_reader_change_h h
  · cases h
noncomputable def wire_some_Change_c : Code := (Try.f28.body).getD .skip
def wire_some_Change_h : Hint := (.two .n (.two .n (.join [5] (.two .n (.one (.lp [(5, ty_api_Change, 6)] [1, 5, 7, 8] [5] (.two .n (.two (.two .n .n) (.two (.one .n) .n)))))) (.two .n .n))))
noncomputable def wire_some_Change_env (m : Nat) : Env := [(22, .pan (wire_reader_num_t m)), (29, .pan (wire_reader_change_t m))]
noncomputable abbrev wire_some_Change_fin (n0 : Nat) : KO (AV × List AObj) := panFK Try.prog n0 [.tmp 4]
noncomputable def wire_some_Change_r1 (m : Nat) (n0k : Nat) (s : ASt) : RO := joinW Try.prog GG (wire_some_Change_env m) m ⟨17, []⟩ (cdR (cdR (cdR wire_some_Change_c))) wire_some_Change_h.r.r.r s (wire_some_Change_fin n0k)
noncomputable def wire_some_Change_b1 (m : Nat) (s : ASt) (kc : ASt → RO) (kx : KO (AV × List AObj)) : RO := bodyW Try.prog GG (wire_some_Change_env m) m ⟨17, []⟩ (cdL (cdL (cdR (cdL (cdR (cdR wire_some_Change_c)))))) wire_some_Change_h.r.r.l.r.c.c [1, 5, 7, 8] [5] s kc kx
noncomputable def wire_some_Change (m : Nat) (t0 t1 : AV) (H : List AObj) : RO := exec Try.prog GG (wire_some_Change_env m) m ⟨17, []⟩ wire_some_Change_c wire_some_Change_h ⟨H, argsT 0 [t0, t1]⟩ (wire_some_Change_fin H.length)
theorem wire_some_Change_r1_eq (m : Nat) (n0k : Nat) (H : List AObj) (t5 : AV) : wire_some_Change_r1 m n0k ⟨H, [(5, t5)]⟩ =
  keepK n0k H (ro H t5) := by
  refine (joinW_eq Try.prog GG (wire_some_Change_env m) m ⟨17, []⟩ (cdR (cdR (cdR wire_some_Change_c))) wire_some_Change_h.r.r.r ⟨H, [(5, t5)]⟩ (wire_some_Change_fin n0k)).trans ?_
  kernel_rfl
theorem wire_some_Change_b1_eq (m : Nat) (H : List AObj) (t1 t5 t7 t8 : AV) (kc : ASt → RO) (kx : KO (AV × List AObj)) : wire_some_Change_b1 m ⟨H, [(1, t1), (5, t5), (7, t7), (8, t8)]⟩ kc kx =
  binE none false false .lss t8 t7 fun t9 =>
  condE t9 (
   callVPE (wire_some_Change_env m) t1 [] H (fun t12 H2 =>
   buildSE (some (ty_api_Change, 6)) 1 [(0, t12)] fun t13 =>
   appE (some (ty_api_Change, 6)) H2 t5 t13 fun t14 H3 =>
   binE none false false .add t8 (V (.int .i64 1)) fun t15 =>
   backE H.length H3 [(1, t1), (5, t14), (7, t7), (8, t15)] kc) (fun u1 H2 => kx (.panic (pch u1)) ⟨H2, [(5, t5)]⟩)) (
   kx (.exit 0) ⟨H, [(5, t5)]⟩) := by
  refine (bodyW_eq Try.prog GG (wire_some_Change_env m) m ⟨17, []⟩ (cdL (cdL (cdR (cdL (cdR (cdR wire_some_Change_c)))))) wire_some_Change_h.r.r.l.r.c.c [1, 5, 7, 8] [5] ⟨H, [(1, t1), (5, t5), (7, t7), (8, t8)]⟩ kc kx).trans ?_
  kernel_rfl
theorem wire_some_Change_eq (m : Nat) (t0 t1 : AV) (H : List AObj) : wire_some_Change m t0 t1 H =
  panE (wire_reader_num m (ro H t0) (V (.int .i64 64)) H) (fun t7 H2 =>
  rowE (V (.slice none 0 0)) ty_api_Change 6 H2 fun t5 H3 =>
  iterC m (wire_some_Change_b1 m) ⟨H3, [(1, t1), (5, t5), (7, t7), (8, (V (.int .i64 0)))]⟩ (blockX 0 (seqX (fun s => wire_some_Change_r1 m H.length ⟨s.H, [(5, gt s.T 5)]⟩) (wire_some_Change_fin H.length)))) (fun u1 H2 => panKE H.length H2 u1) := by
  refine (panX Try.prog GG (wire_some_Change_env m) m ⟨17, []⟩ H.length wire_some_Change_c wire_some_Change_h ⟨H, argsT 0 [t0, t1]⟩ [.tmp 4]).trans ?_
  kernel_rfl
noncomputable def wire_some_Change_t (m : Nat) : List AV → List AObj → RO | [t0, t1], H => wire_some_Change m t0 t1 H | _, _ => none
theorem wire_some_Change_ok (m : Nat) : ∀ args H X H', wire_some_Change_t m args H = some (X, H') → ACx Try.prog GG 28 args H (Is X H') := by
  intro args H X H' h
  unfold wire_some_Change_t at h
  split at h
  · exact pan_ok MIX (by
    intro f e h
    simp only [wire_some_Change_env, Prod.mk.injEq, List.mem_cons, List.not_mem_nil, or_false] at h
    rcases h with ⟨rfl, rfl⟩ | ⟨rfl, rfl⟩
    · exact wire_reader_num_ok m
    · exact wire_reader_change_ok m) (f := 28) (c := wire_some_Change_c) Try.func28 rfl (by kernel_rfl) _ rfl Try.ntmps28 (Nat.le_of_ble_eq_true rfl) wire_some_Change_h h
  · cases h
end Go.Proofs.Ytbdbmfifclmpcaa

namespace Go.Proofs.Ytbdbmfifclmpcaa
open Go.RowKit
set_option linter.unusedVariables false
set_option maxRecDepth 100000
def ty_plenumref01_Take : TypeId := 62
def zc_plenumref01_Take : List AV := [(V (.string ⟨#[]⟩)), (V (.int .i64 0)), (V (.int .i64 0))]
def pl_api_Msg : List (Nat × Nat) := [(0, 1), (1, 1), (2, 1), (3, 1), (4, 1), (5, 1), (6, 1), (7, 1)]
def pl_plenumref01_Take : List (Nat × Nat) := [(0, 1), (1, 1), (2, 1)]
noncomputable def plenumref01_Take_Num_c : Code := (Try.f30.body).getD .skip
def plenumref01_Take_Num_h : Hint := (.two .n (.two (.two .n (.two (.two .n .n) .n)) (.two .n (.join [0, 5, 6, 7] (.join [0, 5, 6, 7, 33] .n (.two .n .n)) (.two (.two .n (.two (.two .n (.two .n .n)) .n)) (.two .n (.two .n .n)))))))
noncomputable def plenumref01_Take_Num_env (m : Nat) : Env := [(63, .tell (plenumref01_Cut_t m))]
noncomputable abbrev plenumref01_Take_Num_fin (n0 : Nat) : KO (AV × List AObj) := keepFK Try.prog n0 [.tmp 4]
noncomputable def plenumref01_Take_Num_r2 (m : Nat) (n0k : Nat) (s : ASt) : RO := joinW Try.prog GG (plenumref01_Take_Num_env m) m ⟨49, []⟩ (cdR (cdR (cdR (cdR plenumref01_Take_Num_c)))) plenumref01_Take_Num_h.r.r.r.r s (plenumref01_Take_Num_fin n0k)
noncomputable def plenumref01_Take_Num_r1 (m : Nat) (n0k : Nat) (s : ASt) : RO := joinW Try.prog GG (plenumref01_Take_Num_env m) m ⟨49, []⟩ (cdR (cdL (cdR (cdR (cdR plenumref01_Take_Num_c))))) plenumref01_Take_Num_h.r.r.r.l.r s (seqX (fun s => plenumref01_Take_Num_r2 m n0k ⟨s.H, [(0, gt s.T 0), (5, gt s.T 5), (6, gt s.T 6), (7, gt s.T 7)]⟩) (plenumref01_Take_Num_fin n0k))
noncomputable def plenumref01_Take_Num (m : Nat) (t0 t1 : AV) (H : List AObj) : RO := exec Try.prog GG (plenumref01_Take_Num_env m) m ⟨49, []⟩ plenumref01_Take_Num_c plenumref01_Take_Num_h ⟨H, argsT 0 [t0, t1]⟩ (plenumref01_Take_Num_fin H.length)
theorem plenumref01_Take_Num_r2_eq (m : Nat) (n0k : Nat) (H : List AObj) (t0 t5 t6 t7 : AV) : plenumref01_Take_Num_r2 m n0k ⟨H, [(0, t0), (5, t5), (6, t6), (7, t7)]⟩ =
  binE none false false .neq t7 (V (.int .i64 0)) fun t35 =>
  condE t35 (
   nilE t0 fun t38 =>
   fieldE (some (2, 1)) t38 fun t39 =>
   storeE 1 H t39 t7 fun H2 =>
   keepK n0k H2 (ro H2 (V (.int .u64 0)))) (
   nilE t0 fun t41 =>
   fieldE (some (1, 1)) t41 fun t42 =>
   loadE 1 H t42 fun t43 =>
   binE none false false .add t43 t6 fun t45 =>
   nilE t0 fun t46 =>
   fieldE (some (1, 1)) t46 fun t47 =>
   storeE 1 H t47 t45 fun H2 =>
   keepK n0k H2 (ro H2 t5)) := by
  refine (joinW_eq Try.prog GG (plenumref01_Take_Num_env m) m ⟨49, []⟩ (cdR (cdR (cdR (cdR plenumref01_Take_Num_c)))) plenumref01_Take_Num_h.r.r.r.r ⟨H, [(0, t0), (5, t5), (6, t6), (7, t7)]⟩ (plenumref01_Take_Num_fin n0k)).trans ?_
  kernel_rfl
theorem plenumref01_Take_Num_r1_eq (m : Nat) (n0k : Nat) (H : List AObj) (t0 t5 t6 t7 t33 : AV) : plenumref01_Take_Num_r1 m n0k ⟨H, [(0, t0), (5, t5), (6, t6), (7, t7), (33, t33)]⟩ =
  condE t33 (
   plenumref01_Take_Num_r2 m n0k ⟨H, [(0, t0), (5, t5), (6, t6), (7, (V (.int .i64 8)))]⟩) (
   plenumref01_Take_Num_r2 m n0k ⟨H, [(0, t0), (5, t5), (6, t6), (7, t7)]⟩) := by
  refine (joinW_eq Try.prog GG (plenumref01_Take_Num_env m) m ⟨49, []⟩ (cdR (cdL (cdR (cdR (cdR plenumref01_Take_Num_c))))) plenumref01_Take_Num_h.r.r.r.l.r ⟨H, [(0, t0), (5, t5), (6, t6), (7, t7), (33, t33)]⟩ (seqX (fun s => plenumref01_Take_Num_r2 m n0k ⟨s.H, [(0, gt s.T 0), (5, gt s.T 5), (6, gt s.T 6), (7, gt s.T 7)]⟩) (plenumref01_Take_Num_fin n0k))).trans ?_
  kernel_rfl
theorem plenumref01_Take_Num_eq (m : Nat) (t0 t1 : AV) (H : List AObj) : plenumref01_Take_Num m t0 t1 H =
  nilE t0 fun t9 =>
  fieldE (some (2, 1)) t9 fun t10 =>
  loadE 1 H t10 fun t11 =>
  binE none false false .neq t11 (V (.int .i64 0)) fun t12 =>
  condE t12 (
   keepK H.length H (ro H (V (.int .u64 0)))) (
   nilE t0 fun t15 =>
   fieldE (some (0, 1)) t15 fun t16 =>
   loadE 1 H t16 fun t17 =>
   nilE t0 fun t19 =>
   fieldE (some (1, 1)) t19 fun t20 =>
   loadE 1 H t20 fun t21 =>
   sliceE true none H t17 (some t21) none fun t22 =>
   tellE (plenumref01_Cut_t m [(ro H t22)]) [(ro H t22)] fun t23 =>
   extE t23 0 fun t24 =>
   extE t23 1 fun t25 =>
   extE t23 2 fun t26 =>
   binE none false false .eql t26 (V (.int .i64 0)) fun t28 =>
   condE t28 (
    binE none false false .gtr t24 t1 fun t32 =>
    plenumref01_Take_Num_r1 m H.length ⟨H, [(0, t0), (5, t24), (6, t25), (7, t26), (33, t32)]⟩) (
    plenumref01_Take_Num_r1 m H.length ⟨H, [(0, t0), (5, t24), (6, t25), (7, t26), (33, (V (.bool false)))]⟩)) := by
  refine (keepX Try.prog GG (plenumref01_Take_Num_env m) m ⟨49, []⟩ H.length plenumref01_Take_Num_c plenumref01_Take_Num_h ⟨H, argsT 0 [t0, t1]⟩ [.tmp 4]).trans ?_
  kernel_rfl
noncomputable def plenumref01_Take_Num_t (m : Nat) : List AV → List AObj → RO | [t0, t1], H => plenumref01_Take_Num m t0 t1 H | _, _ => none
theorem plenumref01_Take_Num_ok (m : Nat) : ∀ args H X H', plenumref01_Take_Num_t m args H = some (X, H') → AC Try.prog GG 30 args H (Is X H') := by
  intro args H X H' h
  unfold plenumref01_Take_Num_t at h
  split at h
  · exact keep_okK MIX (by
    intro f e h
    simp only [plenumref01_Take_Num_env, Prod.mk.injEq, List.mem_cons, List.not_mem_nil, or_false] at h
    obtain ⟨rfl, rfl⟩ := h
    · exact plenumref01_Cut_ok m) (f := 30) (c := plenumref01_Take_Num_c) Try.func30 rfl (by kernel_rfl) _ rfl Try.ntmps30 (Nat.le_of_ble_eq_true rfl) plenumref01_Take_Num_h h
  · cases h
noncomputable def plenumref28_all_c : Code := (Try.f31.body).getD .skip
def plenumref28_all_h : Hint := (.two .n (.two .n .n))
noncomputable def plenumref28_all_env (m : Nat) : Env := [(30, .keep (plenumref01_Take_Num_t m))]
noncomputable abbrev plenumref28_all_fin (n0 : Nat) : KO (AV × List AObj) := keepFK Try.prog n0 [.tmp 2]
noncomputable def plenumref28_all (m : Nat) (t0 : AV) (H : List AObj) : RO := exec Try.prog GG (plenumref28_all_env m) m ⟨6, []⟩ plenumref28_all_c plenumref28_all_h ⟨H, argsT 0 [t0]⟩ (plenumref28_all_fin H.length)
theorem plenumref28_all_eq (m : Nat) (t0 : AV) (H : List AObj) : plenumref28_all m t0 H =
  keepE (plenumref01_Take_Num m (ro H t0) (V (.int .u64 2147483647)) H) fun t4 H2 =>
  convE false (some .i64) true false (ro H2 t4) fun t5 =>
  keepK H.length H2 (ro H2 t5) := by
  refine (keepX Try.prog GG (plenumref28_all_env m) m ⟨6, []⟩ H.length plenumref28_all_c plenumref28_all_h ⟨H, argsT 0 [t0]⟩ [.tmp 2]).trans ?_
  kernel_rfl
noncomputable def plenumref28_all_t (m : Nat) : List AV → List AObj → RO | [t0], H => plenumref28_all m t0 H | _, _ => none
theorem plenumref28_all_ok (m : Nat) : ∀ args H X H', plenumref28_all_t m args H = some (X, H') → AC Try.prog GG 31 args H (Is X H') := by
  intro args H X H' h
  unfold plenumref28_all_t at h
  split at h
  · exact keep_okK MIX (by
    intro f e h
    simp only [plenumref28_all_env, Prod.mk.injEq, List.mem_cons, List.not_mem_nil, or_false] at h
    obtain ⟨rfl, rfl⟩ := h
    · exact plenumref01_Take_Num_ok m) (f := 31) (c := plenumref28_all_c) Try.func31 rfl (by kernel_rfl) _ rfl Try.ntmps31 (Nat.le_of_ble_eq_true rfl) plenumref28_all_h h
  · cases h
noncomputable def plenumref28_text_c : Code := (Try.f32.body).getD .skip
def plenumref28_text_h : Hint := (.two .n (.two .n (.join [0, 3] (.join [0, 3, 25] .n (.two .n .n)) (.two (.two .n (.two (.two .n .n) .n)) (.two .n (.two .n .n))))))
noncomputable def plenumref28_text_env (m : Nat) : Env := [(30, .keep (plenumref01_Take_Num_t m))]
noncomputable abbrev plenumref28_text_fin (n0 : Nat) : KO (AV × List AObj) := keepFK Try.prog n0 [.tmp 2]
noncomputable def plenumref28_text_r2 (m : Nat) (n0k : Nat) (s : ASt) : RO := joinW Try.prog GG (plenumref28_text_env m) m ⟨57, []⟩ (cdR (cdR (cdR plenumref28_text_c))) plenumref28_text_h.r.r.r s (plenumref28_text_fin n0k)
noncomputable def plenumref28_text_r1 (m : Nat) (n0k : Nat) (s : ASt) : RO := joinW Try.prog GG (plenumref28_text_env m) m ⟨57, []⟩ (cdR (cdL (cdR (cdR plenumref28_text_c)))) plenumref28_text_h.r.r.l.r s (seqX (fun s => plenumref28_text_r2 m n0k ⟨s.H, [(0, gt s.T 0), (3, gt s.T 3)]⟩) (plenumref28_text_fin n0k))
noncomputable def plenumref28_text (m : Nat) (t0 : AV) (H : List AObj) : RO := exec Try.prog GG (plenumref28_text_env m) m ⟨57, []⟩ plenumref28_text_c plenumref28_text_h ⟨H, argsT 0 [t0]⟩ (plenumref28_text_fin H.length)
theorem plenumref28_text_r2_eq (m : Nat) (n0k : Nat) (H : List AObj) (t0 t3 : AV) : plenumref28_text_r2 m n0k ⟨H, [(0, t0), (3, t3)]⟩ =
  nilE t0 fun t30 =>
  fieldE (some (2, 1)) t30 fun t31 =>
  loadE 1 H t31 fun t32 =>
  binE none false false .neq t32 (V (.int .i64 0)) fun t33 =>
  condE t33 (
   keepK n0k H (ro H (V (.string ⟨#[]⟩)))) (
   nilE t0 fun t35 =>
   fieldE (some (1, 1)) t35 fun t36 =>
   loadE 1 H t36 fun t37 =>
   binE none false false .add t37 t3 fun t39 =>
   nilE t0 fun t40 =>
   fieldE (some (1, 1)) t40 fun t41 =>
   storeE 1 H t41 t39 fun H2 =>
   nilE t0 fun t43 =>
   fieldE (some (0, 1)) t43 fun t44 =>
   loadE 1 H2 t44 fun t45 =>
   nilE t0 fun t47 =>
   fieldE (some (1, 1)) t47 fun t48 =>
   loadE 1 H2 t48 fun t49 =>
   binE none false false .sub t49 t3 fun t51 =>
   nilE t0 fun t53 =>
   fieldE (some (1, 1)) t53 fun t54 =>
   loadE 1 H2 t54 fun t55 =>
   sliceE true none H2 t45 (some t51) (some t55) fun t56 =>
   keepK n0k H2 (ro H2 t56)) := by
  refine (joinW_eq Try.prog GG (plenumref28_text_env m) m ⟨57, []⟩ (cdR (cdR (cdR plenumref28_text_c))) plenumref28_text_h.r.r.r ⟨H, [(0, t0), (3, t3)]⟩ (plenumref28_text_fin n0k)).trans ?_
  kernel_rfl
theorem plenumref28_text_r1_eq (m : Nat) (n0k : Nat) (H : List AObj) (t0 t3 t25 : AV) : plenumref28_text_r1 m n0k ⟨H, [(0, t0), (3, t3), (25, t25)]⟩ =
  condE t25 (
   nilE t0 fun t27 =>
   fieldE (some (2, 1)) t27 fun t28 =>
   storeE 1 H t28 (V (.int .i64 2)) fun H2 =>
   plenumref28_text_r2 m n0k ⟨H2, [(0, t0), (3, t3)]⟩) (
   plenumref28_text_r2 m n0k ⟨H, [(0, t0), (3, t3)]⟩) := by
  refine (joinW_eq Try.prog GG (plenumref28_text_env m) m ⟨57, []⟩ (cdR (cdL (cdR (cdR plenumref28_text_c)))) plenumref28_text_h.r.r.l.r ⟨H, [(0, t0), (3, t3), (25, t25)]⟩ (seqX (fun s => plenumref28_text_r2 m n0k ⟨s.H, [(0, gt s.T 0), (3, gt s.T 3)]⟩) (plenumref28_text_fin n0k))).trans ?_
  kernel_rfl
theorem plenumref28_text_eq (m : Nat) (t0 : AV) (H : List AObj) : plenumref28_text m t0 H =
  keepE (plenumref01_Take_Num m (ro H t0) (V (.int .u64 65536)) H) fun t5 H2 =>
  convE false (some .i64) true false (ro H2 t5) fun t6 =>
  nilE t0 fun t8 =>
  fieldE (some (2, 1)) t8 fun t9 =>
  loadE 1 H2 t9 fun t10 =>
  binE none false false .eql t10 (V (.int .i64 0)) fun t11 =>
  condE t11 (
   nilE t0 fun t15 =>
   fieldE (some (0, 1)) t15 fun t16 =>
   loadE 1 H2 t16 fun t17 =>
   lenE true false H2 t17 fun t18 =>
   nilE t0 fun t20 =>
   fieldE (some (1, 1)) t20 fun t21 =>
   loadE 1 H2 t21 fun t22 =>
   binE none false false .sub t18 t22 fun t23 =>
   binE none false false .gtr t6 t23 fun t24 =>
   plenumref28_text_r1 m H.length ⟨H2, [(0, t0), (3, t6), (25, t24)]⟩) (
   plenumref28_text_r1 m H.length ⟨H2, [(0, t0), (3, t6), (25, (V (.bool false)))]⟩) := by
  refine (keepX Try.prog GG (plenumref28_text_env m) m ⟨57, []⟩ H.length plenumref28_text_c plenumref28_text_h ⟨H, argsT 0 [t0]⟩ [.tmp 2]).trans ?_
  kernel_rfl
noncomputable def plenumref28_text_t (m : Nat) : List AV → List AObj → RO | [t0], H => plenumref28_text m t0 H | _, _ => none
theorem plenumref28_text_ok (m : Nat) : ∀ args H X H', plenumref28_text_t m args H = some (X, H') → AC Try.prog GG 32 args H (Is X H') := by
  intro args H X H' h
  unfold plenumref28_text_t at h
  split at h
  · exact keep_okK MIX (by
    intro f e h
    simp only [plenumref28_text_env, Prod.mk.injEq, List.mem_cons, List.not_mem_nil, or_false] at h
    obtain ⟨rfl, rfl⟩ := h
    · exact plenumref01_Take_Num_ok m) (f := 32) (c := plenumref28_text_c) Try.func32 rfl (by kernel_rfl) _ rfl Try.ntmps32 (Nat.le_of_ble_eq_true rfl) plenumref28_text_h h
  · cases h
noncomputable def plenumref28_list_c : Code := (Try.f33.body).getD .skip
def plenumref28_list_h : Hint := (.two .n (.two .n (.two .n (.join [4] (.two .n (.one (.lp [(4, ty_api_Stmt, 5)] [0, 3, 4, 5] [4] (.join [0, 3, 4, 5] (.join [0, 3, 4, 5, 19] .n (.two .n .n)) (.two (.one (.two .n (.two .n (.two .n (.two .n (.two .n (.two .n .n))))))) .n))))) (.two .n .n)))))
noncomputable def plenumref28_list_env (m : Nat) : Env := [(30, .keep (plenumref01_Take_Num_t m)), (31, .keep (plenumref28_all_t m))]
noncomputable abbrev plenumref28_list_fin (n0 : Nat) : KO (AV × List AObj) := keepFK Try.prog n0 [.tmp 2]
noncomputable def plenumref28_list_r3 (m : Nat) (n0 : Nat) (kc : ASt → RO) (kx : KO (AV × List AObj)) (s : ASt) : RO := joinW Try.prog GG (plenumref28_list_env m) m ⟨44, []⟩ (cdR (cdL (cdL (cdR (cdL (cdR (cdR (cdR plenumref28_list_c)))))))) plenumref28_list_h.r.r.r.l.r.c.c.r s (backW n0 [0, 3, 4, 5] [4] kc kx)
noncomputable def plenumref28_list_r2 (m : Nat) (n0 : Nat) (kc : ASt → RO) (kx : KO (AV × List AObj)) (s : ASt) : RO := joinW Try.prog GG (plenumref28_list_env m) m ⟨44, []⟩ (cdR (cdL (cdL (cdL (cdR (cdL (cdR (cdR (cdR plenumref28_list_c))))))))) plenumref28_list_h.r.r.r.l.r.c.c.l.r s (seqX (fun s => plenumref28_list_r3 m n0 kc kx ⟨s.H, [(0, gt s.T 0), (3, gt s.T 3), (4, gt s.T 4), (5, gt s.T 5)]⟩) (backW n0 [0, 3, 4, 5] [4] kc kx))
noncomputable def plenumref28_list_r1 (m : Nat) (n0k : Nat) (s : ASt) : RO := joinW Try.prog GG (plenumref28_list_env m) m ⟨44, []⟩ (cdR (cdR (cdR (cdR plenumref28_list_c)))) plenumref28_list_h.r.r.r.r s (plenumref28_list_fin n0k)
noncomputable def plenumref28_list_b1 (m : Nat) (s : ASt) (kc : ASt → RO) (kx : KO (AV × List AObj)) : RO := bodyW Try.prog GG (plenumref28_list_env m) m ⟨44, []⟩ (cdL (cdL (cdR (cdL (cdR (cdR (cdR plenumref28_list_c))))))) plenumref28_list_h.r.r.r.l.r.c.c [0, 3, 4, 5] [4] s kc kx
noncomputable def plenumref28_list (m : Nat) (t0 : AV) (H : List AObj) : RO := exec Try.prog GG (plenumref28_list_env m) m ⟨44, []⟩ plenumref28_list_c plenumref28_list_h ⟨H, argsT 0 [t0]⟩ (plenumref28_list_fin H.length)
theorem plenumref28_list_r3_eq (m : Nat) (n0 : Nat) (kc : ASt → RO) (kx : KO (AV × List AObj)) (H : List AObj) (t0 t3 t4 t5 : AV) : plenumref28_list_r3 m n0 kc kx ⟨H, [(0, t0), (3, t3), (4, t4), (5, t5)]⟩ =
  buildE (some pl_api_Stmt) (some zc_api_Stmt) [] fun t22 =>
  allocE (some zc_api_Stmt) ty_api_Stmt H fun t6 H2 =>
  storeE 7 H2 t6 t22 fun H3 =>
  keepE (plenumref01_Take_Num m (ro H3 t0) (V (.int .u64 63)) H3) fun t24 H4 =>
  convE false (some .i64) true false (ro H4 t24) fun t25 =>
  fieldE (some (0, 1)) t6 fun t26 =>
  storeE 1 H4 t26 t25 fun H5 =>
  keepE (plenumref28_all m (ro H5 t0) H5) fun t28 H6 =>
  fieldE (some (1, 1)) t6 fun t29 =>
  storeE 1 H6 t29 t28 fun H7 =>
  keepE (plenumref28_all m (ro H7 t0) H7) fun t31 H8 =>
  fieldE (some (2, 1)) t6 fun t32 =>
  storeE 1 H8 t32 t31 fun H9 =>
  keepE (plenumref28_all m (ro H9 t0) H9) fun t34 H10 =>
  fieldE (some (3, 1)) t6 fun t35 =>
  storeE 1 H10 t35 t34 fun H11 =>
  keepE (plenumref28_all m (ro H11 t0) H11) fun t37 H12 =>
  fieldE (some (4, 1)) t6 fun t38 =>
  storeE 1 H12 t38 t37 fun H13 =>
  loadE 7 H13 t6 fun t40 =>
  buildSE (some (ty_api_Stmt, 5)) 1 [(0, t40)] fun t41 =>
  appE (some (ty_api_Stmt, 5)) H13 t4 t41 fun t42 H14 =>
  binE none false false .add t5 (V (.int .i64 1)) fun t21 =>
  backE n0 H14 [(0, t0), (3, t3), (4, t42), (5, t21)] kc := by
  refine (joinW_eq Try.prog GG (plenumref28_list_env m) m ⟨44, []⟩ (cdR (cdL (cdL (cdR (cdL (cdR (cdR (cdR plenumref28_list_c)))))))) plenumref28_list_h.r.r.r.l.r.c.c.r ⟨H, [(0, t0), (3, t3), (4, t4), (5, t5)]⟩ (backW n0 [0, 3, 4, 5] [4] kc kx)).trans ?_
  kernel_rfl
theorem plenumref28_list_r2_eq (m : Nat) (n0 : Nat) (kc : ASt → RO) (kx : KO (AV × List AObj)) (H : List AObj) (t0 t3 t4 t5 t19 : AV) : plenumref28_list_r2 m n0 kc kx ⟨H, [(0, t0), (3, t3), (4, t4), (5, t5), (19, t19)]⟩ =
  condE t19 (
   plenumref28_list_r3 m n0 kc kx ⟨H, [(0, t0), (3, t3), (4, t4), (5, t5)]⟩) (
   kx (.exit 0) ⟨H, [(4, t4)]⟩) := by
  refine (joinW_eq Try.prog GG (plenumref28_list_env m) m ⟨44, []⟩ (cdR (cdL (cdL (cdL (cdR (cdL (cdR (cdR (cdR plenumref28_list_c))))))))) plenumref28_list_h.r.r.r.l.r.c.c.l.r ⟨H, [(0, t0), (3, t3), (4, t4), (5, t5), (19, t19)]⟩ (seqX (fun s => plenumref28_list_r3 m n0 kc kx ⟨s.H, [(0, gt s.T 0), (3, gt s.T 3), (4, gt s.T 4), (5, gt s.T 5)]⟩) (backW n0 [0, 3, 4, 5] [4] kc kx))).trans ?_
  kernel_rfl
theorem plenumref28_list_r1_eq (m : Nat) (n0k : Nat) (H : List AObj) (t4 : AV) : plenumref28_list_r1 m n0k ⟨H, [(4, t4)]⟩ =
  keepK n0k H (ro H t4) := by
  refine (joinW_eq Try.prog GG (plenumref28_list_env m) m ⟨44, []⟩ (cdR (cdR (cdR (cdR plenumref28_list_c)))) plenumref28_list_h.r.r.r.r ⟨H, [(4, t4)]⟩ (plenumref28_list_fin n0k)).trans ?_
  kernel_rfl
theorem plenumref28_list_b1_eq (m : Nat) (H : List AObj) (t0 t3 t4 t5 : AV) (kc : ASt → RO) (kx : KO (AV × List AObj)) : plenumref28_list_b1 m ⟨H, [(0, t0), (3, t3), (4, t4), (5, t5)]⟩ kc kx =
  binE none false false .lss t5 t3 fun t12 =>
  condE t12 (
   nilE t0 fun t15 =>
   fieldE (some (2, 1)) t15 fun t16 =>
   loadE 1 H t16 fun t17 =>
   binE none false false .eql t17 (V (.int .i64 0)) fun t18 =>
   plenumref28_list_r2 m H.length kc kx ⟨H, [(0, t0), (3, t3), (4, t4), (5, t5), (19, t18)]⟩) (
   plenumref28_list_r2 m H.length kc kx ⟨H, [(0, t0), (3, t3), (4, t4), (5, t5), (19, (V (.bool false)))]⟩) := by
  refine (bodyW_eq Try.prog GG (plenumref28_list_env m) m ⟨44, []⟩ (cdL (cdL (cdR (cdL (cdR (cdR (cdR plenumref28_list_c))))))) plenumref28_list_h.r.r.r.l.r.c.c [0, 3, 4, 5] [4] ⟨H, [(0, t0), (3, t3), (4, t4), (5, t5)]⟩ kc kx).trans ?_
  kernel_rfl
theorem plenumref28_list_eq (m : Nat) (t0 : AV) (H : List AObj) : plenumref28_list m t0 H =
  keepE (plenumref01_Take_Num m (ro H t0) (V (.int .u64 64)) H) fun t8 H2 =>
  convE false (some .i64) true false (ro H2 t8) fun t9 =>
  rowE (V (.slice none 0 0)) ty_api_Stmt 5 H2 fun t4 H3 =>
  iterC m (plenumref28_list_b1 m) ⟨H3, [(0, t0), (3, t9), (4, t4), (5, (V (.int .i64 0)))]⟩ (blockX 0 (seqX (fun s => plenumref28_list_r1 m H.length ⟨s.H, [(4, gt s.T 4)]⟩) (plenumref28_list_fin H.length))) := by
  refine (keepX Try.prog GG (plenumref28_list_env m) m ⟨44, []⟩ H.length plenumref28_list_c plenumref28_list_h ⟨H, argsT 0 [t0]⟩ [.tmp 2]).trans ?_
  kernel_rfl
noncomputable def plenumref28_list_t (m : Nat) : List AV → List AObj → RO | [t0], H => plenumref28_list m t0 H | _, _ => none
theorem plenumref28_list_ok (m : Nat) : ∀ args H X H', plenumref28_list_t m args H = some (X, H') → AC Try.prog GG 33 args H (Is X H') := by
  intro args H X H' h
  unfold plenumref28_list_t at h
  split at h
  · exact keep_okK MIX (by
    intro f e h
    simp only [plenumref28_list_env, Prod.mk.injEq, List.mem_cons, List.not_mem_nil, or_false] at h
    rcases h with ⟨rfl, rfl⟩ | ⟨rfl, rfl⟩
    · exact plenumref01_Take_Num_ok m
    · exact plenumref28_all_ok m) (f := 33) (c := plenumref28_list_c) Try.func33 rfl (by kernel_rfl) _ rfl Try.ntmps33 (Nat.le_of_ble_eq_true rfl) plenumref28_list_h h
  · cases h
noncomputable def plenumref28_change_c : Code := (Try.f34.body).getD .skip
def plenumref28_change_h : Hint := (.two .n (.two .n (.two .n (.two .n (.two .n (.two .n (.two .n (.gh (3, 5, ty_api_Cert, 5) [0, 2, 3, 4] .n (.join [2, 3] (.two .n (.one (.lp [] [0, 2, 3, 4, 5] [2, 3] (.join [0, 2, 3, 4, 5] (.join [0, 2, 3, 4, 5, 36] .n (.two .n .n)) (.two (.one (.two .n (.two .n (.two .n (.two .n (.two .n (.two .n .n))))))) .n))))) (.two .n .n))))))))))
noncomputable def plenumref28_change_env (m : Nat) : Env := [(30, .keep (plenumref01_Take_Num_t m)), (31, .keep (plenumref28_all_t m)), (33, .keep (plenumref28_list_t m)), (32, .keep (plenumref28_text_t m))]
noncomputable abbrev plenumref28_change_fin (n0 : Nat) : KO (AV × List AObj) := keepFK Try.prog n0 [.cell 2 43]
noncomputable def plenumref28_change_r4 (m : Nat) (n0 : Nat) (kc : ASt → RO) (kx : KO (AV × List AObj)) (s : ASt) : RO := joinW Try.prog GG (plenumref28_change_env m) m ⟨62, []⟩ (cdR (cdL (cdL (cdR (cdL (cdR (cdR (cdR (cdR (cdR (cdR (cdR (cdR plenumref28_change_c))))))))))))) plenumref28_change_h.r.r.r.r.r.r.r.r.l.r.c.c.r s (backW n0 [0, 2, 3, 4, 5] [2, 3] kc kx)
noncomputable def plenumref28_change_r3 (m : Nat) (n0 : Nat) (kc : ASt → RO) (kx : KO (AV × List AObj)) (s : ASt) : RO := joinW Try.prog GG (plenumref28_change_env m) m ⟨62, []⟩ (cdR (cdL (cdL (cdL (cdR (cdL (cdR (cdR (cdR (cdR (cdR (cdR (cdR (cdR plenumref28_change_c)))))))))))))) plenumref28_change_h.r.r.r.r.r.r.r.r.l.r.c.c.l.r s (seqX (fun s => plenumref28_change_r4 m n0 kc kx ⟨s.H, [(0, gt s.T 0), (2, gt s.T 2), (3, gt s.T 3), (4, gt s.T 4), (5, gt s.T 5)]⟩) (backW n0 [0, 2, 3, 4, 5] [2, 3] kc kx))
noncomputable def plenumref28_change_r2 (m : Nat) (n0k : Nat) (s : ASt) : RO := joinW Try.prog GG (plenumref28_change_env m) m ⟨62, []⟩ (cdR (cdR (cdR (cdR (cdR (cdR (cdR (cdR (cdR plenumref28_change_c))))))))) plenumref28_change_h.r.r.r.r.r.r.r.r.r s (plenumref28_change_fin n0k)
noncomputable def plenumref28_change_b1 (m : Nat) (s : ASt) (kc : ASt → RO) (kx : KO (AV × List AObj)) : RO := bodyW Try.prog GG (plenumref28_change_env m) m ⟨62, []⟩ (cdL (cdL (cdR (cdL (cdR (cdR (cdR (cdR (cdR (cdR (cdR (cdR plenumref28_change_c)))))))))))) plenumref28_change_h.r.r.r.r.r.r.r.r.l.r.c.c [0, 2, 3, 4, 5] [2, 3] s kc kx
noncomputable def plenumref28_change_r1 (m : Nat) (n0k : Nat) (s : ASt) : RO := joinW Try.prog GG (plenumref28_change_env m) m ⟨62, []⟩ (cdR (cdR (cdR (cdR (cdR (cdR (cdR (cdR plenumref28_change_c)))))))) plenumref28_change_h.r.r.r.r.r.r.r.r s (plenumref28_change_fin n0k)
noncomputable def plenumref28_change (m : Nat) (t0 : AV) (H : List AObj) : RO := exec Try.prog GG (plenumref28_change_env m) m ⟨62, []⟩ plenumref28_change_c plenumref28_change_h ⟨H, argsT 0 [t0]⟩ (plenumref28_change_fin H.length)
theorem plenumref28_change_r4_eq (m : Nat) (n0 : Nat) (kc : ASt → RO) (kx : KO (AV × List AObj)) (H : List AObj) (t0 t2 t3 t4 t5 : AV) : plenumref28_change_r4 m n0 kc kx ⟨H, [(0, t0), (2, t2), (3, t3), (4, t4), (5, t5)]⟩ =
  buildE (some pl_api_Cert) (some zc_api_Cert) [] fun t39 =>
  allocE (some zc_api_Cert) ty_api_Cert H fun t6 H2 =>
  storeE 7 H2 t6 t39 fun H3 =>
  keepE (plenumref28_all m (ro H3 t0) H3) fun t41 H4 =>
  fieldE (some (0, 1)) t6 fun t42 =>
  storeE 1 H4 t42 t41 fun H5 =>
  keepE (plenumref28_all m (ro H5 t0) H5) fun t44 H6 =>
  fieldE (some (1, 1)) t6 fun t45 =>
  storeE 1 H6 t45 t44 fun H7 =>
  keepE (plenumref28_all m (ro H7 t0) H7) fun t47 H8 =>
  fieldE (some (2, 1)) t6 fun t48 =>
  storeE 1 H8 t48 t47 fun H9 =>
  keepE (plenumref28_text m (ro H9 t0) H9) fun t50 H10 =>
  fieldE (some (3, 1)) t6 fun t51 =>
  storeE 1 H10 t51 t50 fun H11 =>
  keepE (plenumref28_list m (ro H11 t0) H11) fun t53 H12 =>
  fieldE (some (4, 1)) t6 fun t54 =>
  storeE 1 H12 t54 t53 fun H13 =>
  fieldE (some (5, 1)) t3 fun t55 =>
  loadE 1 H13 t55 fun t56 =>
  loadE 7 H13 t6 fun t57 =>
  buildSE (some (ty_api_Cert, 5)) 1 [(0, t57)] fun t58 =>
  appE (some (ty_api_Cert, 5)) H13 t56 t58 fun t59 H14 =>
  fieldE (some (5, 1)) t3 fun t60 =>
  storeE 1 H14 t60 t59 fun H15 =>
  binE none false false .add t5 (V (.int .i64 1)) fun t38 =>
  backE n0 H15 [(0, t0), (2, t2), (3, t3), (4, t4), (5, t38)] kc := by
  refine (joinW_eq Try.prog GG (plenumref28_change_env m) m ⟨62, []⟩ (cdR (cdL (cdL (cdR (cdL (cdR (cdR (cdR (cdR (cdR (cdR (cdR (cdR plenumref28_change_c))))))))))))) plenumref28_change_h.r.r.r.r.r.r.r.r.l.r.c.c.r ⟨H, [(0, t0), (2, t2), (3, t3), (4, t4), (5, t5)]⟩ (backW n0 [0, 2, 3, 4, 5] [2, 3] kc kx)).trans ?_
  kernel_rfl
theorem plenumref28_change_r3_eq (m : Nat) (n0 : Nat) (kc : ASt → RO) (kx : KO (AV × List AObj)) (H : List AObj) (t0 t2 t3 t4 t5 t36 : AV) : plenumref28_change_r3 m n0 kc kx ⟨H, [(0, t0), (2, t2), (3, t3), (4, t4), (5, t5), (36, t36)]⟩ =
  condE t36 (
   plenumref28_change_r4 m n0 kc kx ⟨H, [(0, t0), (2, t2), (3, t3), (4, t4), (5, t5)]⟩) (
   kx (.exit 0) ⟨H, [(2, t2), (3, t3)]⟩) := by
  refine (joinW_eq Try.prog GG (plenumref28_change_env m) m ⟨62, []⟩ (cdR (cdL (cdL (cdL (cdR (cdL (cdR (cdR (cdR (cdR (cdR (cdR (cdR (cdR plenumref28_change_c)))))))))))))) plenumref28_change_h.r.r.r.r.r.r.r.r.l.r.c.c.l.r ⟨H, [(0, t0), (2, t2), (3, t3), (4, t4), (5, t5), (36, t36)]⟩ (seqX (fun s => plenumref28_change_r4 m n0 kc kx ⟨s.H, [(0, gt s.T 0), (2, gt s.T 2), (3, gt s.T 3), (4, gt s.T 4), (5, gt s.T 5)]⟩) (backW n0 [0, 2, 3, 4, 5] [2, 3] kc kx))).trans ?_
  kernel_rfl
theorem plenumref28_change_r2_eq (m : Nat) (n0k : Nat) (H : List AObj) (t2 t3 : AV) : plenumref28_change_r2 m n0k ⟨H, [(2, t2), (3, t3)]⟩ =
  loadE 8 H t3 fun t61 =>
  storeE 8 H t2 t61 fun H2 =>
  loadE 8 H2 t2 fun t9000 =>
  keepK n0k H2 (ro H2 t9000) := by
  refine (joinW_eq Try.prog GG (plenumref28_change_env m) m ⟨62, []⟩ (cdR (cdR (cdR (cdR (cdR (cdR (cdR (cdR (cdR plenumref28_change_c))))))))) plenumref28_change_h.r.r.r.r.r.r.r.r.r ⟨H, [(2, t2), (3, t3)]⟩ (plenumref28_change_fin n0k)).trans ?_
  kernel_rfl
theorem plenumref28_change_b1_eq (m : Nat) (H : List AObj) (t0 t2 t3 t4 t5 : AV) (kc : ASt → RO) (kx : KO (AV × List AObj)) : plenumref28_change_b1 m ⟨H, [(0, t0), (2, t2), (3, t3), (4, t4), (5, t5)]⟩ kc kx =
  binE none false false .lss t5 t4 fun t29 =>
  condE t29 (
   nilE t0 fun t32 =>
   fieldE (some (2, 1)) t32 fun t33 =>
   loadE 1 H t33 fun t34 =>
   binE none false false .eql t34 (V (.int .i64 0)) fun t35 =>
   plenumref28_change_r3 m H.length kc kx ⟨H, [(0, t0), (2, t2), (3, t3), (4, t4), (5, t5), (36, t35)]⟩) (
   plenumref28_change_r3 m H.length kc kx ⟨H, [(0, t0), (2, t2), (3, t3), (4, t4), (5, t5), (36, (V (.bool false)))]⟩) := by
  refine (bodyW_eq Try.prog GG (plenumref28_change_env m) m ⟨62, []⟩ (cdL (cdL (cdR (cdL (cdR (cdR (cdR (cdR (cdR (cdR (cdR (cdR plenumref28_change_c)))))))))))) plenumref28_change_h.r.r.r.r.r.r.r.r.l.r.c.c [0, 2, 3, 4, 5] [2, 3] ⟨H, [(0, t0), (2, t2), (3, t3), (4, t4), (5, t5)]⟩ kc kx).trans ?_
  kernel_rfl
theorem plenumref28_change_r1_eq (m : Nat) (n0k : Nat) (H : List AObj) (t0 t2 t3 t4 : AV) : plenumref28_change_r1 m n0k ⟨H, [(0, t0), (2, t2), (3, t3), (4, t4)]⟩ =
  iterC m (plenumref28_change_b1 m) ⟨H, [(0, t0), (2, t2), (3, t3), (4, t4), (5, (V (.int .i64 0)))]⟩ (blockX 0 (seqX (fun s => plenumref28_change_r2 m n0k ⟨s.H, [(2, gt s.T 2), (3, gt s.T 3)]⟩) (plenumref28_change_fin n0k))) := by
  refine (joinW_eq Try.prog GG (plenumref28_change_env m) m ⟨62, []⟩ (cdR (cdR (cdR (cdR (cdR (cdR (cdR (cdR plenumref28_change_c)))))))) plenumref28_change_h.r.r.r.r.r.r.r.r ⟨H, [(0, t0), (2, t2), (3, t3), (4, t4)]⟩ (plenumref28_change_fin n0k)).trans ?_
  kernel_rfl
theorem plenumref28_change_eq (m : Nat) (t0 : AV) (H : List AObj) : plenumref28_change m t0 H =
  allocE (some zc_api_Change) ty_api_Change H fun t2 H2 =>
  buildE (some pl_api_Change) (some zc_api_Change) [] fun t7 =>
  allocE (some zc_api_Change) ty_api_Change H2 fun t3 H3 =>
  storeE 8 H3 t3 t7 fun H4 =>
  keepE (plenumref01_Take_Num m (ro H4 t0) (V (.int .u64 63)) H4) fun t9 H5 =>
  convE false (some .i64) true false (ro H5 t9) fun t10 =>
  fieldE (some (0, 1)) t3 fun t11 =>
  storeE 1 H5 t11 t10 fun H6 =>
  keepE (plenumref28_all m (ro H6 t0) H6) fun t13 H7 =>
  fieldE (some (1, 1)) t3 fun t14 =>
  storeE 1 H7 t14 t13 fun H8 =>
  keepE (plenumref28_all m (ro H8 t0) H8) fun t16 H9 =>
  fieldE (some (2, 1)) t3 fun t17 =>
  storeE 1 H9 t17 t16 fun H10 =>
  keepE (plenumref28_all m (ro H10 t0) H10) fun t19 H11 =>
  fieldE (some (3, 1)) t3 fun t20 =>
  storeE 1 H11 t20 t19 fun H12 =>
  keepE (plenumref28_list m (ro H12 t0) H12) fun t22 H13 =>
  fieldE (some (4, 1)) t3 fun t23 =>
  storeE 1 H13 t23 t22 fun H14 =>
  keepE (plenumref01_Take_Num m (ro H14 t0) (V (.int .u64 64)) H14) fun t25 H15 =>
  convE false (some .i64) true false (ro H15 t25) fun t26 =>
  plenumref28_change_r1 m H.length (ghS 3 5 ty_api_Cert 5 ⟨H15, [(0, t0), (2, t2), (3, t3), (4, t26)]⟩) := by
  refine (keepX Try.prog GG (plenumref28_change_env m) m ⟨62, []⟩ H.length plenumref28_change_c plenumref28_change_h ⟨H, argsT 0 [t0]⟩ [.cell 2 43]).trans ?_
  kernel_rfl
noncomputable def plenumref28_change_t (m : Nat) : List AV → List AObj → RO | [t0], H => plenumref28_change m t0 H | _, _ => none
theorem plenumref28_change_ok (m : Nat) : ∀ args H X H', plenumref28_change_t m args H = some (X, H') → AC Try.prog GG 34 args H (Is X H') := by
  intro args H X H' h
  unfold plenumref28_change_t at h
  split at h
  · exact keep_okK MIX (by
    intro f e h
    simp only [plenumref28_change_env, Prod.mk.injEq, List.mem_cons, List.not_mem_nil, or_false] at h
    rcases h with ⟨rfl, rfl⟩ | ⟨rfl, rfl⟩ | ⟨rfl, rfl⟩ | ⟨rfl, rfl⟩
    · exact plenumref01_Take_Num_ok m
    · exact plenumref28_all_ok m
    · exact plenumref28_list_ok m
    · exact plenumref28_text_ok m) (f := 34) (c := plenumref28_change_c) Try.func34 rfl (by kernel_rfl) _ rfl Try.ntmps34 (Nat.le_of_ble_eq_true rfl) plenumref28_change_h h
  · cases h
noncomputable def plenumref28_Decode_c : Code := (Try.f10.body).getD .skip
def plenumref28_Decode_h : Hint := (.two .n (.two .n (.two .n (.two .n (.two .n (.two .n (.two .n (.two .n (.two .n (.two .n (.gh (6, 7, ty_api_Change, 6) [0, 2, 5, 6, 7] .n (.join [0, 2, 5, 6] (.two .n (.one (.lp [] [0, 2, 5, 6, 7, 8] [0, 2, 5, 6] (.join [0, 2, 5, 6, 7, 8] (.join [0, 2, 5, 6, 7, 8, 48] .n (.two .n .n)) (.two (.one .n) .n))))) (.two (.two .n (.two (.two .n .n) .n)) (.two (.two .n (.two (.two .n .n) .n)) (.two (.two .n (.two (.two .n .n) .n)) (.two .n .n))))))))))))))))
noncomputable def plenumref28_Decode_env (m : Nat) : Env := [(30, .keep (plenumref01_Take_Num_t m)), (31, .keep (plenumref28_all_t m)), (32, .keep (plenumref28_text_t m)), (33, .keep (plenumref28_list_t m)), (34, .keep (plenumref28_change_t m))]
noncomputable abbrev plenumref28_Decode_fin : KO (AV × List AObj) := tellFK Try.prog [.cell 2 27, .tmp 3, .tmp 4]
noncomputable def plenumref28_Decode_r4 (m : Nat) (n0 : Nat) (kc : ASt → RO) (kx : KO (AV × List AObj)) (s : ASt) : RO := joinW Try.prog GG (plenumref28_Decode_env m) m ⟨89, []⟩ (cdR (cdL (cdL (cdR (cdL (cdR (cdR (cdR (cdR (cdR (cdR (cdR (cdR (cdR (cdR (cdR plenumref28_Decode_c)))))))))))))))) plenumref28_Decode_h.r.r.r.r.r.r.r.r.r.r.r.l.r.c.c.r s (backW n0 [0, 2, 5, 6, 7, 8] [0, 2, 5, 6] kc kx)
noncomputable def plenumref28_Decode_r3 (m : Nat) (n0 : Nat) (kc : ASt → RO) (kx : KO (AV × List AObj)) (s : ASt) : RO := joinW Try.prog GG (plenumref28_Decode_env m) m ⟨89, []⟩ (cdR (cdL (cdL (cdL (cdR (cdL (cdR (cdR (cdR (cdR (cdR (cdR (cdR (cdR (cdR (cdR (cdR plenumref28_Decode_c))))))))))))))))) plenumref28_Decode_h.r.r.r.r.r.r.r.r.r.r.r.l.r.c.c.l.r s (seqX (fun s => plenumref28_Decode_r4 m n0 kc kx ⟨s.H, [(0, gt s.T 0), (2, gt s.T 2), (5, gt s.T 5), (6, gt s.T 6), (7, gt s.T 7), (8, gt s.T 8)]⟩) (backW n0 [0, 2, 5, 6, 7, 8] [0, 2, 5, 6] kc kx))
noncomputable def plenumref28_Decode_r2 (m : Nat) (s : ASt) : RO := joinW Try.prog GG (plenumref28_Decode_env m) m ⟨89, []⟩ (cdR (cdR (cdR (cdR (cdR (cdR (cdR (cdR (cdR (cdR (cdR (cdR plenumref28_Decode_c)))))))))))) plenumref28_Decode_h.r.r.r.r.r.r.r.r.r.r.r.r s (plenumref28_Decode_fin)
noncomputable def plenumref28_Decode_b1 (m : Nat) (s : ASt) (kc : ASt → RO) (kx : KO (AV × List AObj)) : RO := bodyW Try.prog GG (plenumref28_Decode_env m) m ⟨89, []⟩ (cdL (cdL (cdR (cdL (cdR (cdR (cdR (cdR (cdR (cdR (cdR (cdR (cdR (cdR (cdR plenumref28_Decode_c))))))))))))))) plenumref28_Decode_h.r.r.r.r.r.r.r.r.r.r.r.l.r.c.c [0, 2, 5, 6, 7, 8] [0, 2, 5, 6] s kc kx
noncomputable def plenumref28_Decode_r1 (m : Nat) (s : ASt) : RO := joinW Try.prog GG (plenumref28_Decode_env m) m ⟨89, []⟩ (cdR (cdR (cdR (cdR (cdR (cdR (cdR (cdR (cdR (cdR (cdR plenumref28_Decode_c))))))))))) plenumref28_Decode_h.r.r.r.r.r.r.r.r.r.r.r s (plenumref28_Decode_fin)
noncomputable def plenumref28_Decode (m : Nat) (t0 : AV) : RO := exec Try.prog GG (plenumref28_Decode_env m) m ⟨89, []⟩ plenumref28_Decode_c plenumref28_Decode_h ⟨[], argsT 0 [t0]⟩ (plenumref28_Decode_fin)
theorem plenumref28_Decode_r4_eq (m : Nat) (n0 : Nat) (kc : ASt → RO) (kx : KO (AV × List AObj)) (H : List AObj) (t0 t2 t5 t6 t7 t8 : AV) : plenumref28_Decode_r4 m n0 kc kx ⟨H, [(0, t0), (2, t2), (5, t5), (6, t6), (7, t7), (8, t8)]⟩ =
  fieldE (some (7, 1)) t6 fun t51 =>
  loadE 1 H t51 fun t52 =>
  keepE (plenumref28_change m (ro H t5) H) fun t54 H2 =>
  loadE 1 H2 t51 fun t8016 =>
  eqE t52 t8016 (
  buildSE (some (ty_api_Change, 6)) 1 [(0, t54)] fun t55 =>
  appE (some (ty_api_Change, 6)) H2 t52 t55 fun t56 H3 =>
  fieldE (some (7, 1)) t6 fun t57 =>
  storeE 1 H3 t57 t56 fun H4 =>
  binE none false false .add t8 (V (.int .i64 1)) fun t50 =>
  backE n0 H4 [(0, t0), (2, t2), (5, t5), (6, t6), (7, t7), (8, t50)] kc) := by
  refine (joinW_eq Try.prog GG (plenumref28_Decode_env m) m ⟨89, []⟩ (cdR (cdL (cdL (cdR (cdL (cdR (cdR (cdR (cdR (cdR (cdR (cdR (cdR (cdR (cdR (cdR plenumref28_Decode_c)))))))))))))))) plenumref28_Decode_h.r.r.r.r.r.r.r.r.r.r.r.l.r.c.c.r ⟨H, [(0, t0), (2, t2), (5, t5), (6, t6), (7, t7), (8, t8)]⟩ (backW n0 [0, 2, 5, 6, 7, 8] [0, 2, 5, 6] kc kx)).trans ?_
  kernel_rfl
theorem plenumref28_Decode_r3_eq (m : Nat) (n0 : Nat) (kc : ASt → RO) (kx : KO (AV × List AObj)) (H : List AObj) (t0 t2 t5 t6 t7 t8 t48 : AV) : plenumref28_Decode_r3 m n0 kc kx ⟨H, [(0, t0), (2, t2), (5, t5), (6, t6), (7, t7), (8, t8), (48, t48)]⟩ =
  condE t48 (
   plenumref28_Decode_r4 m n0 kc kx ⟨H, [(0, t0), (2, t2), (5, t5), (6, t6), (7, t7), (8, t8)]⟩) (
   kx (.exit 0) ⟨H, [(0, t0), (2, t2), (5, t5), (6, t6)]⟩) := by
  refine (joinW_eq Try.prog GG (plenumref28_Decode_env m) m ⟨89, []⟩ (cdR (cdL (cdL (cdL (cdR (cdL (cdR (cdR (cdR (cdR (cdR (cdR (cdR (cdR (cdR (cdR (cdR plenumref28_Decode_c))))))))))))))))) plenumref28_Decode_h.r.r.r.r.r.r.r.r.r.r.r.l.r.c.c.l.r ⟨H, [(0, t0), (2, t2), (5, t5), (6, t6), (7, t7), (8, t8), (48, t48)]⟩ (seqX (fun s => plenumref28_Decode_r4 m n0 kc kx ⟨s.H, [(0, gt s.T 0), (2, gt s.T 2), (5, gt s.T 5), (6, gt s.T 6), (7, gt s.T 7), (8, gt s.T 8)]⟩) (backW n0 [0, 2, 5, 6, 7, 8] [0, 2, 5, 6] kc kx))).trans ?_
  kernel_rfl
theorem plenumref28_Decode_r2_eq (m : Nat) (H : List AObj) (t0 t2 t5 t6 : AV) : plenumref28_Decode_r2 m ⟨H, [(0, t0), (2, t2), (5, t5), (6, t6)]⟩ =
  nilE t5 fun t59 =>
  fieldE (some (2, 1)) t59 fun t60 =>
  loadE 1 H t60 fun t61 =>
  binE none false false .neq t61 (V (.int .i64 0)) fun t62 =>
  condE t62 (
   buildE (some pl_api_Msg) (some zc_api_Msg) [] fun t63 =>
   nilE t5 fun t65 =>
   fieldE (some (2, 1)) t65 fun t66 =>
   loadE 1 H t66 fun t67 =>
   nilE t5 fun t69 =>
   fieldE (some (1, 1)) t69 fun t70 =>
   loadE 1 H t70 fun t71 =>
   storeE 10 H t2 t63 fun H2 =>
   loadE 1 H2 t70 fun t8022 =>
   eqE t71 t8022 (
   loadE 1 H2 t66 fun t8023 =>
   eqE t67 t8023 (
   loadE 10 H2 t2 fun t9000 =>
   tellK H2 (ro H2 (TU [noT t9000, noT t67, noT t71]))))) (
   fieldE (some (0, 1)) t6 fun t72 =>
   loadE 1 H t72 fun t73 =>
   binE none false false .eql t73 (V (.int .i64 0)) fun t74 =>
   condE t74 (
    buildE (some pl_api_Msg) (some zc_api_Msg) [] fun t75 =>
    storeE 10 H t2 t75 fun H2 =>
    loadE 10 H2 t2 fun t9000 =>
    tellK H2 (ro H2 (TU [noT t9000, noT (V (.int .i64 3)), noT (V (.int .i64 0))]))) (
    nilE t5 fun t77 =>
    fieldE (some (1, 1)) t77 fun t78 =>
    loadE 1 H t78 fun t79 =>
    lenE true false H t0 fun t81 =>
    binE none false false .lss t79 t81 fun t82 =>
    condE t82 (
     buildE (some pl_api_Msg) (some zc_api_Msg) [] fun t83 =>
     nilE t5 fun t85 =>
     fieldE (some (1, 1)) t85 fun t86 =>
     loadE 1 H t86 fun t87 =>
     storeE 10 H t2 t83 fun H2 =>
     loadE 1 H2 t86 fun t8027 =>
     eqE t87 t8027 (
     loadE 10 H2 t2 fun t9000 =>
     tellK H2 (ro H2 (TU [noT t9000, noT (V (.int .i64 7)), noT t87])))) (
     loadE 10 H t6 fun t88 =>
     storeE 10 H t2 t88 fun H2 =>
     loadE 10 H2 t2 fun t9000 =>
     tellK H2 (ro H2 (TU [noT t9000, noT (V (.int .i64 0)), noT (V (.int .i64 0))]))))) := by
  refine (joinW_eq Try.prog GG (plenumref28_Decode_env m) m ⟨89, []⟩ (cdR (cdR (cdR (cdR (cdR (cdR (cdR (cdR (cdR (cdR (cdR (cdR plenumref28_Decode_c)))))))))))) plenumref28_Decode_h.r.r.r.r.r.r.r.r.r.r.r.r ⟨H, [(0, t0), (2, t2), (5, t5), (6, t6)]⟩ (plenumref28_Decode_fin)).trans ?_
  kernel_rfl
theorem plenumref28_Decode_b1_eq (m : Nat) (H : List AObj) (t0 t2 t5 t6 t7 t8 : AV) (kc : ASt → RO) (kx : KO (AV × List AObj)) : plenumref28_Decode_b1 m ⟨H, [(0, t0), (2, t2), (5, t5), (6, t6), (7, t7), (8, t8)]⟩ kc kx =
  binE none false false .lss t8 t7 fun t41 =>
  condE t41 (
   nilE t5 fun t44 =>
   fieldE (some (2, 1)) t44 fun t45 =>
   loadE 1 H t45 fun t46 =>
   binE none false false .eql t46 (V (.int .i64 0)) fun t47 =>
   plenumref28_Decode_r3 m H.length kc kx ⟨H, [(0, t0), (2, t2), (5, t5), (6, t6), (7, t7), (8, t8), (48, t47)]⟩) (
   plenumref28_Decode_r3 m H.length kc kx ⟨H, [(0, t0), (2, t2), (5, t5), (6, t6), (7, t7), (8, t8), (48, (V (.bool false)))]⟩) := by
  refine (bodyW_eq Try.prog GG (plenumref28_Decode_env m) m ⟨89, []⟩ (cdL (cdL (cdR (cdL (cdR (cdR (cdR (cdR (cdR (cdR (cdR (cdR (cdR (cdR (cdR plenumref28_Decode_c))))))))))))))) plenumref28_Decode_h.r.r.r.r.r.r.r.r.r.r.r.l.r.c.c [0, 2, 5, 6, 7, 8] [0, 2, 5, 6] ⟨H, [(0, t0), (2, t2), (5, t5), (6, t6), (7, t7), (8, t8)]⟩ kc kx).trans ?_
  kernel_rfl
theorem plenumref28_Decode_r1_eq (m : Nat) (H : List AObj) (t0 t2 t5 t6 t7 : AV) : plenumref28_Decode_r1 m ⟨H, [(0, t0), (2, t2), (5, t5), (6, t6), (7, t7)]⟩ =
  iterC m (plenumref28_Decode_b1 m) ⟨H, [(0, t0), (2, t2), (5, t5), (6, t6), (7, t7), (8, (V (.int .i64 0)))]⟩ (blockX 0 (seqX (fun s => plenumref28_Decode_r2 m ⟨s.H, [(0, gt s.T 0), (2, gt s.T 2), (5, gt s.T 5), (6, gt s.T 6)]⟩) (plenumref28_Decode_fin))) := by
  refine (joinW_eq Try.prog GG (plenumref28_Decode_env m) m ⟨89, []⟩ (cdR (cdR (cdR (cdR (cdR (cdR (cdR (cdR (cdR (cdR (cdR plenumref28_Decode_c))))))))))) plenumref28_Decode_h.r.r.r.r.r.r.r.r.r.r.r ⟨H, [(0, t0), (2, t2), (5, t5), (6, t6), (7, t7)]⟩ (plenumref28_Decode_fin)).trans ?_
  kernel_rfl
theorem plenumref28_Decode_eq (m : Nat) (t0 : AV) : plenumref28_Decode m t0 =
  allocE (some zc_api_Msg) ty_api_Msg [] fun t2 H1 =>
  buildE (some pl_plenumref01_Take) (some zc_plenumref01_Take) [(0, t0)] fun t10 =>
  boxE ty_plenumref01_Take H1 t10 fun t11 H2 =>
  buildE (some pl_api_Msg) (some zc_api_Msg) [] fun t12 =>
  allocE (some zc_api_Msg) ty_api_Msg H2 fun t6 H3 =>
  storeE 10 H3 t6 t12 fun H4 =>
  keepE (plenumref01_Take_Num m (ro H4 t11) (V (.int .u64 10)) H4) fun t14 H5 =>
  convE false (some .i64) true false (ro H5 t14) fun t15 =>
  fieldE (some (0, 1)) t6 fun t16 =>
  storeE 1 H5 t16 t15 fun H6 =>
  keepE (plenumref01_Take_Num m (ro H6 t11) (V (.int .u64 63)) H6) fun t18 H7 =>
  convE false (some .i64) true false (ro H7 t18) fun t19 =>
  fieldE (some (1, 1)) t6 fun t20 =>
  storeE 1 H7 t20 t19 fun H8 =>
  keepE (plenumref28_all m (ro H8 t11) H8) fun t22 H9 =>
  fieldE (some (2, 1)) t6 fun t23 =>
  storeE 1 H9 t23 t22 fun H10 =>
  keepE (plenumref28_all m (ro H10 t11) H10) fun t25 H11 =>
  fieldE (some (3, 1)) t6 fun t26 =>
  storeE 1 H11 t26 t25 fun H12 =>
  keepE (plenumref28_all m (ro H12 t11) H12) fun t28 H13 =>
  fieldE (some (4, 1)) t6 fun t29 =>
  storeE 1 H13 t29 t28 fun H14 =>
  keepE (plenumref28_text m (ro H14 t11) H14) fun t31 H15 =>
  fieldE (some (5, 1)) t6 fun t32 =>
  storeE 1 H15 t32 t31 fun H16 =>
  keepE (plenumref28_list m (ro H16 t11) H16) fun t34 H17 =>
  fieldE (some (6, 1)) t6 fun t35 =>
  storeE 1 H17 t35 t34 fun H18 =>
  keepE (plenumref01_Take_Num m (ro H18 t11) (V (.int .u64 64)) H18) fun t37 H19 =>
  convE false (some .i64) true false (ro H19 t37) fun t38 =>
  plenumref28_Decode_r1 m (ghS 6 7 ty_api_Change 6 ⟨H19, [(0, t0), (2, t2), (5, t11), (6, t6), (7, t38)]⟩) := by
  refine (tellX Try.prog GG (plenumref28_Decode_env m) m ⟨89, []⟩ plenumref28_Decode_c plenumref28_Decode_h ⟨[], argsT 0 [t0]⟩ [.cell 2 27, .tmp 3, .tmp 4]).trans ?_
  kernel_rfl
noncomputable def plenumref28_Decode_t (m : Nat) : List AV → RO | [t0] => plenumref28_Decode m t0 | _ => none
theorem plenumref28_Decode_ok (m : Nat) : ∀ args X H', plenumref28_Decode_t m args = some (X, H') → ACp Try.prog GG 10 args X := by
  intro args X H' h
  unfold plenumref28_Decode_t at h
  split at h
  · exact tell_okK MIX (by
    intro f e h
    simp only [plenumref28_Decode_env, Prod.mk.injEq, List.mem_cons, List.not_mem_nil, or_false] at h
    rcases h with ⟨rfl, rfl⟩ | ⟨rfl, rfl⟩ | ⟨rfl, rfl⟩ | ⟨rfl, rfl⟩ | ⟨rfl, rfl⟩
    · exact plenumref01_Take_Num_ok m
    · exact plenumref28_all_ok m
    · exact plenumref28_text_ok m
    · exact plenumref28_list_ok m
    · exact plenumref28_change_ok m) (f := 10) (c := plenumref28_Decode_c) Try.func10 rfl (by kernel_rfl) _ rfl Try.ntmps10 (Nat.le_of_ble_eq_true rfl) plenumref28_Decode_h h
  · cases h
end Go.Proofs.Ytbdbmfifclmpcaa
