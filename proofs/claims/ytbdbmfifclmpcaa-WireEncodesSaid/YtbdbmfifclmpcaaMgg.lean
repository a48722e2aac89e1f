/-
  Texts laid together, part 7 of 7: laws of a walk over data, contracts of functions, each whole by itself.
-/
import Derived.Test.YtbdbmfifclmpcaaMgf
import Derived.Test.YtbdbmfifclmpcaaMgc
namespace Go.Proofs.Ytbdbmfifclmpcaa
open Go.RowKit
set_option linter.unusedVariables false
set_option maxRecDepth 100000
noncomputable def plenumlaw28_WireNumbers_c : Code := (Try.f3.body).getD .skip
def plenumlaw28_WireNumbers_h : Hint := (.two .n (.two .n (.two .n .n)))
noncomputable def plenumlaw28_WireNumbers_env (m : Nat) : Env := [(8, .tell (plenumlaw28_awake_t m))]
noncomputable abbrev plenumlaw28_WireNumbers_fin : KO (AV × List AObj) := tellFK Try.prog [.tmp 0]
noncomputable def plenumlaw28_WireNumbers (m : Nat) : RO := exec Try.prog GG (plenumlaw28_WireNumbers_env m) m ⟨16, []⟩ plenumlaw28_WireNumbers_c plenumlaw28_WireNumbers_h ⟨[], argsT 0 []⟩ (plenumlaw28_WireNumbers_fin)
theorem plenumlaw28_WireNumbers_eq (m : Nat) : plenumlaw28_WireNumbers m =
  tellE (plenumlaw28_awake m) [] fun t14 =>
   tellK [] (ro [] t14) := by
  refine (tellX Try.prog GG (plenumlaw28_WireNumbers_env m) m ⟨16, []⟩ plenumlaw28_WireNumbers_c plenumlaw28_WireNumbers_h ⟨[], argsT 0 []⟩ [.tmp 0]).trans ?_
  kernel_rfl
noncomputable def plenumlaw28_WireNumbers_t (m : Nat) : List AV → RO | [] => plenumlaw28_WireNumbers m | _ => none
theorem plenumlaw28_WireNumbers_ok (m : Nat) : ∀ args X H', plenumlaw28_WireNumbers_t m args = some (X, H') → ACp Try.prog GG 3 args X := by
  intro args X H' h
  unfold plenumlaw28_WireNumbers_t at h
  split at h
  · exact tell_okK MIX (by
    intro f e h
    simp only [plenumlaw28_WireNumbers_env, Prod.mk.injEq, List.mem_cons, List.not_mem_nil, or_false] at h
    obtain ⟨rfl, rfl⟩ := h
    · exact plenumlaw28_awake_ok m) (f := 3) (c := plenumlaw28_WireNumbers_c) Try.func3 rfl (by kernel_rfl) _ rfl Try.ntmps3 (Nat.le_of_ble_eq_true rfl) plenumlaw28_WireNumbers_h h
  · cases h
noncomputable def plenumlaw28_WireEncodes_c : Code := (Try.f6.body).getD .skip
def plenumlaw28_WireEncodes_h : Hint := (.two .n (.two .n (.two .n (.join [1, 3] (.two .n (.two .n .n)) (.join [1, 3] (.two .n (.one (.lp [] [1, 3, 4] [1, 2, 3] (.two (.two .n (.two .n .n)) (.join [1, 3, 4] (.one (.two .n (.join [1, 3, 4, 5] (.two .n (.two .n .n)) (.two .n (.two (.two .n .n) .n))))) .n))))) (.two .n .n))))))
noncomputable def plenumlaw28_WireEncodes_env (m : Nat) : Env := [(12, .tell (plenumlaw28_Few_t m)), (13, .tell (plenumref28_May_t m)), (15, .tell (plenumref28_Encode_t m)), (16, .tell (plenumref28_Change_t m)), (17, .tell (plenumref28_EncodeChange_t m)), (19, .tell (wire_May_t m)), (14, .tell (wire_Encode_t m)), (8, .tell (plenumlaw28_awake_t m)), (18, .tell (wire_EncodeChange_t m))]
noncomputable abbrev plenumlaw28_WireEncodes_fin : KO (AV × List AObj) := tellFK Try.prog [.tmp 2]
noncomputable def plenumlaw28_WireEncodes_r4 (m : Nat) (n0 : Nat) (kc : ASt → RO) (kx : KO (AV × List AObj)) (s : ASt) : RO := joinW Try.prog GG (plenumlaw28_WireEncodes_env m) m ⟨55, []⟩ (cdR (cdR (cdL (cdL (cdR (cdL (cdR (cdR (cdR (cdR plenumlaw28_WireEncodes_c)))))))))) plenumlaw28_WireEncodes_h.r.r.r.r.l.r.c.c.r.r s (backW n0 [1, 3, 4] [1, 2, 3] kc kx)
noncomputable def plenumlaw28_WireEncodes_r3 (m : Nat) (n0 : Nat) (kc : ASt → RO) (kx : KO (AV × List AObj)) (s : ASt) : RO := joinW Try.prog GG (plenumlaw28_WireEncodes_env m) m ⟨55, []⟩ (cdR (cdR (cdL (cdL (cdR (cdL (cdL (cdR (cdL (cdR (cdR (cdR (cdR plenumlaw28_WireEncodes_c))))))))))))) plenumlaw28_WireEncodes_h.r.r.r.r.l.r.c.c.r.l.c.r.r s (blockX 1 (seqX (fun s => plenumlaw28_WireEncodes_r4 m n0 kc kx ⟨s.H, [(1, gt s.T 1), (3, gt s.T 3), (4, gt s.T 4)]⟩) (backW n0 [1, 3, 4] [1, 2, 3] kc kx)))
noncomputable def plenumlaw28_WireEncodes_r2 (m : Nat) (s : ASt) : RO := joinW Try.prog GG (plenumlaw28_WireEncodes_env m) m ⟨55, []⟩ (cdR (cdR (cdR (cdR (cdR plenumlaw28_WireEncodes_c))))) plenumlaw28_WireEncodes_h.r.r.r.r.r s (plenumlaw28_WireEncodes_fin)
noncomputable def plenumlaw28_WireEncodes_b1 (m : Nat) (s : ASt) (kc : ASt → RO) (kx : KO (AV × List AObj)) : RO := bodyW Try.prog GG (plenumlaw28_WireEncodes_env m) m ⟨55, []⟩ (cdL (cdL (cdR (cdL (cdR (cdR (cdR (cdR plenumlaw28_WireEncodes_c)))))))) plenumlaw28_WireEncodes_h.r.r.r.r.l.r.c.c [1, 3, 4] [1, 2, 3] s kc kx
noncomputable def plenumlaw28_WireEncodes_r1 (m : Nat) (s : ASt) : RO := joinW Try.prog GG (plenumlaw28_WireEncodes_env m) m ⟨55, []⟩ (cdR (cdR (cdR (cdR plenumlaw28_WireEncodes_c)))) plenumlaw28_WireEncodes_h.r.r.r.r s (plenumlaw28_WireEncodes_fin)
noncomputable def plenumlaw28_WireEncodes (m : Nat) (t0 : AV) : RO := exec Try.prog GG (plenumlaw28_WireEncodes_env m) m ⟨55, []⟩ plenumlaw28_WireEncodes_c plenumlaw28_WireEncodes_h ⟨[], argsT 0 [t0]⟩ (plenumlaw28_WireEncodes_fin)
theorem plenumlaw28_WireEncodes_r4_eq (m : Nat) (n0 : Nat) (kc : ASt → RO) (kx : KO (AV × List AObj)) (H : List AObj) (t1 t3 t4 : AV) : plenumlaw28_WireEncodes_r4 m n0 kc kx ⟨H, [(1, t1), (3, t3), (4, t4)]⟩ =
  binE none false false .add t4 (V (.int .i64 1)) fun t18 =>
  backE n0 H [(1, t1), (3, t3), (4, t18)] kc := by
  refine (joinW_eq Try.prog GG (plenumlaw28_WireEncodes_env m) m ⟨55, []⟩ (cdR (cdR (cdL (cdL (cdR (cdL (cdR (cdR (cdR (cdR plenumlaw28_WireEncodes_c)))))))))) plenumlaw28_WireEncodes_h.r.r.r.r.l.r.c.c.r.r ⟨H, [(1, t1), (3, t3), (4, t4)]⟩ (backW n0 [1, 3, 4] [1, 2, 3] kc kx)).trans ?_
  kernel_rfl
theorem plenumlaw28_WireEncodes_r3_eq (m : Nat) (n0 : Nat) (kc : ASt → RO) (kx : KO (AV × List AObj)) (H : List AObj) (t1 t3 t4 t5 : AV) : plenumlaw28_WireEncodes_r3 m n0 kc kx ⟨H, [(1, t1), (3, t3), (4, t4), (5, t5)]⟩ =
  fieldE (some (7, 1)) t1 fun t31 =>
  loadE 1 H t31 fun t32 =>
  idxSE 8 H t32 t4 fun t34 =>
  loadE 8 H t34 fun t35 =>
  tellE (wire_EncodeChange m (ro H t35)) [(ro H t35)] fun t36 =>
  convE false none true true (ro H t36) fun t37 =>
  binE none false false .neq t37 t5 fun t39 =>
  condE t39 (
   kx .ret ⟨H, [(1, t1), (2, (V (.bool false))), (3, t3)]⟩) (
   plenumlaw28_WireEncodes_r4 m n0 kc kx ⟨H, [(1, t1), (3, t3), (4, t4)]⟩) := by
  refine (joinW_eq Try.prog GG (plenumlaw28_WireEncodes_env m) m ⟨55, []⟩ (cdR (cdR (cdL (cdL (cdR (cdL (cdL (cdR (cdL (cdR (cdR (cdR (cdR plenumlaw28_WireEncodes_c))))))))))))) plenumlaw28_WireEncodes_h.r.r.r.r.l.r.c.c.r.l.c.r.r ⟨H, [(1, t1), (3, t3), (4, t4), (5, t5)]⟩ (blockX 1 (seqX (fun s => plenumlaw28_WireEncodes_r4 m n0 kc kx ⟨s.H, [(1, gt s.T 1), (3, gt s.T 3), (4, gt s.T 4)]⟩) (backW n0 [1, 3, 4] [1, 2, 3] kc kx)))).trans ?_
  kernel_rfl
theorem plenumlaw28_WireEncodes_r2_eq (m : Nat) (H : List AObj) (t1 t3 : AV) : plenumlaw28_WireEncodes_r2 m ⟨H, [(1, t1), (3, t3)]⟩ =
  loadE 10 H t1 fun t40 =>
  tellE (wire_May m (ro H t40)) [(ro H t40)] fun t41 =>
  loadE 10 H t1 fun t42 =>
  tellE (plenumref28_May m (ro H t42)) [(ro H t42)] fun t43 =>
  binE none true false .eql t41 t43 fun t44 =>
  condE t44 (
   loadE 10 H t1 fun t46 =>
   tellE (wire_Encode m (ro H t46)) [(ro H t46)] fun t47 =>
   convE false none true true (ro H t47) fun t48 =>
   binE none false false .eql t48 t3 fun t50 =>
   condE t50 (
   tellE (plenumlaw28_awake m) [] fun t53 =>
   tellK H (ro H t53)) (
   tellK H (ro H (V (.bool false))))) (
   tellK H (ro H (V (.bool false)))) := by
  refine (joinW_eq Try.prog GG (plenumlaw28_WireEncodes_env m) m ⟨55, []⟩ (cdR (cdR (cdR (cdR (cdR plenumlaw28_WireEncodes_c))))) plenumlaw28_WireEncodes_h.r.r.r.r.r ⟨H, [(1, t1), (3, t3)]⟩ (plenumlaw28_WireEncodes_fin)).trans ?_
  kernel_rfl
theorem plenumlaw28_WireEncodes_b1_eq (m : Nat) (H : List AObj) (t1 t3 t4 : AV) (kc : ASt → RO) (kx : KO (AV × List AObj)) : plenumlaw28_WireEncodes_b1 m ⟨H, [(1, t1), (3, t3), (4, t4)]⟩ kc kx =
  fieldE (some (7, 1)) t1 fun t13 =>
  loadE 1 H t13 fun t14 =>
  lenE false true H t14 fun t15 =>
  binE none false false .lss t4 t15 fun t16 =>
  condE t16 (
   fieldE (some (7, 1)) t1 fun t19 =>
   loadE 1 H t19 fun t20 =>
   idxSE 8 H t20 t4 fun t22 =>
   loadE 8 H t22 fun t23 =>
   tellE (plenumref28_Change m (ro H t23)) [(ro H t23)] fun t24 =>
   condE t24 (
    fieldE (some (7, 1)) t1 fun t25 =>
    loadE 1 H t25 fun t26 =>
    idxSE 8 H t26 t4 fun t28 =>
    loadE 8 H t28 fun t29 =>
    tellE (plenumref28_EncodeChange m (ro H t29)) [(ro H t29)] fun t30 =>
    plenumlaw28_WireEncodes_r3 m H.length kc kx ⟨H, [(1, t1), (3, t3), (4, t4), (5, t30)]⟩) (
    plenumlaw28_WireEncodes_r3 m H.length kc kx ⟨H, [(1, t1), (3, t3), (4, t4), (5, (V (.string ⟨#[]⟩)))]⟩)) (
   kx (.exit 0) ⟨H, [(1, t1), (2, .nil), (3, t3)]⟩) := by
  refine (bodyW_eq Try.prog GG (plenumlaw28_WireEncodes_env m) m ⟨55, []⟩ (cdL (cdL (cdR (cdL (cdR (cdR (cdR (cdR plenumlaw28_WireEncodes_c)))))))) plenumlaw28_WireEncodes_h.r.r.r.r.l.r.c.c [1, 3, 4] [1, 2, 3] ⟨H, [(1, t1), (3, t3), (4, t4)]⟩ kc kx).trans ?_
  kernel_rfl
theorem plenumlaw28_WireEncodes_r1_eq (m : Nat) (H : List AObj) (t1 t3 : AV) : plenumlaw28_WireEncodes_r1 m ⟨H, [(1, t1), (3, t3)]⟩ =
  iterC m (plenumlaw28_WireEncodes_b1 m) ⟨H, [(1, t1), (3, t3), (4, (V (.int .i64 0)))]⟩ (blockX 0 (seqX (fun s => plenumlaw28_WireEncodes_r2 m ⟨s.H, [(1, gt s.T 1), (3, gt s.T 3)]⟩) (plenumlaw28_WireEncodes_fin))) := by
  refine (joinW_eq Try.prog GG (plenumlaw28_WireEncodes_env m) m ⟨55, []⟩ (cdR (cdR (cdR (cdR plenumlaw28_WireEncodes_c)))) plenumlaw28_WireEncodes_h.r.r.r.r ⟨H, [(1, t1), (3, t3)]⟩ (plenumlaw28_WireEncodes_fin)).trans ?_
  kernel_rfl
theorem plenumlaw28_WireEncodes_eq (m : Nat) (t0 : AV) : plenumlaw28_WireEncodes m t0 =
  boxE ty_api_Msg [] t0 fun t1 H1 =>
  loadE 10 H1 t1 fun t6 =>
  tellE (plenumlaw28_Few m (ro H1 t6)) [(ro H1 t6)] fun t7 =>
  storeE 10 H1 t1 t7 fun H2 =>
  loadE 10 H2 t1 fun t8 =>
  tellE (plenumref28_May m (ro H2 t8)) [(ro H2 t8)] fun t9 =>
  condE t9 (
   loadE 10 H2 t1 fun t10 =>
   tellE (plenumref28_Encode m (ro H2 t10)) [(ro H2 t10)] fun t11 =>
   plenumlaw28_WireEncodes_r1 m ⟨H2, [(1, t1), (3, t11)]⟩) (
   plenumlaw28_WireEncodes_r1 m ⟨H2, [(1, t1), (3, (V (.string ⟨#[]⟩)))]⟩) := by
  refine (tellX Try.prog GG (plenumlaw28_WireEncodes_env m) m ⟨55, []⟩ plenumlaw28_WireEncodes_c plenumlaw28_WireEncodes_h ⟨[], argsT 0 [t0]⟩ [.tmp 2]).trans ?_
  kernel_rfl
noncomputable def plenumlaw28_WireEncodes_t (m : Nat) : List AV → RO | [t0] => plenumlaw28_WireEncodes m t0 | _ => none
theorem plenumlaw28_WireEncodes_ok (m : Nat) : ∀ args X H', plenumlaw28_WireEncodes_t m args = some (X, H') → ACp Try.prog GG 6 args X := by
  intro args X H' h
  unfold plenumlaw28_WireEncodes_t at h
  split at h
  · exact tell_okK MIX (by
    intro f e h
    simp only [plenumlaw28_WireEncodes_env, Prod.mk.injEq, List.mem_cons, List.not_mem_nil, or_false] at h
    rcases h with ⟨rfl, rfl⟩ | ⟨rfl, rfl⟩ | ⟨rfl, rfl⟩ | ⟨rfl, rfl⟩ | ⟨rfl, rfl⟩ | ⟨rfl, rfl⟩ | ⟨rfl, rfl⟩ | ⟨rfl, rfl⟩ | ⟨rfl, rfl⟩
    · exact plenumlaw28_Few_ok m
    · exact plenumref28_May_ok m
    · exact plenumref28_Encode_ok m
    · exact plenumref28_Change_ok m
    · exact plenumref28_EncodeChange_ok m
    · exact wire_May_ok m
    · exact wire_Encode_ok m
    · exact plenumlaw28_awake_ok m
    · exact wire_EncodeChange_ok m) (f := 6) (c := plenumlaw28_WireEncodes_c) Try.func6 rfl (by kernel_rfl) _ rfl Try.ntmps6 (Nat.le_of_ble_eq_true rfl) plenumlaw28_WireEncodes_h h
  · cases h
noncomputable def plenumlaw28_WireDecodes_c : Code := (Try.f4.body).getD .skip
def plenumlaw28_WireDecodes_h : Hint := (.two .n (.join [0] (.two .n (.two .n .n)) (.two .n (.two .n (.two .n .n)))))
noncomputable def plenumlaw28_WireDecodes_env (m : Nat) : Env := [(9, .tell (wire_Decode_t m)), (10, .tell (plenumref28_Decode_t m)), (11, .tell (plenumref28_Same_t m)), (8, .tell (plenumlaw28_awake_t m))]
noncomputable abbrev plenumlaw28_WireDecodes_fin : KO (AV × List AObj) := tellFK Try.prog [.tmp 2]
noncomputable def plenumlaw28_WireDecodes_r1 (m : Nat) (s : ASt) : RO := joinW Try.prog GG (plenumlaw28_WireDecodes_env m) m ⟨43, []⟩ (cdR (cdR plenumlaw28_WireDecodes_c)) plenumlaw28_WireDecodes_h.r.r s (plenumlaw28_WireDecodes_fin)
noncomputable def plenumlaw28_WireDecodes (m : Nat) (t0 : AV) : RO := exec Try.prog GG (plenumlaw28_WireDecodes_env m) m ⟨43, []⟩ plenumlaw28_WireDecodes_c plenumlaw28_WireDecodes_h ⟨[], argsT 0 [t0]⟩ (plenumlaw28_WireDecodes_fin)
theorem plenumlaw28_WireDecodes_r1_eq (m : Nat) (H : List AObj) (t0 : AV) : plenumlaw28_WireDecodes_r1 m ⟨H, [(0, t0)]⟩ =
  tellE (wire_Decode_t m [(ro H t0)]) [(ro H t0)] fun t16 =>
  extE t16 0 fun t17 =>
  extE t16 1 fun t18 =>
  extE t16 2 fun t19 =>
  allocE (some zc_api_Msg) ty_api_Msg H fun t3 H2 =>
  storeE 10 H2 t3 t17 fun H3 =>
  convE false none true true (ro H3 t0) fun t22 =>
  tellE (plenumref28_Decode m (ro H3 t22)) [(ro H3 t22)] fun t23 =>
  extE t23 0 fun t24 =>
  extE t23 1 fun t25 =>
  extE t23 2 fun t26 =>
  allocE (some zc_api_Msg) ty_api_Msg H3 fun t6 H4 =>
  storeE 10 H4 t6 t24 fun H5 =>
  loadE 10 H5 t3 fun t27 =>
  loadE 10 H5 t6 fun t28 =>
  tellE (plenumref28_Same m (ro H5 t27) (ro H5 t28)) [(ro H5 t27), (ro H5 t28)] fun t29 =>
  condE t29 (
   binE none false false .eql t18 t25 fun t33 =>
   condE t33 (
   binE none false false .eql t19 t26 fun t38 =>
   condE t38 (
   tellE (plenumlaw28_awake m) [] fun t41 =>
   tellK H5 (ro H5 t41)) (
   tellK H5 (ro H5 (V (.bool false))))) (
   tellK H5 (ro H5 (V (.bool false))))) (
   tellK H5 (ro H5 (V (.bool false)))) := by
  refine (joinW_eq Try.prog GG (plenumlaw28_WireDecodes_env m) m ⟨43, []⟩ (cdR (cdR plenumlaw28_WireDecodes_c)) plenumlaw28_WireDecodes_h.r.r ⟨H, [(0, t0)]⟩ (plenumlaw28_WireDecodes_fin)).trans ?_
  kernel_rfl
theorem plenumlaw28_WireDecodes_eq (m : Nat) (t0 : AV) : plenumlaw28_WireDecodes m t0 =
  lenE false true [] t0 fun t10 =>
  binE none false false .gtr t10 (V (.int .i64 4000)) fun t11 =>
  condE t11 (
   sliceE false (some (ty_uint8, 1)) [] t0 none (some (V (.int .i64 4000))) fun t13 =>
   plenumlaw28_WireDecodes_r1 m ⟨[], [(0, t13)]⟩) (
   plenumlaw28_WireDecodes_r1 m ⟨[], [(0, t0)]⟩) := by
  refine (tellX Try.prog GG (plenumlaw28_WireDecodes_env m) m ⟨43, []⟩ plenumlaw28_WireDecodes_c plenumlaw28_WireDecodes_h ⟨[], argsT 0 [t0]⟩ [.tmp 2]).trans ?_
  kernel_rfl
noncomputable def plenumlaw28_WireDecodes_t (m : Nat) : List AV → RO | [t0] => plenumlaw28_WireDecodes m t0 | _ => none
theorem plenumlaw28_WireDecodes_ok (m : Nat) : ∀ args X H', plenumlaw28_WireDecodes_t m args = some (X, H') → ACp Try.prog GG 4 args X := by
  intro args X H' h
  unfold plenumlaw28_WireDecodes_t at h
  split at h
  · exact tell_okK MIX (by
    intro f e h
    simp only [plenumlaw28_WireDecodes_env, Prod.mk.injEq, List.mem_cons, List.not_mem_nil, or_false] at h
    rcases h with ⟨rfl, rfl⟩ | ⟨rfl, rfl⟩ | ⟨rfl, rfl⟩ | ⟨rfl, rfl⟩
    · exact wire_Decode_ok m
    · exact plenumref28_Decode_ok m
    · exact plenumref28_Same_ok m
    · exact plenumlaw28_awake_ok m) (f := 4) (c := plenumlaw28_WireDecodes_c) Try.func4 rfl (by kernel_rfl) _ rfl Try.ntmps4 (Nat.le_of_ble_eq_true rfl) plenumlaw28_WireDecodes_h h
  · cases h
noncomputable def plenumlaw28_WireSame_c : Code := (Try.f7.body).getD .skip
def plenumlaw28_WireSame_h : Hint := (.two .n (.two .n (.two .n (.join [2, 3, 5] (.join [2, 3, 5, 30] .n (.two (.two .n .n) .n)) (.join [2, 3, 5] (.join [2, 3, 5, 38] .n (.two (.two .n .n) .n)) (.two .n .n))))))
noncomputable def plenumlaw28_WireSame_env (m : Nat) : Env := [(12, .tell (plenumlaw28_Few_t m)), (20, .tell (wire_Same_t m)), (11, .tell (plenumref28_Same_t m)), (13, .tell (plenumref28_May_t m)), (8, .tell (plenumlaw28_awake_t m)), (14, .tell (wire_Encode_t m))]
noncomputable abbrev plenumlaw28_WireSame_fin : KO (AV × List AObj) := tellFK Try.prog [.tmp 4]
noncomputable def plenumlaw28_WireSame_r4 (m : Nat) (s : ASt) : RO := joinW Try.prog GG (plenumlaw28_WireSame_env m) m ⟨52, []⟩ (cdR (cdR (cdR (cdR (cdR plenumlaw28_WireSame_c))))) plenumlaw28_WireSame_h.r.r.r.r.r s (plenumlaw28_WireSame_fin)
noncomputable def plenumlaw28_WireSame_r3 (m : Nat) (s : ASt) : RO := joinW Try.prog GG (plenumlaw28_WireSame_env m) m ⟨52, []⟩ (cdR (cdL (cdR (cdR (cdR (cdR plenumlaw28_WireSame_c)))))) plenumlaw28_WireSame_h.r.r.r.r.l.r s (seqX (fun s => plenumlaw28_WireSame_r4 m ⟨s.H, [(2, gt s.T 2), (3, gt s.T 3), (5, gt s.T 5)]⟩) (plenumlaw28_WireSame_fin))
noncomputable def plenumlaw28_WireSame_r2 (m : Nat) (s : ASt) : RO := joinW Try.prog GG (plenumlaw28_WireSame_env m) m ⟨52, []⟩ (cdR (cdR (cdR (cdR plenumlaw28_WireSame_c)))) plenumlaw28_WireSame_h.r.r.r.r s (plenumlaw28_WireSame_fin)
noncomputable def plenumlaw28_WireSame_r1 (m : Nat) (s : ASt) : RO := joinW Try.prog GG (plenumlaw28_WireSame_env m) m ⟨52, []⟩ (cdR (cdL (cdR (cdR (cdR plenumlaw28_WireSame_c))))) plenumlaw28_WireSame_h.r.r.r.l.r s (seqX (fun s => plenumlaw28_WireSame_r2 m ⟨s.H, [(2, gt s.T 2), (3, gt s.T 3), (5, gt s.T 5)]⟩) (plenumlaw28_WireSame_fin))
noncomputable def plenumlaw28_WireSame (m : Nat) (t0 t1 : AV) : RO := exec Try.prog GG (plenumlaw28_WireSame_env m) m ⟨52, []⟩ plenumlaw28_WireSame_c plenumlaw28_WireSame_h ⟨[], argsT 0 [t0, t1]⟩ (plenumlaw28_WireSame_fin)
theorem plenumlaw28_WireSame_r4_eq (m : Nat) (H : List AObj) (t2 t3 t5 : AV) : plenumlaw28_WireSame_r4 m ⟨H, [(2, t2), (3, t3), (5, t5)]⟩ =
  loadE 10 H t2 fun t41 =>
  tellE (wire_Encode m (ro H t41)) [(ro H t41)] fun t42 =>
  convE false none true true (ro H t42) fun t43 =>
  loadE 10 H t3 fun t44 =>
  tellE (wire_Encode m (ro H t44)) [(ro H t44)] fun t45 =>
  convE false none true true (ro H t45) fun t46 =>
  binE none false false .eql t43 t46 fun t47 =>
  binE none true false .eql t5 t47 fun t48 =>
  condE t48 (
   tellE (plenumlaw28_awake m) [] fun t50 =>
   tellK H (ro H t50)) (
   tellK H (ro H (V (.bool false)))) := by
  refine (joinW_eq Try.prog GG (plenumlaw28_WireSame_env m) m ⟨52, []⟩ (cdR (cdR (cdR (cdR (cdR plenumlaw28_WireSame_c))))) plenumlaw28_WireSame_h.r.r.r.r.r ⟨H, [(2, t2), (3, t3), (5, t5)]⟩ (plenumlaw28_WireSame_fin)).trans ?_
  kernel_rfl
theorem plenumlaw28_WireSame_r3_eq (m : Nat) (H : List AObj) (t2 t3 t5 t38 : AV) : plenumlaw28_WireSame_r3 m ⟨H, [(2, t2), (3, t3), (5, t5), (38, t38)]⟩ =
  condE t38 (
   tellE (plenumlaw28_awake m) [] fun t39 =>
   tellK H (ro H t39)) (
   plenumlaw28_WireSame_r4 m ⟨H, [(2, t2), (3, t3), (5, t5)]⟩) := by
  refine (joinW_eq Try.prog GG (plenumlaw28_WireSame_env m) m ⟨52, []⟩ (cdR (cdL (cdR (cdR (cdR (cdR plenumlaw28_WireSame_c)))))) plenumlaw28_WireSame_h.r.r.r.r.l.r ⟨H, [(2, t2), (3, t3), (5, t5), (38, t38)]⟩ (seqX (fun s => plenumlaw28_WireSame_r4 m ⟨s.H, [(2, gt s.T 2), (3, gt s.T 3), (5, gt s.T 5)]⟩) (plenumlaw28_WireSame_fin))).trans ?_
  kernel_rfl
theorem plenumlaw28_WireSame_r2_eq (m : Nat) (H : List AObj) (t2 t3 t5 : AV) : plenumlaw28_WireSame_r2 m ⟨H, [(2, t2), (3, t3), (5, t5)]⟩ =
  loadE 10 H t2 fun t31 =>
  tellE (plenumref28_May m (ro H t31)) [(ro H t31)] fun t32 =>
  unE .not t32 fun t33 =>
  condE t33 (
   plenumlaw28_WireSame_r3 m ⟨H, [(2, t2), (3, t3), (5, t5), (38, (V (.bool true)))]⟩) (
   loadE 10 H t3 fun t35 =>
   tellE (plenumref28_May m (ro H t35)) [(ro H t35)] fun t36 =>
   unE .not t36 fun t37 =>
   plenumlaw28_WireSame_r3 m ⟨H, [(2, t2), (3, t3), (5, t5), (38, t37)]⟩) := by
  refine (joinW_eq Try.prog GG (plenumlaw28_WireSame_env m) m ⟨52, []⟩ (cdR (cdR (cdR (cdR plenumlaw28_WireSame_c)))) plenumlaw28_WireSame_h.r.r.r.r ⟨H, [(2, t2), (3, t3), (5, t5)]⟩ (plenumlaw28_WireSame_fin)).trans ?_
  kernel_rfl
theorem plenumlaw28_WireSame_r1_eq (m : Nat) (H : List AObj) (t2 t3 t5 t30 : AV) : plenumlaw28_WireSame_r1 m ⟨H, [(2, t2), (3, t3), (5, t5), (30, t30)]⟩ =
  condE t30 (
   tellK H (ro H (V (.bool false)))) (
   plenumlaw28_WireSame_r2 m ⟨H, [(2, t2), (3, t3), (5, t5)]⟩) := by
  refine (joinW_eq Try.prog GG (plenumlaw28_WireSame_env m) m ⟨52, []⟩ (cdR (cdL (cdR (cdR (cdR plenumlaw28_WireSame_c))))) plenumlaw28_WireSame_h.r.r.r.l.r ⟨H, [(2, t2), (3, t3), (5, t5), (30, t30)]⟩ (seqX (fun s => plenumlaw28_WireSame_r2 m ⟨s.H, [(2, gt s.T 2), (3, gt s.T 3), (5, gt s.T 5)]⟩) (plenumlaw28_WireSame_fin))).trans ?_
  kernel_rfl
theorem plenumlaw28_WireSame_eq (m : Nat) (t0 t1 : AV) : plenumlaw28_WireSame m t0 t1 =
  boxE ty_api_Msg [] t0 fun t2 H1 =>
  boxE ty_api_Msg H1 t1 fun t3 H2 =>
  loadE 10 H2 t2 fun t6 =>
  tellE (plenumlaw28_Few m (ro H2 t6)) [(ro H2 t6)] fun t7 =>
  loadE 10 H2 t3 fun t8 =>
  tellE (plenumlaw28_Few m (ro H2 t8)) [(ro H2 t8)] fun t9 =>
  storeE 10 H2 t2 t7 fun H3 =>
  storeE 10 H3 t3 t9 fun H4 =>
  loadE 10 H4 t2 fun t10 =>
  loadE 10 H4 t3 fun t11 =>
  tellE (wire_Same m (ro H4 t10) (ro H4 t11)) [(ro H4 t10), (ro H4 t11)] fun t12 =>
  loadE 10 H4 t2 fun t14 =>
  loadE 10 H4 t3 fun t15 =>
  tellE (plenumref28_Same m (ro H4 t14) (ro H4 t15)) [(ro H4 t14), (ro H4 t15)] fun t16 =>
  binE none true false .neq t12 t16 fun t17 =>
  condE t17 (
   plenumlaw28_WireSame_r1 m ⟨H4, [(2, t2), (3, t3), (5, t12), (30, (V (.bool true)))]⟩) (
   loadE 10 H4 t2 fun t19 =>
   loadE 10 H4 t2 fun t20 =>
   tellE (wire_Same m (ro H4 t19) (ro H4 t20)) [(ro H4 t19), (ro H4 t20)] fun t21 =>
   unE .not t21 fun t22 =>
   condE t22 (
   plenumlaw28_WireSame_r1 m ⟨H4, [(2, t2), (3, t3), (5, t12), (30, (V (.bool true)))]⟩) (
   loadE 10 H4 t3 fun t25 =>
   loadE 10 H4 t2 fun t26 =>
   tellE (wire_Same m (ro H4 t25) (ro H4 t26)) [(ro H4 t25), (ro H4 t26)] fun t27 =>
   binE none true false .neq t27 t12 fun t29 =>
   plenumlaw28_WireSame_r1 m ⟨H4, [(2, t2), (3, t3), (5, t12), (30, t29)]⟩)) := by
  refine (tellX Try.prog GG (plenumlaw28_WireSame_env m) m ⟨52, []⟩ plenumlaw28_WireSame_c plenumlaw28_WireSame_h ⟨[], argsT 0 [t0, t1]⟩ [.tmp 4]).trans ?_
  kernel_rfl
noncomputable def plenumlaw28_WireSame_t (m : Nat) : List AV → RO | [t0, t1] => plenumlaw28_WireSame m t0 t1 | _ => none
theorem plenumlaw28_WireSame_ok (m : Nat) : ∀ args X H', plenumlaw28_WireSame_t m args = some (X, H') → ACp Try.prog GG 7 args X := by
  intro args X H' h
  unfold plenumlaw28_WireSame_t at h
  split at h
  · exact tell_okK MIX (by
    intro f e h
    simp only [plenumlaw28_WireSame_env, Prod.mk.injEq, List.mem_cons, List.not_mem_nil, or_false] at h
    rcases h with ⟨rfl, rfl⟩ | ⟨rfl, rfl⟩ | ⟨rfl, rfl⟩ | ⟨rfl, rfl⟩ | ⟨rfl, rfl⟩ | ⟨rfl, rfl⟩
    · exact plenumlaw28_Few_ok m
    · exact wire_Same_ok m
    · exact plenumref28_Same_ok m
    · exact plenumref28_May_ok m
    · exact plenumlaw28_awake_ok m
    · exact wire_Encode_ok m) (f := 7) (c := plenumlaw28_WireSame_c) Try.func7 rfl (by kernel_rfl) _ rfl Try.ntmps7 (Nat.le_of_ble_eq_true rfl) plenumlaw28_WireSame_h h
  · cases h
end Go.Proofs.Ytbdbmfifclmpcaa

namespace Go.Proofs.Ytbdbmfifclmpcaa
open Go.RowKit
set_option linter.unusedVariables false
set_option linter.unusedSimpArgs false
set_option maxRecDepth 20000
theorem u_bconv {R : Type} {K1 : AV → Option R} {isS so : Bool} {dk : Option IntKind} {l : List UInt8} : convE isS dk so true (SL (bC l)) K1 = K1 (V (.string ⟨l.toArray⟩)) := by
  show (match bytesOf (bC l) with | some l => K1 (V (.string ⟨l.toArray⟩)) | none => none) = _
  rw [bytesOf_bC]
attribute [local go_sem] Nat.zero_add Nat.add_zero Nat.mul_one Int.toNat_natCast Int.natCast_zero Int.cast_ofNat_Int or_false false_or or_true true_or Nat.sub_zero Int.natCast_nonneg Int.toNat_zero Bool.true_and Bool.and_true Bool.false_and Bool.and_false Bool.true_or Bool.or_true Bool.false_or Bool.or_false Bool.not_true Bool.not_false Bool.not_not true_and and_true false_and and_false not_true_eq_false not_false_eq_true eq_self decide_true decide_false ne_eq implies_true forall_const true_implies false_implies Bool.true_eq_false Bool.false_eq_true List.map_cons List.map_nil List.all_cons List.all_nil List.length_cons List.length_nil List.length_map List.length_append List.nil_append List.cons_append List.set_cons_zero List.set_cons_succ List.set_nil List.drop_zero List.drop_succ_cons List.drop_nil List.take_zero List.take_succ_cons List.take_nil Option.map_some Option.map_none Option.isSome_some List.all_append List.all_map Function.comp_def decide_eq_true_eq Bool.and_eq_true beq_self_eq_true or_self and_self ite_true ite_false Nat.le_refl Bool.not_eq_true decide_not Bool.not_eq_true' decide_eq_false_iff_not Bool.not_eq_false Bool.or_eq_true if_true if_false ite_self u_roF u_cvF u_cvC u_ceT u_ceK u_appS sm_it sm_len sm_sure sm_ltA sm_lt1 sm_all1 sm_ro sm_take sm_sl sm_set sm_noT sm_fr sm_st_fr sm_set_fr sm_kd sm_st_kd sm_set_kd sm_vw sm_st_vw sm_set_vw sm_sq sm_st_sq sm_set_sq sm_tm sm_st_tm sm_set_tm zsm_len zsm_sure zsm_lt1 zsm_sl zsm_ro zsm_setz zsm_set zsm_setr zsm_take sms_ltA sms_len ce_it ce_len ce_sure ce_ltA ce_lt1 ce_all1 ce_ro ce_take ce_sl ce_set ce_noT ce_sq ce_st_sq ce_set_sq ce_vw ce_st_vw ce_set_vw ce_tm ce_st_tm ce_set_tm ce_body ce_st_body ce_set_body ce_vs ce_st_vs ce_set_vs zce_len zce_sure zce_lt1 zce_sl zce_ro zce_setz zce_set zce_setr zce_take ces_ltA ces_len cg_it cg_len cg_sure cg_ltA cg_lt1 cg_all1 cg_ro cg_take cg_sl cg_set cg_noT cg_fr cg_st_fr cg_set_fr cg_vw cg_st_vw cg_set_vw cg_st cg_st_st cg_set_st cg_rt cg_st_rt cg_set_rt cg_pf cg_st_pf cg_set_pf cg_cs cg_st_cs cg_set_cs zcg_len zcg_sure zcg_lt1 zcg_sl zcg_ro zcg_setz zcg_set zcg_setr zcg_take cgs_ltA cgs_len ms_it ms_len ms_sure ms_ltA ms_lt1 ms_all1 ms_ro ms_take ms_sl ms_set ms_noT ms_kd ms_st_kd ms_set_kd ms_fr ms_st_fr ms_set_fr ms_vw ms_st_vw ms_set_vw ms_sq ms_st_sq ms_set_sq ms_tm ms_st_tm ms_set_tm ms_body ms_st_body ms_set_body ms_vs ms_st_vs ms_set_vs ms_chs ms_st_chs ms_set_chs zms_len zms_sure zms_lt1 zms_sl zms_ro zms_setz zms_set zms_setr zms_take mss_ltA mss_len natInt u_nthM u_bz u_bi1 u_bi2 u_bi3 u_bi4 u_bi5 u_bi6 u_bi7 List.take_length u_eqE u_bconv u_sconv
def exM : Ms := ⟨3, 1, 2, 3, 4, [], [], []⟩
theorem exM_b : msB exM = true := by decide
theorem exM_e : encMs exM = [3, 1, 2, 3, 4, 0, 0, 0] := by decide +kernel
theorem exM_7 : decW [3, 1, 2, 3, 4, 0, 0] = (Ms.zero, 2, 7) := by decide +kernel
theorem exM_9 : decW [3, 1, 2, 3, 4, 0, 0, 0, 0] = (Ms.zero, 7, 8) := by decide +kernel
theorem exM_bu {R : Type} {K : AV → Option R} : buildE (some pl_api_Msg) (some zc_api_Msg) [(0, (V (.int .i64 3))), (1, (V (.int .i64 1))), (2, (V (.int .i64 2))), (3, (V (.int .i64 3))), (4, (V (.int .i64 4)))] K = K (.agg [nA 3, nA 1, nA 2, nA 3, nA 4, sA [], V (.slice none 0 0), V (.slice none 0 0)]) := _root_.id rfl
theorem exM_ro {H : List AObj} : ro H (.agg [nA 3, nA 1, nA 2, nA 3, nA 4, sA [], V (.slice none 0 0), V (.slice none 0 0)]) = .agg (msC exM) := _root_.id rfl
theorem exM_a8 : bC [3, 1, 2, 3, 4, 0, 0, 0] ++ [V (.int .u8 0)] = bC [3, 1, 2, 3, 4, 0, 0, 0, 0] := _root_.id rfl
theorem exM_c7 : cutE (bC [3, 1, 2, 3, 4, 0, 0, 0]) 0 7 = bC [3, 1, 2, 3, 4, 0, 0] := _root_.id rfl
theorem awake28_s (m : Nat) (hm : 70 < m) : plenumlaw28_awake m = some (bA true, []) := by
  have h1 := encodeO_s m exM exM_b hm
  have h7 := wire_Decode_e m [3, 1, 2, 3, 4, 0, 0] (by decide)
  have h9 := wire_Decode_e m [3, 1, 2, 3, 4, 0, 0, 0, 0] (by decide)
  rw [exM_7] at h7
  rw [exM_9] at h9
  rw [exM_e, ms_it] at h1
  have l9 : (bC [3, 1, 2, 3, 4, 0, 0, 0, 0]).length = 9 := rfl
  have a8 : ((bC [3, 1, 2, 3, 4, 0, 0, 0]).all fun d => decide ((cellsOf d).length = 1)) = true := rfl
  have l8 : (bC [3, 1, 2, 3, 4, 0, 0, 0]).length = 8 := rfl
  simp only [List.length_cons, List.length_nil, Nat.zero_add, Nat.reduceAdd] at h1
  rw [plenumlaw28_awake_eq, exM_bu]
  simp (config := {maxSteps := 4000000, implicitDefEqProofs := false}) (disch := omega) only [go_sem, ↓reduceIte, Nat.reduceAdd, Nat.reduceSub, Nat.reduceMul, Nat.reduceLeDiff, Nat.reduceLT, Int.reduceEq, Int.reduceNe, Int.reduceLT, Int.reduceLE, Int.reduceAdd, Int.reduceSub, Int.reduceMul, Int.reduceNeg, Int.reduceToNat, reduceCtorEq, Nat.reduceEqDiff, Nat.reduceBEq, Nat.reduceGT, h1, h7, h9, exM_ro, exM_a8, exM_c7, l8, l9, a8, decX]
theorem wireNumbers_s (m : Nat) (hm : 70 < m) : plenumlaw28_WireNumbers m = some (bA true, []) := by
  have h := awake28_s m hm
  rw [plenumlaw28_WireNumbers_eq]
  simp (config := {maxSteps := 4000000, implicitDefEqProofs := false}) (disch := omega) only [go_sem, ↓reduceIte, Nat.reduceAdd, Nat.reduceSub, Nat.reduceMul, Nat.reduceLeDiff, Nat.reduceLT, Int.reduceEq, Int.reduceNe, Int.reduceLT, Int.reduceLE, Int.reduceAdd, Int.reduceSub, Int.reduceMul, Int.reduceNeg, Int.reduceToNat, reduceCtorEq, Nat.reduceEqDiff, Nat.reduceBEq, Nat.reduceGT, h]
theorem msB_sz {m : Nat} {x : Ms} (h : msB x = true) (hm : 70 < m) : SzM m x := by
  obtain ⟨_, _, _, _, _, h6, h7⟩ := msB_ok h
  have h8 := smsB_ok h6
  have h9 := cgsB_ok h7
  refine ⟨by omega, by omega, by omega, by omega, fun y hy => ?_⟩
  obtain ⟨_, _, k3, k4⟩ := cgB_ok (List.all_eq_true.1 h9.2 y hy)
  have k5 := smsB_ok k3
  have k6 := cesB_ok k4
  refine ⟨by omega, by omega, by omega, by omega, fun z hz => ?_⟩
  have k7 := smsB_ok (ceB_ok (List.all_eq_true.1 k6.2 z hz)).2.2
  exact ⟨by omega, by omega⟩
theorem zero_sz {m : Nat} (hm : 70 < m) : SzM m Ms.zero := ⟨by simp [Ms.zero]; omega, by simp [Ms.zero], by simp [Ms.zero]; omega, by simp [Ms.zero], fun y hy => by simp [Ms.zero] at hy⟩
theorem decW_sz {m : Nat} (b : List UInt8) (hm : 70 < m) : SzM m (decW b).1 := by
  unfold decW
  split
  · rename_i x a h; exact msB_sz (enc_dec h).2 hm
  · exact zero_sz hm
theorem enc_inj {x y : Ms} (hx : msB x = true) (hy : msB y = true) : decide (x = y) = decide (encMs x = encMs y) := by
  refine decide_eq_decide.2 ⟨fun e => by rw [e], fun e => ?_⟩
  have h1 := dec_enc hx
  rw [e, dec_enc hy] at h1
  injection h1 with h1
  exact h1.symm
theorem decodes_r (m : Nat) (b : List UInt8) (hb : b.length ≤ 4000) (hm : 70 < m) : plenumlaw28_WireDecodes_r1 m ⟨[], [(0, SL (bC b))]⟩ = some (bA true, []) := by
  have ha := awake28_s m hm
  have h1 := wire_Decode_e m b (by omega)
  have h2 := rdecode_s (b := b) m (by omega) hm
  rw [decF_eq] at h2
  have hz := decW_sz (m := m) b hm
  obtain ⟨⟨x, e, a⟩, hx⟩ : ∃ r, r = decW b := ⟨_, rfl⟩
  rw [← hx] at h1 h2 hz
  have h3 := rsame_s m x x hz
  rw [ms_it] at h3
  rw [plenumlaw28_WireDecodes_r1_eq]
  simp (config := {maxSteps := 4000000, implicitDefEqProofs := false}) (disch := omega) only [go_sem, ↓reduceIte, Nat.reduceAdd, Nat.reduceSub, Nat.reduceMul, Nat.reduceLeDiff, Nat.reduceLT, Int.reduceEq, Int.reduceNe, Int.reduceLT, Int.reduceLE, Int.reduceAdd, Int.reduceSub, Int.reduceMul, Int.reduceNeg, Int.reduceToNat, reduceCtorEq, Nat.reduceEqDiff, Nat.reduceBEq, Nat.reduceGT, ha, h1, h2, h3, decX]
theorem bC_all1 {l : List UInt8} : ((bC l).all fun d => decide ((cellsOf d).length = 1)) = true := by
  rw [List.all_eq_true]
  intro d hd
  obtain ⟨b, _, rfl⟩ := List.mem_map.1 hd
  rfl
theorem wireDecodes_s (m : Nat) (b : List UInt8) (hb : b.length ≤ maxLen) (hm : 70 < m) : plenumlaw28_WireDecodes m (SL (bC b)) = some (bA true, []) := by
  have hM : (maxLen : Nat) = 9223372036854775807 := rfl
  rw [plenumlaw28_WireDecodes_eq]
  by_cases h : 4000 < b.length
  · have h1 : (b.length : Int) > 4000 := by omega
    have h2 : cutE (bC b) 0 4000 = bC (b.take 4000) := by rw [← bC_take]; rfl
    have h3 := decodes_r m (b.take 4000) (by simp; omega) hm
    have h4 : (4000 : Int) ≤ b.length := by omega
    simp (config := {maxSteps := 4000000, implicitDefEqProofs := false}) (disch := omega) only [go_sem, ↓reduceIte, Nat.reduceAdd, Nat.reduceSub, Nat.reduceMul, Nat.reduceLeDiff, Nat.reduceLT, Int.reduceEq, Int.reduceNe, Int.reduceLT, Int.reduceLE, Int.reduceAdd, Int.reduceSub, Int.reduceMul, Int.reduceNeg, Int.reduceToNat, reduceCtorEq, Nat.reduceEqDiff, Nat.reduceBEq, Nat.reduceGT, bC_length, h1, h2, h3, h4, bC_all1]
  · have h1 : ¬ (b.length : Int) > 4000 := by omega
    have h3 := decodes_r m b (by omega) hm
    simp (config := {maxSteps := 4000000, implicitDefEqProofs := false}) (disch := omega) only [go_sem, ↓reduceIte, Nat.reduceAdd, Nat.reduceSub, Nat.reduceMul, Nat.reduceLeDiff, Nat.reduceLT, Int.reduceEq, Int.reduceNe, Int.reduceLT, Int.reduceLE, Int.reduceAdd, Int.reduceSub, Int.reduceMul, Int.reduceNeg, Int.reduceToNat, reduceCtorEq, Nat.reduceEqDiff, Nat.reduceBEq, Nat.reduceGT, bC_length, h1, h3]
def wantM (x : Ms) : List UInt8 := if msB x = true then encMs x else []
def ownC (x : Ch) : List UInt8 := if cgB x = true then encCg x else []
theorem encodes_r2 (m : Nat) (x : Ms) (hz : SzM m x) (hm : 70 < m) : plenumlaw28_WireEncodes_r2 m ⟨[⟨1, ty_api_Msg, 0, msC x⟩], [(1, OP 0 0), (3, sA (wantM x))]⟩ = some (bA true, []) := by
  have ha := awake28_s m hm
  have h1 := may_s m x hm
  have h2 := rmay_s m x hz
  have h3 := encode_s m x hm
  rw [show (if msB x = true then encMs x else []) = wantM x from rfl] at h3
  rw [ms_it] at h1 h2 h3
  rw [plenumlaw28_WireEncodes_r2_eq]
  simp (config := {maxSteps := 4000000, implicitDefEqProofs := false}) (disch := omega) only [go_sem, ↓reduceIte, Nat.reduceAdd, Nat.reduceSub, Nat.reduceMul, Nat.reduceLeDiff, Nat.reduceLT, Int.reduceEq, Int.reduceNe, Int.reduceLT, Int.reduceLE, Int.reduceAdd, Int.reduceSub, Int.reduceMul, Int.reduceNeg, Int.reduceToNat, reduceCtorEq, Nat.reduceEqDiff, Nat.reduceBEq, Nat.reduceGT, ha, h1, h2, h3]
theorem encodes_r3 (m : Nat) (x : Ms) (k : Nat) (hk : k < x.chs.length) (hl : x.chs.length ≤ 66) (hm : 70 < m) (n0 : Nat) (kc : ASt → RO) (kx : KO (AV × List AObj)) :
    plenumlaw28_WireEncodes_r3 m n0 kc kx ⟨[⟨1, ty_api_Msg, 0, msC x⟩], [(1, OP 0 0), (3, sA (wantM x)), (4, nA k), (5, sA (ownC x.chs[k]))]⟩ = backE n0 [⟨1, ty_api_Msg, 0, msC x⟩] [(1, OP 0 0), (3, sA (wantM x)), (4, nA (k + 1 : Nat))] kc := by
  have h1 := encodeChange_s m x.chs[k] hm
  rw [show (if cgB x.chs[k] = true then encCg x.chs[k] else []) = ownC x.chs[k] from rfl, cg_it] at h1
  have hlt' : (k : Int) < (x.chs.length : Int) := by omega
  rw [plenumlaw28_WireEncodes_r3_eq]
  simp (config := {maxSteps := 4000000, implicitDefEqProofs := false}) (disch := omega) only [go_sem, ↓reduceIte, Nat.reduceAdd, Nat.reduceSub, Nat.reduceMul, Nat.reduceLeDiff, Nat.reduceLT, Int.reduceEq, Int.reduceNe, Int.reduceLT, Int.reduceLE, Int.reduceAdd, Int.reduceSub, Int.reduceMul, Int.reduceNeg, Int.reduceToNat, reduceCtorEq, Nat.reduceEqDiff, Nat.reduceBEq, Nat.reduceGT, h1, hlt', w_i64, plenumlaw28_WireEncodes_r4_eq, plenumlaw28_WireEncodes_r3_eq, plenumlaw28_WireEncodes_r2_eq, plenumlaw28_WireEncodes_r1_eq]
  rfl
theorem encodes_r1 (m : Nat) (x : Ms) (hz : SzM m x) (hl : x.chs.length ≤ 66) (hm : 70 < m) : plenumlaw28_WireEncodes_r1 m ⟨[⟨1, ty_api_Msg, 0, msC x⟩], [(1, OP 0 0), (3, sA (wantM x))]⟩ = some (bA true, []) := by
  have h2 := encodes_r2 m x hz hm
  rw [plenumlaw28_WireEncodes_r1_eq]
  refine iter_go (m := m) (ι := {k : Nat // k ≤ x.chs.length}) (fun k => ⟨[⟨1, ty_api_Msg, 0, msC x⟩], [(1, OP 0 0), (3, sA (wantM x)), (4, nA k.1)]⟩) (fun k => x.chs.length - k.1) (fun _ => some (bA true, [])) ?_ ⟨0, Nat.zero_le _⟩ (by dsimp only; omega)
  rintro kx hkx ⟨k, hk⟩ kc hkc
  dsimp only at hkc ⊢
  rw [plenumlaw28_WireEncodes_b1_eq]
  by_cases hlt : k < x.chs.length
  · have hlt' : (k : Int) < (x.chs.length : Int) := by omega
    obtain ⟨_, _, _, _, hv⟩ := hz
    obtain ⟨v1, v2, v3, v4, v5⟩ := hv x.chs[k] (List.getElem_mem hlt)
    have g1 := rchange_s m x.chs[k] v1 v2 v3 v4 v5
    have step := hkc ⟨k + 1, by omega⟩ (by dsimp only; omega)
    dsimp only at step
    have h3 := fun n0 kx => encodes_r3 m x k hlt hl hm n0 kc kx
    by_cases hc : cgB x.chs[k] = true
    · have g2 := rencodeChange_s m x.chs[k] hc hm
      rw [hc, cg_it] at g1
      rw [cg_it] at g2
      unfold ownC at h3
      simp only [hc, if_true] at h3
      simp (config := {maxSteps := 4000000, implicitDefEqProofs := false}) (disch := omega) only [go_sem, ↓reduceIte, Nat.reduceAdd, Nat.reduceSub, Nat.reduceMul, Nat.reduceLeDiff, Nat.reduceLT, Int.reduceEq, Int.reduceNe, Int.reduceLT, Int.reduceLE, Int.reduceAdd, Int.reduceSub, Int.reduceMul, Int.reduceNeg, Int.reduceToNat, reduceCtorEq, Nat.reduceEqDiff, Nat.reduceBEq, Nat.reduceGT, hlt', g1, g2, h3]
      exact step
    · have hc' : cgB x.chs[k] = false := by simpa using hc
      rw [hc', cg_it] at g1
      unfold ownC at h3
      simp only [hc', Bool.false_eq_true, if_false] at h3
      simp (config := {maxSteps := 4000000, implicitDefEqProofs := false}) (disch := omega) only [go_sem, ↓reduceIte, Nat.reduceAdd, Nat.reduceSub, Nat.reduceMul, Nat.reduceLeDiff, Nat.reduceLT, Int.reduceEq, Int.reduceNe, Int.reduceLT, Int.reduceLE, Int.reduceAdd, Int.reduceSub, Int.reduceMul, Int.reduceNeg, Int.reduceToNat, reduceCtorEq, Nat.reduceEqDiff, Nat.reduceBEq, Nat.reduceGT, hlt', g1, h3]
      exact step
  · obtain rfl : k = x.chs.length := by omega
    have hlt' : ¬ (x.chs.length : Int) < (x.chs.length : Int) := Int.lt_irrefl _
    simp (config := {maxSteps := 4000000, implicitDefEqProofs := false}) (disch := omega) only [go_sem, ↓reduceIte, Nat.reduceAdd, Nat.reduceSub, Nat.reduceMul, Nat.reduceLeDiff, Nat.reduceLT, Int.reduceEq, Int.reduceNe, Int.reduceLT, Int.reduceLE, Int.reduceAdd, Int.reduceSub, Int.reduceMul, Int.reduceNeg, Int.reduceToNat, reduceCtorEq, Nat.reduceEqDiff, Nat.reduceBEq, Nat.reduceGT, hlt', hkx, h2]
theorem wireEncodes_s (m : Nat) (x : Ms) (hx : BigM x) (hm : 1000 < m) : plenumlaw28_WireEncodes m (msE x) = some (bA true, []) := by
  have h1 := few_s m x (by omega) hx
  have hz := few_sz m x hm
  have hl : (msF x).chs.length ≤ 66 := by unfold msF; simp; omega
  generalize msF x = y at *
  have h2 := rmay_s m y hz
  have h3 := encodes_r1 m y hz hl (by omega)
  rw [ms_it, ms_it] at h1
  rw [ms_it] at h2
  rw [plenumlaw28_WireEncodes_eq, ms_it]
  by_cases hb : msB y = true
  · have h4 := rencode_s m y hb (by omega)
    rw [ms_it] at h4
    rw [hb] at h2
    unfold wantM at h3
    simp only [hb, if_true] at h3
    simp (config := {maxSteps := 4000000, implicitDefEqProofs := false}) (disch := omega) only [go_sem, ↓reduceIte, Nat.reduceAdd, Nat.reduceSub, Nat.reduceMul, Nat.reduceLeDiff, Nat.reduceLT, Int.reduceEq, Int.reduceNe, Int.reduceLT, Int.reduceLE, Int.reduceAdd, Int.reduceSub, Int.reduceMul, Int.reduceNeg, Int.reduceToNat, reduceCtorEq, Nat.reduceEqDiff, Nat.reduceBEq, Nat.reduceGT, h1, h2, h3, h4]
  · have hb' : msB y = false := by simpa using hb
    rw [hb'] at h2
    unfold wantM at h3
    simp only [hb', Bool.false_eq_true, if_false] at h3
    simp (config := {maxSteps := 4000000, implicitDefEqProofs := false}) (disch := omega) only [go_sem, ↓reduceIte, Nat.reduceAdd, Nat.reduceSub, Nat.reduceMul, Nat.reduceLeDiff, Nat.reduceLT, Int.reduceEq, Int.reduceNe, Int.reduceLT, Int.reduceLE, Int.reduceAdd, Int.reduceSub, Int.reduceMul, Int.reduceNeg, Int.reduceToNat, reduceCtorEq, Nat.reduceEqDiff, Nat.reduceBEq, Nat.reduceGT, h1, h2, h3]
theorem same_comm (x y : Ms) : decide (y = x) = decide (x = y) := decide_eq_decide.2 ⟨fun h => h.symm, fun h => h.symm⟩
theorem wireSame_s (m : Nat) (x y : Ms) (hx : BigM x) (hy : BigM y) (hm : 1000 < m) : plenumlaw28_WireSame m (msE x) (msE y) = some (bA true, []) := by
  have f1 := few_s m x (by omega) hx
  have f2 := few_s m y (by omega) hy
  have z1 := few_sz m x hm
  have z2 := few_sz m y hm
  rw [ms_it, ms_it] at f1 f2
  rw [plenumlaw28_WireSame_eq, ms_it, ms_it]
  generalize msF x = a at *
  generalize msF y = b at *
  have s1 := same_s m a b z1
  have s2 := rsame_s m a b z1
  have s3 := same_s m a a z1
  have s4 := same_s m b a z2
  have m1 := rmay_s m a z1
  have m2 := rmay_s m b z2
  have e1 := encode_s m a (by omega)
  have e2 := encode_s m b (by omega)
  have ha := awake28_s m (by omega)
  rw [same_comm] at s4
  rw [decide_eq_true (rfl : a = a)] at s3
  rw [ms_it, ms_it] at s1 s2 s4
  rw [ms_it] at s3 m1 m2 e1 e2
  cases h1 : msB a with
  | false =>
    rw [h1] at m1
    simp (config := {maxSteps := 4000000, implicitDefEqProofs := false}) (disch := omega) only [go_sem, ↓reduceIte, Nat.reduceAdd, Nat.reduceSub, Nat.reduceMul, Nat.reduceLeDiff, Nat.reduceLT, Int.reduceEq, Int.reduceNe, Int.reduceLT, Int.reduceLE, Int.reduceAdd, Int.reduceSub, Int.reduceMul, Int.reduceNeg, Int.reduceToNat, reduceCtorEq, Nat.reduceEqDiff, Nat.reduceBEq, Nat.reduceGT, f1, f2, s1, s2, s3, s4, m1, ha, plenumlaw28_WireSame_r4_eq, plenumlaw28_WireSame_r3_eq, plenumlaw28_WireSame_r2_eq, plenumlaw28_WireSame_r1_eq]
  | true =>
    rw [h1] at m1
    cases h2 : msB b with
    | false =>
      rw [h2] at m2
      simp (config := {maxSteps := 4000000, implicitDefEqProofs := false}) (disch := omega) only [go_sem, ↓reduceIte, Nat.reduceAdd, Nat.reduceSub, Nat.reduceMul, Nat.reduceLeDiff, Nat.reduceLT, Int.reduceEq, Int.reduceNe, Int.reduceLT, Int.reduceLE, Int.reduceAdd, Int.reduceSub, Int.reduceMul, Int.reduceNeg, Int.reduceToNat, reduceCtorEq, Nat.reduceEqDiff, Nat.reduceBEq, Nat.reduceGT, f1, f2, s1, s2, s3, s4, m1, m2, ha, plenumlaw28_WireSame_r4_eq, plenumlaw28_WireSame_r3_eq, plenumlaw28_WireSame_r2_eq, plenumlaw28_WireSame_r1_eq]
    | true =>
      rw [h2] at m2
      rw [h1] at e1
      rw [h2] at e2
      have hj := enc_inj h1 h2
      simp only [if_true] at e1 e2
      simp (config := {maxSteps := 4000000, implicitDefEqProofs := false}) (disch := omega) only [go_sem, ↓reduceIte, Nat.reduceAdd, Nat.reduceSub, Nat.reduceMul, Nat.reduceLeDiff, Nat.reduceLT, Int.reduceEq, Int.reduceNe, Int.reduceLT, Int.reduceLE, Int.reduceAdd, Int.reduceSub, Int.reduceMul, Int.reduceNeg, Int.reduceToNat, reduceCtorEq, Nat.reduceEqDiff, Nat.reduceBEq, Nat.reduceGT, f1, f2, s1, s2, s3, s4, m1, m2, e1, e2, ha, hj, plenumlaw28_WireSame_r4_eq, plenumlaw28_WireSame_r3_eq, plenumlaw28_WireSame_r2_eq, plenumlaw28_WireSame_r1_eq]
end Go.Proofs.Ytbdbmfifclmpcaa

namespace Go.Proofs.Ytbdbmfifclmpcaa
open Go.RowKit
set_option linter.unusedVariables false
set_option linter.unusedSimpArgs false
set_option maxRecDepth 100000
def OpSm (x : Sm) : Prop := (-9223372036854775808 ≤ x.fr ∧ x.fr < 9223372036854775808) ∧ (-9223372036854775808 ≤ x.kd ∧ x.kd < 9223372036854775808) ∧ (-9223372036854775808 ≤ x.vw ∧ x.vw < 9223372036854775808) ∧ (-9223372036854775808 ≤ x.sq ∧ x.sq < 9223372036854775808) ∧ (-9223372036854775808 ≤ x.tm ∧ x.tm < 9223372036854775808)
theorem ofT_sm {n : Nat} {ds : List AV} (h : ofT Try.prog n 56 ds) : ∃ x : Sm, ds = smC x ∧ OpSm x := by
  obtain ⟨m, a0, b0, rfl, h0, a1, b1, rfl, h1, a2, b2, rfl, h2, a3, b3, rfl, h3, a4, b4, rfl, h4, rfl⟩ := ofT_struct Try.underlying56 h
  obtain ⟨x0, rfl, q0⟩ := ofT_i64 Try.underlying3 h0
  obtain ⟨x1, rfl, q1⟩ := ofT_i64 Try.underlying3 h1
  obtain ⟨x2, rfl, q2⟩ := ofT_i64 Try.underlying3 h2
  obtain ⟨x3, rfl, q3⟩ := ofT_i64 Try.underlying3 h3
  obtain ⟨x4, rfl, q4⟩ := ofT_i64 Try.underlying3 h4
  exact ⟨⟨x0, x1, x2, x3, x4⟩, rfl, q0, q1, q2, q3, q4⟩
theorem ofT_sms {n : Nat} {ds : List AV} (h : ofT Try.prog n 24 ds) : ∃ l : List Sm, ds = [SL (l.map smE)] ∧ l.length ≤ 9223372036854775807 ∧ ∀ x ∈ l, OpSm x := by
  obtain ⟨m, es, rfl, hl, he⟩ := ofT_slice Try.underlying24 h
  obtain ⟨l, rfl, hi⟩ := list_of (f := smE) (Q := OpSm) fun x hx => by
    obtain ⟨q1, q2⟩ := he x hx
    obtain ⟨y, hy, hi⟩ := ofT_sm q1
    exact ⟨y, by rw [cells_agg (q2.trans (by kernel_rfl)), hy]; rfl, hi⟩
  exact ⟨l, rfl, by rw [List.length_map] at hl; exact hl, hi⟩
def OpCe (x : Ce) : Prop := (-9223372036854775808 ≤ x.sq ∧ x.sq < 9223372036854775808) ∧ (-9223372036854775808 ≤ x.vw ∧ x.vw < 9223372036854775808) ∧ (-9223372036854775808 ≤ x.tm ∧ x.tm < 9223372036854775808) ∧ x.body.length ≤ 9223372036854775807 ∧ x.vs.length ≤ 9223372036854775807 ∧ (∀ y ∈ x.vs, OpSm y)
theorem ofT_ce {n : Nat} {ds : List AV} (h : ofT Try.prog n 89 ds) : ∃ x : Ce, ds = ceC x ∧ OpCe x := by
  obtain ⟨m, a0, b0, rfl, h0, a1, b1, rfl, h1, a2, b2, rfl, h2, a3, b3, rfl, h3, a4, b4, rfl, h4, rfl⟩ := ofT_struct Try.underlying89 h
  obtain ⟨x0, rfl, q0⟩ := ofT_i64 Try.underlying3 h0
  obtain ⟨x1, rfl, q1⟩ := ofT_i64 Try.underlying3 h1
  obtain ⟨x2, rfl, q2⟩ := ofT_i64 Try.underlying3 h2
  obtain ⟨x3, rfl, q3⟩ := ofT_str Try.underlying9 h3
  obtain ⟨x4, rfl, q4, r4⟩ := ofT_sms h4
  exact ⟨⟨x0, x1, x2, x3, x4⟩, rfl, q0, q1, q2, q3, q4, r4⟩
theorem ofT_ces {n : Nat} {ds : List AV} (h : ofT Try.prog n 41 ds) : ∃ l : List Ce, ds = [SL (l.map ceE)] ∧ l.length ≤ 9223372036854775807 ∧ ∀ x ∈ l, OpCe x := by
  obtain ⟨m, es, rfl, hl, he⟩ := ofT_slice Try.underlying41 h
  obtain ⟨l, rfl, hi⟩ := list_of (f := ceE) (Q := OpCe) fun x hx => by
    obtain ⟨q1, q2⟩ := he x hx
    obtain ⟨y, hy, hi⟩ := ofT_ce q1
    exact ⟨y, by rw [cells_agg (q2.trans (by kernel_rfl)), hy]; rfl, hi⟩
  exact ⟨l, rfl, by rw [List.length_map] at hl; exact hl, hi⟩
def OpCh (x : Ch) : Prop := (-9223372036854775808 ≤ x.fr ∧ x.fr < 9223372036854775808) ∧ (-9223372036854775808 ≤ x.vw ∧ x.vw < 9223372036854775808) ∧ (-9223372036854775808 ≤ x.st ∧ x.st < 9223372036854775808) ∧ (-9223372036854775808 ≤ x.rt ∧ x.rt < 9223372036854775808) ∧ x.pf.length ≤ 9223372036854775807 ∧ (∀ y ∈ x.pf, OpSm y) ∧ x.cs.length ≤ 9223372036854775807 ∧ (∀ y ∈ x.cs, OpCe y)
theorem ofT_cg {n : Nat} {ds : List AV} (h : ofT Try.prog n 43 ds) : ∃ x : Ch, ds = cgC x ∧ OpCh x := by
  obtain ⟨m, a0, b0, rfl, h0, a1, b1, rfl, h1, a2, b2, rfl, h2, a3, b3, rfl, h3, a4, b4, rfl, h4, a5, b5, rfl, h5, rfl⟩ := ofT_struct Try.underlying43 h
  obtain ⟨x0, rfl, q0⟩ := ofT_i64 Try.underlying3 h0
  obtain ⟨x1, rfl, q1⟩ := ofT_i64 Try.underlying3 h1
  obtain ⟨x2, rfl, q2⟩ := ofT_i64 Try.underlying3 h2
  obtain ⟨x3, rfl, q3⟩ := ofT_i64 Try.underlying3 h3
  obtain ⟨x4, rfl, q4, r4⟩ := ofT_sms h4
  obtain ⟨x5, rfl, q5, r5⟩ := ofT_ces h5
  exact ⟨⟨x0, x1, x2, x3, x4, x5⟩, rfl, q0, q1, q2, q3, q4, r4, q5, r5⟩
theorem ofT_cgs {n : Nat} {ds : List AV} (h : ofT Try.prog n 25 ds) : ∃ l : List Ch, ds = [SL (l.map cgE)] ∧ l.length ≤ 9223372036854775807 ∧ ∀ x ∈ l, OpCh x := by
  obtain ⟨m, es, rfl, hl, he⟩ := ofT_slice Try.underlying25 h
  obtain ⟨l, rfl, hi⟩ := list_of (f := cgE) (Q := OpCh) fun x hx => by
    obtain ⟨q1, q2⟩ := he x hx
    obtain ⟨y, hy, hi⟩ := ofT_cg q1
    exact ⟨y, by rw [cells_agg (q2.trans (by kernel_rfl)), hy]; rfl, hi⟩
  exact ⟨l, rfl, by rw [List.length_map] at hl; exact hl, hi⟩
def OpMs (x : Ms) : Prop := (-9223372036854775808 ≤ x.kd ∧ x.kd < 9223372036854775808) ∧ (-9223372036854775808 ≤ x.fr ∧ x.fr < 9223372036854775808) ∧ (-9223372036854775808 ≤ x.vw ∧ x.vw < 9223372036854775808) ∧ (-9223372036854775808 ≤ x.sq ∧ x.sq < 9223372036854775808) ∧ (-9223372036854775808 ≤ x.tm ∧ x.tm < 9223372036854775808) ∧ x.body.length ≤ 9223372036854775807 ∧ x.vs.length ≤ 9223372036854775807 ∧ (∀ y ∈ x.vs, OpSm y) ∧ x.chs.length ≤ 9223372036854775807 ∧ (∀ y ∈ x.chs, OpCh y)
theorem ofT_ms {n : Nat} {ds : List AV} (h : ofT Try.prog n 27 ds) : ∃ x : Ms, ds = msC x ∧ OpMs x := by
  obtain ⟨m, a0, b0, rfl, h0, a1, b1, rfl, h1, a2, b2, rfl, h2, a3, b3, rfl, h3, a4, b4, rfl, h4, a5, b5, rfl, h5, a6, b6, rfl, h6, a7, b7, rfl, h7, rfl⟩ := ofT_struct Try.underlying27 h
  obtain ⟨x0, rfl, q0⟩ := ofT_i64 Try.underlying3 h0
  obtain ⟨x1, rfl, q1⟩ := ofT_i64 Try.underlying3 h1
  obtain ⟨x2, rfl, q2⟩ := ofT_i64 Try.underlying3 h2
  obtain ⟨x3, rfl, q3⟩ := ofT_i64 Try.underlying3 h3
  obtain ⟨x4, rfl, q4⟩ := ofT_i64 Try.underlying3 h4
  obtain ⟨x5, rfl, q5⟩ := ofT_str Try.underlying9 h5
  obtain ⟨x6, rfl, q6, r6⟩ := ofT_sms h6
  obtain ⟨x7, rfl, q7, r7⟩ := ofT_cgs h7
  exact ⟨⟨x0, x1, x2, x3, x4, x5, x6, x7⟩, rfl, q0, q1, q2, q3, q4, q5, q6, r6, q7, r7⟩
theorem arg_ms {W : World} {v : Value} (h : Arg Try.prog W 27 v) : ∃ x : Ms, OpMs x ∧ rep (SW W) [] (msE x) v := by
  obtain ⟨n, ds, h1, h2⟩ := h
  obtain ⟨t, rfl, ht⟩ := ofT_ms h1
  rw [mk_many (by kernel_rfl)] at h2
  exact ⟨t, ht, h2⟩
theorem OpCh.big {x : Ch} (h : OpCh x) : BigC x := ⟨h.2.2.2.2.1, h.2.2.2.2.2.2.1, fun y hy => ⟨(h.2.2.2.2.2.2.2 y hy).2.2.2.1, (h.2.2.2.2.2.2.2 y hy).2.2.2.2.1⟩⟩
theorem OpMs.big {x : Ms} (h : OpMs x) : BigM x := ⟨h.2.2.2.2.2.1, h.2.2.2.2.2.2.1, h.2.2.2.2.2.2.2.2.1, fun y hy => (h.2.2.2.2.2.2.2.2.2 y hy).big⟩
theorem arg_by {W : World} {v : Value} (h : Arg Try.prog W 23 v) : ∃ l : List UInt8, l.length ≤ maxLen ∧ rep (SW W) [] (SL (bC l)) v := by
  obtain ⟨n, ds, h1, h2⟩ := h
  obtain ⟨m, es, rfl, hl, he⟩ := ofT_slice Try.underlying23 h1
  obtain ⟨l, rfl, _⟩ := list_of (f := fun b : UInt8 => V (cB b)) (Q := fun _ => True) fun x hx => by
    obtain ⟨q1, q2⟩ := he x hx
    obtain ⟨i, hi, h3, h4⟩ := ofT_int Try.underlying5 q1
    have h3' : 0 ≤ i := h3
    have h4' : i ≤ 255 := h4
    refine ⟨UInt8.ofNat i.toNat, ?_, trivial⟩
    have e := cells_lone (hi) (q2.trans (by kernel_rfl))
    rw [e]
    have : ((UInt8.ofNat i.toNat).toNat : Int) = i := by
      rw [UInt8.toNat_ofNat']
      omega
    unfold cB
    rw [this]
  rw [mk_lone (by kernel_rfl)] at h2
  exact ⟨l, by simpa using hl, h2⟩
theorem walk_WireNumbers (W : World) : Calls Try.prog 3 #[] W fun e W' => e = .returned (.bool true) ∧ Below W.heap.size W W' :=
  run_tells (plenumlaw28_WireNumbers_ok 2000 [] _ _ (wireNumbers_s _ (by omega))) gok_nil (vs := []) rfl (by intro j d v hd; simp at hd)
theorem walk_WireEncodes (W : World) (v0 : Value) (h0 : Arg Try.prog W 27 v0) : Calls Try.prog 6 #[v0] W fun e W' => e = .returned (.bool true) ∧ Below W.heap.size W W' := by
  obtain ⟨x, hx, r0⟩ := arg_ms h0
  exact run_tells (plenumlaw28_WireEncodes_ok 2000 [_] _ _ (wireEncodes_s _ x hx.big (by omega))) gok_nil (vs := [v0]) rfl (reps1 r0)
theorem walk_WireDecodes (W : World) (v0 : Value) (h0 : Arg Try.prog W 23 v0) : Calls Try.prog 4 #[v0] W fun e W' => e = .returned (.bool true) ∧ Below W.heap.size W W' := by
  obtain ⟨x, hx, r0⟩ := arg_by h0
  exact run_tells (plenumlaw28_WireDecodes_ok 2000 [_] _ _ (wireDecodes_s _ x hx (by omega))) gok_nil (vs := [v0]) rfl (reps1 r0)
theorem walk_WireSame (W : World) (v0 : Value) (h0 : Arg Try.prog W 27 v0) (v1 : Value) (h1 : Arg Try.prog W 27 v1) : Calls Try.prog 7 #[v0, v1] W fun e W' => e = .returned (.bool true) ∧ Below W.heap.size W W' := by
  obtain ⟨x, hx, r0⟩ := arg_ms h0
  obtain ⟨y, hy, r1⟩ := arg_ms h1
  exact run_tells (plenumlaw28_WireSame_ok 2000 [_, _] _ _ (wireSame_s _ x y hx.big hy.big (by omega))) gok_nil (vs := [v0, v1]) rfl (reps2 r0 r1)
end Go.Proofs.Ytbdbmfifclmpcaa
