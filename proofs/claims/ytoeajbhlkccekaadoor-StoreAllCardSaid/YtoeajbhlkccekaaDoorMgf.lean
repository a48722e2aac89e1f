/-
  Texts laid together, part 6 of 7: laws of a walk over data, contracts of functions, each whole by itself.
-/
import Derived.Test.YtoeajbhlkccekaaDoorMge
import Derived.Defers
import Derived.Recover
import Derived.Tactics2
import Derived.Test.YtoeajbhlkccekaaDoorMgb
set_option linter.unusedVariables false
set_option linter.unusedSimpArgs false
namespace Go.Proofs.YtoeajbhlkccekaaDoor
open Go.RowKit
set_option maxRecDepth 100000
def ty_api_Edit : TypeId := 47
def ty_api_Store : TypeId := 28
def zc_api_Edit : List AV := [(V (.string ⟨#[]⟩)), (V (.int .i64 0)), (V (.int .i64 0)), (V (.string ⟨#[]⟩))]
def zc_api_Store : List AV := [(V (.slice none 0 0)), (V (.slice none 0 0)), (V (.slice none 0 0)), (V (.slice none 0 0)), (V (.slice none 0 0)), (V (.slice none 0 0)), (V (.slice none 0 0)), (V (.slice none 0 0)), (V (.slice none 0 0)), (V (.slice none 0 0)), (V (.slice none 0 0)), (V (.slice none 0 0)), (V (.slice none 0 0)), (V (.slice none 0 0)), (V (.slice none 0 0)), (V (.slice none 0 0)), (V (.int .i64 0)), (V (.int .i64 0)), (V (.int .i64 0)), (V (.int .i64 0)), (V (.int .i64 0)), (V (.int .i64 0)), (V (.int .i64 0)), (V (.int .i64 0)), (V (.int .i64 0)), (V (.int .i64 0)), (V (.int .i64 0)), (V (.int .i64 0)), (V (.int .i64 0)), (V (.int .i64 0)), (V (.int .i64 0)), (V (.int .i64 0)), (V (.int .i64 0)), (V (.int .i64 0)), (V (.int .i64 0))]
def zc_store_no : List AV := [(V (.int .i64 0)), (V (.int .i64 0))]
def pl_api_Edit : List (Nat × Nat) := [(0, 1), (1, 3)]
def pl_api_Store : List (Nat × Nat) := [(0, 32), (32, 1), (33, 1), (34, 1)]
def pl_store_no : List (Nat × Nat) := [(0, 1), (1, 1)]
noncomputable def store_within_c : Code := (Tryd.f48.body).getD .skip
def store_within_h : Hint := (.two .n (.two .n .n))
noncomputable def store_within_env (m : Nat) : Env := []
noncomputable abbrev store_within_fin : KO (AV × List AObj) := tellFK Tryd.prog [.tmp 4]
noncomputable def store_within (m : Nat) (t0 t1 : AV) : RO := exec Tryd.prog GG (store_within_env m) m ⟨12, []⟩ store_within_c store_within_h ⟨[], argsT 0 [t0, t1]⟩ (store_within_fin)
theorem store_within_eq (m : Nat) (t0 t1 : AV) : store_within m t0 t1 =
  binE none false false .geq t0 (V (.int .i64 0)) fun t6 =>
  condE t6 (
   binE none false false .leq t0 t1 fun t10 =>
   tellK [] (ro [] t10)) (
   tellK [] (ro [] (V (.bool false)))) := by
  refine (tellX Tryd.prog GG (store_within_env m) m ⟨12, []⟩ store_within_c store_within_h ⟨[], argsT 0 [t0, t1]⟩ [.tmp 4]).trans ?_
  kernel_rfl
noncomputable def store_within_t (m : Nat) : List AV → RO | [t0, t1] => store_within m t0 t1 | _ => none
theorem store_within_ok (m : Nat) : ∀ args X H', store_within_t m args = some (X, H') → ACp Tryd.prog GG 48 args X := by
  intro args X H' h
  unfold store_within_t at h
  split at h
  · exact tell_okK MIX (by intro f e h; cases h) (f := 48) (c := store_within_c) Tryd.func48 rfl (by kernel_rfl) _ rfl Tryd.ntmps48 (Nat.le_of_ble_eq_true rfl) store_within_h h
  · cases h
noncomputable def store_May_c : Code := (Tryd.f17.body).getD .skip
def store_May_h : Hint := (.two .n (.join [1] (.join [1, 26] .n (.two (.two .n .n) .n)) (.join [1] (.two .n (.one (.lp [] [1, 29, 30] [1, 2] (.two .n (.two (.two .n .n) (.two (.one (.two .n (.two .n (.two (.two .n .n) .n)))) .n)))))) (.two .n .n))))
noncomputable def store_May_env (m : Nat) : Env := [(47, .tell (trunk_May_t m)), (48, .tell (store_within_t m)), (39, .tell (trunk_Weight_t m)), (40, .tell (trunk_Count_t m))]
noncomputable abbrev store_May_fin : KO (AV × List AObj) := tellFK Tryd.prog [.tmp 2]
noncomputable def store_May_r3 (m : Nat) (s : ASt) : RO := joinW Tryd.prog GG (store_May_env m) m ⟨52, []⟩ (cdR (cdR (cdR store_May_c))) store_May_h.r.r.r s (store_May_fin)
noncomputable def store_May_b1 (m : Nat) (s : ASt) (kc : ASt → RO) (kx : KO (AV × List AObj)) : RO := bodyW Tryd.prog GG (store_May_env m) m ⟨52, []⟩ (cdL (cdL (cdR (cdL (cdR (cdR store_May_c)))))) store_May_h.r.r.l.r.c.c [1, 29, 30] [1, 2] s kc kx
noncomputable def store_May_r2 (m : Nat) (s : ASt) : RO := joinW Tryd.prog GG (store_May_env m) m ⟨52, []⟩ (cdR (cdR store_May_c)) store_May_h.r.r s (store_May_fin)
noncomputable def store_May_r1 (m : Nat) (s : ASt) : RO := joinW Tryd.prog GG (store_May_env m) m ⟨52, []⟩ (cdR (cdL (cdR store_May_c))) store_May_h.r.l.r s (seqX (fun s => store_May_r2 m ⟨s.H, [(1, gt s.T 1)]⟩) (store_May_fin))
noncomputable def store_May (m : Nat) (t0 : AV) : RO := exec Tryd.prog GG (store_May_env m) m ⟨52, []⟩ store_May_c store_May_h ⟨[], argsT 0 [t0]⟩ (store_May_fin)
theorem store_May_r3_eq (m : Nat) (H : List AObj) (t1 : AV) : store_May_r3 m ⟨H, [(1, t1)]⟩ =
  fieldE (some (0, 34)) t1 fun t38 =>
  loadE 34 H t38 fun t39 =>
  tellE (trunk_Weight_t m [(ro H t39)]) [(ro H t39)] fun t40 =>
  fieldE (some (33, 1)) t1 fun t41 =>
  loadE 1 H t41 fun t42 =>
  binE none false false .leq t40 t42 fun t43 =>
  condE t43 (
   fieldE (some (0, 34)) t1 fun t45 =>
   loadE 34 H t45 fun t46 =>
   tellE (trunk_Count_t m [(ro H t46)]) [(ro H t46)] fun t47 =>
   fieldE (some (34, 1)) t1 fun t48 =>
   loadE 1 H t48 fun t49 =>
   binE none false false .leq t47 t49 fun t50 =>
   tellK H (ro H t50)) (
   tellK H (ro H (V (.bool false)))) := by
  refine (joinW_eq Tryd.prog GG (store_May_env m) m ⟨52, []⟩ (cdR (cdR (cdR store_May_c))) store_May_h.r.r.r ⟨H, [(1, t1)]⟩ (store_May_fin)).trans ?_
  kernel_rfl
theorem store_May_b1_eq (m : Nat) (H : List AObj) (t1 t29 t30 : AV) (kc : ASt → RO) (kx : KO (AV × List AObj)) : store_May_b1 m ⟨H, [(1, t1), (29, t29), (30, t30)]⟩ kc kx =
  binE none false false .lss t30 (V (.int .i64 16)) fun t31 =>
  condE t31 (
   idxVE false (some (16, 1)) t29 t30 fun t32 =>
   fieldE (some (32, 1)) t1 fun t34 =>
   loadE 1 H t34 fun t35 =>
   binE none false false .gtr t32 t35 fun t36 =>
   condE t36 (
    kx .ret ⟨H, [(1, t1), (2, (V (.bool false)))]⟩) (
    binE none false false .add t30 (V (.int .i64 1)) fun t37 =>
    backE H.length H [(1, t1), (29, t29), (30, t37)] kc)) (
   kx (.exit 0) ⟨H, [(1, t1), (2, .nil)]⟩) := by
  refine (bodyW_eq Tryd.prog GG (store_May_env m) m ⟨52, []⟩ (cdL (cdL (cdR (cdL (cdR (cdR store_May_c)))))) store_May_h.r.r.l.r.c.c [1, 29, 30] [1, 2] ⟨H, [(1, t1), (29, t29), (30, t30)]⟩ kc kx).trans ?_
  kernel_rfl
theorem store_May_r2_eq (m : Nat) (H : List AObj) (t1 : AV) : store_May_r2 m ⟨H, [(1, t1)]⟩ =
  fieldE (some (0, 34)) t1 fun t27 =>
  fieldE (some (16, 18)) t27 fun t28 =>
  loadE 18 H t28 fun t29 =>
  iterC m (store_May_b1 m) ⟨H, [(1, t1), (29, t29), (30, (V (.int .i64 0)))]⟩ (blockX 0 (seqX (fun s => store_May_r3 m ⟨s.H, [(1, gt s.T 1)]⟩) (store_May_fin))) := by
  refine (joinW_eq Tryd.prog GG (store_May_env m) m ⟨52, []⟩ (cdR (cdR store_May_c)) store_May_h.r.r ⟨H, [(1, t1)]⟩ (store_May_fin)).trans ?_
  kernel_rfl
theorem store_May_r1_eq (m : Nat) (H : List AObj) (t1 t26 : AV) : store_May_r1 m ⟨H, [(1, t1), (26, t26)]⟩ =
  condE t26 (
   tellK H (ro H (V (.bool false)))) (
   store_May_r2 m ⟨H, [(1, t1)]⟩) := by
  refine (joinW_eq Tryd.prog GG (store_May_env m) m ⟨52, []⟩ (cdR (cdL (cdR store_May_c))) store_May_h.r.l.r ⟨H, [(1, t1), (26, t26)]⟩ (seqX (fun s => store_May_r2 m ⟨s.H, [(1, gt s.T 1)]⟩) (store_May_fin))).trans ?_
  kernel_rfl
theorem store_May_eq (m : Nat) (t0 : AV) : store_May m t0 =
  boxE ty_api_Store [] t0 fun t1 H1 =>
  fieldE (some (0, 34)) t1 fun t5 =>
  loadE 34 H1 t5 fun t6 =>
  tellE (trunk_May_t m [(ro H1 t6)]) [(ro H1 t6)] fun t7 =>
  unE .not t7 fun t8 =>
  condE t8 (
   store_May_r1 m ⟨H1, [(1, t1), (26, (V (.bool true)))]⟩) (
   fieldE (some (32, 1)) t1 fun t10 =>
   loadE 1 H1 t10 fun t11 =>
   tellE (store_within m (ro H1 t11) (V (.int .i64 2147483647))) [(ro H1 t11), (V (.int .i64 2147483647))] fun t12 =>
   unE .not t12 fun t13 =>
   condE t13 (
   store_May_r1 m ⟨H1, [(1, t1), (26, (V (.bool true)))]⟩) (
   fieldE (some (33, 1)) t1 fun t16 =>
   loadE 1 H1 t16 fun t17 =>
   tellE (store_within m (ro H1 t17) (V (.int .i64 65536))) [(ro H1 t17), (V (.int .i64 65536))] fun t18 =>
   unE .not t18 fun t19 =>
   condE t19 (
   store_May_r1 m ⟨H1, [(1, t1), (26, (V (.bool true)))]⟩) (
   fieldE (some (34, 1)) t1 fun t22 =>
   loadE 1 H1 t22 fun t23 =>
   tellE (store_within m (ro H1 t23) (V (.int .i64 1024))) [(ro H1 t23), (V (.int .i64 1024))] fun t24 =>
   unE .not t24 fun t25 =>
   store_May_r1 m ⟨H1, [(1, t1), (26, t25)]⟩))) := by
  refine (tellX Tryd.prog GG (store_May_env m) m ⟨52, []⟩ store_May_c store_May_h ⟨[], argsT 0 [t0]⟩ [.tmp 2]).trans ?_
  kernel_rfl
noncomputable def store_May_t (m : Nat) : List AV → RO | [t0] => store_May m t0 | _ => none
theorem store_May_ok (m : Nat) : ∀ args X H', store_May_t m args = some (X, H') → ACp Tryd.prog GG 17 args X := by
  intro args X H' h
  unfold store_May_t at h
  split at h
  · exact tell_okK MIX (by
    intro f e h
    simp only [store_May_env, Prod.mk.injEq, List.mem_cons, List.not_mem_nil, or_false] at h
    rcases h with ⟨rfl, rfl⟩ | ⟨rfl, rfl⟩ | ⟨rfl, rfl⟩ | ⟨rfl, rfl⟩
    · exact trunk_May_ok m
    · exact store_within_ok m
    · exact trunk_Weight_ok m
    · exact trunk_Count_ok m) (f := 17) (c := store_May_c) Tryd.func17 rfl (by kernel_rfl) _ rfl Tryd.ntmps17 (Nat.le_of_ble_eq_true rfl) store_May_h h
  · cases h
noncomputable def store_New_c : Code := (Tryd.f27.body).getD .skip
def store_New_h : Hint := (.two .n (.two .n (.two (.two .n (.two (.two .n .n) .n)) (.two .n .n))))
noncomputable def store_New_env (m : Nat) : Env := [(17, .tell (store_May_t m))]
noncomputable abbrev store_New_fin : KO (AV × List AObj) := tellFK Tryd.prog [.cell 4 28, .tmp 5]
noncomputable def store_New (m : Nat) (t0 t1 : AV) : RO := exec Tryd.prog GG (store_New_env m) m ⟨15, []⟩ store_New_c store_New_h ⟨[], argsT 0 [t0, t1]⟩ (store_New_fin)
theorem store_New_eq (m : Nat) (t0 t1 : AV) : store_New m t0 t1 =
  allocE (some zc_api_Store) ty_api_Store [] fun t4 H1 =>
  buildE (some pl_api_Store) (some zc_api_Store) [(2, t0), (3, t1)] fun t9 =>
  allocE (some zc_api_Store) ty_api_Store H1 fun t6 H2 =>
  storeE 37 H2 t6 t9 fun H3 =>
  loadE 37 H3 t6 fun t10 =>
  tellE (store_May m (ro H3 t10)) [(ro H3 t10)] fun t11 =>
  unE .not t11 fun t12 =>
  condE t12 (
   buildE (some pl_api_Store) (some zc_api_Store) [] fun t13 =>
   storeE 37 H3 t4 t13 fun H4 =>
   loadE 37 H4 t4 fun t9000 =>
   tellK H4 (ro H4 (TU [noT t9000, noT (V (.int .i64 1))]))) (
   loadE 37 H3 t6 fun t14 =>
   storeE 37 H3 t4 t14 fun H4 =>
   loadE 37 H4 t4 fun t9000 =>
   tellK H4 (ro H4 (TU [noT t9000, noT (V (.int .i64 0))]))) := by
  refine (tellX Tryd.prog GG (store_New_env m) m ⟨15, []⟩ store_New_c store_New_h ⟨[], argsT 0 [t0, t1]⟩ [.cell 4 28, .tmp 5]).trans ?_
  kernel_rfl
noncomputable def store_New_t (m : Nat) : List AV → RO | [t0, t1] => store_New m t0 t1 | _ => none
theorem store_New_ok (m : Nat) : ∀ args X H', store_New_t m args = some (X, H') → ACp Tryd.prog GG 27 args X := by
  intro args X H' h
  unfold store_New_t at h
  split at h
  · exact tell_okK MIX (by
    intro f e h
    simp only [store_New_env, Prod.mk.injEq, List.mem_cons, List.not_mem_nil, or_false] at h
    obtain ⟨rfl, rfl⟩ := h
    · exact store_May_ok m) (f := 27) (c := store_New_c) Tryd.func27 rfl (by kernel_rfl) _ rfl Tryd.ntmps27 (Nat.le_of_ble_eq_true rfl) store_New_h h
  · cases h
noncomputable def store_Room_c : Code := (Tryd.f28.body).getD .skip
def store_Room_h : Hint := (.two .n (.two (.two .n (.two (.two .n .n) .n)) (.two .n .n)))
noncomputable def store_Room_env (m : Nat) : Env := [(17, .tell (store_May_t m)), (39, .tell (trunk_Weight_t m)), (40, .tell (trunk_Count_t m))]
noncomputable abbrev store_Room_fin : KO (AV × List AObj) := tellFK Tryd.prog [.tmp 2, .tmp 3]
noncomputable def store_Room (m : Nat) (t0 : AV) : RO := exec Tryd.prog GG (store_Room_env m) m ⟨19, []⟩ store_Room_c store_Room_h ⟨[], argsT 0 [t0]⟩ (store_Room_fin)
theorem store_Room_eq (m : Nat) (t0 : AV) : store_Room m t0 =
  boxE ty_api_Store [] t0 fun t1 H1 =>
  loadE 37 H1 t1 fun t4 =>
  tellE (store_May m (ro H1 t4)) [(ro H1 t4)] fun t5 =>
  unE .not t5 fun t6 =>
  condE t6 (
   tellK H1 (ro H1 (TU [noT (V (.int .i64 0)), noT (V (.int .i64 0))]))) (
   fieldE (some (33, 1)) t1 fun t7 =>
   loadE 1 H1 t7 fun t8 =>
   fieldE (some (0, 34)) t1 fun t9 =>
   loadE 34 H1 t9 fun t10 =>
   tellE (trunk_Weight_t m [(ro H1 t10)]) [(ro H1 t10)] fun t11 =>
   binE none false false .sub t8 t11 fun t12 =>
   fieldE (some (34, 1)) t1 fun t13 =>
   loadE 1 H1 t13 fun t14 =>
   fieldE (some (0, 34)) t1 fun t15 =>
   loadE 34 H1 t15 fun t16 =>
   tellE (trunk_Count_t m [(ro H1 t16)]) [(ro H1 t16)] fun t17 =>
   binE none false false .sub t14 t17 fun t18 =>
   tellK H1 (ro H1 (TU [noT t12, noT t18]))) := by
  refine (tellX Tryd.prog GG (store_Room_env m) m ⟨19, []⟩ store_Room_c store_Room_h ⟨[], argsT 0 [t0]⟩ [.tmp 2, .tmp 3]).trans ?_
  kernel_rfl
noncomputable def store_Room_t (m : Nat) : List AV → RO | [t0] => store_Room m t0 | _ => none
theorem store_Room_ok (m : Nat) : ∀ args X H', store_Room_t m args = some (X, H') → ACp Tryd.prog GG 28 args X := by
  intro args X H' h
  unfold store_Room_t at h
  split at h
  · exact tell_okK MIX (by
    intro f e h
    simp only [store_Room_env, Prod.mk.injEq, List.mem_cons, List.not_mem_nil, or_false] at h
    rcases h with ⟨rfl, rfl⟩ | ⟨rfl, rfl⟩ | ⟨rfl, rfl⟩
    · exact store_May_ok m
    · exact trunk_Weight_ok m
    · exact trunk_Count_ok m) (f := 28) (c := store_Room_c) Tryd.func28 rfl (by kernel_rfl) _ rfl Tryd.ntmps28 (Nat.le_of_ble_eq_true rfl) store_Room_h h
  · cases h
noncomputable def store_Get_c : Code := (Tryd.f16.body).getD .skip
def store_Get_h : Hint := (.two .n (.two (.one (.two .n (.two (.two .n .n) (.two .n (.two (.two .n .n) .n))))) (.two .n (.two (.two .n (.two (.two .n .n) .n)) (.two .n .n)))))
noncomputable def store_Get_env (m : Nat) : Env := [(17, .tell (store_May_t m)), (35, .tell (key_Is_t m)), (46, .tell (trunk_Get_t m))]
noncomputable abbrev store_Get_fin : KO (AV × List AObj) := tellFK Tryd.prog [.cell 4 43, .tmp 5, .tmp 6]
noncomputable def store_Get (m : Nat) (t0 t1 : AV) : RO := exec Tryd.prog GG (store_Get_env m) m ⟨33, []⟩ store_Get_c store_Get_h ⟨[], argsT 0 [t0, t1]⟩ (store_Get_fin)
theorem store_Get_eq (m : Nat) (t0 t1 : AV) : store_Get m t0 t1 =
  boxE ty_api_Store [] t0 fun t2 H1 =>
  allocE (some zc_api_Value) ty_api_Value H1 fun t4 H2 =>
  loadE 37 H2 t2 fun t10 =>
  tellE (store_May m (ro H2 t10)) [(ro H2 t10)] fun t11 =>
  unE .not t11 fun t12 =>
  condE t12 (
   buildE (some pl_api_Value) (some zc_api_Value) [] fun t13 =>
   storeE 5 H2 t4 t13 fun H3 =>
   loadE 5 H3 t4 fun t9000 =>
   tellK H3 (ro H3 (TU [noT t9000, noT (V (.int .i64 0)), noT (V (.int .i64 1))]))) (
   tellE (key_Is_t m [(ro H2 t1)]) [(ro H2 t1)] fun t16 =>
   unE .not t16 fun t17 =>
   condE t17 (
    buildE (some pl_api_Value) (some zc_api_Value) [] fun t18 =>
    storeE 5 H2 t4 t18 fun H3 =>
    loadE 5 H3 t4 fun t9000 =>
    tellK H3 (ro H3 (TU [noT t9000, noT (V (.int .i64 0)), noT (V (.int .i64 3))]))) (
    fieldE (some (0, 34)) t2 fun t20 =>
    loadE 34 H2 t20 fun t21 =>
    tellE (trunk_Get_t m [(ro H2 t21), (ro H2 t1)]) [(ro H2 t21), (ro H2 t1)] fun t23 =>
    extE t23 0 fun t24 =>
    extE t23 1 fun t25 =>
    allocE (some zc_api_Item) ty_api_Item H2 fun t7 H3 =>
    storeE 7 H3 t7 t24 fun H4 =>
    unE .not t25 fun t27 =>
    condE t27 (
     buildE (some pl_api_Value) (some zc_api_Value) [] fun t28 =>
     storeE 5 H4 t4 t28 fun H5 =>
     loadE 5 H5 t4 fun t9000 =>
     tellK H5 (ro H5 (TU [noT t9000, noT (V (.int .i64 0)), noT (V (.int .i64 6))]))) (
     fieldE (some (1, 5)) t7 fun t29 =>
     loadE 5 H4 t29 fun t30 =>
     fieldE (some (4, 1)) t7 fun t31 =>
     loadE 1 H4 t31 fun t32 =>
     storeE 5 H4 t4 t30 fun H5 =>
     loadE 1 H5 t31 fun t8025 =>
     eqE t32 t8025 (
     loadE 5 H5 t4 fun t9000 =>
     tellK H5 (ro H5 (TU [noT t9000, noT t32, noT (V (.int .i64 0))])))))) := by
  refine (tellX Tryd.prog GG (store_Get_env m) m ⟨33, []⟩ store_Get_c store_Get_h ⟨[], argsT 0 [t0, t1]⟩ [.cell 4 43, .tmp 5, .tmp 6]).trans ?_
  kernel_rfl
noncomputable def store_Get_t (m : Nat) : List AV → RO | [t0, t1] => store_Get m t0 t1 | _ => none
theorem store_Get_ok (m : Nat) : ∀ args X H', store_Get_t m args = some (X, H') → ACp Tryd.prog GG 16 args X := by
  intro args X H' h
  unfold store_Get_t at h
  split at h
  · exact tell_okK MIX (by
    intro f e h
    simp only [store_Get_env, Prod.mk.injEq, List.mem_cons, List.not_mem_nil, or_false] at h
    rcases h with ⟨rfl, rfl⟩ | ⟨rfl, rfl⟩ | ⟨rfl, rfl⟩
    · exact store_May_ok m
    · exact key_Is_ok m
    · exact trunk_Get_ok m) (f := 16) (c := store_Get_c) Tryd.func16 rfl (by kernel_rfl) _ rfl Tryd.ntmps16 (Nat.le_of_ble_eq_true rfl) store_Get_h h
  · cases h
noncomputable def store_one_c : Code := (Tryd.f38.body).getD .skip
def store_one_h : Hint := (.two .n (.two .n (.join [3, 8, 9, 10] (.two .n (.two .n (.two .n (.two .n (.two .n .n))))) (.join [8, 9] (.two .n (.two .n .n)) (.two .n .n)))))
noncomputable def store_one_env (m : Nat) : Env := [(62, .tell (trunk_Put_t m)), (46, .tell (trunk_Get_t m)), (63, .tell (trunk_Delete_t m)), (999999, .pan fun _ _ => none)]
noncomputable abbrev store_one_fin (n0 : Nat) : KO (AV × List AObj) := panFK Tryd.prog n0 [.cell 8 26]
noncomputable def store_one_r2 (m : Nat) (n0k : Nat) (s : ASt) : RO := joinW Tryd.prog GG (store_one_env m) m ⟨52, []⟩ (cdR (cdR (cdR (cdR store_one_c)))) store_one_h.r.r.r.r s (store_one_fin n0k)
noncomputable def store_one_r1 (m : Nat) (n0k : Nat) (s : ASt) : RO := joinW Tryd.prog GG (store_one_env m) m ⟨52, []⟩ (cdR (cdR (cdR store_one_c))) store_one_h.r.r.r s (store_one_fin n0k)
noncomputable def store_one (m : Nat) (t0 t1 t2 t3 : AV) (H : List AObj) : RO := exec Tryd.prog GG (store_one_env m) m ⟨52, []⟩ store_one_c store_one_h ⟨H, argsT 0 [t0, t1, t2, t3]⟩ (store_one_fin H.length)
theorem store_one_r2_eq (m : Nat) (n0k : Nat) (H : List AObj) (t8 t9 : AV) : store_one_r2 m n0k ⟨H, [(8, t8), (9, t9)]⟩ =
  loadE 34 H t9 fun t51 =>
  storeE 34 H t8 t51 fun H2 =>
  loadE 34 H2 t8 fun t9000 =>
  keepK n0k H2 (ro H2 t9000) := by
  refine (joinW_eq Tryd.prog GG (store_one_env m) m ⟨52, []⟩ (cdR (cdR (cdR (cdR store_one_c)))) store_one_h.r.r.r.r ⟨H, [(8, t8), (9, t9)]⟩ (store_one_fin n0k)).trans ?_
  kernel_rfl
theorem store_one_r1_eq (m : Nat) (n0k : Nat) (H : List AObj) (t3 t8 t9 t10 : AV) : store_one_r1 m n0k ⟨H, [(3, t3), (8, t8), (9, t9), (10, t10)]⟩ =
  binE none false false .neq t10 (V (.int .i64 0)) fun t46 =>
  condE t46 (
   buildE (some pl_store_no) (some zc_store_no) [(0, t10), (1, t3)] fun t49 =>
   whenE true (ifE 74 t49 fun t50 =>
   panicE t50 H fun u1 H2 => panKE n0k H2 u1)) (
   store_one_r2 m n0k ⟨H, [(8, t8), (9, t9)]⟩) := by
  refine (joinW_eq Tryd.prog GG (store_one_env m) m ⟨52, []⟩ (cdR (cdR (cdR store_one_c))) store_one_h.r.r.r ⟨H, [(3, t3), (8, t8), (9, t9), (10, t10)]⟩ (store_one_fin n0k)).trans ?_
  kernel_rfl
theorem store_one_eq (m : Nat) (t0 t1 t2 t3 : AV) (H : List AObj) : store_one m t0 t1 t2 t3 H =
  boxE ty_api_Trunk H t0 fun t4 H2 =>
  boxE ty_api_Edit H2 t1 fun t5 H3 =>
  allocE (some zc_api_Trunk) ty_api_Trunk H3 fun t8 H4 =>
  loadE 34 H4 t4 fun t13 =>
  allocE (some zc_api_Trunk) ty_api_Trunk H4 fun t9 H5 =>
  storeE 34 H5 t9 t13 fun H6 =>
  fieldE (some (1, 5)) t5 fun t14 =>
  fieldE (some (0, 1)) t14 fun t15 =>
  loadE 1 H6 t15 fun t16 =>
  binE none false false .neq t16 (V (.int .i64 0)) fun t17 =>
  condE t17 (
   loadE 34 H6 t4 fun t19 =>
   fieldE (some (0, 1)) t5 fun t20 =>
   loadE 1 H6 t20 fun t21 =>
   fieldE (some (1, 5)) t5 fun t22 =>
   loadE 5 H6 t22 fun t23 =>
   buildE (some pl_api_Item) (some zc_api_Item) [(0, t21), (1, t23), (2, t2)] fun t25 =>
   tellE (trunk_Put_t m [(ro H6 t19), (ro H6 t25)]) [(ro H6 t19), (ro H6 t25)] fun t26 =>
   extE t26 0 fun t27 =>
   extE t26 1 fun t28 =>
   storeE 34 H6 t9 t27 fun H7 =>
   store_one_r1 m H.length ⟨H7, [(3, t3), (8, t8), (9, t9), (10, t28)]⟩) (
   loadE 34 H6 t4 fun t30 =>
   fieldE (some (0, 1)) t5 fun t31 =>
   loadE 1 H6 t31 fun t32 =>
   tellE (trunk_Get_t m [(ro H6 t30), (ro H6 t32)]) [(ro H6 t30), (ro H6 t32)] fun t33 =>
   extE t33 0 fun t34 =>
   extE t33 1 fun t35 =>
   allocE (some zc_api_Item) ty_api_Item H6 fun t11 H7 =>
   storeE 7 H7 t11 t34 fun H8 =>
   condE t35 (
    loadE 34 H8 t4 fun t38 =>
    fieldE (some (0, 1)) t5 fun t39 =>
    loadE 1 H8 t39 fun t40 =>
    tellE (trunk_Delete_t m [(ro H8 t38), (ro H8 t40), (ro H8 t2)]) [(ro H8 t38), (ro H8 t40), (ro H8 t2)] fun t42 =>
    extE t42 0 fun t43 =>
    extE t42 1 fun t44 =>
    storeE 34 H8 t9 t43 fun H9 =>
    store_one_r1 m H.length ⟨H9, [(3, t3), (8, t8), (9, t9), (10, t44)]⟩) (
    store_one_r1 m H.length ⟨H8, [(3, t3), (8, t8), (9, t9), (10, (V (.int .i64 0)))]⟩)) := by
  refine (panX Tryd.prog GG (store_one_env m) m ⟨52, []⟩ H.length store_one_c store_one_h ⟨H, argsT 0 [t0, t1, t2, t3]⟩ [.cell 8 26]).trans ?_
  kernel_rfl
noncomputable def store_one_t (m : Nat) : List AV → List AObj → RO | [t0, t1, t2, t3], H => store_one m t0 t1 t2 t3 H | _, _ => none
theorem store_one_ok (m : Nat) : ∀ args H X H', store_one_t m args H = some (X, H') → ACx Tryd.prog GG 38 args H (Is X H') := by
  intro args H X H' h
  unfold store_one_t at h
  split at h
  · exact pan_ok MIX (by
    intro f e h
    simp only [store_one_env, Prod.mk.injEq, Prod.mk.injEq, List.mem_cons, List.not_mem_nil, or_false] at h
    rcases h with ⟨rfl, rfl⟩ | ⟨rfl, rfl⟩ | ⟨rfl, rfl⟩ | ⟨rfl, rfl⟩
    · exact trunk_Put_ok m
    · exact trunk_Get_ok m
    · exact trunk_Delete_ok m
    · intro _ _ _ _ h; cases h) (f := 38) (c := store_one_c) Tryd.func38 rfl (by kernel_rfl) _ rfl Tryd.ntmps38 (Nat.le_of_ble_eq_true rfl) store_one_h h
  · cases h
noncomputable def store_Undo_c : Code := (Tryd.f18.body).getD .skip
def store_Undo_h : Hint := (.two .n (.join [2, 3] (.join [2, 3, 18] .n (.two (.two .n .n) .n)) (.two .n (.two .n (.two .n (.join [10] (.one (.lp [(10, ty_api_Edit, 4)] [6, 8, 10] [10] (.join [6, 8, 10] (.join [6, 8, 10, 38] .n (.two .n .n)) (.one (.one (.join [6, 8, 10, 64] .n (.two (.two .n .n) (.join [6, 8, 10, 98] .n (.two (.two .n .n) (.join [6, 8, 10] (.two .n (.two .n .n)) .n)))))))))) (.two .n .n)))))))
noncomputable def store_Undo_env (m : Nat) : Env := [(17, .tell (store_May_t m)), (49, .tell (span_ScanQ_t m))]
noncomputable abbrev store_Undo_fin : KO (AV × List AObj) := tellFK Tryd.prog [.tmp 4, .tmp 5]
noncomputable def store_Undo_r8 (m : Nat) (n0 : Nat) (kc : ASt → RO) (kx : KO (AV × List AObj)) (s : ASt) : RO := joinW Tryd.prog GG (store_Undo_env m) m ⟨124, []⟩ (cdR (cdR (cdR (cdR (cdR (cdL (cdL (cdR (cdL (cdL (cdL (cdR (cdR (cdR (cdR (cdR store_Undo_c)))))))))))))))) store_Undo_h.r.r.r.r.r.l.c.c.r.c.c.r.r.r.r.r s (blockX 2 (blockX 1 (backW n0 [6, 8, 10] [10] kc kx)))
noncomputable def store_Undo_r7 (m : Nat) (n0 : Nat) (kc : ASt → RO) (kx : KO (AV × List AObj)) (s : ASt) : RO := joinW Tryd.prog GG (store_Undo_env m) m ⟨124, []⟩ (cdR (cdR (cdR (cdL (cdL (cdR (cdL (cdL (cdL (cdR (cdR (cdR (cdR (cdR store_Undo_c)))))))))))))) store_Undo_h.r.r.r.r.r.l.c.c.r.c.c.r.r.r s (blockX 2 (blockX 1 (backW n0 [6, 8, 10] [10] kc kx)))
noncomputable def store_Undo_r6 (m : Nat) (n0 : Nat) (kc : ASt → RO) (kx : KO (AV × List AObj)) (s : ASt) : RO := joinW Tryd.prog GG (store_Undo_env m) m ⟨124, []⟩ (cdR (cdL (cdL (cdR (cdL (cdL (cdL (cdR (cdR (cdR (cdR (cdR store_Undo_c)))))))))))) store_Undo_h.r.r.r.r.r.l.c.c.r.c.c.r s (blockX 2 (blockX 1 (backW n0 [6, 8, 10] [10] kc kx)))
noncomputable def store_Undo_r5 (m : Nat) (n0 : Nat) (kc : ASt → RO) (kx : KO (AV × List AObj)) (s : ASt) : RO := joinW Tryd.prog GG (store_Undo_env m) m ⟨124, []⟩ (cdR (cdL (cdL (cdL (cdR (cdR (cdR (cdR (cdR store_Undo_c))))))))) store_Undo_h.r.r.r.r.r.l.c.c.r s (backW n0 [6, 8, 10] [10] kc kx)
noncomputable def store_Undo_r4 (m : Nat) (n0 : Nat) (kc : ASt → RO) (kx : KO (AV × List AObj)) (s : ASt) : RO := joinW Tryd.prog GG (store_Undo_env m) m ⟨124, []⟩ (cdR (cdL (cdL (cdL (cdL (cdR (cdR (cdR (cdR (cdR store_Undo_c)))))))))) store_Undo_h.r.r.r.r.r.l.c.c.l.r s (seqX (fun s => store_Undo_r5 m n0 kc kx ⟨s.H, [(6, gt s.T 6), (8, gt s.T 8), (10, gt s.T 10)]⟩) (backW n0 [6, 8, 10] [10] kc kx))
noncomputable def store_Undo_r3 (m : Nat) (s : ASt) : RO := joinW Tryd.prog GG (store_Undo_env m) m ⟨124, []⟩ (cdR (cdR (cdR (cdR (cdR (cdR store_Undo_c)))))) store_Undo_h.r.r.r.r.r.r s (store_Undo_fin)
noncomputable def store_Undo_b1 (m : Nat) (s : ASt) (kc : ASt → RO) (kx : KO (AV × List AObj)) : RO := bodyW Tryd.prog GG (store_Undo_env m) m ⟨124, []⟩ (cdL (cdL (cdL (cdR (cdR (cdR (cdR (cdR store_Undo_c)))))))) store_Undo_h.r.r.r.r.r.l.c.c [6, 8, 10] [10] s kc kx
noncomputable def store_Undo_r2 (m : Nat) (s : ASt) : RO := joinW Tryd.prog GG (store_Undo_env m) m ⟨124, []⟩ (cdR (cdR store_Undo_c)) store_Undo_h.r.r s (store_Undo_fin)
noncomputable def store_Undo_r1 (m : Nat) (s : ASt) : RO := joinW Tryd.prog GG (store_Undo_env m) m ⟨124, []⟩ (cdR (cdL (cdR store_Undo_c))) store_Undo_h.r.l.r s (seqX (fun s => store_Undo_r2 m ⟨s.H, [(2, gt s.T 2), (3, gt s.T 3)]⟩) (store_Undo_fin))
noncomputable def store_Undo (m : Nat) (t0 t1 : AV) : RO := exec Tryd.prog GG (store_Undo_env m) m ⟨124, []⟩ store_Undo_c store_Undo_h ⟨[], argsT 0 [t0, t1]⟩ (store_Undo_fin)
theorem store_Undo_r8_eq (m : Nat) (n0 : Nat) (kc : ASt → RO) (kx : KO (AV × List AObj)) (H : List AObj) (t6 t8 t10 : AV) : store_Undo_r8 m n0 kc kx ⟨H, [(6, t6), (8, t8), (10, t10)]⟩ =
  sliceE false (some (ty_api_Item, 7)) H t6 (some (V (.int .i64 1))) none fun t61 =>
  sliceE false (some (ty_api_Item, 7)) H t8 (some (V (.int .i64 1))) none fun t63 =>
  backE n0 H [(6, t61), (8, t63), (10, t10)] kc := by
  refine (joinW_eq Tryd.prog GG (store_Undo_env m) m ⟨124, []⟩ (cdR (cdR (cdR (cdR (cdR (cdL (cdL (cdR (cdL (cdL (cdL (cdR (cdR (cdR (cdR (cdR store_Undo_c)))))))))))))))) store_Undo_h.r.r.r.r.r.l.c.c.r.c.c.r.r.r.r.r ⟨H, [(6, t6), (8, t8), (10, t10)]⟩ (blockX 2 (blockX 1 (backW n0 [6, 8, 10] [10] kc kx)))).trans ?_
  kernel_rfl
theorem store_Undo_r7_eq (m : Nat) (n0 : Nat) (kc : ASt → RO) (kx : KO (AV × List AObj)) (H : List AObj) (t6 t8 t10 t98 : AV) : store_Undo_r7 m n0 kc kx ⟨H, [(6, t6), (8, t8), (10, t10), (98, t98)]⟩ =
  condE t98 (
   idxSE 7 H t8 (V (.int .i64 0)) fun t115 =>
   fieldE (some (0, 1)) t115 fun t116 =>
   loadE 1 H t116 fun t117 =>
   buildE (some pl_api_Edit) (some zc_api_Edit) [(0, t117)] fun t118 =>
   buildSE (some (ty_api_Edit, 4)) 1 [(0, t118)] fun t119 =>
   appE (some (ty_api_Edit, 4)) H t10 t119 fun t120 H2 =>
   sliceE false (some (ty_api_Item, 7)) H2 t8 (some (V (.int .i64 1))) none fun t122 =>
   backE n0 H2 [(6, t6), (8, t122), (10, t120)] kc) (
   idxSE 7 H t6 (V (.int .i64 0)) fun t40 =>
   fieldE (some (1, 5)) t40 fun t41 =>
   loadE 5 H t41 fun t42 =>
   idxSE 7 H t8 (V (.int .i64 0)) fun t44 =>
   fieldE (some (1, 5)) t44 fun t45 =>
   loadE 5 H t45 fun t46 =>
   binE (some [.i .i64, .i .i64, .s]) false false .neq t42 t46 fun t47 =>
   condE t47 (
    idxSE 7 H t6 (V (.int .i64 0)) fun t50 =>
    fieldE (some (0, 1)) t50 fun t51 =>
    loadE 1 H t51 fun t52 =>
    idxSE 7 H t6 (V (.int .i64 0)) fun t54 =>
    fieldE (some (1, 5)) t54 fun t55 =>
    loadE 5 H t55 fun t56 =>
    buildE (some pl_api_Edit) (some zc_api_Edit) [(0, t52), (1, t56)] fun t57 =>
    buildSE (some (ty_api_Edit, 4)) 1 [(0, t57)] fun t58 =>
    appE (some (ty_api_Edit, 4)) H t10 t58 fun t59 H2 =>
    store_Undo_r8 m n0 kc kx ⟨H2, [(6, t6), (8, t8), (10, t59)]⟩) (
    store_Undo_r8 m n0 kc kx ⟨H, [(6, t6), (8, t8), (10, t10)]⟩)) := by
  refine (joinW_eq Tryd.prog GG (store_Undo_env m) m ⟨124, []⟩ (cdR (cdR (cdR (cdL (cdL (cdR (cdL (cdL (cdL (cdR (cdR (cdR (cdR (cdR store_Undo_c)))))))))))))) store_Undo_h.r.r.r.r.r.l.c.c.r.c.c.r.r.r ⟨H, [(6, t6), (8, t8), (10, t10), (98, t98)]⟩ (blockX 2 (blockX 1 (backW n0 [6, 8, 10] [10] kc kx)))).trans ?_
  kernel_rfl
theorem store_Undo_r6_eq (m : Nat) (n0 : Nat) (kc : ASt → RO) (kx : KO (AV × List AObj)) (H : List AObj) (t6 t8 t10 t64 : AV) : store_Undo_r6 m n0 kc kx ⟨H, [(6, t6), (8, t8), (10, t10), (64, t64)]⟩ =
  condE t64 (
   idxSE 7 H t6 (V (.int .i64 0)) fun t86 =>
   fieldE (some (0, 1)) t86 fun t87 =>
   loadE 1 H t87 fun t88 =>
   idxSE 7 H t6 (V (.int .i64 0)) fun t90 =>
   fieldE (some (1, 5)) t90 fun t91 =>
   loadE 5 H t91 fun t92 =>
   buildE (some pl_api_Edit) (some zc_api_Edit) [(0, t88), (1, t92)] fun t93 =>
   buildSE (some (ty_api_Edit, 4)) 1 [(0, t93)] fun t94 =>
   appE (some (ty_api_Edit, 4)) H t10 t94 fun t95 H2 =>
   sliceE false (some (ty_api_Item, 7)) H2 t6 (some (V (.int .i64 1))) none fun t97 =>
   backE n0 H2 [(6, t97), (8, t8), (10, t95)] kc) (
   lenE false true H t6 fun t100 =>
   binE none false false .eql t100 (V (.int .i64 0)) fun t101 =>
   condE t101 (
    store_Undo_r7 m n0 kc kx ⟨H, [(6, t6), (8, t8), (10, t10), (98, (V (.bool true)))]⟩) (
    idxSE 7 H t8 (V (.int .i64 0)) fun t104 =>
    fieldE (some (0, 1)) t104 fun t105 =>
    loadE 1 H t105 fun t106 =>
    idxSE 7 H t6 (V (.int .i64 0)) fun t108 =>
    fieldE (some (0, 1)) t108 fun t109 =>
    loadE 1 H t109 fun t110 =>
    binE none false false .lss t106 t110 fun t111 =>
    store_Undo_r7 m n0 kc kx ⟨H, [(6, t6), (8, t8), (10, t10), (98, t111)]⟩)) := by
  refine (joinW_eq Tryd.prog GG (store_Undo_env m) m ⟨124, []⟩ (cdR (cdL (cdL (cdR (cdL (cdL (cdL (cdR (cdR (cdR (cdR (cdR store_Undo_c)))))))))))) store_Undo_h.r.r.r.r.r.l.c.c.r.c.c.r ⟨H, [(6, t6), (8, t8), (10, t10), (64, t64)]⟩ (blockX 2 (blockX 1 (backW n0 [6, 8, 10] [10] kc kx)))).trans ?_
  kernel_rfl
theorem store_Undo_r5_eq (m : Nat) (n0 : Nat) (kc : ASt → RO) (kx : KO (AV × List AObj)) (H : List AObj) (t6 t8 t10 : AV) : store_Undo_r5 m n0 kc kx ⟨H, [(6, t6), (8, t8), (10, t10)]⟩ =
  lenE false true H t8 fun t66 =>
  binE none false false .eql t66 (V (.int .i64 0)) fun t67 =>
  condE t67 (
   store_Undo_r6 m n0 kc kx ⟨H, [(6, t6), (8, t8), (10, t10), (64, (V (.bool true)))]⟩) (
   lenE false true H t6 fun t70 =>
   binE none false false .gtr t70 (V (.int .i64 0)) fun t71 =>
   condE t71 (
   idxSE 7 H t6 (V (.int .i64 0)) fun t74 =>
   fieldE (some (0, 1)) t74 fun t75 =>
   loadE 1 H t75 fun t76 =>
   idxSE 7 H t8 (V (.int .i64 0)) fun t78 =>
   fieldE (some (0, 1)) t78 fun t79 =>
   loadE 1 H t79 fun t80 =>
   binE none false false .lss t76 t80 fun t81 =>
   store_Undo_r6 m n0 kc kx ⟨H, [(6, t6), (8, t8), (10, t10), (64, t81)]⟩) (
   store_Undo_r6 m n0 kc kx ⟨H, [(6, t6), (8, t8), (10, t10), (64, (V (.bool false)))]⟩)) := by
  refine (joinW_eq Tryd.prog GG (store_Undo_env m) m ⟨124, []⟩ (cdR (cdL (cdL (cdL (cdR (cdR (cdR (cdR (cdR store_Undo_c))))))))) store_Undo_h.r.r.r.r.r.l.c.c.r ⟨H, [(6, t6), (8, t8), (10, t10)]⟩ (backW n0 [6, 8, 10] [10] kc kx)).trans ?_
  kernel_rfl
theorem store_Undo_r4_eq (m : Nat) (n0 : Nat) (kc : ASt → RO) (kx : KO (AV × List AObj)) (H : List AObj) (t6 t8 t10 t38 : AV) : store_Undo_r4 m n0 kc kx ⟨H, [(6, t6), (8, t8), (10, t10), (38, t38)]⟩ =
  condE t38 (
   store_Undo_r5 m n0 kc kx ⟨H, [(6, t6), (8, t8), (10, t10)]⟩) (
   kx (.exit 0) ⟨H, [(10, t10)]⟩) := by
  refine (joinW_eq Tryd.prog GG (store_Undo_env m) m ⟨124, []⟩ (cdR (cdL (cdL (cdL (cdL (cdR (cdR (cdR (cdR (cdR store_Undo_c)))))))))) store_Undo_h.r.r.r.r.r.l.c.c.l.r ⟨H, [(6, t6), (8, t8), (10, t10), (38, t38)]⟩ (seqX (fun s => store_Undo_r5 m n0 kc kx ⟨s.H, [(6, gt s.T 6), (8, gt s.T 8), (10, gt s.T 10)]⟩) (backW n0 [6, 8, 10] [10] kc kx))).trans ?_
  kernel_rfl
theorem store_Undo_r3_eq (m : Nat) (H : List AObj) (t10 : AV) : store_Undo_r3 m ⟨H, [(10, t10)]⟩ =
  tellK H (ro H (TU [noT t10, noT (V (.int .i64 0))])) := by
  refine (joinW_eq Tryd.prog GG (store_Undo_env m) m ⟨124, []⟩ (cdR (cdR (cdR (cdR (cdR (cdR store_Undo_c)))))) store_Undo_h.r.r.r.r.r.r ⟨H, [(10, t10)]⟩ (store_Undo_fin)).trans ?_
  kernel_rfl
theorem store_Undo_b1_eq (m : Nat) (H : List AObj) (t6 t8 t10 : AV) (kc : ASt → RO) (kx : KO (AV × List AObj)) : store_Undo_b1 m ⟨H, [(6, t6), (8, t8), (10, t10)]⟩ kc kx =
  lenE false true H t6 fun t32 =>
  binE none false false .gtr t32 (V (.int .i64 0)) fun t33 =>
  condE t33 (
   store_Undo_r4 m H.length kc kx ⟨H, [(6, t6), (8, t8), (10, t10), (38, (V (.bool true)))]⟩) (
   lenE false true H t8 fun t36 =>
   binE none false false .gtr t36 (V (.int .i64 0)) fun t37 =>
   store_Undo_r4 m H.length kc kx ⟨H, [(6, t6), (8, t8), (10, t10), (38, t37)]⟩) := by
  refine (bodyW_eq Tryd.prog GG (store_Undo_env m) m ⟨124, []⟩ (cdL (cdL (cdL (cdR (cdR (cdR (cdR (cdR store_Undo_c)))))))) store_Undo_h.r.r.r.r.r.l.c.c [6, 8, 10] [10] ⟨H, [(6, t6), (8, t8), (10, t10)]⟩ kc kx).trans ?_
  kernel_rfl
theorem store_Undo_r2_eq (m : Nat) (H : List AObj) (t2 t3 : AV) : store_Undo_r2 m ⟨H, [(2, t2), (3, t3)]⟩ =
  fieldE (some (0, 34)) t2 fun t20 =>
  loadE 34 H t20 fun t21 =>
  tellE (span_ScanQ_t m [(ro H t21), (V (.string ⟨#[]⟩)), (V (.string ⟨#[]⟩)), (V (.int .i64 1024))]) [(ro H t21), (V (.string ⟨#[]⟩)), (V (.string ⟨#[]⟩)), (V (.int .i64 1024))] fun t22 =>
  extE t22 0 fun t23 =>
  extE t22 1 fun t24 =>
  fieldE (some (0, 34)) t3 fun t26 =>
  loadE 34 H t26 fun t27 =>
  tellE (span_ScanQ_t m [(ro H t27), (V (.string ⟨#[]⟩)), (V (.string ⟨#[]⟩)), (V (.int .i64 1024))]) [(ro H t27), (V (.string ⟨#[]⟩)), (V (.string ⟨#[]⟩)), (V (.int .i64 1024))] fun t28 =>
  extE t28 0 fun t29 =>
  extE t28 1 fun t30 =>
  rowE (V (.slice none 0 0)) ty_api_Edit 4 H fun t10 H2 =>
  iterC m (store_Undo_b1 m) ⟨H2, [(6, t23), (8, t29), (10, t10)]⟩ (blockX 0 (seqX (fun s => store_Undo_r3 m ⟨s.H, [(10, gt s.T 10)]⟩) (store_Undo_fin))) := by
  refine (joinW_eq Tryd.prog GG (store_Undo_env m) m ⟨124, []⟩ (cdR (cdR store_Undo_c)) store_Undo_h.r.r ⟨H, [(2, t2), (3, t3)]⟩ (store_Undo_fin)).trans ?_
  kernel_rfl
theorem store_Undo_r1_eq (m : Nat) (H : List AObj) (t2 t3 t18 : AV) : store_Undo_r1 m ⟨H, [(2, t2), (3, t3), (18, t18)]⟩ =
  condE t18 (
   tellK H (ro H (TU [noT (V (.slice none 0 0)), noT (V (.int .i64 1))]))) (
   store_Undo_r2 m ⟨H, [(2, t2), (3, t3)]⟩) := by
  refine (joinW_eq Tryd.prog GG (store_Undo_env m) m ⟨124, []⟩ (cdR (cdL (cdR store_Undo_c))) store_Undo_h.r.l.r ⟨H, [(2, t2), (3, t3), (18, t18)]⟩ (seqX (fun s => store_Undo_r2 m ⟨s.H, [(2, gt s.T 2), (3, gt s.T 3)]⟩) (store_Undo_fin))).trans ?_
  kernel_rfl
theorem store_Undo_eq (m : Nat) (t0 t1 : AV) : store_Undo m t0 t1 =
  boxE ty_api_Store [] t0 fun t2 H1 =>
  boxE ty_api_Store H1 t1 fun t3 H2 =>
  loadE 37 H2 t2 fun t11 =>
  tellE (store_May m (ro H2 t11)) [(ro H2 t11)] fun t12 =>
  unE .not t12 fun t13 =>
  condE t13 (
   store_Undo_r1 m ⟨H2, [(2, t2), (3, t3), (18, (V (.bool true)))]⟩) (
   loadE 37 H2 t3 fun t15 =>
   tellE (store_May m (ro H2 t15)) [(ro H2 t15)] fun t16 =>
   unE .not t16 fun t17 =>
   store_Undo_r1 m ⟨H2, [(2, t2), (3, t3), (18, t17)]⟩) := by
  refine (tellX Tryd.prog GG (store_Undo_env m) m ⟨124, []⟩ store_Undo_c store_Undo_h ⟨[], argsT 0 [t0, t1]⟩ [.tmp 4, .tmp 5]).trans ?_
  kernel_rfl
noncomputable def store_Undo_t (m : Nat) : List AV → RO | [t0, t1] => store_Undo m t0 t1 | _ => none
theorem store_Undo_ok (m : Nat) : ∀ args X H', store_Undo_t m args = some (X, H') → ACp Tryd.prog GG 18 args X := by
  intro args X H' h
  unfold store_Undo_t at h
  split at h
  · exact tell_okK MIX (by
    intro f e h
    simp only [store_Undo_env, Prod.mk.injEq, List.mem_cons, List.not_mem_nil, or_false] at h
    rcases h with ⟨rfl, rfl⟩ | ⟨rfl, rfl⟩
    · exact store_May_ok m
    · exact span_ScanQ_ok m) (f := 18) (c := store_Undo_c) Tryd.func18 rfl (by kernel_rfl) _ rfl Tryd.ntmps18 (Nat.le_of_ble_eq_true rfl) store_Undo_h h
  · cases h
end Go.Proofs.YtoeajbhlkccekaaDoor

namespace Go.Proofs.YtoeajbhlkccekaaDoor
open Go.RowKit
set_option maxRecDepth 100000
noncomputable def plenumlaw13_Few_c : Code := (Tryd.f8.body).getD .skip
def plenumlaw13_Few_h : Hint := (.two .n (.two .n (.two .n .n)))
noncomputable def plenumlaw13_Few_env (m : Nat) : Env := [(33, .tell (plenumlaw10_Few_t m))]
noncomputable abbrev plenumlaw13_Few_fin : KO (AV × List AObj) := tellFK Tryd.prog [.cell 2 28]
noncomputable def plenumlaw13_Few (m : Nat) (t0 : AV) : RO := exec Tryd.prog GG (plenumlaw13_Few_env m) m ⟨8, []⟩ plenumlaw13_Few_c plenumlaw13_Few_h ⟨[], argsT 0 [t0]⟩ (plenumlaw13_Few_fin)
theorem plenumlaw13_Few_eq (m : Nat) (t0 : AV) : plenumlaw13_Few m t0 =
  boxE ty_api_Store [] t0 fun t1 H1 =>
  allocE (some zc_api_Store) ty_api_Store H1 fun t2 H2 =>
  fieldE (some (0, 34)) t1 fun t3 =>
  loadE 34 H2 t3 fun t4 =>
  tellE (plenumlaw10_Few_t m [(ro H2 t4)]) [(ro H2 t4)] fun t5 =>
  fieldE (some (0, 34)) t1 fun t6 =>
  storeE 34 H2 t6 t5 fun H3 =>
  loadE 37 H3 t1 fun t7 =>
  storeE 37 H3 t2 t7 fun H4 =>
  loadE 37 H4 t2 fun t9000 =>
  tellK H4 (ro H4 t9000) := by
  refine (tellX Tryd.prog GG (plenumlaw13_Few_env m) m ⟨8, []⟩ plenumlaw13_Few_c plenumlaw13_Few_h ⟨[], argsT 0 [t0]⟩ [.cell 2 28]).trans ?_
  kernel_rfl
noncomputable def plenumlaw13_Few_t (m : Nat) : List AV → RO | [t0] => plenumlaw13_Few m t0 | _ => none
theorem plenumlaw13_Few_ok (m : Nat) : ∀ args X H', plenumlaw13_Few_t m args = some (X, H') → ACp Tryd.prog GG 8 args X := by
  intro args X H' h
  unfold plenumlaw13_Few_t at h
  split at h
  · exact tell_okK MIX (by
    intro f e h
    simp only [plenumlaw13_Few_env, Prod.mk.injEq, List.mem_cons, List.not_mem_nil, or_false] at h
    obtain ⟨rfl, rfl⟩ := h
    · exact plenumlaw10_Few_ok m) (f := 8) (c := plenumlaw13_Few_c) Tryd.func8 rfl (by kernel_rfl) _ rfl Tryd.ntmps8 (Nat.le_of_ble_eq_true rfl) plenumlaw13_Few_h h
  · cases h
noncomputable def plenumlaw13_edits_c : Code := (Tryd.f9.body).getD .skip
def plenumlaw13_edits_h : Hint := (.two .n (.join [0] (.two .n (.two .n .n)) (.two .n (.join [3] (.two .n (.one (.lp [(3, ty_api_Edit, 4)] [0, 3, 4] [3] (.two (.two .n (.two .n .n)) (.two (.one (.two .n .n)) .n))))) (.two .n .n)))))
noncomputable def plenumlaw13_edits_env (m : Nat) : Env := [(34, .tell (plenumlaw10_One_t m))]
noncomputable abbrev plenumlaw13_edits_fin : KO (AV × List AObj) := tellFK Tryd.prog [.tmp 2]
noncomputable def plenumlaw13_edits_r2 (m : Nat) (s : ASt) : RO := joinW Tryd.prog GG (plenumlaw13_edits_env m) m ⟨38, []⟩ (cdR (cdR (cdR (cdR plenumlaw13_edits_c)))) plenumlaw13_edits_h.r.r.r.r s (plenumlaw13_edits_fin)
noncomputable def plenumlaw13_edits_b1 (m : Nat) (s : ASt) (kc : ASt → RO) (kx : KO (AV × List AObj)) : RO := bodyW Tryd.prog GG (plenumlaw13_edits_env m) m ⟨38, []⟩ (cdL (cdL (cdR (cdL (cdR (cdR (cdR plenumlaw13_edits_c))))))) plenumlaw13_edits_h.r.r.r.l.r.c.c [0, 3, 4] [3] s kc kx
noncomputable def plenumlaw13_edits_r1 (m : Nat) (s : ASt) : RO := joinW Tryd.prog GG (plenumlaw13_edits_env m) m ⟨38, []⟩ (cdR (cdR plenumlaw13_edits_c)) plenumlaw13_edits_h.r.r s (plenumlaw13_edits_fin)
noncomputable def plenumlaw13_edits (m : Nat) (t0 : AV) : RO := exec Tryd.prog GG (plenumlaw13_edits_env m) m ⟨38, []⟩ plenumlaw13_edits_c plenumlaw13_edits_h ⟨[], argsT 0 [t0]⟩ (plenumlaw13_edits_fin)
theorem plenumlaw13_edits_r2_eq (m : Nat) (H : List AObj) (t3 : AV) : plenumlaw13_edits_r2 m ⟨H, [(3, t3)]⟩ =
  tellK H (ro H t3) := by
  refine (joinW_eq Tryd.prog GG (plenumlaw13_edits_env m) m ⟨38, []⟩ (cdR (cdR (cdR (cdR plenumlaw13_edits_c)))) plenumlaw13_edits_h.r.r.r.r ⟨H, [(3, t3)]⟩ (plenumlaw13_edits_fin)).trans ?_
  kernel_rfl
theorem plenumlaw13_edits_b1_eq (m : Nat) (H : List AObj) (t0 t3 t4 : AV) (kc : ASt → RO) (kx : KO (AV × List AObj)) : plenumlaw13_edits_b1 m ⟨H, [(0, t0), (3, t3), (4, t4)]⟩ kc kx =
  lenE false true H t0 fun t13 =>
  binE none false false .lss t4 t13 fun t14 =>
  condE t14 (
   idxSE 6 H t0 t4 fun t19 =>
   fieldE (some (0, 1)) t19 fun t20 =>
   loadE 1 H t20 fun t21 =>
   idxSE 6 H t0 t4 fun t24 =>
   fieldE (some (1, 5)) t24 fun t25 =>
   loadE 5 H t25 fun t26 =>
   buildE (some pl_api_Item) (some zc_api_Item) [(0, t21), (1, t26)] fun t27 =>
   tellE (plenumlaw10_One_t m [(ro H t27)]) [(ro H t27)] fun t28 =>
   allocE (some zc_api_Item) ty_api_Item H fun t5 H2 =>
   storeE 7 H2 t5 t28 fun H3 =>
   fieldE (some (0, 1)) t5 fun t30 =>
   loadE 1 H3 t30 fun t31 =>
   fieldE (some (1, 5)) t5 fun t32 =>
   loadE 5 H3 t32 fun t33 =>
   buildE (some pl_api_Edit) (some zc_api_Edit) [(0, t31), (1, t33)] fun t34 =>
   buildSE (some (ty_api_Edit, 4)) 1 [(0, t34)] fun t35 =>
   appE (some (ty_api_Edit, 4)) H3 t3 t35 fun t36 H4 =>
   binE none false false .add t4 (V (.int .i64 1)) fun t16 =>
   backE H.length H4 [(0, t0), (3, t36), (4, t16)] kc) (
   kx (.exit 0) ⟨H, [(3, t3)]⟩) := by
  refine (bodyW_eq Tryd.prog GG (plenumlaw13_edits_env m) m ⟨38, []⟩ (cdL (cdL (cdR (cdL (cdR (cdR (cdR plenumlaw13_edits_c))))))) plenumlaw13_edits_h.r.r.r.l.r.c.c [0, 3, 4] [3] ⟨H, [(0, t0), (3, t3), (4, t4)]⟩ kc kx).trans ?_
  kernel_rfl
theorem plenumlaw13_edits_r1_eq (m : Nat) (H : List AObj) (t0 : AV) : plenumlaw13_edits_r1 m ⟨H, [(0, t0)]⟩ =
  rowE (V (.slice none 0 0)) ty_api_Edit 4 H fun t3 H2 =>
  iterC m (plenumlaw13_edits_b1 m) ⟨H2, [(0, t0), (3, t3), (4, (V (.int .i64 0)))]⟩ (blockX 0 (seqX (fun s => plenumlaw13_edits_r2 m ⟨s.H, [(3, gt s.T 3)]⟩) (plenumlaw13_edits_fin))) := by
  refine (joinW_eq Tryd.prog GG (plenumlaw13_edits_env m) m ⟨38, []⟩ (cdR (cdR plenumlaw13_edits_c)) plenumlaw13_edits_h.r.r ⟨H, [(0, t0)]⟩ (plenumlaw13_edits_fin)).trans ?_
  kernel_rfl
theorem plenumlaw13_edits_eq (m : Nat) (t0 : AV) : plenumlaw13_edits m t0 =
  lenE false true [] t0 fun t7 =>
  binE none false false .gtr t7 (V (.int .i64 90)) fun t8 =>
  condE t8 (
   sliceE false (some (ty_api_Edit, 6)) [] t0 none (some (V (.int .i64 90))) fun t10 =>
   plenumlaw13_edits_r1 m ⟨[], [(0, t10)]⟩) (
   plenumlaw13_edits_r1 m ⟨[], [(0, t0)]⟩) := by
  refine (tellX Tryd.prog GG (plenumlaw13_edits_env m) m ⟨38, []⟩ plenumlaw13_edits_c plenumlaw13_edits_h ⟨[], argsT 0 [t0]⟩ [.tmp 2]).trans ?_
  kernel_rfl
noncomputable def plenumlaw13_edits_t (m : Nat) : List AV → RO | [t0] => plenumlaw13_edits m t0 | _ => none
theorem plenumlaw13_edits_ok (m : Nat) : ∀ args X H', plenumlaw13_edits_t m args = some (X, H') → ACp Tryd.prog GG 9 args X := by
  intro args X H' h
  unfold plenumlaw13_edits_t at h
  split at h
  · exact tell_okK MIX (by
    intro f e h
    simp only [plenumlaw13_edits_env, Prod.mk.injEq, List.mem_cons, List.not_mem_nil, or_false] at h
    obtain ⟨rfl, rfl⟩ := h
    · exact plenumlaw10_One_ok m) (f := 9) (c := plenumlaw13_edits_c) Tryd.func9 rfl (by kernel_rfl) _ rfl Tryd.ntmps9 (Nat.le_of_ble_eq_true rfl) plenumlaw13_edits_h h
  · cases h
noncomputable def plenumlaw13_short_c : Code := (Tryd.f14.body).getD .skip
def plenumlaw13_short_h : Hint := (.two .n (.two (.two .n (.two (.two .n .n) .n)) (.two .n .n)))
noncomputable def plenumlaw13_short_env (m : Nat) : Env := []
noncomputable abbrev plenumlaw13_short_fin : KO (AV × List AObj) := tellFK Tryd.prog [.tmp 2]
noncomputable def plenumlaw13_short (m : Nat) (t0 : AV) : RO := exec Tryd.prog GG (plenumlaw13_short_env m) m ⟨9, []⟩ plenumlaw13_short_c plenumlaw13_short_h ⟨[], argsT 0 [t0]⟩ (plenumlaw13_short_fin)
theorem plenumlaw13_short_eq (m : Nat) (t0 : AV) : plenumlaw13_short m t0 =
  lenE true false [] t0 fun t4 =>
  binE none false false .gtr t4 (V (.int .i64 60)) fun t5 =>
  condE t5 (
   sliceE true none [] t0 none (some (V (.int .i64 60))) fun t7 =>
   tellK [] (ro [] t7)) (
   tellK [] (ro [] t0)) := by
  refine (tellX Tryd.prog GG (plenumlaw13_short_env m) m ⟨9, []⟩ plenumlaw13_short_c plenumlaw13_short_h ⟨[], argsT 0 [t0]⟩ [.tmp 2]).trans ?_
  kernel_rfl
noncomputable def plenumlaw13_short_t (m : Nat) : List AV → RO | [t0] => plenumlaw13_short m t0 | _ => none
theorem plenumlaw13_short_ok (m : Nat) : ∀ args X H', plenumlaw13_short_t m args = some (X, H') → ACp Tryd.prog GG 14 args X := by
  intro args X H' h
  unfold plenumlaw13_short_t at h
  split at h
  · exact tell_okK MIX (by intro f e h; cases h) (f := 14) (c := plenumlaw13_short_c) Tryd.func14 rfl (by kernel_rfl) _ rfl Tryd.ntmps14 (Nat.le_of_ble_eq_true rfl) plenumlaw13_short_h h
  · cases h
noncomputable def plenumref13_Same_c : Code := (Tryd.f12.body).getD .skip
def plenumref13_Same_h : Hint := (.two .n (.two .n .n))
noncomputable def plenumref13_Same_env (m : Nat) : Env := [(44, .tell (plenumref10_Same_t m))]
noncomputable abbrev plenumref13_Same_fin : KO (AV × List AObj) := tellFK Tryd.prog [.tmp 4]
noncomputable def plenumref13_Same (m : Nat) (t0 t1 : AV) : RO := exec Tryd.prog GG (plenumref13_Same_env m) m ⟨31, []⟩ plenumref13_Same_c plenumref13_Same_h ⟨[], argsT 0 [t0, t1]⟩ (plenumref13_Same_fin)
theorem plenumref13_Same_eq (m : Nat) (t0 t1 : AV) : plenumref13_Same m t0 t1 =
  boxE ty_api_Store [] t0 fun t2 H1 =>
  boxE ty_api_Store H1 t1 fun t3 H2 =>
  fieldE (some (32, 1)) t2 fun t5 =>
  loadE 1 H2 t5 fun t6 =>
  fieldE (some (32, 1)) t3 fun t7 =>
  loadE 1 H2 t7 fun t8 =>
  binE none false false .eql t6 t8 fun t9 =>
  condE t9 (
   fieldE (some (33, 1)) t2 fun t11 =>
   loadE 1 H2 t11 fun t12 =>
   fieldE (some (33, 1)) t3 fun t13 =>
   loadE 1 H2 t13 fun t14 =>
   binE none false false .eql t12 t14 fun t15 =>
   condE t15 (
   fieldE (some (34, 1)) t2 fun t18 =>
   loadE 1 H2 t18 fun t19 =>
   fieldE (some (34, 1)) t3 fun t20 =>
   loadE 1 H2 t20 fun t21 =>
   binE none false false .eql t19 t21 fun t22 =>
   condE t22 (
   fieldE (some (0, 34)) t2 fun t25 =>
   loadE 34 H2 t25 fun t26 =>
   fieldE (some (0, 34)) t3 fun t27 =>
   loadE 34 H2 t27 fun t28 =>
   tellE (plenumref10_Same m (ro H2 t26) (ro H2 t28)) [(ro H2 t26), (ro H2 t28)] fun t29 =>
   tellK H2 (ro H2 t29)) (
   tellK H2 (ro H2 (V (.bool false))))) (
   tellK H2 (ro H2 (V (.bool false))))) (
   tellK H2 (ro H2 (V (.bool false)))) := by
  refine (tellX Tryd.prog GG (plenumref13_Same_env m) m ⟨31, []⟩ plenumref13_Same_c plenumref13_Same_h ⟨[], argsT 0 [t0, t1]⟩ [.tmp 4]).trans ?_
  kernel_rfl
noncomputable def plenumref13_Same_t (m : Nat) : List AV → RO | [t0, t1] => plenumref13_Same m t0 t1 | _ => none
theorem plenumref13_Same_ok (m : Nat) : ∀ args X H', plenumref13_Same_t m args = some (X, H') → ACp Tryd.prog GG 12 args X := by
  intro args X H' h
  unfold plenumref13_Same_t at h
  split at h
  · exact tell_okK MIX (by
    intro f e h
    simp only [plenumref13_Same_env, Prod.mk.injEq, List.mem_cons, List.not_mem_nil, or_false] at h
    obtain ⟨rfl, rfl⟩ := h
    · exact plenumref10_Same_ok m) (f := 12) (c := plenumref13_Same_c) Tryd.func12 rfl (by kernel_rfl) _ rfl Tryd.ntmps12 (Nat.le_of_ble_eq_true rfl) plenumref13_Same_h h
  · cases h
noncomputable def plenumlaw13_none_c : Code := (Tryd.f15.body).getD .skip
def plenumlaw13_none_h : Hint := (.two .n (.two .n .n))
noncomputable def plenumlaw13_none_env (m : Nat) : Env := [(12, .tell (plenumref13_Same_t m))]
noncomputable abbrev plenumlaw13_none_fin : KO (AV × List AObj) := tellFK Tryd.prog [.tmp 2]
noncomputable def plenumlaw13_none (m : Nat) (t0 : AV) : RO := exec Tryd.prog GG (plenumlaw13_none_env m) m ⟨6, []⟩ plenumlaw13_none_c plenumlaw13_none_h ⟨[], argsT 0 [t0]⟩ (plenumlaw13_none_fin)
theorem plenumlaw13_none_eq (m : Nat) (t0 : AV) : plenumlaw13_none m t0 =
  boxE ty_api_Store [] t0 fun t1 H1 =>
  loadE 37 H1 t1 fun t3 =>
  buildE (some pl_api_Store) (some zc_api_Store) [] fun t4 =>
  tellE (plenumref13_Same m (ro H1 t3) (ro H1 t4)) [(ro H1 t3), (ro H1 t4)] fun t5 =>
  tellK H1 (ro H1 t5) := by
  refine (tellX Tryd.prog GG (plenumlaw13_none_env m) m ⟨6, []⟩ plenumlaw13_none_c plenumlaw13_none_h ⟨[], argsT 0 [t0]⟩ [.tmp 2]).trans ?_
  kernel_rfl
noncomputable def plenumlaw13_none_t (m : Nat) : List AV → RO | [t0] => plenumlaw13_none m t0 | _ => none
theorem plenumlaw13_none_ok (m : Nat) : ∀ args X H', plenumlaw13_none_t m args = some (X, H') → ACp Tryd.prog GG 15 args X := by
  intro args X H' h
  unfold plenumlaw13_none_t at h
  split at h
  · exact tell_okK MIX (by
    intro f e h
    simp only [plenumlaw13_none_env, Prod.mk.injEq, List.mem_cons, List.not_mem_nil, or_false] at h
    obtain ⟨rfl, rfl⟩ := h
    · exact plenumref13_Same_ok m) (f := 15) (c := plenumlaw13_none_c) Tryd.func15 rfl (by kernel_rfl) _ rfl Tryd.ntmps15 (Nat.le_of_ble_eq_true rfl) plenumlaw13_none_h h
  · cases h
end Go.Proofs.YtoeajbhlkccekaaDoor

namespace Go.Proofs.YtoeajbhlkccekaaDoor
open Go.RowKit
set_option maxRecDepth 100000
end Go.Proofs.YtoeajbhlkccekaaDoor

namespace Go.Proofs.YtoeajbhlkccekaaDoor
open Go.RowKit
set_option maxRecDepth 20000
attribute [local go_sem] tC_len tC_sure tC_ltA tC_lt1 tC_ro tC_take tC_all1 zcT_eq zcI_len zC_len zC_ltA zC_lt1 zC_sure zC_ro zC_take set_tl set_tv sc_tt sc_zt sc_tz sc_zz add16 tA_def lA_def natInt u_tl u_tv
structure St where
  t : Tr
  ver : Int
  bytes : Int
  keys : Int
def St.tail (s : St) : List AV := [nA s.ver, nA s.bytes, nA s.keys]
def stC (s : St) : List AV := tC s.t ++ s.tail
def stA (s : St) : AV := .agg (stC s)
theorem stA_def (s : St) : stA s = .agg (stC s) := _root_.id rfl
theorem stC_len (s : St) : (stC s).length = 35 := by unfold stC; rw [List.length_append, tC_len]; rfl
theorem stC_all (s : St) (f : AV → Bool) (h : (tC s.t).all f = true) (h2 : ∀ i : Int, f (nA i) = true) : (stC s).all f = true := by
  unfold stC St.tail
  rw [List.all_append, h]
  simp [h2]
section
variable {R : Type} {s : St} {i n : Nat} {K1 : AV → Option R} {H : List AObj}
theorem st_ltA : (stC s).all (ltA n) = true := stC_all s _ tC_ltA fun _ => rfl
theorem st_sure : (stC s).all sure = true := stC_all s _ tC_sure fun _ => rfl
theorem st_lt1 : (stC s).all (lt1 n) = true := stC_all s _ tC_lt1 fun _ => rfl
theorem st_ro : (stC s).map (ro1 H) = stC s := by unfold stC; rw [List.map_append, tC_ro]; rfl
theorem u_vv {t : Tr} (h : i < 16) : nthE (veC t) i K1 = K1 (nA (t.ver i)) := by
  unfold nthE veC
  simp [List.getElem?_map, List.getElem?_range h]
theorem ve_lt1 {t : Tr} : (veC t).all (lt1 n) = true := List.all_eq_true.2 fun d hd => by
  unfold veC at hd
  obtain ⟨j, _, rfl⟩ := List.mem_map.1 hd
  rfl
theorem st_vers : ((stC s).drop 16).take 16 = veC s.t := by
  unfold stC tC
  rw [List.append_assoc, List.drop_left' leC_len, List.take_left' veC_len]
theorem st_all1 : ((stC s).all fun x => lt1 n (ro1 H x)) = true := stC_all s _ tC_all1 fun _ => rfl
theorem st_take35 : (stC s).take 35 = stC s := List.take_of_length_le (by rw [stC_len]; exact Nat.le_refl _)
theorem st_set {u : Tr} : setCells (stC s) 0 (tC u) = stC { s with t := u } := by
  rw [setCells_at _ _ _ (by rw [stC_len, tC_len]; omega), tC_len]
  unfold stC
  rw [List.drop_left' (by rw [tC_len])]
  rfl
theorem z_set : setCells zc_api_Store 0 (stC s) = stC s := by
  rw [setCells_at _ _ _ (by rw [stC_len]; exact Nat.le_refl _), stC_len]
  simp [zc_api_Store]
theorem zcS_len : zc_api_Store.length = 35 := _root_.id rfl
theorem st_take : (stC s).take 32 = tC s.t := List.take_left' tC_len
theorem st_ver : nthE (stC s) 32 K1 = K1 (nA s.ver) := by unfold nthE stC; rw [List.getElem?_append_right (by rw [tC_len]; omega), tC_len]; rfl
theorem st_bytes : nthE (stC s) 33 K1 = K1 (nA s.bytes) := by unfold nthE stC; rw [List.getElem?_append_right (by rw [tC_len]; omega), tC_len]; rfl
theorem st_keys : nthE (stC s) 34 K1 = K1 (nA s.keys) := by unfold nthE stC; rw [List.getElem?_append_right (by rw [tC_len]; omega), tC_len]; rfl
end
def inB (v most : Int) : Bool := decide (0 ≤ v) && decide (v ≤ most)
theorem within_s (m : Nat) (v most : Int) : store_within m (nA v) (nA most) = some (bA (inB v most), []) := by
  rw [store_within_eq]
  unfold inB
  simp (config := {maxSteps := 4000000, implicitDefEqProofs := false}) only [go_sem, ]
  by_cases h : 0 ≤ v
  · simp (config := {maxSteps := 4000000, implicitDefEqProofs := false}) only [go_sem, h]
  · simp (config := {maxSteps := 4000000, implicitDefEqProofs := false}) only [go_sem, h]
def versB (s : St) : Bool := (List.range 16).all fun i => decide (s.t.ver i ≤ s.ver)
theorem vers_no {s : St} {k : Nat} (hk : k < 16) (h : ¬ s.t.ver k ≤ s.ver) : versB s = false := List.all_eq_false.2 ⟨k, List.mem_range.2 hk, by simp [h]⟩
def mayS (s : St) : Bool := mayT s.t && inB s.ver 2147483647 && inB s.bytes 65536 && inB s.keys 1024 && versB s && decide ((weightT s.t : Int) ≤ s.bytes) && decide ((countT s.t : Int) ≤ s.keys)
theorem smay_s (m : Nat) (s : St) (hm : 1000000 < m) (h : s.t.Ok) : store_May m (stA s) = some (bA (mayS s), []) := by
  rw [store_May_eq, stA_def]
  have hM := trunk_May_e m s.t h
  have hW := trunk_Weight_e m s.t h
  have hC := trunk_Count_e m s.t h
  rw [tA_def] at hM hW hC
  simp (config := {maxSteps := 4000000, implicitDefEqProofs := false}) (disch := omega) only [go_sem, st_take, st_ver, st_bytes, st_keys, st_ltA, st_sure, stC_len, within_s, hM, store_May_r3_eq, store_May_r2_eq, store_May_r1_eq]
  unfold mayS
  cases h1 : mayT s.t with
  | false => simp (config := {maxSteps := 4000000, implicitDefEqProofs := false}) only [go_sem, ]
  | true =>
  cases h2 : inB s.ver 2147483647 with
  | false => simp (config := {maxSteps := 4000000, implicitDefEqProofs := false}) only [go_sem, ]
  | true =>
  cases h3 : inB s.bytes 65536 with
  | false => simp (config := {maxSteps := 4000000, implicitDefEqProofs := false}) only [go_sem, ]
  | true =>
  cases h4 : inB s.keys 1024 with
  | false => simp (config := {maxSteps := 4000000, implicitDefEqProofs := false}) only [go_sem, ]
  | true =>
  simp (config := {maxSteps := 4000000, implicitDefEqProofs := false}) (disch := omega) only [go_sem, st_take, st_ver, st_bytes, st_keys, st_ltA, st_sure, st_vers, stC_len, within_s, store_May_r1_eq]
  refine iter_ind (ι := {k : Nat // k ≤ 16 ∧ (List.range k).all (fun i => decide (s.t.ver i ≤ s.ver)) = true}) (fun k => ⟨[⟨1, ty_api_Store, 0, stC s⟩], [(1, OP 0 0), (29, .agg (veC s.t)), (30, nA k.1)]⟩) (fun k => 16 - k.1) (fun _ => some (bA (versB s && decide ((weightT s.t : Int) ≤ s.bytes) && decide ((countT s.t : Int) ≤ s.keys)), [])) ?_ ⟨0, Nat.zero_le _, rfl⟩ (by dsimp only; omega)
  rintro ⟨k, hk, hall⟩ kc hkc
  dsimp only at hkc ⊢
  rw [store_May_b1_eq]
  by_cases hlt : k < 16
  · have hlt' : (k : Int) < 16 := by omega
    by_cases hv : s.t.ver k ≤ s.ver
    · have step := hkc ⟨k + 1, by omega, by rw [List.range_succ, List.all_append, hall]; simp [hv]⟩ (by dsimp only; omega)
      have hv' : ¬ s.ver < s.t.ver k := by omega
      simp (config := {maxSteps := 4000000, implicitDefEqProofs := false}) (disch := omega) only [go_sem, hlt', u_vv, ve_lt1, st_ver, st_ltA, stC_len, hv', w_i64]
      exact step
    · have hv' : s.ver < s.t.ver k := by omega
      simp (config := {maxSteps := 4000000, implicitDefEqProofs := false}) (disch := omega) only [go_sem, hlt', u_vv, ve_lt1, st_ver, st_ltA, stC_len, hv', w_i64]
      rw [vers_no hlt hv]
      rfl
  · have hlt' : ¬ (k : Int) < 16 := by omega
    have : k = 16 := by omega
    subst this
    have hv : versB s = true := hall
    simp (config := {maxSteps := 4000000, implicitDefEqProofs := false}) (disch := omega) only [go_sem, hlt', hv, st_take, st_ver, st_bytes, st_keys, st_ltA, st_sure, stC_len, hW, hC, store_May_r2_eq]
    by_cases hw : (weightT s.t : Int) ≤ s.bytes
    · simp (config := {maxSteps := 4000000, implicitDefEqProofs := false}) only [go_sem, hw]
    · simp (config := {maxSteps := 4000000, implicitDefEqProofs := false}) only [go_sem, hw]
theorem allTo_mem {t : Tr} {n : Nat} {x : Item} (h : x ∈ allTo t n) : ∃ i, i < n ∧ x ∈ t.leaf i := by
  simp only [allTo, List.mem_flatMap, List.mem_range] at h
  exact h
def sameS (a b : St) : Bool := decide (a.ver = b.ver) && decide (a.bytes = b.bytes) && decide (a.keys = b.keys) && sameT a.t b.t
theorem rsameS_s (m : Nat) (a b : St) (hm : 16 < m) (ha : ∀ i, (a.t.leaf i).length ≤ 34359738368) (hb : ∀ i, (b.t.leaf i).length ≤ 34359738368) : plenumref13_Same m (stA a) (stA b) = some (bA (sameS a b), []) := by
  have hS := rsame_s m a.t b.t hm ha hb
  rw [tA_def, tA_def] at hS
  rw [plenumref13_Same_eq, stA_def, stA_def]
  unfold sameS
  by_cases h1 : a.ver = b.ver
  · by_cases h2 : a.bytes = b.bytes
    · by_cases h3 : a.keys = b.keys
      · simp (config := {maxSteps := 4000000, implicitDefEqProofs := false}) (disch := omega) only [go_sem, st_take, st_ver, st_bytes, st_keys, st_ltA, st_sure, stC_len, h1, h2, h3, hS]
      · simp (config := {maxSteps := 4000000, implicitDefEqProofs := false}) (disch := omega) only [go_sem, st_take, st_ver, st_bytes, st_keys, st_ltA, st_sure, stC_len, h1, h2, h3, hS]
    · simp (config := {maxSteps := 4000000, implicitDefEqProofs := false}) (disch := omega) only [go_sem, st_take, st_ver, st_bytes, st_keys, st_ltA, st_sure, stC_len, h1, h2, hS]
  · simp (config := {maxSteps := 4000000, implicitDefEqProofs := false}) (disch := omega) only [go_sem, st_take, st_ver, st_bytes, st_keys, st_ltA, st_sure, stC_len, h1, hS]
theorem few13_s (m : Nat) (s : St) (h : ∀ i, (s.t.leaf i).length ≤ maxLen) : plenumlaw13_Few m (stA s) = some (stA { s with t := fewT s.t 16 }, []) := by
  have hF := plenumlaw10_Few_e m s.t h
  rw [tA_def, tA_def] at hF
  rw [plenumlaw13_Few_eq, stA_def]
  simp (config := {maxSteps := 4000000, implicitDefEqProofs := false}) (disch := omega) only [go_sem, st_take, st_ltA, st_sure, stC_len, hF, st_set, st_take35, z_set, zcS_len, st_all1, st_ro, stA_def]
end Go.Proofs.YtoeajbhlkccekaaDoor

namespace Go.Proofs.YtoeajbhlkccekaaDoor
open Go.RowKit
set_option maxRecDepth 100000
def ty_api_Errno : TypeId := 32
def zc_api_Errno : List AV := [(V (.int .i64 0))]
def zc_int : List AV := [(V (.int .i64 0))]
noncomputable def store_Take_c : Code := (Tryd.f10.body).getD .skip
def store_Take_h : Hint := (.two .n (.join [1, 2, 4, 5, 6] (.join [1, 2, 4, 5, 6, 18] .n (.two (.two .n .n) .n)) (.join [1, 2, 4, 5, 6] (.two .n (.one (.lp [] [1, 2, 4, 5, 6, 20, 21, 22] [1, 2, 4, 5, 6] (.two .n (.two (.two .n .n) (.join [1, 2, 4, 5, 6, 20, 21, 22] (.one (.two .n (.join [1, 2, 4, 5, 6, 7, 20, 21, 22, 36] .n (.two (.two .n .n) .n)))) .n)))))) (.two .n (.two .n (.join [1, 2, 4, 5, 6] (.two .n (.one (.lp [] [1, 2, 4, 5, 6, 45, 46, 47] [1, 2, 4, 5, 6] (.two .n (.two (.two .n .n) (.two (.one (.two .n .n)) .n)))))) (.join [2, 4, 5, 6] (.join [1, 2, 4, 5, 6, 74] .n (.two .n .n)) (.two .n .n))))))))
noncomputable def store_Take_env (m : Nat) : Env := [(38, .pan (store_one_t m)), (17, .tell (store_May_t m)), (35, .tell (key_Is_t m)), (36, .tell (value_May_t m))]
noncomputable abbrev store_Take_fin : KO (AV × List AObj) := tellFK Tryd.prog [.cell 4 28, .cell 5 32, .cell 6 3]
noncomputable def store_Take_r5 (m : Nat) (n0 : Nat) (kc : ASt → RO) (kx : KO (AV × List AObj)) (s : ASt) : RO := joinW Tryd.prog GG (store_Take_env m) m ⟨80, []⟩ (cdR (cdR (cdR (cdL (cdL (cdR (cdL (cdR (cdR store_Take_c))))))))) store_Take_h.r.r.l.r.c.c.r.r.r s (backW n0 [1, 2, 4, 5, 6, 20, 21, 22] [1, 2, 4, 5, 6] kc kx)
noncomputable def store_Take_r4 (m : Nat) (n0 : Nat) (kc : ASt → RO) (kx : KO (AV × List AObj)) (s : ASt) : RO := joinW Tryd.prog GG (store_Take_env m) m ⟨80, []⟩ (cdR (cdR (cdL (cdL (cdR (cdR (cdL (cdL (cdR (cdL (cdR (cdR store_Take_c)))))))))))) store_Take_h.r.r.l.r.c.c.r.r.l.c.r.r s (blockX 1 (seqX (fun s => store_Take_r5 m n0 kc kx ⟨s.H, [(1, gt s.T 1), (2, gt s.T 2), (4, gt s.T 4), (5, gt s.T 5), (6, gt s.T 6), (20, gt s.T 20), (21, gt s.T 21), (22, gt s.T 22)]⟩) (backW n0 [1, 2, 4, 5, 6, 20, 21, 22] [1, 2, 4, 5, 6] kc kx)))
noncomputable def store_Take_r3 (m : Nat) (s : ASt) : RO := joinW Tryd.prog GG (store_Take_env m) m ⟨80, []⟩ (cdR (cdR (cdR store_Take_c))) store_Take_h.r.r.r s (store_Take_fin)
noncomputable def store_Take_b1 (m : Nat) (s : ASt) (kc : ASt → RO) (kx : KO (AV × List AObj)) : RO := bodyW Tryd.prog GG (store_Take_env m) m ⟨80, []⟩ (cdL (cdL (cdR (cdL (cdR (cdR store_Take_c)))))) store_Take_h.r.r.l.r.c.c [1, 2, 4, 5, 6, 20, 21, 22] [1, 2, 4, 5, 6] s kc kx
noncomputable def store_Take_r2 (m : Nat) (s : ASt) : RO := joinW Tryd.prog GG (store_Take_env m) m ⟨80, []⟩ (cdR (cdR store_Take_c)) store_Take_h.r.r s (store_Take_fin)
noncomputable def store_Take_r1 (m : Nat) (s : ASt) : RO := joinW Tryd.prog GG (store_Take_env m) m ⟨80, []⟩ (cdR (cdL (cdR store_Take_c))) store_Take_h.r.l.r s (seqX (fun s => store_Take_r2 m ⟨s.H, [(1, gt s.T 1), (2, gt s.T 2), (4, gt s.T 4), (5, gt s.T 5), (6, gt s.T 6)]⟩) (store_Take_fin))
noncomputable def store_Take (m : Nat) (t0 t1 : AV) : RO := exec Tryd.prog GG (store_Take_env m) m ⟨80, []⟩ store_Take_c store_Take_h ⟨[], argsT 0 [t0, t1]⟩ (store_Take_fin)
theorem store_Take_r5_eq (m : Nat) (n0 : Nat) (kc : ASt → RO) (kx : KO (AV × List AObj)) (H : List AObj) (t1 t2 t4 t5 t6 t20 t21 t22 : AV) : store_Take_r5 m n0 kc kx ⟨H, [(1, t1), (2, t2), (4, t4), (5, t5), (6, t6), (20, t20), (21, t21), (22, t22)]⟩ =
  binE none false false .add t22 (V (.int .i64 1)) fun t39 =>
  backE n0 H [(1, t1), (2, t2), (4, t4), (5, t5), (6, t6), (20, t20), (21, t21), (22, t39)] kc := by
  refine (joinW_eq Tryd.prog GG (store_Take_env m) m ⟨80, []⟩ (cdR (cdR (cdR (cdL (cdL (cdR (cdL (cdR (cdR store_Take_c))))))))) store_Take_h.r.r.l.r.c.c.r.r.r ⟨H, [(1, t1), (2, t2), (4, t4), (5, t5), (6, t6), (20, t20), (21, t21), (22, t22)]⟩ (backW n0 [1, 2, 4, 5, 6, 20, 21, 22] [1, 2, 4, 5, 6] kc kx)).trans ?_
  kernel_rfl
theorem store_Take_r4_eq (m : Nat) (n0 : Nat) (kc : ASt → RO) (kx : KO (AV × List AObj)) (H : List AObj) (t1 t2 t4 t5 t6 t7 t20 t21 t22 t36 : AV) : store_Take_r4 m n0 kc kx ⟨H, [(1, t1), (2, t2), (4, t4), (5, t5), (6, t6), (7, t7), (20, t20), (21, t21), (22, t22), (36, t36)]⟩ =
  condE t36 (
   buildE (some pl_api_Store) (some zc_api_Store) [] fun t37 =>
   storeE 37 H t4 t37 fun H2 =>
   storeE 1 H2 t5 (V (.int .i64 1)) fun H3 =>
   storeE 1 H3 t6 t7 fun H4 =>
   kx .ret ⟨H4, [(1, t1), (2, t2), (4, t4), (5, t5), (6, t6)]⟩) (
   store_Take_r5 m n0 kc kx ⟨H, [(1, t1), (2, t2), (4, t4), (5, t5), (6, t6), (20, t20), (21, t21), (22, t22)]⟩) := by
  refine (joinW_eq Tryd.prog GG (store_Take_env m) m ⟨80, []⟩ (cdR (cdR (cdL (cdL (cdR (cdR (cdL (cdL (cdR (cdL (cdR (cdR store_Take_c)))))))))))) store_Take_h.r.r.l.r.c.c.r.r.l.c.r.r ⟨H, [(1, t1), (2, t2), (4, t4), (5, t5), (6, t6), (7, t7), (20, t20), (21, t21), (22, t22), (36, t36)]⟩ (blockX 1 (seqX (fun s => store_Take_r5 m n0 kc kx ⟨s.H, [(1, gt s.T 1), (2, gt s.T 2), (4, gt s.T 4), (5, gt s.T 5), (6, gt s.T 6), (20, gt s.T 20), (21, gt s.T 21), (22, gt s.T 22)]⟩) (backW n0 [1, 2, 4, 5, 6, 20, 21, 22] [1, 2, 4, 5, 6] kc kx)))).trans ?_
  kernel_rfl
theorem store_Take_b1_eq (m : Nat) (H : List AObj) (t1 t2 t4 t5 t6 t20 t21 t22 : AV) (kc : ASt → RO) (kx : KO (AV × List AObj)) : store_Take_b1 m ⟨H, [(1, t1), (2, t2), (4, t4), (5, t5), (6, t6), (20, t20), (21, t21), (22, t22)]⟩ kc kx =
  binE none false false .lss t22 t21 fun t23 =>
  condE t23 (
   idxSE 6 H t20 t22 fun t25 =>
   loadE 6 H t25 fun t26 =>
   allocE (some zc_api_Edit) ty_api_Edit H fun t8 H2 =>
   storeE 6 H2 t8 t26 fun H3 =>
   fieldE (some (0, 1)) t8 fun t27 =>
   loadE 1 H3 t27 fun t28 =>
   tellE (key_Is_t m [(ro H3 t28)]) [(ro H3 t28)] fun t29 =>
   unE .not t29 fun t30 =>
   condE t30 (
    store_Take_r4 m H.length kc kx ⟨H3, [(1, t1), (2, t2), (4, t4), (5, t5), (6, t6), (7, t22), (20, t20), (21, t21), (22, t22), (36, (V (.bool true)))]⟩) (
    fieldE (some (1, 5)) t8 fun t32 =>
    loadE 5 H3 t32 fun t33 =>
    tellE (value_May_t m [(ro H3 t33)]) [(ro H3 t33)] fun t34 =>
    unE .not t34 fun t35 =>
    store_Take_r4 m H.length kc kx ⟨H3, [(1, t1), (2, t2), (4, t4), (5, t5), (6, t6), (7, t22), (20, t20), (21, t21), (22, t22), (36, t35)]⟩)) (
   kx (.exit 0) ⟨H, [(1, t1), (2, t2), (4, t4), (5, t5), (6, t6)]⟩) := by
  refine (bodyW_eq Tryd.prog GG (store_Take_env m) m ⟨80, []⟩ (cdL (cdL (cdR (cdL (cdR (cdR store_Take_c)))))) store_Take_h.r.r.l.r.c.c [1, 2, 4, 5, 6, 20, 21, 22] [1, 2, 4, 5, 6] ⟨H, [(1, t1), (2, t2), (4, t4), (5, t5), (6, t6), (20, t20), (21, t21), (22, t22)]⟩ kc kx).trans ?_
  kernel_rfl
theorem store_Take_r2_eq (m : Nat) (H : List AObj) (t1 t2 t4 t5 t6 : AV) : store_Take_r2 m ⟨H, [(1, t1), (2, t2), (4, t4), (5, t5), (6, t6)]⟩ =
  lenE false true H t1 fun t21 =>
  iterC m (store_Take_b1 m) ⟨H, [(1, t1), (2, t2), (4, t4), (5, t5), (6, t6), (20, t1), (21, t21), (22, (V (.int .i64 0)))]⟩ (blockX 0 (seqX (fun s => store_Take_r3 m ⟨s.H, [(1, gt s.T 1), (2, gt s.T 2), (4, gt s.T 4), (5, gt s.T 5), (6, gt s.T 6)]⟩) (store_Take_fin))) := by
  refine (joinW_eq Tryd.prog GG (store_Take_env m) m ⟨80, []⟩ (cdR (cdR store_Take_c)) store_Take_h.r.r ⟨H, [(1, t1), (2, t2), (4, t4), (5, t5), (6, t6)]⟩ (store_Take_fin)).trans ?_
  kernel_rfl
theorem store_Take_r1_eq (m : Nat) (H : List AObj) (t1 t2 t4 t5 t6 t18 : AV) : store_Take_r1 m ⟨H, [(1, t1), (2, t2), (4, t4), (5, t5), (6, t6), (18, t18)]⟩ =
  condE t18 (
   buildE (some pl_api_Store) (some zc_api_Store) [] fun t19 =>
   storeE 37 H t4 t19 fun H2 =>
   storeE 1 H2 t5 (V (.int .i64 1)) fun H3 =>
   storeE 1 H3 t6 (V (.int .i64 0)) fun H4 =>
   loadE 37 H4 t4 fun t9000 =>
   loadE 1 H4 t5 fun t9001 =>
   loadE 1 H4 t6 fun t9002 =>
   tellK H4 (ro H4 (TU [noT t9000, noT t9001, noT t9002]))) (
   store_Take_r2 m ⟨H, [(1, t1), (2, t2), (4, t4), (5, t5), (6, t6)]⟩) := by
  refine (joinW_eq Tryd.prog GG (store_Take_env m) m ⟨80, []⟩ (cdR (cdL (cdR store_Take_c))) store_Take_h.r.l.r ⟨H, [(1, t1), (2, t2), (4, t4), (5, t5), (6, t6), (18, t18)]⟩ (seqX (fun s => store_Take_r2 m ⟨s.H, [(1, gt s.T 1), (2, gt s.T 2), (4, gt s.T 4), (5, gt s.T 5), (6, gt s.T 6)]⟩) (store_Take_fin))).trans ?_
  kernel_rfl
theorem store_Take_eq (m : Nat) (t0 t1 : AV) : store_Take m t0 t1 =
  boxE ty_api_Store [] t0 fun t2 H1 =>
  allocE (some zc_api_Store) ty_api_Store H1 fun t4 H2 =>
  allocE (some zc_api_Errno) ty_api_Errno H2 fun t5 H3 =>
  allocE (some zc_int) ty_int H3 fun t6 H4 =>
  loadE 37 H4 t2 fun t11 =>
  tellE (store_May m (ro H4 t11)) [(ro H4 t11)] fun t12 =>
  unE .not t12 fun t13 =>
  condE t13 (
   store_Take_r1 m ⟨H4, [(1, t1), (2, t2), (4, t4), (5, t5), (6, t6), (18, (V (.bool true)))]⟩) (
   fieldE (some (32, 1)) t2 fun t15 =>
   loadE 1 H4 t15 fun t16 =>
   binE none false false .eql t16 (V (.int .i64 2147483647)) fun t17 =>
   store_Take_r1 m ⟨H4, [(1, t1), (2, t2), (4, t4), (5, t5), (6, t6), (18, t17)]⟩) := by
  refine (tellX Tryd.prog GG (store_Take_env m) m ⟨80, []⟩ store_Take_c store_Take_h ⟨[], argsT 0 [t0, t1]⟩ [.cell 4 28, .cell 5 32, .cell 6 3]).trans ?_
  kernel_rfl
noncomputable def store_Take_t (m : Nat) : List AV → RO | [t0, t1] => store_Take m t0 t1 | _ => none
theorem store_Take_ok (m : Nat) : ∀ args X H', store_Take_t m args = some (X, H') → ACp Tryd.prog GG 10 args X := by
  intro args X H' h
  unfold store_Take_t at h
  split at h
  · exact tell_okK MIX (by
    intro f e h
    simp only [store_Take_env, Prod.mk.injEq, List.mem_cons, List.not_mem_nil, or_false] at h
    rcases h with ⟨rfl, rfl⟩ | ⟨rfl, rfl⟩ | ⟨rfl, rfl⟩ | ⟨rfl, rfl⟩
    · exact store_one_ok m
    · exact store_May_ok m
    · exact key_Is_ok m
    · exact value_May_ok m) (f := 10) (c := store_Take_c) Tryd.func10 rfl (by kernel_rfl) _ rfl Tryd.ntmps10 (Nat.le_of_ble_eq_true rfl) store_Take_h h
  · cases h
end Go.Proofs.YtoeajbhlkccekaaDoor

namespace Go.Proofs.YtoeajbhlkccekaaDoor
open Go.RowKit
set_option maxRecDepth 20000
def St.zero : St := ⟨Tr.zero, 0, 0, 0⟩
def zS : List AV := zC ++ [nA 0, nA 0, nA 0]
theorem zcS_eq : zc_api_Store = zS := _root_.id rfl
theorem zS_len : zS.length = 35 := _root_.id rfl
structure Edt where
  key : Bytes
  kind : Int
  i : Int
  s : Bytes
def Edt.cells (x : Edt) : List Value := [.string ⟨x.key.toArray⟩, .int .i64 x.kind, .int .i64 x.i, .string ⟨x.s.toArray⟩]
def Edt.it (x : Edt) (v : Int) : Item := ⟨x.key, x.kind, x.i, x.s, v⟩
abbrev eA (x : Edt) : AV := flA Edt.cells x
theorem ed_it (x : Edt) : flA Edt.cells x = .agg [V (.string ⟨x.key.toArray⟩), V (.int .i64 x.kind), V (.int .i64 x.i), V (.string ⟨x.s.toArray⟩)] := _root_.id rfl
def edO (x : Edt) : AObj := ⟨1, ty_api_Edit, 0, [V (.string ⟨x.key.toArray⟩), V (.int .i64 x.kind), V (.int .i64 x.i), V (.string ⟨x.s.toArray⟩)]⟩
section
variable {R : Type} {s u : St} {i n : Nat} {q : Int} {K1 : AV → Option R} {H : List AObj}
theorem zS_sure : zS.all sure = true := _root_.id rfl
theorem zS_ltA : zS.all (ltA n) = true := _root_.id rfl
theorem zS_lt1 : zS.all (lt1 n) = true := _root_.id rfl
theorem zS_all1 : (zS.all fun x => lt1 n (ro1 H x)) = true := _root_.id rfl
theorem zS_ro : zS.map (ro1 H) = stC St.zero := _root_.id rfl
theorem zS_take : zS.take 35 = zS := _root_.id rfl
theorem set_all {a b : List AV} (h : a.length = b.length) : setCells a 0 b = b := by
  rw [setCells_at _ _ _ (by omega)]
  rw [List.drop_of_length_le (by omega)]
  simp
theorem ss_set : setCells (stC s) 0 (stC u) = stC u := set_all (by rw [stC_len, stC_len])
theorem ss_zs : setCells zS 0 (stC u) = stC u := set_all (by rw [stC_len, zS_len])
theorem ss_zz : setCells zS 0 zS = zS := set_all rfl
theorem u_bS0 : buildE (some pl_api_Store) (some zS) [] K1 = K1 (.agg zS) := _root_.id rfl
theorem u_bIt {k s : ByteArray} {a b v : Int} : buildE (some pl_api_Item) (some zc_api_Item) [(0, V (.string k)), (1, .agg [V (.int .i64 a), V (.int .i64 b), V (.string s)]), (2, V (.int .i64 v))] K1 = K1 (.agg [V (.string k), V (.int .i64 a), V (.int .i64 b), V (.string s), V (.int .i64 v)]) := _root_.id rfl
theorem u_bNo {a b : Int} : buildE (some pl_store_no) (some zc_store_no) [(0, V (.int .i64 a)), (1, V (.int .i64 b))] K1 = K1 (.agg [V (.int .i64 a), V (.int .i64 b)]) := _root_.id rfl
end
def noV (e a : Int) : Value := .iface 74 (.agg #[.int .i64 e, .int .i64 a])
def oneT (t : Tr) (x : Edt) (ver : Int) : Tr × Nat := if x.kind = 0 then (if (getT t x.key).isSome then delT t x.key ver else (t, 0)) else putT t (x.it ver)
def tkH (s : St) : List AObj := [⟨1, ty_api_Store, 0, stC s⟩, ⟨1, ty_api_Store, 0, zS⟩, ⟨1, ty_api_Errno, 0, [nA 0]⟩, ⟨1, ty_int, 0, [nA 0]⟩]
theorem zcI0 : zc_api_Item = [V (.string ⟨#[]⟩), V (.int .i64 0), V (.int .i64 0), V (.string ⟨#[]⟩), V (.int .i64 0)] := _root_.id rfl
theorem zcE0 : zc_api_Edit = [V (.string ⟨#[]⟩), V (.int .i64 0), V (.int .i64 0), V (.string ⟨#[]⟩)] := _root_.id rfl
attribute [local go_sem] tC_len tC_sure tC_ltA tC_lt1 tC_ro tC_take tC_all1 zcT_eq zcI_len zC_len zC_ltA zC_lt1 zC_sure zC_ro zC_take set_tl set_tv sc_tt sc_zt sc_tz sc_zz add16 tA_def lA_def natInt u_tl u_tv ed_it store_one_r1_eq store_one_r2_eq zS_ltA st_ltA u_bIt u_bNo
theorem one_s (m : Nat) (t : Tr) (x : Edt) (ver : Int) (a : Int) (s : St) (h : t.Ok) : store_one m (tA t) (eA x) (nA ver) (nA a) (tkH s ++ [edO x]) =
    some (if (oneT t x ver).2 = 0 then (tA (oneT t x ver).1, tkH s ++ [edO x]) else (PN (noV (oneT t x ver).2 a), tkH s ++ [edO x])) := by
  rw [store_one_eq]
  unfold oneT tkH edO
  have hP := trunk_Put_e m t (x.it ver) h
  have hG := trunk_Get_e m t x.key h
  have hD := trunk_Delete_e m t x.key ver h
  rw [tA_def] at hP hG hD ⊢
  rw [iA_def] at hP
  unfold Edt.it at hP
  dsimp only at hP
  by_cases hk : x.kind = 0
  · rw [if_pos hk]
    cases hg : (getT t x.key).isSome with
    | false =>
      rw [hg] at hG
      simp (config := {maxSteps := 4000000, implicitDefEqProofs := false}) (disch := omega) only [go_sem, hk, hG, zcI0, iA_def]
    | true =>
      rw [hg] at hG
      rw [if_pos rfl]
      generalize delT t x.key ver = r at *
      obtain ⟨t', e'⟩ := r
      dsimp only at hD ⊢
      by_cases he : e' = 0
      · subst he
        simp (config := {maxSteps := 4000000, implicitDefEqProofs := false}) (disch := omega) only [go_sem, hk, hG, hD, zcI0, iA_def, Int.ofNat_zero]
        try rfl
      · have he' : ¬ (e' : Int) = 0 := by omega
        simp (config := {maxSteps := 4000000, implicitDefEqProofs := false}) (disch := omega) only [go_sem, hk, hG, hD, he, he', zcI0, iA_def]
        try rfl
  · rw [if_neg hk]
    unfold Edt.it
    generalize putT t ⟨x.key, x.kind, x.i, x.s, ver⟩ = r at *
    obtain ⟨t', e'⟩ := r
    dsimp only at hP ⊢
    by_cases he : e' = 0
    · subst he
      simp (config := {maxSteps := 4000000, implicitDefEqProofs := false}) (disch := omega) only [go_sem, hk, hP, Int.ofNat_zero]
      try rfl
    · have he' : ¬ (e' : Int) = 0 := by omega
      simp (config := {maxSteps := 4000000, implicitDefEqProofs := false}) (disch := omega) only [go_sem, hk, hP, he, he']
      try rfl
end Go.Proofs.YtoeajbhlkccekaaDoor

namespace Go.Proofs.YtoeajbhlkccekaaDoor
open Go.RowKit
set_option maxRecDepth 20000
def Item.ed (x : Item) : Edt := ⟨x.key, x.kind, x.i, x.s⟩
def Item.del (x : Item) : Edt := ⟨x.key, 0, 0, []⟩
def sameV (a b : Item) : Bool := decide (a.kind = b.kind) && (decide (a.i = b.i) && decide (a.s = b.s))
def undoN : Nat → List Item → List Item → List Edt → List Edt
  | 0, _, _, acc => acc
  | _ + 1, [], [], acc => acc
  | n + 1, x :: a, [], acc => undoN n a [] (acc ++ [x.ed])
  | n + 1, [], y :: b, acc => undoN n [] b (acc ++ [y.del])
  | n + 1, x :: a, y :: b, acc => if less x.key y.key then undoN n a (y :: b) (acc ++ [x.ed]) else if less y.key x.key then undoN n (x :: a) b (acc ++ [y.del]) else undoN n a b (if sameV x y then acc else acc ++ [x.ed])
theorem undoN_more : ∀ (n : Nat) (a b : List Item) (acc : List Edt), a.length + b.length ≤ n → undoN n a b acc = undoN (a.length + b.length) a b acc
  | 0, a, b, acc, h => by
    have : a.length + b.length = 0 := by omega
    rw [this]
  | n + 1, [], [], acc, h => rfl
  | n + 1, x :: a, [], acc, h => by
    have e : (x :: a).length + ([] : List Item).length = (a.length + 0) + 1 := by simp
    rw [e]
    unfold undoN
    rw [undoN_more n a [] _ (by simp at h ⊢; omega)]
    rfl
  | n + 1, [], y :: b, acc, h => by
    have e : ([] : List Item).length + (y :: b).length = (0 + b.length) + 1 := by simp
    rw [e]
    unfold undoN
    rw [undoN_more n [] b _ (by simp at h ⊢; omega)]
    simp
  | n + 1, x :: a, y :: b, acc, h => by
    have e : (x :: a).length + (y :: b).length = (a.length + b.length + 1) + 1 := by simp; omega
    rw [e]
    unfold undoN
    simp at h
    rw [undoN_more n a (y :: b) _ (by simp; omega), undoN_more n (x :: a) b _ (by simp; omega), undoN_more n a b _ (by omega)]
    rw [undoN_more (a.length + b.length + 1) a (y :: b) _ (by simp; omega), undoN_more (a.length + b.length + 1) (x :: a) b _ (by simp; omega), undoN_more (a.length + b.length + 1) a b _ (by omega)]
theorem cut1 {d : AV} {es : List AV} : cutE (d :: es) 1 ((es.length + 1 : Nat) : Int) = es := by
  unfold cutE
  rw [Int.toNat_natCast, List.take_of_length_le (by simp)]
  rfl
theorem cutI (x : Item) (l : List Item) : cutE (.agg [V (.string ⟨x.key.toArray⟩), V (.int .i64 x.kind), V (.int .i64 x.i), V (.string ⟨x.s.toArray⟩), V (.int .i64 x.ver)] :: l.map (flA Item.cells)) 1 ((l.length + 1 : Nat) : Int) = l.map (flA Item.cells) := by
  have := cut1 (d := (.agg [V (.string ⟨x.key.toArray⟩), V (.int .i64 x.kind), V (.int .i64 x.i), V (.string ⟨x.s.toArray⟩), V (.int .i64 x.ver)] : AV)) (es := l.map (flA Item.cells))
  rwa [List.length_map] at this
theorem len1 (n : Nat) : (decide ((1 : Int) ≤ ((n + 1 : Nat) : Int)) && decide (((n + 1 : Nat) : Int) ≤ ((n + 1 : Nat) : Int))) = true := by
  rw [decide_eq_true (by omega), decide_eq_true (Int.le_refl _)]; rfl
theorem ed_all {l : List Edt} : (l.all fun x => decide ((cellsOf (flA Edt.cells x)).length = 4)) = true := List.all_eq_true.2 fun _ _ => rfl
theorem ed_allA {l : List Edt} {n : Nat} : (l.all fun x => ltA n (flA Edt.cells x)) = true := List.all_eq_true.2 fun _ _ => rfl
theorem u_bE1 {R : Type} {k s : ByteArray} {a b : Int} {K1 : AV → Option R} : buildE (some pl_api_Edit) (some zc_api_Edit) [(0, V (.string k)), (1, .agg [V (.int .i64 a), V (.int .i64 b), V (.string s)])] K1 = K1 (.agg [V (.string k), V (.int .i64 a), V (.int .i64 b), V (.string s)]) := _root_.id rfl
theorem u_bE0 {R : Type} {k : ByteArray} {K1 : AV → Option R} : buildE (some pl_api_Edit) (some zc_api_Edit) [(0, V (.string k))] K1 = K1 (.agg [V (.string k), V (.int .i64 0), V (.int .i64 0), V (.string ⟨#[]⟩)]) := _root_.id rfl
theorem sameVK (x y : Item) : sameKs [.int .i64 x.kind, .int .i64 x.i, .string ⟨x.s.toArray⟩] [.int .i64 y.kind, .int .i64 y.i, .string ⟨y.s.toArray⟩] = sameV x y := by
  show (decide (x.kind = y.kind) && (decide (x.i = y.i) && (decide (x.s = y.s) && true))) = _
  rw [Bool.and_true]; rfl
theorem u_eqV {R : Type} {K1 : AV → Option R} {x y : Item} {isB sl : Bool} : binE (some [.i .i64, .i .i64, .s]) isB sl .eql (.agg [V (.int .i64 x.kind), V (.int .i64 x.i), V (.string ⟨x.s.toArray⟩)]) (.agg [V (.int .i64 y.kind), V (.int .i64 y.i), V (.string ⟨y.s.toArray⟩)]) K1 = K1 (bA (sameV x y)) := by
  rw [← sameVK]; rfl
theorem u_neV {R : Type} {K1 : AV → Option R} {x y : Item} {isB sl : Bool} : binE (some [.i .i64, .i .i64, .s]) isB sl .neq (.agg [V (.int .i64 x.kind), V (.int .i64 x.i), V (.string ⟨x.s.toArray⟩)]) (.agg [V (.int .i64 y.kind), V (.int .i64 y.i), V (.string ⟨y.s.toArray⟩)]) K1 = K1 (bA (!sameV x y)) := by
  rw [← sameVK]; rfl
attribute [local go_sem] tC_len tC_sure tC_ltA tC_lt1 tC_ro tC_take tC_all1 zcT_eq zcI_len zC_len zC_ltA zC_lt1 zC_sure zC_ro zC_take set_tl set_tv sc_tt sc_zt sc_tz sc_zz add16 tA_def lA_def natInt u_tl u_tv store_Undo_r4_eq store_Undo_r5_eq store_Undo_r6_eq store_Undo_r7_eq store_Undo_r8_eq fl_it u_bE0 u_bE1 cutI len1 ed_it st_ltA ed_all ed_allA fl_allA less_def u_neV
abbrev unS (p q : St) (a b : List Item) (acc : List Edt) : ASt := ⟨[⟨1, ty_api_Store, 0, stC p⟩, ⟨1, ty_api_Store, 0, stC q⟩, ⟨2, ty_api_Edit, 4, acc.map (flA Edt.cells)⟩], [(6, SL (a.map (flA Item.cells))), (8, SL (b.map (flA Item.cells))), (10, OW 2 acc.length)]⟩
theorem undo_loop (m : Nat) (p q : St) (a b : List Item) (hm : a.length + b.length < m) (hl : a.length + b.length ≤ 34359738368) (k : ASt → RO) (kxr : KO (AV × List AObj))
    (hk : ∀ acc : List Edt, kxr (.exit 0) ⟨[⟨1, ty_api_Store, 0, stC p⟩, ⟨1, ty_api_Store, 0, stC q⟩, ⟨2, ty_api_Edit, 4, acc.map (flA Edt.cells)⟩], [(10, OW 2 acc.length)]⟩ = some (TU [SL (acc.map (flA Edt.cells)), nA 0], [])) :
    iterC m (store_Undo_b1 m) (unS p q a b []) kxr = some (TU [SL ((undoN (a.length + b.length) a b []).map (flA Edt.cells)), nA 0], []) := by
  refine iter_go (ι := {r : List Item × List Item × List Edt // r.1.length + r.2.1.length + r.2.2.length ≤ 34359738368 ∧ undoN (r.1.length + r.2.1.length) r.1 r.2.1 r.2.2 = undoN (a.length + b.length) a b []}) (fun r => unS p q r.1.1 r.1.2.1 r.1.2.2) (fun r => r.1.1.length + r.1.2.1.length) (fun _ => some (TU [SL ((undoN (a.length + b.length) a b []).map (flA Edt.cells)), nA 0], [])) ?_ ⟨(a, b, []), by simpa using hl, rfl⟩ (by dsimp only; omega)
  rintro kx hkx ⟨⟨a', b', acc⟩, hle, hun⟩ kc hkc
  dsimp only at hle hun hkc ⊢
  rw [store_Undo_b1_eq]
  match a', b', hle, hun, hkc with
  | [], [], hle, hun, hkc =>
    have : undoN (([] : List Item).length + ([] : List Item).length) [] [] acc = acc := rfl
    rw [this] at hun
    simp (config := {maxSteps := 4000000, implicitDefEqProofs := false}) (disch := omega) only [go_sem, hkx, hk]
    rw [hun]
  | x :: a1, [], hle, hun, hkc =>
    have step := hkc ⟨(a1, [], acc ++ [x.ed]), by simp at hle ⊢; omega, by rw [← hun]; simp [undoN]⟩ (by simp)
    dsimp only at step
    have hl1 : acc.length ≤ 34359738367 := by simp at hle; omega
    have hp : (0 : Int) < ((a1.length + 1 : Nat) : Int) := by omega
    unfold unS at step; rw [List.map_append, List.length_append] at step
    simp (config := {maxSteps := 4000000, implicitDefEqProofs := false}) (disch := omega) only [go_sem, hl1, hp]
    exact step
  | [], y :: b1, hle, hun, hkc =>
    have step := hkc ⟨([], b1, acc ++ [y.del]), by simp at hle ⊢; omega, by rw [← hun]; simp [undoN]⟩ (by simp)
    dsimp only at step
    have hl1 : acc.length ≤ 34359738367 := by simp at hle; omega
    have hp : (0 : Int) < ((b1.length + 1 : Nat) : Int) := by omega
    have hz : ¬ ((b1.length + 1 : Nat) : Int) = 0 := by omega
    unfold unS at step; rw [List.map_append, List.length_append] at step
    simp (config := {maxSteps := 4000000, implicitDefEqProofs := false}) (disch := omega) only [go_sem, hl1, hp, hz]
    exact step
  | x :: a1, y :: b1, hle, hun, hkc =>
    have hl1 : acc.length ≤ 34359738367 := by simp at hle; omega
    have hp : (0 : Int) < ((b1.length + 1 : Nat) : Int) := by omega
    have hz : ¬ ((b1.length + 1 : Nat) : Int) = 0 := by omega
    have hpa : (0 : Int) < ((a1.length + 1 : Nat) : Int) := by omega
    have hza : ¬ ((a1.length + 1 : Nat) : Int) = 0 := by omega
    have e : (x :: a1).length + (y :: b1).length = (a1.length + b1.length + 1) + 1 := by simp; omega
    rw [e, undoN] at hun
    cases h1 : less x.key y.key with
    | true =>
      rw [h1, if_pos rfl] at hun
      have step := hkc ⟨(a1, y :: b1, acc ++ [x.ed]), by simp at hle ⊢; omega, by rw [← hun]; exact congrArg (fun n => undoN n _ _ _) (by simp only [List.length_cons]; omega)⟩ (by simp)
      dsimp only at step
      unfold unS at step; rw [List.map_append, List.length_append] at step
      simp (config := {maxSteps := 4000000, implicitDefEqProofs := false}) (disch := omega) only [go_sem, hl1, hp, hz, hpa, hza, h1]
      exact step
    | false =>
      rw [h1, if_neg (by decide)] at hun
      cases h2 : less y.key x.key with
      | true =>
        rw [h2, if_pos rfl] at hun
        have step := hkc ⟨(x :: a1, b1, acc ++ [y.del]), by simp at hle ⊢; omega, by rw [← hun]; exact congrArg (fun n => undoN n _ _ _) (by simp only [List.length_cons]; omega)⟩ (by simp)
        dsimp only at step
        unfold unS at step; rw [List.map_append, List.length_append] at step
        simp (config := {maxSteps := 4000000, implicitDefEqProofs := false}) (disch := omega) only [go_sem, hl1, hp, hz, hpa, hza, h1, h2]
        exact step
      | false =>
        rw [h2, if_neg (by decide)] at hun
        cases h3 : sameV x y with
        | true =>
          rw [h3, if_pos rfl] at hun
          have step := hkc ⟨(a1, b1, acc), by simp at hle ⊢; omega, by rw [← hun, undoN_more (a1.length + b1.length + 1) a1 b1 _ (by omega)]⟩ (by simp; omega)
          dsimp only at step
          simp (config := {maxSteps := 4000000, implicitDefEqProofs := false}) (disch := omega) only [go_sem, hl1, hp, hz, hpa, hza, h1, h2, h3]
          exact step
        | false =>
          rw [h3, if_neg (by decide)] at hun
          have step := hkc ⟨(a1, b1, acc ++ [x.ed]), by simp at hle ⊢; omega, by rw [← hun, undoN_more (a1.length + b1.length + 1) a1 b1 _ (by omega)]⟩ (by simp; omega)
          dsimp only at step
          unfold unS at step; rw [List.map_append, List.length_append] at step
          simp (config := {maxSteps := 4000000, implicitDefEqProofs := false}) (disch := omega) only [go_sem, hl1, hp, hz, hpa, hza, h1, h2, h3]
          exact step
end Go.Proofs.YtoeajbhlkccekaaDoor

namespace Go.Proofs.YtoeajbhlkccekaaDoor
open Go.RowKit
set_option maxRecDepth 100000
noncomputable def store_TakeR_c : Code := (endC 4 ((Tryd.f10.body).getD .skip))
def store_TakeR_h : Hint := (.two .n (.join [1, 2, 4, 5, 6] (.two .n (.one (.lp [] [1, 2, 4, 5, 6, 45, 46, 47] [1, 2, 4, 5, 6] (.two .n (.two (.two .n .n) (.two (.one (.two .n .n)) .n)))))) (.join [2, 4, 5, 6] (.join [1, 2, 4, 5, 6, 74] .n (.two .n .n)) (.two .n .n))))
noncomputable def store_TakeR_env (m : Nat) : Env := [(38, .pan (store_one_t m)), (39, .tell (trunk_Weight_t m)), (40, .tell (trunk_Count_t m))]
noncomputable abbrev store_TakeR_fin (n0 : Nat) : KO (AV × List AObj) := sltFK [4, 5, 6]
noncomputable def store_TakeR_r3 (m : Nat) (D : List Deferred) (n0k : Nat) (s : ASt) : RO := joinW Tryd.prog GG (store_TakeR_env m) m ⟨80, D⟩ (cdR (cdR (cdR store_TakeR_c))) store_TakeR_h.r.r.r s (store_TakeR_fin n0k)
noncomputable def store_TakeR_r2 (m : Nat) (D : List Deferred) (n0k : Nat) (s : ASt) : RO := joinW Tryd.prog GG (store_TakeR_env m) m ⟨80, D⟩ (cdR (cdL (cdR (cdR store_TakeR_c)))) store_TakeR_h.r.r.l.r s (seqX (fun s => store_TakeR_r3 m D n0k ⟨s.H, [(2, gt s.T 2), (4, gt s.T 4), (5, gt s.T 5), (6, gt s.T 6)]⟩) (store_TakeR_fin n0k))
noncomputable def store_TakeR_r1 (m : Nat) (D : List Deferred) (n0k : Nat) (s : ASt) : RO := joinW Tryd.prog GG (store_TakeR_env m) m ⟨80, D⟩ (cdR (cdR store_TakeR_c)) store_TakeR_h.r.r s (store_TakeR_fin n0k)
noncomputable def store_TakeR_b1 (m : Nat) (D : List Deferred) (s : ASt) (kc : ASt → RO) (kx : KO (AV × List AObj)) : RO := bodyW Tryd.prog GG (store_TakeR_env m) m ⟨80, D⟩ (cdL (cdL (cdR (cdL (cdR store_TakeR_c))))) store_TakeR_h.r.l.r.c.c [1, 2, 4, 5, 6, 45, 46, 47] [1, 2, 4, 5, 6] s kc kx
noncomputable def store_TakeR (m : Nat) (D : List Deferred) (t1 t2 t4 t5 t6 : AV) (H : List AObj) : RO := exec Tryd.prog GG (store_TakeR_env m) m ⟨80, D⟩ store_TakeR_c store_TakeR_h ⟨H, [(1, t1), (2, t2), (4, t4), (5, t5), (6, t6)]⟩ (store_TakeR_fin H.length)
theorem store_TakeR_r3_eq (m : Nat) (D : List Deferred) (n0k : Nat) (H : List AObj) (t2 t4 t5 t6 : AV) : store_TakeR_r3 m D n0k ⟨H, [(2, t2), (4, t4), (5, t5), (6, t6)]⟩ =
  loadE 37 H t2 fun t79 =>
  storeE 37 H t4 t79 fun H2 =>
  storeE 1 H2 t5 (V (.int .i64 0)) fun H3 =>
  storeE 1 H3 t6 (V (.int .i64 0)) fun H4 =>
  some (TU [t4, t5, t6], H4) := by
  refine (joinW_eq Tryd.prog GG (store_TakeR_env m) m ⟨80, D⟩ (cdR (cdR (cdR store_TakeR_c))) store_TakeR_h.r.r.r ⟨H, [(2, t2), (4, t4), (5, t5), (6, t6)]⟩ (store_TakeR_fin n0k)).trans ?_
  kernel_rfl
theorem store_TakeR_r2_eq (m : Nat) (D : List Deferred) (n0k : Nat) (H : List AObj) (t1 t2 t4 t5 t6 t74 : AV) : store_TakeR_r2 m D n0k ⟨H, [(1, t1), (2, t2), (4, t4), (5, t5), (6, t6), (74, t74)]⟩ =
  condE t74 (
   lenE false true H t1 fun t76 =>
   buildE (some pl_store_no) (some zc_store_no) [(0, (V (.int .i64 17))), (1, t76)] fun t77 =>
   whenE true (ifE 74 t77 fun t78 =>
   panicE t78 H fun u1 H2 => some (TU [PN u1, t4, t5, t6], H2))) (
   store_TakeR_r3 m D n0k ⟨H, [(2, t2), (4, t4), (5, t5), (6, t6)]⟩) := by
  refine (joinW_eq Tryd.prog GG (store_TakeR_env m) m ⟨80, D⟩ (cdR (cdL (cdR (cdR store_TakeR_c)))) store_TakeR_h.r.r.l.r ⟨H, [(1, t1), (2, t2), (4, t4), (5, t5), (6, t6), (74, t74)]⟩ (seqX (fun s => store_TakeR_r3 m D n0k ⟨s.H, [(2, gt s.T 2), (4, gt s.T 4), (5, gt s.T 5), (6, gt s.T 6)]⟩) (store_TakeR_fin n0k))).trans ?_
  kernel_rfl
theorem store_TakeR_r1_eq (m : Nat) (D : List Deferred) (n0k : Nat) (H : List AObj) (t1 t2 t4 t5 t6 : AV) : store_TakeR_r1 m D n0k ⟨H, [(1, t1), (2, t2), (4, t4), (5, t5), (6, t6)]⟩ =
  fieldE (some (0, 34)) t2 fun t61 =>
  loadE 34 H t61 fun t62 =>
  tellE (trunk_Weight_t m [(ro H t62)]) [(ro H t62)] fun t63 =>
  fieldE (some (33, 1)) t2 fun t64 =>
  loadE 1 H t64 fun t65 =>
  binE none false false .gtr t63 t65 fun t66 =>
  condE t66 (
   store_TakeR_r2 m D n0k ⟨H, [(1, t1), (2, t2), (4, t4), (5, t5), (6, t6), (74, (V (.bool true)))]⟩) (
   fieldE (some (0, 34)) t2 fun t68 =>
   loadE 34 H t68 fun t69 =>
   tellE (trunk_Count_t m [(ro H t69)]) [(ro H t69)] fun t70 =>
   fieldE (some (34, 1)) t2 fun t71 =>
   loadE 1 H t71 fun t72 =>
   binE none false false .gtr t70 t72 fun t73 =>
   store_TakeR_r2 m D n0k ⟨H, [(1, t1), (2, t2), (4, t4), (5, t5), (6, t6), (74, t73)]⟩) := by
  refine (joinW_eq Tryd.prog GG (store_TakeR_env m) m ⟨80, D⟩ (cdR (cdR store_TakeR_c)) store_TakeR_h.r.r ⟨H, [(1, t1), (2, t2), (4, t4), (5, t5), (6, t6)]⟩ (store_TakeR_fin n0k)).trans ?_
  kernel_rfl
theorem store_TakeR_b1_eq (m : Nat) (D : List Deferred) (H : List AObj) (t1 t2 t4 t5 t6 t45 t46 t47 : AV) (kc : ASt → RO) (kx : KO (AV × List AObj)) : store_TakeR_b1 m D ⟨H, [(1, t1), (2, t2), (4, t4), (5, t5), (6, t6), (45, t45), (46, t46), (47, t47)]⟩ kc kx =
  binE none false false .lss t47 t46 fun t48 =>
  condE t48 (
   idxSE 6 H t45 t47 fun t50 =>
   loadE 6 H t50 fun t51 =>
   allocE (some zc_api_Edit) ty_api_Edit H fun t10 H2 =>
   storeE 6 H2 t10 t51 fun H3 =>
   fieldE (some (0, 34)) t2 fun t52 =>
   loadE 34 H3 t52 fun t53 =>
   loadE 6 H3 t10 fun t54 =>
   fieldE (some (32, 1)) t2 fun t55 =>
   loadE 1 H3 t55 fun t56 =>
   panE (store_one m (ro H3 t53) (ro H3 t54) (ro H3 t56) (ro H3 t47) H3) (fun t58 H4 =>
   fieldE (some (0, 34)) t2 fun t59 =>
   storeE 34 H4 t59 t58 fun H5 =>
   binE none false false .add t47 (V (.int .i64 1)) fun t60 =>
   backE H.length H5 [(1, t1), (2, t2), (4, t4), (5, t5), (6, t6), (45, t45), (46, t46), (47, t60)] kc) (fun u1 H4 => kx (.panic (pch u1)) ⟨H4, [(1, t1), (2, t2), (4, t4), (5, t5), (6, t6)]⟩)) (
   kx (.exit 2) ⟨H, [(1, t1), (2, t2), (4, t4), (5, t5), (6, t6)]⟩) := by
  refine (bodyW_eq Tryd.prog GG (store_TakeR_env m) m ⟨80, D⟩ (cdL (cdL (cdR (cdL (cdR store_TakeR_c))))) store_TakeR_h.r.l.r.c.c [1, 2, 4, 5, 6, 45, 46, 47] [1, 2, 4, 5, 6] ⟨H, [(1, t1), (2, t2), (4, t4), (5, t5), (6, t6), (45, t45), (46, t46), (47, t47)]⟩ kc kx).trans ?_
  kernel_rfl
theorem store_TakeR_eq (m : Nat) (D : List Deferred) (t1 t2 t4 t5 t6 : AV) (H : List AObj) : store_TakeR m D t1 t2 t4 t5 t6 H =
  fieldE (some (32, 1)) t2 fun t41 =>
  loadE 1 H t41 fun t42 =>
  binE none false false .add t42 (V (.int .i64 1)) fun t43 =>
  fieldE (some (32, 1)) t2 fun t44 =>
  storeE 1 H t44 t43 fun H2 =>
  lenE false true H2 t1 fun t46 =>
  iterC m (store_TakeR_b1 m D) ⟨H2, [(1, t1), (2, t2), (4, t4), (5, t5), (6, t6), (45, t1), (46, t46), (47, (V (.int .i64 0)))]⟩ (blockX 2 (seqX (fun s => store_TakeR_r1 m D H.length ⟨s.H, [(1, gt s.T 1), (2, gt s.T 2), (4, gt s.T 4), (5, gt s.T 5), (6, gt s.T 6)]⟩) (store_TakeR_fin H.length))) := by
  refine (sltX Tryd.prog GG (store_TakeR_env m) m ⟨80, D⟩ store_TakeR_c store_TakeR_h ⟨H, [(1, t1), (2, t2), (4, t4), (5, t5), (6, t6)]⟩ [4, 5, 6]).trans ?_
  kernel_rfl
theorem store_TakeR_hE (m : Nat) : EnvOk Tryd.prog GG (store_TakeR_env m) := (by
    intro f e h
    simp only [store_TakeR_env, Prod.mk.injEq, List.mem_cons, List.not_mem_nil, or_false] at h
    rcases h with ⟨rfl, rfl⟩ | ⟨rfl, rfl⟩ | ⟨rfl, rfl⟩
    · exact store_one_ok m
    · exact trunk_Weight_ok m
    · exact trunk_Count_ok m)
end Go.Proofs.YtoeajbhlkccekaaDoor

namespace Go.Proofs.YtoeajbhlkccekaaDoor
open Go.RowKit
set_option maxRecDepth 100000
noncomputable def store_TakeA_c : Code := farC 3 (endC 0 ((Tryd.f10.body).getD .skip)) .skip
def store_TakeA_h : Hint := (.two .n (.join [1, 2, 4, 5, 6] (.join [1, 2, 4, 5, 6, 18] .n (.two (.two .n .n) .n)) (.join [1, 2, 4, 5, 6] (.two .n (.one (.lp [] [1, 2, 4, 5, 6, 20, 21, 22] [1, 2, 4, 5, 6] (.two .n (.two (.two .n .n) (.join [1, 2, 4, 5, 6, 20, 21, 22] (.one (.two .n (.join [1, 2, 4, 5, 6, 7, 20, 21, 22, 36] .n (.two (.two .n .n) .n)))) .n)))))) .n)))
noncomputable def store_TakeA_env (m : Nat) : Env := [(17, .tell (store_May_t m)), (35, .tell (key_Is_t m)), (36, .tell (value_May_t m))]
noncomputable abbrev store_TakeA_fin (n0 : Nat) : KO (AV × List AObj) := nslFK [1, 2, 4, 5, 6]
noncomputable def store_TakeA_r5 (m : Nat) (D : List Deferred) (n0 : Nat) (kc : ASt → RO) (kx : KO (AV × List AObj)) (s : ASt) : RO := joinW Tryd.prog GG (store_TakeA_env m) m ⟨80, D⟩ (cdR (cdR (cdR (cdL (cdL (cdR (cdL (cdR (cdR store_TakeA_c))))))))) store_TakeA_h.r.r.l.r.c.c.r.r.r s (backW n0 [1, 2, 4, 5, 6, 20, 21, 22] [1, 2, 4, 5, 6] kc kx)
noncomputable def store_TakeA_r4 (m : Nat) (D : List Deferred) (n0 : Nat) (kc : ASt → RO) (kx : KO (AV × List AObj)) (s : ASt) : RO := joinW Tryd.prog GG (store_TakeA_env m) m ⟨80, D⟩ (cdR (cdR (cdL (cdL (cdR (cdR (cdL (cdL (cdR (cdL (cdR (cdR store_TakeA_c)))))))))))) store_TakeA_h.r.r.l.r.c.c.r.r.l.c.r.r s (blockX 1 (seqX (fun s => store_TakeA_r5 m D n0 kc kx ⟨s.H, [(1, gt s.T 1), (2, gt s.T 2), (4, gt s.T 4), (5, gt s.T 5), (6, gt s.T 6), (20, gt s.T 20), (21, gt s.T 21), (22, gt s.T 22)]⟩) (backW n0 [1, 2, 4, 5, 6, 20, 21, 22] [1, 2, 4, 5, 6] kc kx)))
noncomputable def store_TakeA_r3 (m : Nat) (D : List Deferred) (n0k : Nat) (s : ASt) : RO := joinW Tryd.prog GG (store_TakeA_env m) m ⟨80, D⟩ (cdR (cdR (cdR store_TakeA_c))) store_TakeA_h.r.r.r s (store_TakeA_fin n0k)
noncomputable def store_TakeA_b1 (m : Nat) (D : List Deferred) (s : ASt) (kc : ASt → RO) (kx : KO (AV × List AObj)) : RO := bodyW Tryd.prog GG (store_TakeA_env m) m ⟨80, D⟩ (cdL (cdL (cdR (cdL (cdR (cdR store_TakeA_c)))))) store_TakeA_h.r.r.l.r.c.c [1, 2, 4, 5, 6, 20, 21, 22] [1, 2, 4, 5, 6] s kc kx
noncomputable def store_TakeA_r2 (m : Nat) (D : List Deferred) (n0k : Nat) (s : ASt) : RO := joinW Tryd.prog GG (store_TakeA_env m) m ⟨80, D⟩ (cdR (cdR store_TakeA_c)) store_TakeA_h.r.r s (store_TakeA_fin n0k)
noncomputable def store_TakeA_r1 (m : Nat) (D : List Deferred) (n0k : Nat) (s : ASt) : RO := joinW Tryd.prog GG (store_TakeA_env m) m ⟨80, D⟩ (cdR (cdL (cdR store_TakeA_c))) store_TakeA_h.r.l.r s (seqX (fun s => store_TakeA_r2 m D n0k ⟨s.H, [(1, gt s.T 1), (2, gt s.T 2), (4, gt s.T 4), (5, gt s.T 5), (6, gt s.T 6)]⟩) (store_TakeA_fin n0k))
noncomputable def store_TakeA (m : Nat) (D : List Deferred) (t0 t1 : AV) (H : List AObj) : RO := exec Tryd.prog GG (store_TakeA_env m) m ⟨80, D⟩ store_TakeA_c store_TakeA_h ⟨H, [(0, t0), (1, t1)]⟩ (store_TakeA_fin H.length)
theorem store_TakeA_r5_eq (m : Nat) (D : List Deferred) (n0 : Nat) (kc : ASt → RO) (kx : KO (AV × List AObj)) (H : List AObj) (t1 t2 t4 t5 t6 t20 t21 t22 : AV) : store_TakeA_r5 m D n0 kc kx ⟨H, [(1, t1), (2, t2), (4, t4), (5, t5), (6, t6), (20, t20), (21, t21), (22, t22)]⟩ =
  binE none false false .add t22 (V (.int .i64 1)) fun t39 =>
  backE n0 H [(1, t1), (2, t2), (4, t4), (5, t5), (6, t6), (20, t20), (21, t21), (22, t39)] kc := by
  refine (joinW_eq Tryd.prog GG (store_TakeA_env m) m ⟨80, D⟩ (cdR (cdR (cdR (cdL (cdL (cdR (cdL (cdR (cdR store_TakeA_c))))))))) store_TakeA_h.r.r.l.r.c.c.r.r.r ⟨H, [(1, t1), (2, t2), (4, t4), (5, t5), (6, t6), (20, t20), (21, t21), (22, t22)]⟩ (backW n0 [1, 2, 4, 5, 6, 20, 21, 22] [1, 2, 4, 5, 6] kc kx)).trans ?_
  kernel_rfl
theorem store_TakeA_r4_eq (m : Nat) (D : List Deferred) (n0 : Nat) (kc : ASt → RO) (kx : KO (AV × List AObj)) (H : List AObj) (t1 t2 t4 t5 t6 t7 t20 t21 t22 t36 : AV) : store_TakeA_r4 m D n0 kc kx ⟨H, [(1, t1), (2, t2), (4, t4), (5, t5), (6, t6), (7, t7), (20, t20), (21, t21), (22, t22), (36, t36)]⟩ =
  condE t36 (
   buildE (some pl_api_Store) (some zc_api_Store) [] fun t37 =>
   storeE 37 H t4 t37 fun H2 =>
   storeE 1 H2 t5 (V (.int .i64 1)) fun H3 =>
   storeE 1 H3 t6 t7 fun H4 =>
   kx .ret ⟨H4, [(1, t1), (2, t2), (4, t4), (5, t5), (6, t6)]⟩) (
   store_TakeA_r5 m D n0 kc kx ⟨H, [(1, t1), (2, t2), (4, t4), (5, t5), (6, t6), (20, t20), (21, t21), (22, t22)]⟩) := by
  refine (joinW_eq Tryd.prog GG (store_TakeA_env m) m ⟨80, D⟩ (cdR (cdR (cdL (cdL (cdR (cdR (cdL (cdL (cdR (cdL (cdR (cdR store_TakeA_c)))))))))))) store_TakeA_h.r.r.l.r.c.c.r.r.l.c.r.r ⟨H, [(1, t1), (2, t2), (4, t4), (5, t5), (6, t6), (7, t7), (20, t20), (21, t21), (22, t22), (36, t36)]⟩ (blockX 1 (seqX (fun s => store_TakeA_r5 m D n0 kc kx ⟨s.H, [(1, gt s.T 1), (2, gt s.T 2), (4, gt s.T 4), (5, gt s.T 5), (6, gt s.T 6), (20, gt s.T 20), (21, gt s.T 21), (22, gt s.T 22)]⟩) (backW n0 [1, 2, 4, 5, 6, 20, 21, 22] [1, 2, 4, 5, 6] kc kx)))).trans ?_
  kernel_rfl
theorem store_TakeA_r3_eq (m : Nat) (D : List Deferred) (n0k : Nat) (H : List AObj) (t1 t2 t4 t5 t6 : AV) : store_TakeA_r3 m D n0k ⟨H, [(1, t1), (2, t2), (4, t4), (5, t5), (6, t6)]⟩ =
  some (TU [t1, t2, t4, t5, t6], H) := by
  refine (joinW_eq Tryd.prog GG (store_TakeA_env m) m ⟨80, D⟩ (cdR (cdR (cdR store_TakeA_c))) store_TakeA_h.r.r.r ⟨H, [(1, t1), (2, t2), (4, t4), (5, t5), (6, t6)]⟩ (store_TakeA_fin n0k)).trans ?_
  kernel_rfl
theorem store_TakeA_b1_eq (m : Nat) (D : List Deferred) (H : List AObj) (t1 t2 t4 t5 t6 t20 t21 t22 : AV) (kc : ASt → RO) (kx : KO (AV × List AObj)) : store_TakeA_b1 m D ⟨H, [(1, t1), (2, t2), (4, t4), (5, t5), (6, t6), (20, t20), (21, t21), (22, t22)]⟩ kc kx =
  binE none false false .lss t22 t21 fun t23 =>
  condE t23 (
   idxSE 6 H t20 t22 fun t25 =>
   loadE 6 H t25 fun t26 =>
   allocE (some zc_api_Edit) ty_api_Edit H fun t8 H2 =>
   storeE 6 H2 t8 t26 fun H3 =>
   fieldE (some (0, 1)) t8 fun t27 =>
   loadE 1 H3 t27 fun t28 =>
   tellE (key_Is_t m [(ro H3 t28)]) [(ro H3 t28)] fun t29 =>
   unE .not t29 fun t30 =>
   condE t30 (
    store_TakeA_r4 m D H.length kc kx ⟨H3, [(1, t1), (2, t2), (4, t4), (5, t5), (6, t6), (7, t22), (20, t20), (21, t21), (22, t22), (36, (V (.bool true)))]⟩) (
    fieldE (some (1, 5)) t8 fun t32 =>
    loadE 5 H3 t32 fun t33 =>
    tellE (value_May_t m [(ro H3 t33)]) [(ro H3 t33)] fun t34 =>
    unE .not t34 fun t35 =>
    store_TakeA_r4 m D H.length kc kx ⟨H3, [(1, t1), (2, t2), (4, t4), (5, t5), (6, t6), (7, t22), (20, t20), (21, t21), (22, t22), (36, t35)]⟩)) (
   kx (.exit 0) ⟨H, [(1, t1), (2, t2), (4, t4), (5, t5), (6, t6)]⟩) := by
  refine (bodyW_eq Tryd.prog GG (store_TakeA_env m) m ⟨80, D⟩ (cdL (cdL (cdR (cdL (cdR (cdR store_TakeA_c)))))) store_TakeA_h.r.r.l.r.c.c [1, 2, 4, 5, 6, 20, 21, 22] [1, 2, 4, 5, 6] ⟨H, [(1, t1), (2, t2), (4, t4), (5, t5), (6, t6), (20, t20), (21, t21), (22, t22)]⟩ kc kx).trans ?_
  kernel_rfl
theorem store_TakeA_r2_eq (m : Nat) (D : List Deferred) (n0k : Nat) (H : List AObj) (t1 t2 t4 t5 t6 : AV) : store_TakeA_r2 m D n0k ⟨H, [(1, t1), (2, t2), (4, t4), (5, t5), (6, t6)]⟩ =
  lenE false true H t1 fun t21 =>
  iterC m (store_TakeA_b1 m D) ⟨H, [(1, t1), (2, t2), (4, t4), (5, t5), (6, t6), (20, t1), (21, t21), (22, (V (.int .i64 0)))]⟩ (blockX 0 (seqX (fun s => store_TakeA_r3 m D n0k ⟨s.H, [(1, gt s.T 1), (2, gt s.T 2), (4, gt s.T 4), (5, gt s.T 5), (6, gt s.T 6)]⟩) (store_TakeA_fin n0k))) := by
  refine (joinW_eq Tryd.prog GG (store_TakeA_env m) m ⟨80, D⟩ (cdR (cdR store_TakeA_c)) store_TakeA_h.r.r ⟨H, [(1, t1), (2, t2), (4, t4), (5, t5), (6, t6)]⟩ (store_TakeA_fin n0k)).trans ?_
  kernel_rfl
theorem store_TakeA_r1_eq (m : Nat) (D : List Deferred) (n0k : Nat) (H : List AObj) (t1 t2 t4 t5 t6 t18 : AV) : store_TakeA_r1 m D n0k ⟨H, [(1, t1), (2, t2), (4, t4), (5, t5), (6, t6), (18, t18)]⟩ =
  condE t18 (
   buildE (some pl_api_Store) (some zc_api_Store) [] fun t19 =>
   storeE 37 H t4 t19 fun H2 =>
   storeE 1 H2 t5 (V (.int .i64 1)) fun H3 =>
   storeE 1 H3 t6 (V (.int .i64 0)) fun H4 =>
   none) (
   store_TakeA_r2 m D n0k ⟨H, [(1, t1), (2, t2), (4, t4), (5, t5), (6, t6)]⟩) := by
  refine (joinW_eq Tryd.prog GG (store_TakeA_env m) m ⟨80, D⟩ (cdR (cdL (cdR store_TakeA_c))) store_TakeA_h.r.l.r ⟨H, [(1, t1), (2, t2), (4, t4), (5, t5), (6, t6), (18, t18)]⟩ (seqX (fun s => store_TakeA_r2 m D n0k ⟨s.H, [(1, gt s.T 1), (2, gt s.T 2), (4, gt s.T 4), (5, gt s.T 5), (6, gt s.T 6)]⟩) (store_TakeA_fin n0k))).trans ?_
  kernel_rfl
theorem store_TakeA_eq (m : Nat) (D : List Deferred) (t0 t1 : AV) (H : List AObj) : store_TakeA m D t0 t1 H =
  boxE ty_api_Store H t0 fun t2 H2 =>
  allocE (some zc_api_Store) ty_api_Store H2 fun t4 H3 =>
  allocE (some zc_api_Errno) ty_api_Errno H3 fun t5 H4 =>
  allocE (some zc_int) ty_int H4 fun t6 H5 =>
  loadE 37 H5 t2 fun t11 =>
  tellE (store_May m (ro H5 t11)) [(ro H5 t11)] fun t12 =>
  unE .not t12 fun t13 =>
  condE t13 (
   store_TakeA_r1 m D H.length ⟨H5, [(1, t1), (2, t2), (4, t4), (5, t5), (6, t6), (18, (V (.bool true)))]⟩) (
   fieldE (some (32, 1)) t2 fun t15 =>
   loadE 1 H5 t15 fun t16 =>
   binE none false false .eql t16 (V (.int .i64 2147483647)) fun t17 =>
   store_TakeA_r1 m D H.length ⟨H5, [(1, t1), (2, t2), (4, t4), (5, t5), (6, t6), (18, t17)]⟩) := by
  refine (nslX Tryd.prog GG (store_TakeA_env m) m ⟨80, D⟩ store_TakeA_c store_TakeA_h ⟨H, [(0, t0), (1, t1)]⟩ [1, 2, 4, 5, 6]).trans ?_
  kernel_rfl
theorem store_TakeA_hE (m : Nat) : EnvOk Tryd.prog GG (store_TakeA_env m) := (by
    intro f e h
    simp only [store_TakeA_env, Prod.mk.injEq, List.mem_cons, List.not_mem_nil, or_false] at h
    rcases h with ⟨rfl, rfl⟩ | ⟨rfl, rfl⟩ | ⟨rfl, rfl⟩
    · exact store_May_ok m
    · exact key_Is_ok m
    · exact value_May_ok m)
end Go.Proofs.YtoeajbhlkccekaaDoor

namespace Go.Proofs.YtoeajbhlkccekaaDoor
open Go.RowKit
set_option maxRecDepth 100000
noncomputable def store_TakeX_c : Code := (cdR (cdL (endC 2 ((Tryd.f37.body).getD .skip))))
def store_TakeX_h : Hint := .n
noncomputable def store_TakeX_env (m : Nat) : Env := []
noncomputable abbrev store_TakeX_fin (n0 : Nat) : KO (AV × List AObj) := sltFK [0]
noncomputable def store_TakeX (m : Nat) (D : List Deferred) (t0 t1 t2 t4 : AV) (H : List AObj) : RO := exec Tryd.prog GG (store_TakeX_env m) m ⟨15, D⟩ store_TakeX_c store_TakeX_h ⟨H, [(0, t0), (1, t1), (2, t2), (4, t4)]⟩ (store_TakeX_fin H.length)
theorem store_TakeX_eq (m : Nat) (D : List Deferred) (t0 t1 t2 t4 : AV) (H : List AObj) : store_TakeX m D t0 t1 t2 t4 H =
  buildE (some pl_api_Store) (some zc_api_Store) [] fun t10 =>
  fieldE (some (0, 1)) t4 fun t11 =>
  loadE 1 H t11 fun t12 =>
  fieldE (some (1, 1)) t4 fun t13 =>
  loadE 1 H t13 fun t14 =>
  storeE 37 H t0 t10 fun H2 =>
  loadE 1 H2 t13 fun t8011 =>
  eqE t14 t8011 (
  loadE 1 H2 t11 fun t8012 =>
  eqE t12 t8012 (
  storeE 1 H2 t1 t12 fun H3 =>
  loadE 1 H3 t13 fun t8014 =>
  eqE t14 t8014 (
  storeE 1 H3 t2 t14 fun H4 =>
  some (TU [t0], H4)))) := by
  refine (sltX Tryd.prog GG (store_TakeX_env m) m ⟨15, D⟩ store_TakeX_c store_TakeX_h ⟨H, [(0, t0), (1, t1), (2, t2), (4, t4)]⟩ [0]).trans ?_
  kernel_rfl
theorem store_TakeX_hE (m : Nat) : EnvOk Tryd.prog GG (store_TakeX_env m) := (by intro f e h; cases h)
end Go.Proofs.YtoeajbhlkccekaaDoor

namespace Go.Proofs.YtoeajbhlkccekaaDoor
open Go.RowKit
set_option maxRecDepth 20000
attribute [local go_sem] tC_len tC_sure tC_ltA tC_lt1 tC_ro tC_take tC_all1 zcT_eq zcI_len zC_len zC_ltA zC_lt1 zC_sure zC_ro zC_take set_tl set_tv sc_tt sc_zt sc_tz sc_zz add16 tA_def lA_def natInt u_tl u_tv st_take st_ver st_ltA stC_len w_i64 ed_it u_nthM zcE0 zS_ltA zS_lt1 st_lt1
def takeG (ver : Int) : Nat → List Edt → Tr → Tr × Nat × Nat × List Edt
  | _, [], t => (t, 0, 0, [])
  | k, x :: r, t => if (oneT t x ver).2 = 0 then takeG ver (k + 1) r (oneT t x ver).1 else (t, (oneT t x ver).2, k, [x])
def overQ (s : St) (t : Tr) : Bool := decide (s.bytes < (weightT t : Int)) || decide (s.keys < (countT t : Int))
def finT (s : St) (v : Int) (n : Nat) (r : Tr × Nat × Nat × List Edt) : RO :=
  if r.2.1 = 0 then (if overQ s r.1 then some (TU [PN (noV 17 n), OP 1 0, OP 2 0, OP 3 0], tkH ⟨r.1, v, s.bytes, s.keys⟩)
    else some (TU [OP 1 0, OP 2 0, OP 3 0], [⟨1, ty_api_Store, 0, stC ⟨r.1, v, s.bytes, s.keys⟩⟩, ⟨1, ty_api_Store, 0, stC ⟨r.1, v, s.bytes, s.keys⟩⟩, ⟨1, ty_api_Errno, 0, [nA 0]⟩, ⟨1, ty_int, 0, [nA 0]⟩]))
  else some (TU [PN (noV r.2.1 r.2.2.1), OP 1 0, OP 2 0, OP 3 0], tkH ⟨r.1, v, s.bytes, s.keys⟩ ++ r.2.2.2.map edO)
theorem one_inv {t : Tr} {x : Edt} {ver : Int} (h : TInv t) (hx : NumOk (x.it ver)) (he : (oneT t x ver).2 = 0) : TInv (oneT t x ver).1 := by
  unfold oneT at he ⊢
  by_cases hk : x.kind = 0
  · rw [if_pos hk] at he ⊢
    cases hg : (getT t x.key).isSome with
    | false => exact h
    | true =>
      rw [hg, if_pos rfl] at he
      exact (del_inv h he).1
  · rw [if_neg hk] at he ⊢
    exact (put_inv h hx he).1
theorem st_setv {s : St} {v : Int} : (stC s).set 32 (V (.int .i64 v)) = stC { s with ver := v } := by
  unfold stC St.tail
  rw [List.set_append_right _ _ (by rw [tC_len]; exact Nat.le_refl _), tC_len]
  rfl
theorem ed_lenE {x : Edt} : (cellsOf (flA Edt.cells x)).length = 4 := _root_.id rfl
theorem takeR_s (m : Nat) (D : List Deferred) (s : St) (l : List Edt) (hm : l.length < m) (hl : l.length ≤ 34359738368) (hi : TInv s.t) (hx : ∀ x ∈ l, NumOk (x.it 0)) (hv0 : 0 ≤ s.ver) (hv : s.ver < 2147483647) :
    store_TakeR m D (SL (l.map eA)) (OP 0 0) (OP 1 0) (OP 2 0) (OP 3 0) (tkH s) = finT s (s.ver + 1) l.length (takeG (s.ver + 1) 0 l s.t) := by
  rw [store_TakeR_eq]
  unfold tkH
  simp (config := {maxSteps := 4000000, implicitDefEqProofs := false}) (disch := omega) only [go_sem, st_setv]
  refine iter_go (ι := {p : Nat × Tr // p.1 ≤ l.length ∧ takeG (s.ver + 1) p.1 (l.drop p.1) p.2 = takeG (s.ver + 1) 0 l s.t ∧ TInv p.2}) (fun p => ⟨tkH ⟨p.1.2, s.ver + 1, s.bytes, s.keys⟩, [(1, SL (l.map eA)), (2, OP 0 0), (4, OP 1 0), (5, OP 2 0), (6, OP 3 0), (45, SL (l.map eA)), (46, nA l.length), (47, nA p.1.1)]⟩) (fun p => l.length - p.1.1) (fun _ => finT s (s.ver + 1) l.length (takeG (s.ver + 1) 0 l s.t)) ?_ ⟨(0, s.t), Nat.zero_le _, rfl, hi⟩ (by dsimp only; omega)
  rintro kx hkx ⟨⟨k, t⟩, hk, htk, hit⟩ kc hkc
  dsimp only at hk htk hit hkc ⊢
  rw [store_TakeR_b1_eq]
  by_cases hlt : k < l.length
  · have hlt' : (k : Int) < (l.length : Int) := by omega
    have hmem := List.getElem_mem hlt
    have hdr : l.drop k = l[k] :: l.drop (k + 1) := List.drop_eq_getElem_cons hlt
    have hO := one_s m t l[k] (s.ver + 1) k ⟨t, s.ver + 1, s.bytes, s.keys⟩ hit.ok
    have hn : NumOk (l[k].it (s.ver + 1)) := hx _ hmem
    rw [hdr, takeG] at htk
    unfold tkH edO at hO
    dsimp only [List.cons_append, List.nil_append] at hO
    rw [tA_def, show eA l[k] = _ from ed_it l[k]] at hO
    unfold tkH
    by_cases he : (oneT t l[k] (s.ver + 1)).2 = 0
    · rw [if_pos he] at hO htk
      have step := hkc ⟨(k + 1, (oneT t l[k] (s.ver + 1)).1), by omega, htk, one_inv hit hn he⟩ (by dsimp only; omega)
      dsimp only at step
      unfold tkH at step
      rw [tA_def] at hO
      simp (config := {maxSteps := 4000000, implicitDefEqProofs := false}) (disch := omega) only [go_sem, hlt', ed_lenE, st_set, hO]
      exact step
    · rw [if_neg he] at hO htk
      simp (config := {maxSteps := 4000000, implicitDefEqProofs := false}) (disch := omega) only [go_sem, hlt', ed_lenE, st_set, hO, hkx]
      rw [← htk, finT, if_neg he]
      rfl
  · have hlt' : ¬ (k : Int) < (l.length : Int) := by omega
    have hkl : k = l.length := by omega
    subst hkl
    rw [List.drop_length, takeG] at htk
    rw [← htk, finT, if_pos rfl]
    unfold overQ tkH
    have hW := trunk_Weight_e m t hit.ok
    have hC := trunk_Count_e m t hit.ok
    rw [tA_def] at hW hC
    simp (config := {maxSteps := 4000000, implicitDefEqProofs := false}) (disch := omega) only [go_sem, hlt', hkx, store_TakeR_r1_eq, store_TakeR_r2_eq, store_TakeR_r3_eq, hW, hC, st_bytes, st_keys, st_sure, u_bNo, zS_len]
    by_cases h1 : s.bytes < (weightT t : Int)
    · rw [if_pos h1, if_pos (by simp [h1])]
      rfl
    · rw [if_neg h1]
      by_cases h2 : s.keys < (countT t : Int)
      · rw [if_pos h2, if_pos (by simp [h2])]
        rfl
      · rw [if_neg h2, if_neg (by simp [h1, h2]), st_take35, stC_len, st_sure, ss_zs]
        rfl
end Go.Proofs.YtoeajbhlkccekaaDoor

namespace Go.Proofs.YtoeajbhlkccekaaDoor
open Go.RowKit
set_option maxRecDepth 20000
attribute [local go_sem] tC_len tC_sure tC_ltA tC_lt1 tC_ro tC_take tC_all1 zcT_eq zcI_len zC_len zC_ltA zC_lt1 zC_sure zC_ro zC_take set_tl set_tv sc_tt sc_zt sc_tz sc_zz add16 tA_def lA_def natInt u_tl u_tv st_take35 st_take stC_len st_sure st_ltA st_lt1 st_ro zcS_eq zS_len zS_sure zS_take zS_ltA zS_ro zS_all1 ss_zs ss_zz u_bS0
def editB (x : Edt) : Bool := keyB x.key && valB x.kind x.i x.s
def takeBad : Nat → List Edt → Option Nat
  | _, [] => none
  | k, x :: r => if editB x then takeBad (k + 1) r else some k
theorem zcEr : zc_api_Errno = [V (.int .i64 0)] := _root_.id rfl
theorem zcIn : zc_int = [V (.int .i64 0)] := _root_.id rfl
theorem early_may (m : Nat) (s : St) (l : List Edt) (hm : 1000000 < m) (h : s.t.Ok) (hb : (mayS s && decide (s.ver ≠ 2147483647)) = false) : store_Take m (stA s) (SL (l.map eA)) = some (TU [stA St.zero, nA 1, nA 0], []) := by
  rw [store_Take_eq]
  have hM := smay_s m s hm h
  rw [stA_def] at hM ⊢
  cases h1 : mayS s with
  | false =>
    rw [h1] at hM
    simp (config := {maxSteps := 4000000, implicitDefEqProofs := false}) (disch := omega) only [go_sem, st_ver, hM, zcEr, zcIn, stA_def, store_Take_r1_eq]
    try rfl
  | true =>
    rw [h1, Bool.true_and] at hb
    have hv : s.ver = 2147483647 := by simpa using hb
    rw [h1] at hM
    simp (config := {maxSteps := 4000000, implicitDefEqProofs := false}) (disch := omega) only [go_sem, st_ver, hM, hv, zcEr, zcIn, stA_def, store_Take_r1_eq]
    try rfl
theorem early_bad (m : Nat) (s : St) (l : List Edt) (hm : 1000000 < m) (hlm : l.length < m) (hl : l.length ≤ 34359738368) (h : s.t.Ok) (h1 : mayS s = true) (hv : s.ver ≠ 2147483647) (b : Nat) (hb : takeBad 0 l = some b) : store_Take m (stA s) (SL (l.map eA)) = some (TU [stA St.zero, nA 1, nA b], []) := by
  rw [store_Take_eq]
  have hM := smay_s m s hm h
  rw [h1] at hM
  rw [stA_def] at hM ⊢
  simp (config := {maxSteps := 4000000, implicitDefEqProofs := false}) (disch := omega) only [go_sem, st_ver, hM, hv, zcEr, zcIn, store_Take_r1_eq, store_Take_r2_eq]
  refine iter_go (ι := {k : Nat // k ≤ l.length ∧ takeBad k (l.drop k) = some b}) (fun k => ⟨tkH s, [(1, SL (l.map eA)), (2, OP 0 0), (4, OP 1 0), (5, OP 2 0), (6, OP 3 0), (20, SL (l.map eA)), (21, nA l.length), (22, nA k.1)]⟩) (fun k => l.length - k.1) (fun _ => some (TU [stA St.zero, nA 1, nA b], [])) ?_ ⟨0, Nat.zero_le _, hb⟩ (by dsimp only; omega)
  rintro kx hkx ⟨k, hk, htk⟩ kc hkc
  dsimp only at hkc ⊢
  rw [store_Take_b1_eq]
  unfold tkH
  by_cases hlt : k < l.length
  · have hlt' : (k : Int) < (l.length : Int) := by omega
    rw [List.drop_eq_getElem_cons hlt, takeBad] at htk
    have hK := key_Is_e m l[k].key
    have hV := value_May_e m l[k].kind l[k].i l[k].s
    unfold editB at htk
    cases q1 : keyB l[k].key with
    | false =>
      rw [q1] at hK htk
      have : k = b := by simpa using htk
      subst this
      simp (config := {maxSteps := 4000000, implicitDefEqProofs := false}) (disch := omega) only [go_sem, hlt', u_nthM, ed_it, ed_lenE, zcE0, hK, store_Take_r4_eq, hkx, zcEr, zcIn, stA_def]
      try rfl
    | true =>
      rw [q1] at hK htk
      cases q2 : valB l[k].kind l[k].i l[k].s with
      | false =>
        rw [q2] at hV htk
        have : k = b := by simpa using htk
        subst this
        simp (config := {maxSteps := 4000000, implicitDefEqProofs := false}) (disch := omega) only [go_sem, hlt', u_nthM, ed_it, ed_lenE, zcE0, hK, hV, store_Take_r4_eq, hkx, zcEr, zcIn, stA_def]
        try rfl
      | true =>
        rw [q2] at hV htk
        have step := hkc ⟨k + 1, by omega, by simpa using htk⟩ (by dsimp only; omega)
        dsimp only at step
        unfold tkH at step
        simp (config := {maxSteps := 4000000, implicitDefEqProofs := false}) (disch := omega) only [go_sem, hlt', u_nthM, ed_it, ed_lenE, zcE0, hK, hV, store_Take_r4_eq, store_Take_r5_eq, w_i64, zS_lt1]
        exact step
  · have hkl : k = l.length := by omega
    subst hkl
    rw [List.drop_length] at htk
    cases htk
theorem takeA_s (m : Nat) (s : St) (l : List Edt) (hm : 1000000 < m) (hlm : l.length < m) (hl : l.length ≤ 34359738368) (h : s.t.Ok) (h1 : mayS s = true) (hv : s.ver ≠ 2147483647) (hb : takeBad 0 l = none) : store_TakeA m [] (stA s) (SL (l.map eA)) [] = some (TU [SL (l.map eA), OP 0 0, OP 1 0, OP 2 0, OP 3 0], tkH s) := by
  rw [store_TakeA_eq]
  have hM := smay_s m s hm h
  rw [h1] at hM
  rw [stA_def] at hM ⊢
  simp (config := {maxSteps := 4000000, implicitDefEqProofs := false}) (disch := omega) only [go_sem, st_ver, hM, hv, zcEr, zcIn, store_TakeA_r1_eq, store_TakeA_r2_eq]
  refine iter_go (ι := {k : Nat // k ≤ l.length ∧ takeBad k (l.drop k) = none}) (fun k => ⟨tkH s, [(1, SL (l.map eA)), (2, OP 0 0), (4, OP 1 0), (5, OP 2 0), (6, OP 3 0), (20, SL (l.map eA)), (21, nA l.length), (22, nA k.1)]⟩) (fun k => l.length - k.1) (fun _ => some (TU [SL (l.map eA), OP 0 0, OP 1 0, OP 2 0, OP 3 0], tkH s)) ?_ ⟨0, Nat.zero_le _, hb⟩ (by dsimp only; omega)
  rintro kx hkx ⟨k, hk, htk⟩ kc hkc
  dsimp only at hkc ⊢
  rw [store_TakeA_b1_eq]
  unfold tkH
  by_cases hlt : k < l.length
  · have hlt' : (k : Int) < (l.length : Int) := by omega
    rw [List.drop_eq_getElem_cons hlt, takeBad] at htk
    have hK := key_Is_e m l[k].key
    have hV := value_May_e m l[k].kind l[k].i l[k].s
    unfold editB at htk
    cases q1 : keyB l[k].key with
    | false => rw [q1] at htk; simp at htk
    | true =>
      rw [q1] at hK htk
      cases q2 : valB l[k].kind l[k].i l[k].s with
      | false => rw [q2] at htk; simp at htk
      | true =>
        rw [q2] at hV htk
        have step := hkc ⟨k + 1, by omega, by simpa using htk⟩ (by dsimp only; omega)
        dsimp only at step
        unfold tkH at step
        simp (config := {maxSteps := 4000000, implicitDefEqProofs := false}) (disch := omega) only [go_sem, hlt', u_nthM, ed_it, ed_lenE, zcE0, hK, hV, store_TakeA_r3_eq, store_TakeA_r4_eq, store_TakeA_r5_eq, w_i64, zS_lt1]
        exact step
  · have hlt' : ¬ (k : Int) < (l.length : Int) := by omega
    simp (config := {maxSteps := 4000000, implicitDefEqProofs := false}) (disch := omega) only [go_sem, hlt', hkx, store_TakeA_r3_eq]
end Go.Proofs.YtoeajbhlkccekaaDoor

namespace Go.Proofs.YtoeajbhlkccekaaDoor
open Go.RowKit
set_option maxRecDepth 20000
noncomputable def dC : Code := (Tryd.f10.body).getD .skip
theorem noE : EnvOk Tryd.prog GG [] := fun f e h => by cases h
def dD (p0 p1 p2 : Value) : Deferred := { target := .fn (.func 37) #[p0, p1, p2], args := #[] }
theorem dB {p0 p1 p2 : Value} {a : Act} {w : World} {Q : Exit → Act → World → Prop} (h2 : a.eval (.tmp 4) = p0) (h3 : a.eval (.tmp 5) = p1) (h4 : a.eval (.tmp 6) = p2) (hd : a.defers = []) (hs : a.tmps.size = 80)
    (hQ : ∀ v : Value, Q .normal { (a.put (some 40) v) with defers := [dD p0 p1 p2] } w) : (cdL (endC 3 dC)).wp Tryd.prog Q a w := by
  show (Code.region _ _ false).wp Tryd.prog Q a w
  refine wp_region_list ?_
  have hmf : ∀ (fn : Fn) (first cap : Array Value) (w : World), (Instr.makeFunc fn first cap).run Tryd.prog w = .ok (.func fn first cap) w := fun _ _ _ _ => rfl
  have h2' : a.tmps[4]?.getD undef = p0 := by rw [← h2]; simp [Act.eval]
  have h3' : a.tmps[5]?.getD undef = p1 := by rw [← h3]; simp [Act.eval]
  have h4' : a.tmps[6]?.getD undef = p2 := by rw [← h4]; simp [Act.eval]
  have hq := hQ (.func (.func 37) #[] #[p0, p1, p2])
  simp only [Act.put, dD] at hq
  simp [wpList, go_sem, Oper.wp, Oper.upon, execOp, hmf, h2', h3', h4', hs, hd, Region.wanted]
  have g2 : a.tmps[4]'(by omega) = p0 := by rw [← h2']; simp [hs]
  have g3 : a.tmps[5]'(by omega) = p1 := by rw [← h3']; simp [hs]
  have g4 : a.tmps[6]'(by omega) = p2 := by rw [← h4']; simp [hs]
  refine .inl (.inl ?_)
  rw [g2, g3, g4]
  exact hq
theorem catch_idle (p0 p1 p2 : Value) (w : World) :
    CallsD Tryd.prog 37 #[p0, p1, p2] .returning w fun e u' w' => e = .returned (.tuple #[]) ∧ u' = .returning ∧ w' = w := by
  refine callsD_of_wpS Tryd.func37 rfl fun c₀ cs hu => ?_
  apply wpS_seq
  apply wpS_region
  simp [wpOpsS, go_sem, recoverD, hu, Tryd.ntmps37, Exit.thenS]
  apply wpS_seq
  apply wpS_region
  simp [wpOpsS, go_sem, Exit.thenS]
  refine wpS_cond (t := false) (by simp [Act.eval]) ?_
  simp only [Bool.false_eq_true, if_false]
  refine wpS_of_wp (wp_skip ?_)
  cases c₀
  simp_all [bodyPostS, results, Tryd.results37]
theorem wpList_val {P : Program} {ops : Array Oper} {Q : Exit → Act → World → Prop} {o : Oper} {rest : List Oper} {a : Act} {w : World} (v : Value) (hg : o.guard = none) (hx : (execOp a.eval o).run P w = .ok (.value v) w) (h : wpList P ops Q rest (a.put o.dst v) w) : wpList P ops Q (o :: rest) a w := by
  unfold wpList
  rw [if_pos (by simp [Region.wanted, hg])]
  refine .inl ?_
  unfold Oper.wp
  rw [hx]
  exact h
theorem ud_no : (match Tryd.prog.underlying 74 with | some (.interface _) => false | some _ => true | none => false) = true := by kernel_rfl
theorem run_assert (x : Value) (w : World) : (Instr.typeAssert (.iface 74 x) 20 74 false).run Tryd.prog w = .ok x w := by
  have h := ud_no
  cases hd : Tryd.prog.underlying 74 with
  | none => rw [hd] at h; cases h
  | some d =>
    rw [hd] at h
    unfold Instr.typeAssert
    simp only [Sem.run_bind, run_underlying hd, Result.andThen_ok]
    cases d with
    | interface m => cases h
    | _ => simp [Sem.run_pure]
noncomputable def eC : Code := (Tryd.f37.body).getD .skip
noncomputable def oC (k : Nat) : List Oper := (match cdL (cdL (endC 2 eC)) with | .region _ ops _ => ops.toList | _ => []).drop k
theorem takeX_s (m : Nat) {c0 : List AV} {R3 : AObj} {tE tA tX : TypeId} (e0 a0 : Nat) (hc : c0.length = 35) :
    store_TakeX m [] (OP 1 0) (OP 2 0) (OP 3 0) (OP 4 0) [R3, ⟨1, ty_api_Store, 0, c0⟩, ⟨1, tE, 0, [nA 0]⟩, ⟨1, tA, 0, [nA 0]⟩, ⟨1, tX, 0, [nA e0, nA a0]⟩] = some (TU [OP 1 0], [R3, ⟨1, ty_api_Store, 0, zS⟩, ⟨1, tE, 0, [nA e0]⟩, ⟨1, tA, 0, [nA a0]⟩, ⟨1, tX, 0, [nA e0, nA a0]⟩]) := by
  have hS : setCells c0 0 zS = zS := set_all (by rw [hc, zS_len])
  have h8 : 35 ≤ c0.length := by omega
  rw [store_TakeX_eq]
  simp (config := {maxSteps := 4000000, implicitDefEqProofs := false}) (disch := omega) only [go_sem, hS, h8, hc, u_eqE, zcS_eq, u_bS0, zS_sure, zS_len, zS_take]
theorem eB {p0 p1 p2 : Value} {e0 a0 : Nat} {w : World} {S : SS} {μ : List Value} {c0 : List AV} {R3 : AObj} {a : Act} (hg : GOk GG S) (hr : Rel w S μ [R3, ⟨1, ty_api_Store, 0, c0⟩, ⟨1, 32, 0, [nA 0]⟩, ⟨1, 3, 0, [nA 0]⟩]) (hc : c0.length = 35) (h0 : rep S μ (OP 1 0) p0) (h1 : rep S μ (OP 2 0) p1) (h2 : rep S μ (OP 3 0) p2)
    (ha : a.tmps.size = 15) (hd : a.defers = []) (g0 : a.tmps.getD 0 undef = p0) (g1 : a.tmps.getD 1 undef = p1) (g2 : a.tmps.getD 2 undef = p2) (g3 : a.tmps.getD 3 undef = noV e0 a0) :
    (cdL (endC 2 eC)).wp Tryd.prog (fun e a' w' => (e = .normal ∨ e = .ret) ∧ a'.defers = [] ∧ ∃ S' μ', Rel w' S' μ' [R3, ⟨1, ty_api_Store, 0, zS⟩, ⟨1, 32, 0, [nA e0]⟩, ⟨1, 3, 0, [nA a0]⟩, ⟨1, 74, 0, [nA e0, nA a0]⟩] ∧ Step 4 w S μ [R3, ⟨1, ty_api_Store, 0, c0⟩, ⟨1, 32, 0, [nA 0]⟩, ⟨1, 3, 0, [nA 0]⟩] w' S' μ' [R3, ⟨1, ty_api_Store, 0, zS⟩, ⟨1, 32, 0, [nA e0]⟩, ⟨1, 3, 0, [nA a0]⟩, ⟨1, 74, 0, [nA e0, nA a0]⟩]) a w := by
  have ec : cdL (endC 2 eC) = .seq (cdL (cdL (endC 2 eC))) (cdR (cdL (endC 2 eC))) := by kernel_rfl
  rw [ec]
  have key2 := exec_ok (n := 4) (M := 0) MIX (store_TakeX_hE 0) store_TakeX_c store_TakeX_h _ _ (by simp) (takeX_s (R3 := R3) (tE := 32) (tA := 3) (tX := 74) 0 e0 a0 hc)
  refine wp_seq (wp_mono (Q := Lift ⟨15, []⟩ 4 w S μ [R3, ⟨1, ty_api_Store, 0, c0⟩, ⟨1, 32, 0, [nA 0]⟩, ⟨1, 3, 0, [nA 0]⟩] (fun e s => e = .normal ∧ Aft (fun s => some (get s.T 0, get s.T 1, get s.T 2, get s.T 4, s.H)) (OP 1 0, OP 2 0, OP 3 0, OP 4 0, [R3, ⟨1, ty_api_Store, 0, c0⟩, ⟨1, 32, 0, [nA 0]⟩, ⟨1, 3, 0, [nA 0]⟩, ⟨1, 74, 0, [nA e0, nA a0]⟩]) s)) ?_ fun e a' w' hL => ?_)
  rotate_left
  · obtain ⟨s1, S1, μ1, ⟨rfl, T2, hT, hq⟩, hr1, hf1, hst1⟩ := hL
    injection hq with hq
    injection hq with q0 hq
    injection hq with q1 hq
    injection hq with q2 hq
    injection hq with q4 hH
    obtain ⟨H1, T1⟩ := s1
    dsimp only at q0 q1 q2 q4 hH hT hr1 hf1 hst1
    subst hH
    have hf2 : Fr S1 μ1 ⟨15, []⟩ [(0, OP 1 0), (1, OP 2 0), (2, OP 3 0), (4, OP 4 0)] a' := by
      refine ⟨hf1.size, hf1.nodef, fun i => ?_⟩
      by_cases i0 : i = 0
      · subst i0
        have := hf1.slot 0
        rw [hT 0, q0] at this; exact this
      by_cases i1 : i = 1
      · subst i1
        have := hf1.slot 1
        rw [hT 1, q1] at this; exact this
      by_cases i2 : i = 2
      · subst i2
        have := hf1.slot 2
        rw [hT 2, q2] at this; exact this
      by_cases i4 : i = 4
      · subst i4
        have := hf1.slot 4
        rw [hT 4, q4] at this; exact this
      · have : get ([(0, OP 1 0), (1, OP 2 0), (2, OP 3 0), (4, OP 4 0)] : Tm) i = .nil := by
          simp only [_root_.Go.Proofs.YtoeajbhlkccekaaDoor.get]
          rw [if_neg (Ne.symm i0), if_neg (Ne.symm i1), if_neg (Ne.symm i2), if_neg (Ne.symm i4)]
        rw [this]; exact rep_any _ _ _
    refine wp_mono (key2 w' S1 μ1 a' hr1 hf2 (hg.ext hst1.still)) ?_
    rintro e2 a2 w2 ⟨s2, S2, μ2, hq2, hr2, hf3, hst2⟩
    have fin : (some (TU (sltK s2.T [0]), s2.H) : RO) = some (TU [OP 1 0], [R3, ⟨1, ty_api_Store, 0, zS⟩, ⟨1, 32, 0, [nA e0]⟩, ⟨1, 3, 0, [nA a0]⟩, ⟨1, 74, 0, [nA e0, nA a0]⟩]) → a2.defers = [] ∧ ∃ S' μ', Rel w2 S' μ' [R3, ⟨1, ty_api_Store, 0, zS⟩, ⟨1, 32, 0, [nA e0]⟩, ⟨1, 3, 0, [nA a0]⟩, ⟨1, 74, 0, [nA e0, nA a0]⟩] ∧ Step 4 w S μ [R3, ⟨1, ty_api_Store, 0, c0⟩, ⟨1, 32, 0, [nA 0]⟩, ⟨1, 3, 0, [nA 0]⟩] w2 S' μ' [R3, ⟨1, ty_api_Store, 0, zS⟩, ⟨1, 32, 0, [nA e0]⟩, ⟨1, 3, 0, [nA a0]⟩, ⟨1, 74, 0, [nA e0, nA a0]⟩] := by
      intro h
      injection h with h
      injection h with _ h
      obtain ⟨H2, T2⟩ := s2
      dsimp only at h hr2 hf3 hst2
      subst h
      exact ⟨hf3.nodef, S2, μ2, hr2, hst1.trans hst2⟩
    cases e2 with
    | normal => exact ⟨.inl rfl, fin hq2⟩
    | ret => exact ⟨.inr rfl, fin hq2⟩
    | exit id => cases hq2
    | goto l => cases hq2
    | panic ch =>
      obtain ⟨u, _, hq2⟩ := chE_some (K := fun u => some (TU (PN u :: sltK s2.T [0]), s2.H)) hq2
      injection hq2 with hq2
      injection hq2 with hq2 _
      simp at hq2
    | outgrown => cases hq2
  show (Code.region _ _ false).wp Tryd.prog _ a w
  refine wp_region_list ?_
  refine wpList_val (noV e0 a0) rfl (by rw [← g3]; simp [execOp, go_sem, Act.eval]) ?_
  refine wpList_val (.agg #[.int .i64 e0, .int .i64 a0]) rfl (by
    have : (a.put (some 8) (noV e0 a0)).eval (.tmp 8) = noV e0 a0 := by simp [Act.put, Act.eval, ha]
    have hA := run_assert (.agg #[.int .i64 e0, .int .i64 a0]) w
    simp [execOp, go_sem, ha, noV, hA]) ?_
  generalize hb : (a.put (some 8) (noV e0 a0)).put (some 9) (.agg #[.int .i64 e0, .int .i64 a0]) = b
  have hbs : b.tmps.size = 15 := by rw [← hb]; simp [Act.put, ha]
  have hbd : b.defers = [] := by rw [← hb]; simp [Act.put, hd]
  have hb0 : b.tmps.getD 0 undef = p0 := by rw [← hb, ← g0]; simp [Act.put, ha]
  have hb1 : b.tmps.getD 1 undef = p1 := by rw [← hb, ← g1]; simp [Act.put, ha]
  have hb2 : b.tmps.getD 2 undef = p2 := by rw [← hb, ← g2]; simp [Act.put, ha]
  have hb9 : b.tmps.getD 9 undef = .agg #[.int .i64 e0, .int .i64 a0] := by rw [← hb]; simp [Act.put, ha]
  have hf : Fr S μ ⟨15, []⟩ [(0, OP 1 0), (1, OP 2 0), (2, OP 3 0), (9, .agg [nA e0, nA a0])] b := by
    refine ⟨hbs, hbd, fun i => ?_⟩
    by_cases q0 : i = 0
    · subst q0; rw [hb0]; exact h0
    by_cases q1 : i = 1
    · subst q1; rw [hb1]; exact h1
    by_cases q2 : i = 2
    · subst q2; rw [hb2]; exact h2
    by_cases q9 : i = 9
    · subst q9; rw [hb9]
      refine ⟨[.int .i64 e0, .int .i64 a0], rfl, rfl, fun j d u hd hu => ?_⟩
      rcases j with _ | _ | j
      · cases hd; cases hu; exact ⟨rfl, rfl, rfl⟩
      · cases hd; cases hu; exact ⟨rfl, rfl, rfl⟩
      · cases hd
    · have : get ([(0, OP 1 0), (1, OP 2 0), (2, OP 3 0), (9, .agg [nA e0, nA a0])] : Tm) i = .nil := by
        simp only [_root_.Go.Proofs.YtoeajbhlkccekaaDoor.get]
        rw [if_neg (Ne.symm q0), if_neg (Ne.symm q1), if_neg (Ne.symm q2), if_neg (Ne.symm q9)]
      rw [this]; exact rep_any _ _ _
  have hx : runE Tryd.prog GG [] false (oC 0) [] (oC 2) ⟨[R3, ⟨1, ty_api_Store, 0, c0⟩, ⟨1, 32, 0, [nA 0]⟩, ⟨1, 3, 0, [nA 0]⟩], [(0, OP 1 0), (1, OP 2 0), (2, OP 3 0), (9, .agg [nA e0, nA a0])]⟩ (fun s => some (get s.T 0, get s.T 1, get s.T 2, get s.T 4, s.H)) = some (OP 1 0, OP 2 0, OP 3 0, OP 4 0, [R3, ⟨1, ty_api_Store, 0, c0⟩, ⟨1, 32, 0, [nA 0]⟩, ⟨1, 3, 0, [nA 0]⟩, ⟨1, 74, 0, [nA e0, nA a0]⟩]) := by kernel_rfl
  have hro := runE_ok noE (TEq.refl _) SkOk.nil hx
  have hfit : fits (15 : Nat) (oC 2) = true := by kernel_rfl
  have key := runOps_wp (N := ⟨15, []⟩) (n := 4) (Q := fun e s => e = .normal ∧ Aft (fun s => some (get s.T 0, get s.T 1, get s.T 2, get s.T 4, s.H)) (OP 1 0, OP 2 0, OP 3 0, OP 4 0, [R3, ⟨1, ty_api_Store, 0, c0⟩, ⟨1, 32, 0, [nA 0]⟩, ⟨1, 3, 0, [nA 0]⟩, ⟨1, 74, 0, [nA e0, nA a0]⟩]) s) (fun s q => ⟨rfl, q⟩) (H0 := [R3, ⟨1, ty_api_Store, 0, c0⟩, ⟨1, 32, 0, [nA 0]⟩, ⟨1, 3, 0, [nA 0]⟩]) (by simp) hr.len _ _ hro hfit w S μ b hr hf hg (Step.refl _ _ _ _ _)
  exact key
theorem catch_pan (p0 p1 p2 : Value) (e0 a0 : Nat) (older : List PanicEntry) (w : World) {S : SS} {μ : List Value} {c0 : List AV} {R3 : AObj} (hg : GOk GG S) (hr : Rel w S μ [R3, ⟨1, ty_api_Store, 0, c0⟩, ⟨1, 32, 0, [nA 0]⟩, ⟨1, 3, 0, [nA 0]⟩]) (hc : c0.length = 35) (h0 : rep S μ (OP 1 0) p0) (h1 : rep S μ (OP 2 0) p1) (h2 : rep S μ (OP 3 0) p2) :
    CallsD Tryd.prog 37 #[p0, p1, p2] (.panicking ({ v := noV e0 a0, recovered := false } :: older)) w fun e u' w' => e = .returned (.tuple #[]) ∧ u' = .panicking ({ v := noV e0 a0, recovered := true } :: older) ∧
      ∃ S' μ', Rel w' S' μ' [R3, ⟨1, ty_api_Store, 0, zS⟩, ⟨1, 32, 0, [nA e0]⟩, ⟨1, 3, 0, [nA a0]⟩, ⟨1, 74, 0, [nA e0, nA a0]⟩] ∧ Step 4 w S μ [R3, ⟨1, ty_api_Store, 0, c0⟩, ⟨1, 32, 0, [nA 0]⟩, ⟨1, 3, 0, [nA 0]⟩] w' S' μ' [R3, ⟨1, ty_api_Store, 0, zS⟩, ⟨1, 32, 0, [nA e0]⟩, ⟨1, 3, 0, [nA a0]⟩, ⟨1, 74, 0, [nA e0, nA a0]⟩] := by
  refine callsD_of_wpS Tryd.func37 rfl fun c₀ cs hu => ?_
  apply wpS_seq
  apply wpS_region
  simp [wpOpsS, go_sem, recoverD, hu, noV, Tryd.ntmps37, Exit.thenS]
  apply wpS_seq
  apply wpS_region
  simp [wpOpsS, go_sem, Exit.thenS]
  refine wpS_cond (t := true) (by simp [Act.eval]) ?_
  simp only [if_true]
  refine wpS_of_wp ?_
  refine wp_mono (eB (e0 := e0) (a0 := a0) hg hr hc h0 h1 h2 (by simp) rfl (by simp) (by simp) (by simp) (by simp [noV])) ?_
  rintro e a' w' ⟨he, hd, hS⟩
  have hv : (results Tryd.f37 a'.tmps).run Tryd.prog w' = .ok (.tuple #[]) w' := by simp [results, Tryd.results37]
  rcases he with rfl | rfl
  · exact ⟨hd, _, rfl, .tuple #[], hv, rfl, rfl, hS⟩
  · exact ⟨hd, _, rfl, .tuple #[], hv, rfl, rfl, hS⟩
theorem ld_of {k : Nat} {H : List AObj} {x d : AV} {K : AV → Prop} (h : loadE k H x (fun d => some d) = some d) (hK : K d) : aLoad k H x K := aLoad_mono (fun d' e => by injection e with e; subst e; exact hK) (loadE_ok h)
theorem TU_inj {a b : List AV} (h : TU a = TU b) : a = b := by
  injection h with _ h
  injection h
theorem cut0 {w : World} {S : SS} {μ : List Value} {H : List AObj} : Step 0 w S μ H w S [] [] := ⟨rfl, rfl, rfl, Nat.le_refl _, fun _ _ _ => rfl, fun _ _ _ h => h, fun i x hi _ => absurd hi (Nat.not_lt_zero i), fun _ _ _ h _ => .inl h, fun b k _ => by obtain ⟨i, x, o, hx, _⟩ := k; simp at hx⟩
end Go.Proofs.YtoeajbhlkccekaaDoor

namespace Go.Proofs.YtoeajbhlkccekaaDoor
open Go.RowKit
set_option maxRecDepth 20000
def takeS (s : St) (l : List Edt) : St × Nat × Nat :=
  if (mayS s && decide (s.ver ≠ 2147483647)) = false then (St.zero, 1, 0)
  else match takeBad 0 l with
    | some b => (St.zero, 1, b)
    | none => if (takeG (s.ver + 1) 0 l s.t).2.1 = 0 then (if overQ s (takeG (s.ver + 1) 0 l s.t).1 then (St.zero, 17, l.length) else (⟨(takeG (s.ver + 1) 0 l s.t).1, s.ver + 1, s.bytes, s.keys⟩, 0, 0))
      else (St.zero, (takeG (s.ver + 1) 0 l s.t).2.1, (takeG (s.ver + 1) 0 l s.t).2.2.1)
def takV (r : St × Nat × Nat) : AV := TU [stA r.1, nA r.2.1, nA r.2.2]
theorem tkH_ok (s : St) : (tkH s).all (ltO 4) = true := by
  have h1 : (stC s).all (ltA 4) = true := st_ltA
  have h2 : zS.all (ltA 4) = true := zS_ltA
  simp only [tkH, List.all_cons, List.all_nil, ltO, h1, h2]
  rfl
theorem ld_st {R0 : AObj} {cs : List AV} {H3 : List AObj} {e a : Int} (hc : cs.length = 35) (hs : cs.all sure = true) : loadE 37 (R0 :: ⟨1, ty_api_Store, 0, cs⟩ :: ⟨1, 32, 0, [nA e]⟩ :: ⟨1, 3, 0, [nA a]⟩ :: H3) (OP 1 0) (fun d => some d) = some (.agg cs) := by
  have ht : cs.take 35 = cs := List.take_of_length_le (by omega)
  simp (config := {maxSteps := 4000000, implicitDefEqProofs := false}) (disch := omega) only [go_sem, hc, ht, hs]
theorem res3 {T : Tm} {R0 : AObj} {cs : List AV} {H3 : List AObj} {e a : Int} (hc : cs.length = 35) (hs : cs.all sure = true) (g2 : get T 4 = OP 1 0) (g3 : get T 5 = OP 2 0) (g4 : get T 6 = OP 3 0) :
    resC Tryd.prog (R0 :: ⟨1, ty_api_Store, 0, cs⟩ :: ⟨1, 32, 0, [nA e]⟩ :: ⟨1, 3, 0, [nA a]⟩ :: H3) T [.cell 4 28, .cell 5 32, .cell 6 3] (fun ds => oneOf ds = TU [noT (.agg cs), noT (nA e), noT (nA a)]) := by
  rw [rC_cell, g2]
  refine ld_of (d := .agg cs) (by
    have : kindT Tryd.prog 28 = 37 := by kernel_rfl
    rw [this]
    exact ld_st hc hs) ?_
  rw [rC_cell, g3]
  refine ld_of (d := nA e) (by kernel_rfl) ?_
  rw [rC_cell, g4]
  refine ld_of (d := nA a) (by kernel_rfl) ?_
  rw [rC_nil]
  rfl
theorem takV_zero {e a : Nat} {H : List AObj} : ro H (TU [noT (.agg zS), noT (nA e), noT (nA a)]) = takV (St.zero, e, a) := by
  show (TU [roA H (.agg zS), roA H (nA e), roA H (nA a)] : AV) = _
  show (TU [.agg (zS.map (ro1 H)), _, _] : AV) = _
  rw [zS_ro]
  rfl
theorem takV_ok {u : St} {H : List AObj} : ro H (TU [noT (.agg (stC u)), noT (nA 0), noT (nA 0)]) = takV (u, 0, 0) := by
  show (TU [.agg ((stC u).map (ro1 H)), _, _] : AV) = _
  rw [st_ro]
  rfl
theorem takV_lt {r : St × Nat × Nat} : ltT 0 (takV r) = true := by
  have h1 : ltT 0 (stA r.1) = true := by
    show (stC r.1).all (lt1 0) = true
    exact st_lt1
  show ([stA r.1, nA r.2.1, nA r.2.2].all fun x => ltA 0 x) = true
  simp only [List.all_cons, List.all_nil, Bool.and_true]
  rw [show ltA 0 (stA r.1) = true from h1]
  rfl
abbrev T5 (l : List Edt) : Tm := [(1, SL (l.map eA)), (2, OP 0 0), (4, OP 1 0), (5, OP 2 0), (6, OP 3 0)]
theorem slt_some {rs : List Tmp} {e : Exit} {s : ASt} {X : AV} {H' : List AObj} (h : sltFK rs e s = some (X, H')) : ((e = .normal ∨ e = .ret) ∧ X = TU (sltK s.T rs) ∧ s.H = H') ∨ (∃ u, e = .panic (pch u) ∧ X = TU (PN u :: sltK s.T rs) ∧ s.H = H') := by
  cases e with
  | normal => cases h; exact .inl ⟨.inl rfl, rfl, rfl⟩
  | ret => cases h; exact .inl ⟨.inr rfl, rfl, rfl⟩
  | exit id => cases h
  | goto l => cases h
  | panic ch =>
    obtain ⟨u, rfl, h⟩ := chE_some (K := fun u => some (TU (PN u :: sltK s.T rs), s.H)) h
    cases h
    exact .inr ⟨u, rfl, rfl, rfl⟩
  | outgrown => cases h
section
variable {s u : St} {l : List Edt} {a2 : Act} {w w1 : World} {S S1 : SS} {μ1 : List Value} {p0 p1 p2 : Value} {M : Nat}
theorem hinvk (w' : World) : (invoke (.fn (.func 37) #[p0, p1, p2]) #[]).run Tryd.prog w' = .ok (.enter 37 #[p0, p1, p2]) w' := by simp [go_sem]
theorem tail_ok (hr1 : Rel w1 S1 μ1 (tkH s)) (hf2 : Fr S1 μ1 ⟨80, [dD p0 p1 p2]⟩ (T5 l) a2) (hg1 : GOk GG S1) (hst1 : Step 0 w S [] [] w1 S1 μ1 (tkH s))
    (hR : store_TakeR M [dD p0 p1 p2] (SL (l.map eA)) (OP 0 0) (OP 1 0) (OP 2 0) (OP 3 0) (tkH s) = some (TU [OP 1 0, OP 2 0, OP 3 0], [⟨1, ty_api_Store, 0, stC u⟩, ⟨1, ty_api_Store, 0, stC u⟩, ⟨1, ty_api_Errno, 0, [nA 0]⟩, ⟨1, ty_int, 0, [nA 0]⟩])) :
    (endC 4 dC).wp Tryd.prog (bodyPostD Tryd.prog Tryd.f10 (CPost w S [] [] fun r H' => r = takV (u, 0, 0) ∧ H' = [])) a2 w1 := by
  have key := exec_ok (n := 0) (M := M) MIX (store_TakeR_hE M) store_TakeR_c store_TakeR_h _ _ (Nat.zero_le _) hR
  refine wp_mono (key w1 S1 μ1 a2 hr1 hf2 hg1) ?_
  rintro e a3 w3 ⟨⟨H3, T3⟩, S3, μ3, hq3, hr3, hf3, hst3⟩
  rcases slt_some hq3 with ⟨he, h, hH⟩ | ⟨v, _, h, _⟩
  · dsimp only at hr3 hf3 hst3 hH
    subst hH
    have h := TU_inj h
    rw [sltK_eq] at h
    injection h with g2 h
    injection h with g3 h
    injection h with g4 _
    have hd : a3.defers = [dD p0 p1 p2] := hf3.nodef
    have fin : Leaves Tryd.prog Tryd.f10 a3.tmps (CPost w S [] [] fun r H' => r = takV (u, 0, 0) ∧ H' = []) a3.defers .returning w3 := by
      rw [hd]
      refine leaves_cons (f := 37) (args := #[p0, p1, p2]) (by simp) (hinvk w3) ?_
      refine (catch_idle p0 p1 p2 w3).mono ?_
      rintro e u' w4 ⟨rfl, rfl, rfl⟩
      show Leaves Tryd.prog _ a3.tmps _ [] (settle .returning) w4
      have hs : settle .returning = .returning := rfl
      rw [hs]
      obtain ⟨y, r, hrun, hrep, rfl⟩ := resultsC_run (P := Tryd.prog) (fn := Tryd.f10) (K := fun r => r = TU [noT (.agg (stC u)), noT (nA 0), noT (nA 0)]) rfl hr3 hf3 (resC_mono (fun ds e => e) (res3 (stC_len u) st_sure g2.symm g3.symm g4.symm))
      have hro := hrep.toRo hr3
      rw [takV_ok] at hro
      exact ⟨y, hrun, y, _, [], S3, [], rfl, ⟨rfl, rfl⟩, hr3.le (H' := []) trivial rfl, hro.take (n := 0) takV_lt, (hst1.trans hst3).trans cut0⟩
    rcases he with rfl | rfl
    · exact fin
    · exact fin
  · exfalso
    have h := congrArg List.length (TU_inj h)
    try rw [List.length_cons] at h
    rw [sltK_eq] at h
    simp at h
theorem tail_pan {e0 a0 : Nat} {Y : List AObj} (hr1 : Rel w1 S1 μ1 (tkH s)) (hf2 : Fr S1 μ1 ⟨80, [dD p0 p1 p2]⟩ (T5 l) a2) (hg1 : GOk GG S1) (hst1 : Step 0 w S [] [] w1 S1 μ1 (tkH s)) (r4 : rep S1 μ1 (OP 1 0) p0) (r5 : rep S1 μ1 (OP 2 0) p1) (r6 : rep S1 μ1 (OP 3 0) p2)
    (hR : store_TakeR M [dD p0 p1 p2] (SL (l.map eA)) (OP 0 0) (OP 1 0) (OP 2 0) (OP 3 0) (tkH s) = some (TU [PN (noV e0 a0), OP 1 0, OP 2 0, OP 3 0], tkH u ++ Y)) :
    (endC 4 dC).wp Tryd.prog (bodyPostD Tryd.prog Tryd.f10 (CPost w S [] [] fun r H' => r = takV (St.zero, e0, a0) ∧ H' = [])) a2 w1 := by
  have key := exec_ok (n := 4) (M := M) MIX (store_TakeR_hE M) store_TakeR_c store_TakeR_h _ _ (Nat.le_refl _) hR
  refine wp_mono (key w1 S1 μ1 a2 hr1 hf2 hg1) ?_
  rintro e a3 w3 ⟨⟨H3, T3⟩, S3, μ3, hq3, hr3, hf3, hst3⟩
  rcases slt_some hq3 with ⟨_, h, _⟩ | ⟨v, rfl, h, hH⟩
  · exfalso
    have h := congrArg List.length (TU_inj h)
    try rw [List.length_cons] at h
    rw [sltK_eq] at h
    simp at h
  · dsimp only at hr3 hf3 hst3 hH
    subst hH
    have h := TU_inj h
    rw [sltK_eq] at h
    injection h with gu h
    injection h with g2 h
    injection h with g3 h
    injection h with g4 _
    injection gu with _ gu
    injection gu with gu
    injection gu with gu
    subst gu
    have hd : a3.defers = [dD p0 p1 p2] := hf3.nodef
    show Leaves Tryd.prog _ a3.tmps _ a3.defers (.panicking (pch (noV e0 a0))) w3
    rw [hd]
    have hle : HLe (tkH u ++ Y) (tkH u) := by
      have := HLe.take (tkH u ++ Y) 4
      rwa [List.take_left' (show (tkH u).length = 4 from rfl)] at this
    have hr3' := hr3.le hle (tkH_ok u)
    have hcut : Step 4 w3 S3 μ3 (tkH u ++ Y) w3 S3 (μ3.take 4) (tkH u) := Le.step (s := ⟨tkH u ++ Y, []⟩) (s' := ⟨tkH u, []⟩) ⟨hle, tkH_ok u, trivial⟩ (Nat.le_refl _) w3 S3 μ3
    have hst3' := hst3.trans hcut
    have hx := Step.toExt hr1 hst3'
    refine leaves_cons (f := 37) (args := #[p0, p1, p2]) (by simp) (hinvk w3) ?_
    refine (catch_pan p0 p1 p2 e0 a0 [] w3 (hg1.ext hst3.still) (R3 := ⟨1, ty_api_Store, 0, stC u⟩) hr3' zS_len (r4.ext hx) (r5.ext hx) (r6.ext hx)).mono ?_
    rintro e u' w4 ⟨rfl, rfl, S4, μ4, hr4, hst4⟩
    show Leaves Tryd.prog _ a3.tmps _ [] (settle (.panicking [{ v := noV e0 a0, recovered := true }])) w4
    have hs : settle (.panicking [{ v := noV e0 a0, recovered := true }]) = .returning := rfl
    rw [hs]
    have hf3' : Fr S3 (μ3.take 4) ⟨80, [dD p0 p1 p2]⟩ [(4, OP 1 0), (5, OP 2 0), (6, OP 3 0)] a3 := by
      have := Le.fr (s := ⟨tkH u ++ Y, T3⟩) (s' := ⟨tkH u, [(4, OP 1 0), (5, OP 2 0), (6, OP 3 0)]⟩) ⟨hle, tkH_ok u, g2.symm, rfl, g3.symm, rfl, g4.symm, rfl, trivial⟩ hf3
      exact this
    obtain ⟨y, r, hrun, hrep, rfl⟩ := resultsC_run (P := Tryd.prog) (fn := Tryd.f10) (K := fun r => r = TU [noT (.agg zS), noT (nA e0), noT (nA a0)]) rfl hr4 (hf3'.ext (Step.toExt hr3' hst4)) (resC_mono (fun ds e => e) (res3 zS_len zS_sure rfl rfl rfl))
    have hro := hrep.toRo hr4
    rw [takV_zero] at hro
    exact ⟨y, hrun, y, _, [], S4, [], rfl, ⟨rfl, rfl⟩, hr4.le (H' := []) trivial rfl, hro.take (n := 0) takV_lt, ((hst1.trans (hst3'.less (Nat.zero_le _))).trans (hst4.less (Nat.zero_le _))).trans cut0⟩
end
theorem take_acp {s : St} {l : List Edt} (h : s.t.Ok) (hi : mayT s.t = true → TInv s.t) (hx : ∀ x ∈ l, NumOk (x.it 0)) (hl : l.length ≤ 34359738368) : ACp Tryd.prog GG 10 [stA s, SL (l.map eA)] (takV (takeS s l)) := by
  have hM : l.length < l.length + 1000001 := by omega
  generalize hMM : l.length + 1000001 = M at hM
  have hM2 : 1000000 < M := by omega
  cases hb : (mayS s && decide (s.ver ≠ 2147483647)) with
  | false =>
    have := store_Take_ok M _ _ [] (show store_Take_t M [stA s, SL (l.map eA)] = _ from early_may M s l hM2 h hb)
    unfold takeS
    rw [if_pos hb]
    exact this
  | true =>
  have hb' := hb
  simp only [Bool.and_eq_true, decide_eq_true_eq] at hb'
  obtain ⟨h1, hv⟩ := hb'
  cases hk : takeBad 0 l with
  | some b =>
    have := store_Take_ok M _ _ [] (show store_Take_t M [stA s, SL (l.map eA)] = _ from early_bad M s l hM2 hM hl h h1 hv b hk)
    unfold takeS
    rw [if_neg (by rw [hb]; decide), hk]
    exact this
  | none =>
  have hmt : mayT s.t = true := by
    unfold mayS at h1
    simp only [Bool.and_eq_true] at h1
    exact h1.1.1.1.1.1.1
  have hvr : 0 ≤ s.ver ∧ s.ver < 2147483647 := by
    unfold mayS inB at h1
    simp only [Bool.and_eq_true, decide_eq_true_eq] at h1
    omega
  have hinv := hi hmt
  refine ⟨by kernel_rfl, fun w S μ vs hr hg hlen hvs => ?_⟩
  have hμ : μ = [] := List.eq_nil_of_length_eq_zero hr.len
  subst hμ
  refine calls_of_wp_defers Tryd.func10 (c := dC) rfl ?_
  rw [Tryd.ntmps10]
  have hfr := fr_args (S := S) (μ := []) (N := 80) (args := [stA s, SL (l.map eA)]) (vs := vs) hlen (by simp) hvs
  refine (wpIn_wide (n := 0)).1 (exec_farW (n := 0) MIX (store_TakeA_hE M) 3 dC store_TakeA_h ⟨[], argsT 0 [stA s, SL (l.map eA)]⟩ (by kernel_rfl) (takeA_s M s l hM2 hM hl h h1 hv hk) hr hfr hg ?_ (Nat.le_refl _))
  rintro a w1 ⟨S1, μ1, _, hr1, hf1, hg1, hst1⟩
  refine wpIn_wide.2 ?_
  have ec : endC 3 dC = .seq (cdL (endC 3 dC)) (endC 4 dC) := by kernel_rfl
  rw [ec]
  refine wp_seq (dB (p0 := a.eval (.tmp 4)) (p1 := a.eval (.tmp 5)) (p2 := a.eval (.tmp 6)) rfl rfl rfl hf1.nodef hf1.size fun v => ?_)
  have sz : a.tmps.size = 80 := hf1.size
  have r4 : rep S1 μ1 (OP 1 0) (a.tmps.getD 4 undef) := hf1.slot 4
  have r5 : rep S1 μ1 (OP 2 0) (a.tmps.getD 5 undef) := hf1.slot 5
  have r6 : rep S1 μ1 (OP 3 0) (a.tmps.getD 6 undef) := hf1.slot 6
  have hput := hf1.put (some 40) (fun i e => by cases e; decide) (v := .nil) (u := v) trivial
  generalize hp0 : a.eval (.tmp 4) = p0
  generalize hp1 : a.eval (.tmp 5) = p1
  generalize hp2 : a.eval (.tmp 6) = p2
  have e4 : a.tmps.getD 4 undef = p0 := hp0
  have e5 : a.tmps.getD 5 undef = p1 := hp1
  have e6 : a.tmps.getD 6 undef = p2 := hp2
  rw [e4] at r4
  rw [e5] at r5
  rw [e6] at r6
  show (endC 4 dC).wp Tryd.prog _ _ w1
  have hf2 : Fr S1 μ1 ⟨80, [dD p0 p1 p2]⟩ [(1, SL (l.map eA)), (2, OP 0 0), (4, OP 1 0), (5, OP 2 0), (6, OP 3 0)] { (a.put (some 40) v) with defers := [dD p0 p1 p2] } := by
    have := hput.some (T' := [(1, SL (l.map eA)), (2, OP 0 0), (4, OP 1 0), (5, OP 2 0), (6, OP 3 0)]) (by simp [_root_.Go.Proofs.YtoeajbhlkccekaaDoor.get, ASt.set, tput])
    exact ⟨this.size, rfl, this.slot⟩
  have hR := takeR_s M [dD p0 p1 p2] s l hM hl hinv hx hvr.1 hvr.2
  unfold takeS
  rw [if_neg (by rw [hb]; decide), hk]
  dsimp only
  unfold finT at hR
  by_cases he : (takeG (s.ver + 1) 0 l s.t).2.1 = 0
  · rw [if_pos he] at hR ⊢
    cases hq : overQ s (takeG (s.ver + 1) 0 l s.t).1 with
    | true =>
      rw [hq, if_pos rfl] at hR
      rw [if_pos rfl]
      exact tail_pan (Y := []) hr1 hf2 hg1 hst1 r4 r5 r6 (by rw [List.append_nil]; exact hR)
    | false =>
      rw [hq, if_neg (by decide)] at hR
      rw [if_neg (by decide)]
      exact tail_ok hr1 hf2 hg1 hst1 hR
  · rw [if_neg he] at hR ⊢
    exact tail_pan hr1 hf2 hg1 hst1 r4 r5 r6 hR
end Go.Proofs.YtoeajbhlkccekaaDoor

namespace Go.Proofs.YtoeajbhlkccekaaDoor
open Go.RowKit
set_option maxRecDepth 20000
attribute [local go_sem] tC_len tC_sure tC_ltA tC_lt1 tC_ro tC_take tC_all1 zcT_eq zcI_len zC_len zC_ltA zC_lt1 zC_sure zC_ro zC_take set_tl set_tv sc_tt sc_zt sc_tz sc_zz add16 tA_def lA_def natInt u_tl u_tv st_take35 st_take stC_len st_sure st_ltA st_lt1 st_ro zcS_eq zS_len zS_sure zS_take zS_ltA zS_ro zS_all1 ss_zs ss_zz u_bS0
theorem runM_len {lo hi : Bytes} {most : Int} : ∀ (n : Nat) (u : Tr) (acc : List Item), (runM lo hi most n u acc).length ≤ acc.length + n
  | 0, u, acc => Nat.le_refl _
  | n + 1, u, acc => by
    unfold runM
    split
    · omega
    · split
      · omega
      · have := runM_len (lo := lo) (hi := hi) (most := most) n (pop u (leastT u).toNat) (takeX lo (hdK u (leastT u).toNat) acc)
        have h2 : (takeX lo (hdK u (leastT u).toNat) acc).length ≤ acc.length + 1 := by
          unfold takeX
          split
          · omega
          · simp
        omega
theorem scanR_len {lo hi : Bytes} {most : Int} {t : Tr} (h : t.Ok) : (scanR lo hi most t).length ≤ 16000000 := by
  unfold scanR
  split
  · have := runM_len (lo := lo) (hi := hi) (most := most) (cntT t) t []
    have h2 := cnt_le h
    unfold scanT
    simp at this
    omega
  · simp
def undoR (p q : St) : List Edt := if mayS p && mayS q then undoN ((scanR [] [] 1024 p.t).length + (scanR [] [] 1024 q.t).length) (scanR [] [] 1024 p.t) (scanR [] [] 1024 q.t) [] else []
theorem undo_s (m : Nat) (p q : St) (hm : 40000000 < m) (hp : p.t.Ok) (hq : q.t.Ok) : store_Undo m (stA p) (stA q) = some (TU [SL ((undoR p q).map eA), nA (if mayS p && mayS q then 0 else 1)], []) := by
  rw [store_Undo_eq]
  have h1 := smay_s m p (by omega) hp
  have h2 := smay_s m q (by omega) hq
  have s1 := span_ScanQ_e m p.t [] [] 1024 hp
  have s2 := span_ScanQ_e m q.t [] [] 1024 hq
  rw [tA_def] at s1 s2
  unfold undoR
  rw [stA_def] at h1 h2 ⊢
  rw [stA_def]
  cases e1 : mayS p with
  | false =>
    rw [e1] at h1
    simp (config := {maxSteps := 4000000, implicitDefEqProofs := false}) (disch := omega) only [go_sem, h1, store_Undo_r1_eq]
    try rfl
  | true =>
    rw [e1] at h1
    cases e2 : mayS q with
    | false =>
      rw [e2] at h2
      simp (config := {maxSteps := 4000000, implicitDefEqProofs := false}) (disch := omega) only [go_sem, h1, h2, store_Undo_r1_eq]
      try rfl
    | true =>
      rw [e2] at h2
      have hl1 := scanR_len (lo := []) (hi := []) (most := 1024) hp
      have hl2 := scanR_len (lo := []) (hi := []) (most := 1024) hq
      simp (config := {maxSteps := 4000000, implicitDefEqProofs := false}) (disch := omega) only [go_sem, h1, h2, store_Undo_r1_eq, store_Undo_r2_eq, s1, s2]
      refine (undo_loop m p q (scanR [] [] 1024 p.t) (scanR [] [] 1024 q.t) (by omega) (by omega) (fun _ => none) _ ?_).trans ?_
      · intro acc
        show blockX 0 (seqX (fun s => store_Undo_r3 m ⟨s.H, [(10, gt s.T 10)]⟩) store_Undo_fin) (.exit 0) ⟨_, [(10, OW 2 acc.length)]⟩ = _
        simp (config := {maxSteps := 4000000, implicitDefEqProofs := false}) (disch := omega) only [go_sem, store_Undo_r3_eq]
      · rfl
def SEq (s u : St) : Prop := s.t.Eq16 u.t ∧ s.ver = u.ver ∧ s.bytes = u.bytes ∧ s.keys = u.keys
theorem stA_inj {s u : St} (h : stA s = stA u) : SEq s u := by
  rw [stA_def, stA_def] at h
  injection h with h
  have h1 : tC s.t = tC u.t := by
    have := congrArg (List.take 32) h
    rwa [st_take, st_take] at this
  have h2 : s.tail = u.tail := by
    have := congrArg (List.drop 32) h
    unfold stC at this
    rwa [List.drop_left' tC_len, List.drop_left' tC_len] at this
  refine ⟨tA_inj (by rw [tA_def, tA_def, h1]), ?_⟩
  unfold St.tail at h2
  injection h2 with a h2
  injection h2 with b h2
  injection h2 with c _
  exact ⟨nA_inj a, nA_inj b, nA_inj c⟩
theorem stA_eq {s u : St} (h : SEq s u) : stA s = stA u := by
  obtain ⟨h1, h2, h3, h4⟩ := h
  have e := tA_eq h1
  rw [tA_def, tA_def] at e
  injection e with e
  rw [stA_def, stA_def]
  unfold stC St.tail
  rw [e, h2, h3, h4]
theorem mayS_eq {s u : St} (h : SEq s u) : mayS s = mayS u := by
  obtain ⟨h1, h2, h3, h4⟩ := h
  unfold mayS versB
  rw [mayT_eq h1, h2, h3, h4, weightT_eq h1, countT_eq h1]
  rw [all_range_congr (f := fun i => decide (s.t.ver i ≤ u.ver)) (g := fun i => decide (u.t.ver i ≤ u.ver)) fun i hi => by rw [(h1 i hi).2]]
theorem oneT_eq {t u : Tr} (h : t.Eq16 u) (x : Edt) (v : Int) : tA (oneT t x v).1 = tA (oneT u x v).1 ∧ (oneT t x v).2 = (oneT u x v).2 := by
  unfold oneT
  rw [getT_eq h]
  split
  · split
    · exact delT_eq h x.key v
    · exact ⟨tA_eq h, rfl⟩
  · exact putT_eq h _
theorem takeG_eq {v : Int} : ∀ (l : List Edt) (k : Nat) {t u : Tr} (h : t.Eq16 u), tA (takeG v k l t).1 = tA (takeG v k l u).1 ∧ (takeG v k l t).2 = (takeG v k l u).2
  | [], k, t, u, h => ⟨tA_eq h, rfl⟩
  | x :: r, k, t, u, h => by
    obtain ⟨e1, e2⟩ := oneT_eq h x v
    unfold takeG
    rw [e2]
    split
    · exact takeG_eq r (k + 1) (tA_inj e1)
    · exact ⟨tA_eq h, rfl⟩
theorem takeS_eq {s u : St} (h : SEq s u) (l : List Edt) : takV (takeS s l) = takV (takeS u l) := by
  have hM := mayS_eq h
  obtain ⟨h1, h2, h3, h4⟩ := h
  obtain ⟨e1, e2⟩ := takeG_eq (v := s.ver + 1) l 0 h1
  have e3 := tA_inj e1
  have eO : overQ s (takeG (s.ver + 1) 0 l s.t).1 = overQ u (takeG (s.ver + 1) 0 l u.t).1 := by
    unfold overQ
    rw [weightT_eq e3, countT_eq e3, h3, h4]
  unfold takeS
  rw [hM, h2] at *
  split
  · rfl
  · split
    · rfl
    · rw [e2, eO]
      split
      · split
        · rfl
        · have : SEq ⟨(takeG (u.ver + 1) 0 l s.t).1, u.ver + 1, s.bytes, s.keys⟩ ⟨(takeG (u.ver + 1) 0 l u.t).1, u.ver + 1, u.bytes, u.keys⟩ := ⟨e3, rfl, h3, h4⟩
          unfold takV
          rw [stA_eq this]
      · rfl
theorem ed_inj {x y : Edt} (h : flA Edt.cells x = flA Edt.cells y) : x = y := by
  obtain ⟨k1, d1, i1, s1⟩ := x
  obtain ⟨k2, d2, i2, s2⟩ := y
  rw [ed_it, ed_it] at h
  simp only [DataW.agg.injEq, List.cons.injEq, DataW.held.injEq, Sum.inl.injEq, Value.string.injEq, Value.int.injEq, ByteArray.mk.injEq, Array.mk.injEq, true_and, and_true] at h
  obtain ⟨h1, h2, h3, h4⟩ := h
  have h1 : k1 = k2 := by simpa using h1
  have h4 : s1 = s2 := by simpa using h4
  subst h1 h2 h3 h4
  rfl
noncomputable def store_TakeQ_t (m : Nat) : List AV → RO := orac (ι := St × List Edt) (fun p => [stA p.1, SL (p.2.map eA)]) (fun p => takV (takeS p.1 p.2)) (fun p => p.1.t.Ok ∧ (mayT p.1.t = true → TInv p.1.t) ∧ (∀ x ∈ p.2, NumOk (x.it 0)) ∧ p.2.length ≤ 34359738368)
theorem store_TakeQ_ok (m : Nat) : ∀ args X H', store_TakeQ_t m args = some (X, H') → ACp Tryd.prog GG 10 args X := orac_ok (by
  rintro ⟨s, l⟩ ⟨h1, h2, h3, h4⟩
  exact take_acp h1 h2 h3 h4)
theorem store_TakeQ_e (m : Nat) (s : St) (l : List Edt) (h : s.t.Ok) (hi : mayT s.t = true → TInv s.t) (hx : ∀ x ∈ l, NumOk (x.it 0)) (hl : l.length ≤ 34359738368) : store_TakeQ_t m [stA s, SL (l.map eA)] = some (takV (takeS s l), []) := orac_eq (ι := St × List Edt) (by
  rintro ⟨s, l⟩ ⟨u, k⟩ e
  dsimp only at e ⊢
  simp only [List.cons.injEq, and_true] at e
  obtain ⟨e1, e2⟩ := e
  injection e2 with e2
  have := map_inj (fun _ _ => ed_inj) e2
  subst this
  exact takeS_eq (stA_inj e1) l) (i := (s, l)) ⟨h, hi, hx, hl⟩
end Go.Proofs.YtoeajbhlkccekaaDoor

namespace Go.Proofs.YtoeajbhlkccekaaDoor
open Go.RowKit
set_option maxRecDepth 20000
attribute [local go_sem] tC_len tC_sure tC_ltA tC_lt1 tC_ro tC_take tC_all1 zcT_eq zcI_len zC_len zC_ltA zC_lt1 zC_sure zC_ro zC_take set_tl set_tv sc_tt sc_zt sc_tz sc_zz add16 tA_def lA_def natInt u_tl u_tv st_take35 st_take stC_len st_sure st_ltA st_lt1 st_ro zcS_eq zS_len zS_sure zS_take zS_ltA zS_ro zS_all1 ss_zs ss_zz u_bS0
def newS (b k : Int) : St := ⟨Tr.zero, 0, b, k⟩
def zSb (b k : Int) : List AV := zC ++ [nA 0, nA b, nA k]
section
variable {R : Type} {b k : Int} {n : Nat} {K1 : AV → Option R} {H : List AObj}
theorem zSb_len : (zSb b k).length = 35 := _root_.id rfl
theorem zSb_sure : (zSb b k).all sure = true := _root_.id rfl
theorem zSb_ltA : (zSb b k).all (ltA n) = true := _root_.id rfl
theorem zSb_all1 : ((zSb b k).all fun x => lt1 n (ro1 H x)) = true := _root_.id rfl
theorem zSb_ro : (zSb b k).map (ro1 H) = stC (newS b k) := _root_.id rfl
theorem zSb_take : (zSb b k).take 35 = zSb b k := _root_.id rfl
theorem zSb_set : setCells zS 0 (zSb b k) = zSb b k := set_all rfl
theorem u_bSb : buildE (some pl_api_Store) (some zS) [(2, V (.int .i64 b)), (3, V (.int .i64 k))] K1 = K1 (.agg (zSb b k)) := _root_.id rfl
end
def newR (b k : Int) : St × Nat := if mayS (newS b k) then (newS b k, 0) else (St.zero, 1)
theorem new_s (m : Nat) (b k : Int) (hm : 1000000 < m) : store_New m (nA b) (nA k) = some (TU [stA (newR b k).1, nA (newR b k).2], []) := by
  rw [store_New_eq]
  have hM := smay_s m (newS b k) hm ok_zero
  unfold newR
  rw [stA_def] at hM ⊢
  cases h1 : mayS (newS b k) with
  | false =>
    rw [h1] at hM
    simp (config := {maxSteps := 4000000, implicitDefEqProofs := false}) (disch := omega) only [go_sem, zSb_len, zSb_sure, zSb_ltA, zSb_take, zSb_ro, zSb_set, u_bSb, hM, zSb_all1, stA_def]
    try rfl
  | true =>
    rw [h1] at hM
    simp (config := {maxSteps := 4000000, implicitDefEqProofs := false}) (disch := omega) only [go_sem, zSb_len, zSb_sure, zSb_ltA, zSb_take, zSb_ro, zSb_set, u_bSb, hM, zSb_all1, stA_def]
    try rfl
def roomR (s : St) : Int × Int := if mayS s then (s.bytes - weightT s.t, s.keys - countT s.t) else (0, 0)
theorem mayS_nums {s : St} (h : mayS s = true) : 0 ≤ s.ver ∧ s.ver ≤ 2147483647 ∧ 0 ≤ s.bytes ∧ s.bytes ≤ 65536 ∧ 0 ≤ s.keys ∧ s.keys ≤ 1024 ∧ mayT s.t = true ∧ (weightT s.t : Int) ≤ s.bytes ∧ (countT s.t : Int) ≤ s.keys := by
  unfold mayS inB at h
  simp only [Bool.and_eq_true, decide_eq_true_eq] at h
  exact ⟨h.1.1.1.1.1.2.1, h.1.1.1.1.1.2.2, h.1.1.1.1.2.1, h.1.1.1.1.2.2, h.1.1.1.2.1, h.1.1.1.2.2, h.1.1.1.1.1.1, h.1.2, h.2⟩
theorem room_s (m : Nat) (s : St) (hm : 1000000 < m) (h : s.t.Ok) : store_Room m (stA s) = some (TU [nA (roomR s).1, nA (roomR s).2], []) := by
  rw [store_Room_eq]
  have hM := smay_s m s hm h
  have hW := trunk_Weight_e m s.t h
  have hC := trunk_Count_e m s.t h
  rw [tA_def] at hW hC
  unfold roomR
  rw [stA_def] at hM ⊢
  cases h1 : mayS s with
  | false =>
    rw [h1] at hM
    simp (config := {maxSteps := 4000000, implicitDefEqProofs := false}) (disch := omega) only [go_sem, hM]
    try rfl
  | true =>
    rw [h1] at hM
    have hn := mayS_nums h1
    have w1 : IntKind.i64.wrap (s.bytes - (weightT s.t : Int)) = s.bytes - (weightT s.t : Int) := w_i64 (by omega) (by omega)
    have w2 : IntKind.i64.wrap (s.keys - (countT s.t : Int)) = s.keys - (countT s.t : Int) := w_i64 (by omega) (by omega)
    simp (config := {maxSteps := 4000000, implicitDefEqProofs := false}) (disch := omega) only [go_sem, st_bytes, st_keys, hM, hW, hC, w1, w2]
    try rfl
def getR (s : St) (k : Bytes) : Item × Nat := if mayS s then (if keyB k then (if (getT s.t k).isSome then ((getT s.t k).getD Item.zero, 0) else (Item.zero, 6)) else (Item.zero, 3)) else (Item.zero, 1)
def valV (x : Item) : AV := .agg [V (.int .i64 x.kind), V (.int .i64 x.i), V (.string ⟨x.s.toArray⟩)]
theorem zcV0 : zc_api_Value = [V (.int .i64 0), V (.int .i64 0), V (.string ⟨#[]⟩)] := _root_.id rfl
theorem u_bV0 {R : Type} {K1 : AV → Option R} : buildE (some pl_api_Value) (some [V (.int .i64 0), V (.int .i64 0), V (.string ⟨#[]⟩)]) [] K1 = K1 (.agg [V (.int .i64 0), V (.int .i64 0), V (.string ⟨#[]⟩)]) := _root_.id rfl
theorem get_s (m : Nat) (s : St) (k : Bytes) (hm : 1000000 < m) (h : s.t.Ok) : store_Get m (stA s) (sA k) = some (TU [valV (getR s k).1, nA (getR s k).1.ver, nA (getR s k).2], []) := by
  rw [store_Get_eq]
  have hM := smay_s m s hm h
  have hK := key_Is_e m k
  have hG := trunk_Get_e m s.t k h
  rw [tA_def] at hG
  unfold getR valV
  rw [stA_def] at hM ⊢
  cases h1 : mayS s with
  | false =>
    rw [h1] at hM
    simp (config := {maxSteps := 4000000, implicitDefEqProofs := false}) (disch := omega) only [go_sem, hM, zcV0, u_bV0]
    try rfl
  | true =>
    rw [h1] at hM
    cases h2 : keyB k with
    | false =>
      rw [h2] at hK
      simp (config := {maxSteps := 4000000, implicitDefEqProofs := false}) (disch := omega) only [go_sem, hM, hK, zcV0, u_bV0]
      try rfl
    | true =>
      rw [h2] at hK
      cases h3 : (getT s.t k).isSome with
      | false =>
        rw [h3] at hG
        simp (config := {maxSteps := 4000000, implicitDefEqProofs := false}) (disch := omega) only [go_sem, hM, hK, hG, zcV0, u_bV0, iA_def, zcI0]
        try rfl
      | true =>
        rw [h3] at hG
        simp (config := {maxSteps := 4000000, implicitDefEqProofs := false}) (disch := omega) only [go_sem, hM, hK, hG, zcV0, u_bV0, iA_def, zcI0]
        try rfl
end Go.Proofs.YtoeajbhlkccekaaDoor

namespace Go.Proofs.YtoeajbhlkccekaaDoor
open Go.RowKit
set_option maxRecDepth 100000
noncomputable def plenumlaw13_awake_c : Code := (Tryd.f13.body).getD .skip
def plenumlaw13_awake_h : Hint := (.two .n (.two .n (.two .n (.two .n (.two .n (.two .n (.two .n (.two .n (.two .n .n)))))))))
noncomputable def plenumlaw13_awake_env (m : Nat) : Env := [(27, .tell (store_New_t m)), (45, .tell (plenumref07_Int_t m)), (10, .tell (store_TakeQ_t m)), (16, .tell (store_Get_t m)), (28, .tell (store_Room_t m)), (18, .tell (store_Undo_t m))]
noncomputable abbrev plenumlaw13_awake_fin : KO (AV × List AObj) := tellFK Tryd.prog [.tmp 0]
noncomputable def plenumlaw13_awake (m : Nat) : RO := exec Tryd.prog GG (plenumlaw13_awake_env m) m ⟨142, []⟩ plenumlaw13_awake_c plenumlaw13_awake_h ⟨[], argsT 0 []⟩ (plenumlaw13_awake_fin)
theorem plenumlaw13_awake_eq (m : Nat) : plenumlaw13_awake m =
  tellE (store_New m (V (.int .i64 10)) (V (.int .i64 2))) [(V (.int .i64 10)), (V (.int .i64 2))] fun t20 =>
  extE t20 0 fun t21 =>
  extE t20 1 fun t22 =>
  allocE (some zc_api_Store) ty_api_Store [] fun t1 H1 =>
  storeE 37 H1 t1 t21 fun H2 =>
  loadE 37 H2 t1 fun t24 =>
  tellE (plenumref07_Int m (V (.int .i64 1))) [(V (.int .i64 1))] fun t25 =>
  buildE (some pl_api_Edit) (some zc_api_Edit) [(0, (V (.string ⟨#[97]⟩))), (1, t25)] fun t26 =>
  tellE (plenumref07_Int m (V (.int .i64 2))) [(V (.int .i64 2))] fun t27 =>
  buildE (some pl_api_Edit) (some zc_api_Edit) [(0, (V (.string ⟨#[98]⟩))), (1, t27)] fun t28 =>
  buildSE (some (ty_api_Edit, 4)) 2 [(0, t26), (1, t28)] fun t29 =>
  tellE (store_TakeQ_t m [(ro H2 t24), (ro H2 t29)]) [(ro H2 t24), (ro H2 t29)] fun t30 =>
  extE t30 0 fun t31 =>
  extE t30 1 fun t32 =>
  extE t30 2 fun t33 =>
  allocE (some zc_api_Store) ty_api_Store H2 fun t3 H3 =>
  storeE 37 H3 t3 t31 fun H4 =>
  loadE 37 H4 t3 fun t35 =>
  tellE (store_Get m (ro H4 t35) (V (.string ⟨#[97]⟩))) [(ro H4 t35), (V (.string ⟨#[97]⟩))] fun t36 =>
  extE t36 0 fun t37 =>
  extE t36 1 fun t38 =>
  extE t36 2 fun t39 =>
  allocE (some zc_api_Value) ty_api_Value H4 fun t6 H5 =>
  storeE 5 H5 t6 t37 fun H6 =>
  loadE 37 H6 t3 fun t41 =>
  tellE (store_Room m (ro H6 t41)) [(ro H6 t41)] fun t42 =>
  extE t42 0 fun t43 =>
  extE t42 1 fun t44 =>
  loadE 37 H6 t3 fun t46 =>
  tellE (plenumref07_Int m (V (.int .i64 3))) [(V (.int .i64 3))] fun t47 =>
  buildE (some pl_api_Edit) (some zc_api_Edit) [(0, (V (.string ⟨#[99]⟩))), (1, t47)] fun t48 =>
  buildSE (some (ty_api_Edit, 4)) 1 [(0, t48)] fun t49 =>
  tellE (store_TakeQ_t m [(ro H6 t46), (ro H6 t49)]) [(ro H6 t46), (ro H6 t49)] fun t50 =>
  extE t50 0 fun t51 =>
  extE t50 1 fun t52 =>
  extE t50 2 fun t53 =>
  allocE (some zc_api_Store) ty_api_Store H6 fun t11 H7 =>
  storeE 37 H7 t11 t51 fun H8 =>
  loadE 37 H8 t3 fun t55 =>
  buildE (some pl_api_Edit) (some zc_api_Edit) [(0, (V (.string ⟨#[97]⟩)))] fun t56 =>
  tellE (plenumref07_Int m (V (.int .i64 3))) [(V (.int .i64 3))] fun t57 =>
  buildE (some pl_api_Edit) (some zc_api_Edit) [(0, (V (.string ⟨#[99]⟩))), (1, t57)] fun t58 =>
  buildSE (some (ty_api_Edit, 4)) 2 [(0, t56), (1, t58)] fun t59 =>
  tellE (store_TakeQ_t m [(ro H8 t55), (ro H8 t59)]) [(ro H8 t55), (ro H8 t59)] fun t60 =>
  extE t60 0 fun t61 =>
  extE t60 1 fun t62 =>
  extE t60 2 fun t63 =>
  allocE (some zc_api_Store) ty_api_Store H8 fun t14 H9 =>
  storeE 37 H9 t14 t61 fun H10 =>
  loadE 37 H10 t3 fun t65 =>
  loadE 37 H10 t14 fun t66 =>
  tellE (store_Undo m (ro H10 t65) (ro H10 t66)) [(ro H10 t65), (ro H10 t66)] fun t67 =>
  extE t67 0 fun t68 =>
  extE t67 1 fun t69 =>
  binE none false false .eql t22 (V (.int .i64 0)) fun t71 =>
  condE t71 (
   binE none false false .eql t32 (V (.int .i64 0)) fun t74 =>
   condE t74 (
   loadE 5 H10 t6 fun t77 =>
   tellE (plenumref07_Int m (V (.int .i64 1))) [(V (.int .i64 1))] fun t78 =>
   binE (some [.i .i64, .i .i64, .s]) false false .eql t77 t78 fun t79 =>
   condE t79 (
   binE none false false .eql t38 (V (.int .i64 1)) fun t83 =>
   condE t83 (
   binE none false false .eql t39 (V (.int .i64 0)) fun t87 =>
   condE t87 (
   binE none false false .eql t43 (V (.int .i64 4)) fun t91 =>
   condE t91 (
   binE none false false .eql t44 (V (.int .i64 0)) fun t95 =>
   condE t95 (
   binE none false false .eql t52 (V (.int .i64 17)) fun t99 =>
   condE t99 (
   binE none false false .eql t53 (V (.int .i64 1)) fun t103 =>
   condE t103 (
   binE none false false .eql t62 (V (.int .i64 0)) fun t107 =>
   condE t107 (
   fieldE (some (32, 1)) t14 fun t110 =>
   loadE 1 H10 t110 fun t111 =>
   binE none false false .eql t111 (V (.int .i64 2)) fun t112 =>
   condE t112 (
   lenE false true H10 t68 fun t116 =>
   binE none false false .eql t116 (V (.int .i64 2)) fun t117 =>
   condE t117 (
   idxSE 6 H10 t68 (V (.int .i64 0)) fun t121 =>
   loadE 6 H10 t121 fun t122 =>
   tellE (plenumref07_Int m (V (.int .i64 1))) [(V (.int .i64 1))] fun t123 =>
   buildE (some pl_api_Edit) (some zc_api_Edit) [(0, (V (.string ⟨#[97]⟩))), (1, t123)] fun t124 =>
   binE (some [.s, .i .i64, .i .i64, .s]) false false .eql t122 t124 fun t125 =>
   condE t125 (
   idxSE 6 H10 t68 (V (.int .i64 1)) fun t129 =>
   loadE 6 H10 t129 fun t130 =>
   buildE (some pl_api_Edit) (some zc_api_Edit) [(0, (V (.string ⟨#[99]⟩)))] fun t131 =>
   binE (some [.s, .i .i64, .i .i64, .s]) false false .eql t130 t131 fun t132 =>
   condE t132 (
   binE none false false .eql t69 (V (.int .i64 0)) fun t136 =>
   pickE t136 (V (.bool true)) (V (.bool false)) fun t139 =>
  pickE t139 (V (.bool true)) (V (.bool false)) fun t141 =>
  tellK H10 (ro H10 t141)) (
   tellK H10 (ro H10 (V (.bool false))))) (
   tellK H10 (ro H10 (V (.bool false))))) (
   tellK H10 (ro H10 (V (.bool false))))) (
   tellK H10 (ro H10 (V (.bool false))))) (
   tellK H10 (ro H10 (V (.bool false))))) (
   tellK H10 (ro H10 (V (.bool false))))) (
   tellK H10 (ro H10 (V (.bool false))))) (
   tellK H10 (ro H10 (V (.bool false))))) (
   tellK H10 (ro H10 (V (.bool false))))) (
   tellK H10 (ro H10 (V (.bool false))))) (
   tellK H10 (ro H10 (V (.bool false))))) (
   tellK H10 (ro H10 (V (.bool false))))) (
   tellK H10 (ro H10 (V (.bool false))))) (
   tellK H10 (ro H10 (V (.bool false)))) := by
  refine (tellX Tryd.prog GG (plenumlaw13_awake_env m) m ⟨142, []⟩ plenumlaw13_awake_c plenumlaw13_awake_h ⟨[], argsT 0 []⟩ [.tmp 0]).trans ?_
  kernel_rfl
noncomputable def plenumlaw13_awake_t (m : Nat) : List AV → RO | [] => plenumlaw13_awake m | _ => none
theorem plenumlaw13_awake_ok (m : Nat) : ∀ args X H', plenumlaw13_awake_t m args = some (X, H') → ACp Tryd.prog GG 13 args X := by
  intro args X H' h
  unfold plenumlaw13_awake_t at h
  split at h
  · exact tell_okK MIX (by
    intro f e h
    simp only [plenumlaw13_awake_env, Prod.mk.injEq, List.mem_cons, List.not_mem_nil, or_false] at h
    rcases h with ⟨rfl, rfl⟩ | ⟨rfl, rfl⟩ | ⟨rfl, rfl⟩ | ⟨rfl, rfl⟩ | ⟨rfl, rfl⟩ | ⟨rfl, rfl⟩
    · exact store_New_ok m
    · exact plenumref07_Int_ok m
    · exact store_TakeQ_ok m
    · exact store_Get_ok m
    · exact store_Room_ok m
    · exact store_Undo_ok m) (f := 13) (c := plenumlaw13_awake_c) Tryd.func13 rfl (by kernel_rfl) _ rfl Tryd.ntmps13 (Nat.le_of_ble_eq_true rfl) plenumlaw13_awake_h h
  · cases h
end Go.Proofs.YtoeajbhlkccekaaDoor

namespace Go.Proofs.YtoeajbhlkccekaaDoor
open Go.RowKit
set_option maxRecDepth 20000
theorem takeG_inv {v : Int} : ∀ (l : List Edt) (k : Nat) {t : Tr}, TInv t → (∀ x ∈ l, NumOk (x.it 0)) → TInv (takeG v k l t).1
  | [], k, t, h, _ => h
  | x :: r, k, t, h, hx => by
    unfold takeG
    split
    · rename_i he
      exact takeG_inv r (k + 1) (one_inv h (hx x (List.mem_cons_self ..)) he) fun y hy => hx y (List.mem_cons_of_mem _ hy)
    · exact h
theorem may_zero : mayT Tr.zero = true := by decide +kernel
theorem zero_inv : TInv Tr.zero := ⟨may_zero, fun i x hx => (by cases hx), fun i _ => rfl⟩
theorem takeS_inv {s : St} {l : List Edt} (h : mayT s.t = true → TInv s.t) (hx : ∀ x ∈ l, NumOk (x.it 0)) : TInv (takeS s l).1.t := by
  unfold takeS
  split
  · exact zero_inv
  · rename_i hb
    have hm : mayT s.t = true := by
      simp only [Bool.not_eq_false, Bool.and_eq_true] at hb
      exact (mayS_nums hb.1).2.2.2.2.2.2.1
    split
    · exact zero_inv
    · split
      · split
        · exact zero_inv
        · exact takeG_inv l 0 (h hm) hx
      · exact zero_inv
def S0 : St := newS 10 2
def l1 : List Edt := [⟨[97], 2, 1, []⟩, ⟨[98], 2, 2, []⟩]
def l2 : List Edt := [⟨[99], 2, 3, []⟩]
def l3 : List Edt := [⟨[97], 0, 0, []⟩, ⟨[99], 2, 3, []⟩]
def A1 : St := (takeS S0 l1).1
def B1 : St := (takeS A1 l3).1
theorem hx1 : ∀ x ∈ l1, NumOk (x.it 0) := by intro x hx; simp [l1] at hx; rcases hx with rfl | rfl <;> (constructor <;> decide)
theorem hx2 : ∀ x ∈ l2, NumOk (x.it 0) := by intro x hx; simp [l2] at hx; subst hx; (constructor <;> decide)
theorem hx3 : ∀ x ∈ l3, NumOk (x.it 0) := by intro x hx; simp [l3] at hx; rcases hx with rfl | rfl <;> (constructor <;> decide)
theorem invA : TInv A1.t := takeS_inv (fun _ => zero_inv) hx1
theorem invB : TInv B1.t := takeS_inv (fun _ => invA) hx3
theorem t1_e : (takeS S0 l1).2 = (0, 0) := by decide +kernel
theorem t2_e : (takeS A1 l2).2 = (17, 1) := by decide +kernel
theorem t3_e : (takeS A1 l3).2 = (0, 0) := by decide +kernel
theorem b_ver : B1.ver = 2 := by decide +kernel
theorem new_e : (newR 10 2) = (S0, 0) := by
  unfold newR
  rw [if_pos (by decide +kernel)]
  rfl
theorem room_e : roomR A1 = (4, 0) := by decide +kernel
theorem may_A : mayS A1 = true := by decide +kernel
theorem may_B : mayS B1 = true := by decide +kernel
theorem get_e : (getR A1 [97]).2 = 0 ∧ (getR A1 [97]).1.kind = 2 ∧ (getR A1 [97]).1.i = 1 ∧ (getR A1 [97]).1.s = [] ∧ (getR A1 [97]).1.ver = 1 := by decide +kernel
theorem undo_e : undoR A1 B1 = [⟨[97], 2, 1, []⟩, ⟨[99], 0, 0, []⟩] := by kernel_rfl
theorem u_eqE2 {R : Type} {K1 : AV → Option R} {k : ByteArray} {a b : Int} {s : ByteArray} {isB sl : Bool} : binE (some [.s, .i .i64, .i .i64, .s]) isB sl .eql (.agg [V (.string k), V (.int .i64 a), V (.int .i64 b), V (.string s)]) (.agg [V (.string k), V (.int .i64 a), V (.int .i64 b), V (.string s)]) K1 = K1 (bA true) := by
  show K1 (bA (decide (k.data.toList = k.data.toList) && (decide (a = a) && (decide (b = b) && (decide (s.data.toList = s.data.toList) && true))))) = _
  simp
theorem u_bsE2 {R : Type} {K1 : AV → Option R} {a b c d e f g h : Value} : buildSE (some (ty_api_Edit, 4)) 2 [(0, .agg [V a, V b, V c, V d]), (1, .agg [V e, V f, V g, V h])] K1 = K1 (SL [.agg [V a, V b, V c, V d], .agg [V e, V f, V g, V h]]) := _root_.id rfl
theorem u_bsE1 {R : Type} {K1 : AV → Option R} {a b c d : Value} : buildSE (some (ty_api_Edit, 4)) 1 [(0, .agg [V a, V b, V c, V d])] K1 = K1 (SL [.agg [V a, V b, V c, V d]]) := _root_.id rfl
theorem awake13_s (m : Nat) (hm : 40000000 < m) : plenumlaw13_awake m = some (bA true, []) := by
  rw [plenumlaw13_awake_eq]
  have hN : store_New m (nA 10) (nA 2) = some (TU [.agg (stC S0), nA 0], []) := by
    have := new_s m 10 2 (by omega)
    rw [new_e] at this
    exact this
  have hT1 : store_TakeQ_t m [.agg (stC S0), SL [.agg [V (.string ⟨#[97]⟩), V (.int .i64 2), V (.int .i64 1), V (.string ⟨#[]⟩)], .agg [V (.string ⟨#[98]⟩), V (.int .i64 2), V (.int .i64 2), V (.string ⟨#[]⟩)]]] = some (TU [.agg (stC A1), nA 0, nA 0], []) := by
    have := store_TakeQ_e m S0 l1 zero_inv.ok (fun _ => zero_inv) hx1 (by decide)
    rw [show takeS S0 l1 = (A1, 0, 0) from Prod.ext rfl t1_e] at this
    exact this
  obtain ⟨C1, hT2⟩ : ∃ C1 : St, store_TakeQ_t m [.agg (stC A1), SL [.agg [V (.string ⟨#[99]⟩), V (.int .i64 2), V (.int .i64 3), V (.string ⟨#[]⟩)]]] = some (TU [.agg (stC C1), nA 17, nA 1], []) := by
    have := store_TakeQ_e m A1 l2 invA.ok (fun _ => invA) hx2 (by decide)
    rw [show takeS A1 l2 = ((takeS A1 l2).1, 17, 1) from Prod.ext rfl t2_e] at this
    exact ⟨_, this⟩
  have hT3 : store_TakeQ_t m [.agg (stC A1), SL [.agg [V (.string ⟨#[97]⟩), V (.int .i64 0), V (.int .i64 0), V (.string ⟨#[]⟩)], .agg [V (.string ⟨#[99]⟩), V (.int .i64 2), V (.int .i64 3), V (.string ⟨#[]⟩)]]] = some (TU [.agg (stC B1), nA 0, nA 0], []) := by
    have := store_TakeQ_e m A1 l3 invA.ok (fun _ => invA) hx3 (by decide)
    rw [show takeS A1 l3 = (B1, 0, 0) from Prod.ext rfl t3_e] at this
    exact this
  have hR : store_Room m (.agg (stC A1)) = some (TU [nA 4, nA 0], []) := by
    have := room_s m A1 (by omega) invA.ok
    rw [room_e] at this
    exact this
  have hG : store_Get m (.agg (stC A1)) (V (.string ⟨#[97]⟩)) = some (TU [.agg [V (.int .i64 2), V (.int .i64 1), V (.string ⟨#[]⟩)], nA 1, nA 0], []) := by
    have h := get_s m A1 [97] (by omega) invA.ok
    obtain ⟨g1, g2, g3, g4, g5⟩ := get_e
    unfold valV at h
    rw [g1, g2, g3, g4, g5] at h
    exact h
  have hU : store_Undo m (.agg (stC A1)) (.agg (stC B1)) = some (TU [SL [.agg [V (.string ⟨#[97]⟩), V (.int .i64 2), V (.int .i64 1), V (.string ⟨#[]⟩)], .agg [V (.string ⟨#[99]⟩), V (.int .i64 0), V (.int .i64 0), V (.string ⟨#[]⟩)]], nA 0], []) := by
    have := undo_s m A1 B1 hm invA.ok invB.ok
    rw [undo_e, may_A, may_B] at this
    exact this
  have i1 := rint_s m 1
  have i2 := rint_s m 2
  have i3 := rint_s m 3
  have hbv := b_ver
  generalize A1 = A at *
  generalize B1 = B at *
  simp (config := {maxSteps := 4000000, implicitDefEqProofs := false}) (disch := omega) only [go_sem, tC_len, tC_sure, tC_ltA, tC_lt1, tC_ro, tC_take, tC_all1, zcT_eq, zcI_len, zC_len, zC_ltA, zC_lt1, zC_sure, zC_ro, zC_take, set_tl, set_tv, sc_tt, sc_zt, sc_tz, sc_zz, add16, tA_def, lA_def, natInt, u_tl, u_tv, hN, hT1, hT2, hT3, hR, hG, hU, i1, i2, i3, zcS_eq, zS_len, zS_sure, zS_take, zS_ltA, st_take35, stC_len, st_sure, st_ltA, st_ro, st_lt1, ss_zs, u_bE1, u_bE0, u_bsE2, u_bsE1, zcV0, hbv, st_ver, u_eqE2]
  rfl
end Go.Proofs.YtoeajbhlkccekaaDoor

namespace Go.Proofs.YtoeajbhlkccekaaDoor
open Go.RowKit
set_option maxRecDepth 100000
noncomputable def plenumlaw13_StoreAll_c : Code := (Tryd.f4.body).getD .skip
def plenumlaw13_StoreAll_h : Hint := (.two .n (.two .n (.two .n (.two (.two .n (.two (.two .n .n) .n)) (.two .n (.two .n (.two .n (.join [2, 3, 7, 10, 12, 13, 14, 15, 16, 17, 18] (.two .n (.one (.lp [] [1, 2, 3, 7, 10, 12, 13, 14, 15, 16, 17, 18, 19] [2, 3, 7, 10, 12, 13, 14, 15, 16, 17, 18] (.two (.two .n (.two .n .n)) (.join [1, 2, 3, 7, 10, 12, 13, 14, 15, 16, 17, 18, 19] (.one (.two .n (.two (.two .n (.two .n (.two .n .n))) .n))) .n))))) (.join [2, 3, 7, 10, 12] (.join [2, 3, 7, 10, 12, 114] .n (.two (.two .n .n) .n)) (.two .n (.two .n (.join [2, 10, 12, 22] (.join [2, 7, 10, 12, 21, 22, 23, 133] .n (.two (.two .n .n) .n)) (.two .n (.two .n .n))))))))))))))
noncomputable def plenumlaw13_StoreAll_env (m : Nat) : Env := [(8, .tell (plenumlaw13_Few_t m)), (9, .tell (plenumlaw13_edits_t m)), (14, .tell (plenumlaw13_short_t m)), (10, .tell (store_TakeQ_t m)), (15, .tell (plenumlaw13_none_t m)), (13, .tell (plenumlaw13_awake_t m)), (16, .tell (store_Get_t m)), (17, .tell (store_May_t m)), (18, .tell (store_Undo_t m))]
noncomputable abbrev plenumlaw13_StoreAll_fin : KO (AV × List AObj) := tellFK Tryd.prog [.tmp 6]
noncomputable def plenumlaw13_StoreAll_r6 (m : Nat) (s : ASt) : RO := joinW Tryd.prog GG (plenumlaw13_StoreAll_env m) m ⟨166, []⟩ (cdR (cdR (cdR (cdR (cdR (cdR (cdR (cdR (cdR (cdR (cdR (cdR plenumlaw13_StoreAll_c)))))))))))) plenumlaw13_StoreAll_h.r.r.r.r.r.r.r.r.r.r.r.r s (plenumlaw13_StoreAll_fin)
noncomputable def plenumlaw13_StoreAll_r5 (m : Nat) (s : ASt) : RO := joinW Tryd.prog GG (plenumlaw13_StoreAll_env m) m ⟨166, []⟩ (cdR (cdL (cdR (cdR (cdR (cdR (cdR (cdR (cdR (cdR (cdR (cdR (cdR plenumlaw13_StoreAll_c))))))))))))) plenumlaw13_StoreAll_h.r.r.r.r.r.r.r.r.r.r.r.l.r s (seqX (fun s => plenumlaw13_StoreAll_r6 m ⟨s.H, [(2, gt s.T 2), (10, gt s.T 10), (12, gt s.T 12), (22, gt s.T 22)]⟩) (plenumlaw13_StoreAll_fin))
noncomputable def plenumlaw13_StoreAll_r4 (m : Nat) (s : ASt) : RO := joinW Tryd.prog GG (plenumlaw13_StoreAll_env m) m ⟨166, []⟩ (cdR (cdR (cdR (cdR (cdR (cdR (cdR (cdR (cdR plenumlaw13_StoreAll_c))))))))) plenumlaw13_StoreAll_h.r.r.r.r.r.r.r.r.r s (plenumlaw13_StoreAll_fin)
noncomputable def plenumlaw13_StoreAll_r3 (m : Nat) (s : ASt) : RO := joinW Tryd.prog GG (plenumlaw13_StoreAll_env m) m ⟨166, []⟩ (cdR (cdL (cdR (cdR (cdR (cdR (cdR (cdR (cdR (cdR plenumlaw13_StoreAll_c)))))))))) plenumlaw13_StoreAll_h.r.r.r.r.r.r.r.r.l.r s (seqX (fun s => plenumlaw13_StoreAll_r4 m ⟨s.H, [(2, gt s.T 2), (3, gt s.T 3), (7, gt s.T 7), (10, gt s.T 10), (12, gt s.T 12)]⟩) (plenumlaw13_StoreAll_fin))
noncomputable def plenumlaw13_StoreAll_r2 (m : Nat) (n0 : Nat) (kc : ASt → RO) (kx : KO (AV × List AObj)) (s : ASt) : RO := joinW Tryd.prog GG (plenumlaw13_StoreAll_env m) m ⟨166, []⟩ (cdR (cdR (cdL (cdL (cdR (cdL (cdR (cdR (cdR (cdR (cdR (cdR (cdR plenumlaw13_StoreAll_c))))))))))))) plenumlaw13_StoreAll_h.r.r.r.r.r.r.r.l.r.c.c.r.r s (backW n0 [1, 2, 3, 7, 10, 12, 13, 14, 15, 16, 17, 18, 19] [2, 3, 7, 10, 12, 13, 14, 15, 16, 17, 18] kc kx)
noncomputable def plenumlaw13_StoreAll_r1 (m : Nat) (s : ASt) : RO := joinW Tryd.prog GG (plenumlaw13_StoreAll_env m) m ⟨166, []⟩ (cdR (cdR (cdR (cdR (cdR (cdR (cdR (cdR plenumlaw13_StoreAll_c)))))))) plenumlaw13_StoreAll_h.r.r.r.r.r.r.r.r s (plenumlaw13_StoreAll_fin)
noncomputable def plenumlaw13_StoreAll_b1 (m : Nat) (s : ASt) (kc : ASt → RO) (kx : KO (AV × List AObj)) : RO := bodyW Tryd.prog GG (plenumlaw13_StoreAll_env m) m ⟨166, []⟩ (cdL (cdL (cdR (cdL (cdR (cdR (cdR (cdR (cdR (cdR (cdR plenumlaw13_StoreAll_c))))))))))) plenumlaw13_StoreAll_h.r.r.r.r.r.r.r.l.r.c.c [1, 2, 3, 7, 10, 12, 13, 14, 15, 16, 17, 18, 19] [2, 3, 7, 10, 12, 13, 14, 15, 16, 17, 18] s kc kx
noncomputable def plenumlaw13_StoreAll (m : Nat) (t0 t1 t2 : AV) : RO := exec Tryd.prog GG (plenumlaw13_StoreAll_env m) m ⟨166, []⟩ plenumlaw13_StoreAll_c plenumlaw13_StoreAll_h ⟨[], argsT 0 [t0, t1, t2]⟩ (plenumlaw13_StoreAll_fin)
theorem plenumlaw13_StoreAll_r6_eq (m : Nat) (H : List AObj) (t2 t10 t12 t22 : AV) : plenumlaw13_StoreAll_r6 m ⟨H, [(2, t2), (10, t10), (12, t12), (22, t22)]⟩ =
  loadE 37 H t22 fun t149 =>
  tellE (store_Get m (ro H t149) (ro H t2)) [(ro H t149), (ro H t2)] fun t151 =>
  extE t151 0 fun t152 =>
  extE t151 1 fun t153 =>
  extE t151 2 fun t154 =>
  allocE (some zc_api_Value) ty_api_Value H fun t25 H2 =>
  storeE 5 H2 t25 t152 fun H3 =>
  loadE 5 H3 t25 fun t155 =>
  loadE 5 H3 t10 fun t156 =>
  binE (some [.i .i64, .i .i64, .s]) false false .eql t155 t156 fun t157 =>
  condE t157 (
   binE none false false .eql t154 t12 fun t161 =>
   condE t161 (
   tellE (plenumlaw13_awake m) [] fun t164 =>
   tellK H3 (ro H3 t164)) (
   tellK H3 (ro H3 (V (.bool false))))) (
   tellK H3 (ro H3 (V (.bool false)))) := by
  refine (joinW_eq Tryd.prog GG (plenumlaw13_StoreAll_env m) m ⟨166, []⟩ (cdR (cdR (cdR (cdR (cdR (cdR (cdR (cdR (cdR (cdR (cdR (cdR plenumlaw13_StoreAll_c)))))))))))) plenumlaw13_StoreAll_h.r.r.r.r.r.r.r.r.r.r.r.r ⟨H, [(2, t2), (10, t10), (12, t12), (22, t22)]⟩ (plenumlaw13_StoreAll_fin)).trans ?_
  kernel_rfl
theorem plenumlaw13_StoreAll_r5_eq (m : Nat) (H : List AObj) (t2 t7 t10 t12 t21 t22 t23 t133 : AV) : plenumlaw13_StoreAll_r5 m ⟨H, [(2, t2), (7, t7), (10, t10), (12, t12), (21, t21), (22, t22), (23, t23), (133, t133)]⟩ =
  condE t133 (
   binE none false false .eql t21 (V (.int .i64 0)) fun t135 =>
   condE t135 (
    fieldE (some (32, 1)) t7 fun t137 =>
    loadE 1 H t137 fun t138 =>
    binE none false false .eql t138 (V (.int .i64 2147483647)) fun t139 =>
    condE t139 (
    tellE (plenumlaw13_awake m) [] fun t146 =>
    tellK H (ro H t146)) (
    binE none false false .eql t23 (V (.int .i64 5)) fun t142 =>
    condE t142 (
    tellE (plenumlaw13_awake m) [] fun t146 =>
    tellK H (ro H t146)) (
    tellK H (ro H (V (.bool false)))))) (
    tellK H (ro H (V (.bool false))))) (
   plenumlaw13_StoreAll_r6 m ⟨H, [(2, t2), (10, t10), (12, t12), (22, t22)]⟩) := by
  refine (joinW_eq Tryd.prog GG (plenumlaw13_StoreAll_env m) m ⟨166, []⟩ (cdR (cdL (cdR (cdR (cdR (cdR (cdR (cdR (cdR (cdR (cdR (cdR (cdR plenumlaw13_StoreAll_c))))))))))))) plenumlaw13_StoreAll_h.r.r.r.r.r.r.r.r.r.r.r.l.r ⟨H, [(2, t2), (7, t7), (10, t10), (12, t12), (21, t21), (22, t22), (23, t23), (133, t133)]⟩ (seqX (fun s => plenumlaw13_StoreAll_r6 m ⟨s.H, [(2, gt s.T 2), (10, gt s.T 10), (12, gt s.T 12), (22, gt s.T 22)]⟩) (plenumlaw13_StoreAll_fin))).trans ?_
  kernel_rfl
theorem plenumlaw13_StoreAll_r4_eq (m : Nat) (H : List AObj) (t2 t3 t7 t10 t12 : AV) : plenumlaw13_StoreAll_r4 m ⟨H, [(2, t2), (3, t3), (7, t7), (10, t10), (12, t12)]⟩ =
  loadE 37 H t3 fun t116 =>
  loadE 37 H t7 fun t117 =>
  tellE (store_Undo m (ro H t116) (ro H t117)) [(ro H t116), (ro H t117)] fun t118 =>
  extE t118 0 fun t119 =>
  extE t118 1 fun t120 =>
  loadE 37 H t7 fun t122 =>
  tellE (store_TakeQ_t m [(ro H t122), (ro H t119)]) [(ro H t122), (ro H t119)] fun t124 =>
  extE t124 0 fun t125 =>
  extE t124 1 fun t126 =>
  extE t124 2 fun t127 =>
  allocE (some zc_api_Store) ty_api_Store H fun t22 H2 =>
  storeE 37 H2 t22 t125 fun H3 =>
  binE none false false .neq t120 (V (.int .i64 0)) fun t129 =>
  condE t129 (
   plenumlaw13_StoreAll_r5 m ⟨H3, [(2, t2), (7, t7), (10, t10), (12, t12), (21, t120), (22, t22), (23, t126), (133, (V (.bool true)))]⟩) (
   binE none false false .neq t126 (V (.int .i64 0)) fun t132 =>
   plenumlaw13_StoreAll_r5 m ⟨H3, [(2, t2), (7, t7), (10, t10), (12, t12), (21, t120), (22, t22), (23, t126), (133, t132)]⟩) := by
  refine (joinW_eq Tryd.prog GG (plenumlaw13_StoreAll_env m) m ⟨166, []⟩ (cdR (cdR (cdR (cdR (cdR (cdR (cdR (cdR (cdR plenumlaw13_StoreAll_c))))))))) plenumlaw13_StoreAll_h.r.r.r.r.r.r.r.r.r ⟨H, [(2, t2), (3, t3), (7, t7), (10, t10), (12, t12)]⟩ (plenumlaw13_StoreAll_fin)).trans ?_
  kernel_rfl
theorem plenumlaw13_StoreAll_r3_eq (m : Nat) (H : List AObj) (t2 t3 t7 t10 t12 t114 : AV) : plenumlaw13_StoreAll_r3 m ⟨H, [(2, t2), (3, t3), (7, t7), (10, t10), (12, t12), (114, t114)]⟩ =
  condE t114 (
   tellK H (ro H (V (.bool false)))) (
   plenumlaw13_StoreAll_r4 m ⟨H, [(2, t2), (3, t3), (7, t7), (10, t10), (12, t12)]⟩) := by
  refine (joinW_eq Tryd.prog GG (plenumlaw13_StoreAll_env m) m ⟨166, []⟩ (cdR (cdL (cdR (cdR (cdR (cdR (cdR (cdR (cdR (cdR plenumlaw13_StoreAll_c)))))))))) plenumlaw13_StoreAll_h.r.r.r.r.r.r.r.r.l.r ⟨H, [(2, t2), (3, t3), (7, t7), (10, t10), (12, t12), (114, t114)]⟩ (seqX (fun s => plenumlaw13_StoreAll_r4 m ⟨s.H, [(2, gt s.T 2), (3, gt s.T 3), (7, gt s.T 7), (10, gt s.T 10), (12, gt s.T 12)]⟩) (plenumlaw13_StoreAll_fin))).trans ?_
  kernel_rfl
theorem plenumlaw13_StoreAll_r2_eq (m : Nat) (n0 : Nat) (kc : ASt → RO) (kx : KO (AV × List AObj)) (H : List AObj) (t1 t2 t3 t7 t10 t12 t13 t14 t15 t16 t17 t18 t19 : AV) : plenumlaw13_StoreAll_r2 m n0 kc kx ⟨H, [(1, t1), (2, t2), (3, t3), (7, t7), (10, t10), (12, t12), (13, t13), (14, t14), (15, t15), (16, t16), (17, t17), (18, t18), (19, t19)]⟩ =
  binE none false false .add t19 (V (.int .i64 1)) fun t70 =>
  backE n0 H [(1, t1), (2, t2), (3, t3), (7, t7), (10, t10), (12, t12), (13, t13), (14, t14), (15, t15), (16, t16), (17, t17), (18, t18), (19, t70)] kc := by
  refine (joinW_eq Tryd.prog GG (plenumlaw13_StoreAll_env m) m ⟨166, []⟩ (cdR (cdR (cdL (cdL (cdR (cdL (cdR (cdR (cdR (cdR (cdR (cdR (cdR plenumlaw13_StoreAll_c))))))))))))) plenumlaw13_StoreAll_h.r.r.r.r.r.r.r.l.r.c.c.r.r ⟨H, [(1, t1), (2, t2), (3, t3), (7, t7), (10, t10), (12, t12), (13, t13), (14, t14), (15, t15), (16, t16), (17, t17), (18, t18), (19, t19)]⟩ (backW n0 [1, 2, 3, 7, 10, 12, 13, 14, 15, 16, 17, 18, 19] [2, 3, 7, 10, 12, 13, 14, 15, 16, 17, 18] kc kx)).trans ?_
  kernel_rfl
theorem plenumlaw13_StoreAll_r1_eq (m : Nat) (H : List AObj) (t2 t3 t7 t10 t12 t13 t14 t15 t16 t17 t18 : AV) : plenumlaw13_StoreAll_r1 m ⟨H, [(2, t2), (3, t3), (7, t7), (10, t10), (12, t12), (13, t13), (14, t14), (15, t15), (16, t16), (17, t17), (18, t18)]⟩ =
  loadE 5 H t13 fun t89 =>
  loadE 5 H t16 fun t90 =>
  binE (some [.i .i64, .i .i64, .s]) false false .neq t89 t90 fun t91 =>
  condE t91 (
   plenumlaw13_StoreAll_r3 m ⟨H, [(2, t2), (3, t3), (7, t7), (10, t10), (12, t12), (114, (V (.bool true)))]⟩) (
   binE none false false .neq t14 t17 fun t95 =>
   condE t95 (
   plenumlaw13_StoreAll_r3 m ⟨H, [(2, t2), (3, t3), (7, t7), (10, t10), (12, t12), (114, (V (.bool true)))]⟩) (
   binE none false false .neq t15 t18 fun t100 =>
   condE t100 (
   plenumlaw13_StoreAll_r3 m ⟨H, [(2, t2), (3, t3), (7, t7), (10, t10), (12, t12), (114, (V (.bool true)))]⟩) (
   fieldE (some (32, 1)) t7 fun t103 =>
   loadE 1 H t103 fun t104 =>
   fieldE (some (32, 1)) t3 fun t105 =>
   loadE 1 H t105 fun t106 =>
   binE none false false .add t106 (V (.int .i64 1)) fun t107 =>
   binE none false false .neq t104 t107 fun t108 =>
   condE t108 (
   plenumlaw13_StoreAll_r3 m ⟨H, [(2, t2), (3, t3), (7, t7), (10, t10), (12, t12), (114, (V (.bool true)))]⟩) (
   loadE 37 H t7 fun t111 =>
   tellE (store_May m (ro H t111)) [(ro H t111)] fun t112 =>
   unE .not t112 fun t113 =>
   plenumlaw13_StoreAll_r3 m ⟨H, [(2, t2), (3, t3), (7, t7), (10, t10), (12, t12), (114, t113)]⟩)))) := by
  refine (joinW_eq Tryd.prog GG (plenumlaw13_StoreAll_env m) m ⟨166, []⟩ (cdR (cdR (cdR (cdR (cdR (cdR (cdR (cdR plenumlaw13_StoreAll_c)))))))) plenumlaw13_StoreAll_h.r.r.r.r.r.r.r.r ⟨H, [(2, t2), (3, t3), (7, t7), (10, t10), (12, t12), (13, t13), (14, t14), (15, t15), (16, t16), (17, t17), (18, t18)]⟩ (plenumlaw13_StoreAll_fin)).trans ?_
  kernel_rfl
theorem plenumlaw13_StoreAll_b1_eq (m : Nat) (H : List AObj) (t1 t2 t3 t7 t10 t12 t13 t14 t15 t16 t17 t18 t19 : AV) (kc : ASt → RO) (kx : KO (AV × List AObj)) : plenumlaw13_StoreAll_b1 m ⟨H, [(1, t1), (2, t2), (3, t3), (7, t7), (10, t10), (12, t12), (13, t13), (14, t14), (15, t15), (16, t16), (17, t17), (18, t18), (19, t19)]⟩ kc kx =
  lenE false true H t1 fun t67 =>
  binE none false false .lss t19 t67 fun t68 =>
  condE t68 (
   idxSE 6 H t1 t19 fun t73 =>
   fieldE (some (0, 1)) t73 fun t74 =>
   loadE 1 H t74 fun t75 =>
   binE none false false .eql t75 t2 fun t77 =>
   condE t77 (
    idxSE 6 H t1 t19 fun t80 =>
    fieldE (some (1, 5)) t80 fun t81 =>
    loadE 5 H t81 fun t82 =>
    fieldE (some (32, 1)) t7 fun t83 =>
    loadE 1 H t83 fun t84 =>
    storeE 5 H t16 t82 fun H2 =>
    loadE 1 H2 t83 fun t8029 =>
    eqE t84 t8029 (
    fieldE (some (0, 1)) t16 fun t85 =>
    loadE 1 H2 t85 fun t86 =>
    binE none false false .eql t86 (V (.int .i64 0)) fun t87 =>
    condE t87 (
     buildE (some pl_api_Value) (some zc_api_Value) [] fun t88 =>
     storeE 5 H2 t16 t88 fun H3 =>
     plenumlaw13_StoreAll_r2 m H.length kc kx ⟨H3, [(1, t1), (2, t2), (3, t3), (7, t7), (10, t10), (12, t12), (13, t13), (14, t14), (15, t15), (16, t16), (17, (V (.int .i64 0))), (18, (V (.int .i64 6))), (19, t19)]⟩) (
     plenumlaw13_StoreAll_r2 m H.length kc kx ⟨H2, [(1, t1), (2, t2), (3, t3), (7, t7), (10, t10), (12, t12), (13, t13), (14, t14), (15, t15), (16, t16), (17, t84), (18, (V (.int .i64 0))), (19, t19)]⟩))) (
    plenumlaw13_StoreAll_r2 m H.length kc kx ⟨H, [(1, t1), (2, t2), (3, t3), (7, t7), (10, t10), (12, t12), (13, t13), (14, t14), (15, t15), (16, t16), (17, t17), (18, t18), (19, t19)]⟩)) (
   kx (.exit 0) ⟨H, [(2, t2), (3, t3), (7, t7), (10, t10), (12, t12), (13, t13), (14, t14), (15, t15), (16, t16), (17, t17), (18, t18)]⟩) := by
  refine (bodyW_eq Tryd.prog GG (plenumlaw13_StoreAll_env m) m ⟨166, []⟩ (cdL (cdL (cdR (cdL (cdR (cdR (cdR (cdR (cdR (cdR (cdR plenumlaw13_StoreAll_c))))))))))) plenumlaw13_StoreAll_h.r.r.r.r.r.r.r.l.r.c.c [1, 2, 3, 7, 10, 12, 13, 14, 15, 16, 17, 18, 19] [2, 3, 7, 10, 12, 13, 14, 15, 16, 17, 18] ⟨H, [(1, t1), (2, t2), (3, t3), (7, t7), (10, t10), (12, t12), (13, t13), (14, t14), (15, t15), (16, t16), (17, t17), (18, t18), (19, t19)]⟩ kc kx).trans ?_
  kernel_rfl
theorem plenumlaw13_StoreAll_eq (m : Nat) (t0 t1 t2 : AV) : plenumlaw13_StoreAll m t0 t1 t2 =
  boxE ty_api_Store [] t0 fun t3 H1 =>
  loadE 37 H1 t3 fun t28 =>
  tellE (plenumlaw13_Few m (ro H1 t28)) [(ro H1 t28)] fun t29 =>
  tellE (plenumlaw13_edits m (ro H1 t1)) [(ro H1 t1)] fun t31 =>
  tellE (plenumlaw13_short m (ro H1 t2)) [(ro H1 t2)] fun t33 =>
  storeE 37 H1 t3 t29 fun H2 =>
  loadE 37 H2 t3 fun t35 =>
  tellE (store_TakeQ_t m [(ro H2 t35), (ro H2 t31)]) [(ro H2 t35), (ro H2 t31)] fun t37 =>
  extE t37 0 fun t38 =>
  extE t37 1 fun t39 =>
  extE t37 2 fun t40 =>
  allocE (some zc_api_Store) ty_api_Store H2 fun t7 H3 =>
  storeE 37 H3 t7 t38 fun H4 =>
  binE none false false .neq t39 (V (.int .i64 0)) fun t42 =>
  condE t42 (
   loadE 37 H4 t7 fun t43 =>
   tellE (plenumlaw13_none m (ro H4 t43)) [(ro H4 t43)] fun t44 =>
   condE t44 (
    tellE (plenumlaw13_awake m) [] fun t46 =>
    tellK H4 (ro H4 t46)) (
    tellK H4 (ro H4 (V (.bool false))))) (
   loadE 37 H4 t3 fun t49 =>
   tellE (store_Get m (ro H4 t49) (ro H4 t33)) [(ro H4 t49), (ro H4 t33)] fun t51 =>
   extE t51 0 fun t52 =>
   extE t51 1 fun t53 =>
   extE t51 2 fun t54 =>
   allocE (some zc_api_Value) ty_api_Value H4 fun t10 H5 =>
   storeE 5 H5 t10 t52 fun H6 =>
   loadE 37 H6 t7 fun t56 =>
   tellE (store_Get m (ro H6 t56) (ro H6 t33)) [(ro H6 t56), (ro H6 t33)] fun t58 =>
   extE t58 0 fun t59 =>
   extE t58 1 fun t60 =>
   extE t58 2 fun t61 =>
   allocE (some zc_api_Value) ty_api_Value H6 fun t13 H7 =>
   storeE 5 H7 t13 t59 fun H8 =>
   loadE 5 H8 t10 fun t62 =>
   allocE (some zc_api_Value) ty_api_Value H8 fun t16 H9 =>
   storeE 5 H9 t16 t62 fun H10 =>
   iterC m (plenumlaw13_StoreAll_b1 m) ⟨H10, [(1, t31), (2, t33), (3, t3), (7, t7), (10, t10), (12, t54), (13, t13), (14, t60), (15, t61), (16, t16), (17, t53), (18, t54), (19, (V (.int .i64 0)))]⟩ (blockX 0 (seqX (fun s => plenumlaw13_StoreAll_r1 m ⟨s.H, [(2, gt s.T 2), (3, gt s.T 3), (7, gt s.T 7), (10, gt s.T 10), (12, gt s.T 12), (13, gt s.T 13), (14, gt s.T 14), (15, gt s.T 15), (16, gt s.T 16), (17, gt s.T 17), (18, gt s.T 18)]⟩) (plenumlaw13_StoreAll_fin)))) := by
  refine (tellX Tryd.prog GG (plenumlaw13_StoreAll_env m) m ⟨166, []⟩ plenumlaw13_StoreAll_c plenumlaw13_StoreAll_h ⟨[], argsT 0 [t0, t1, t2]⟩ [.tmp 6]).trans ?_
  kernel_rfl
noncomputable def plenumlaw13_StoreAll_t (m : Nat) : List AV → RO | [t0, t1, t2] => plenumlaw13_StoreAll m t0 t1 t2 | _ => none
theorem plenumlaw13_StoreAll_ok (m : Nat) : ∀ args X H', plenumlaw13_StoreAll_t m args = some (X, H') → ACp Tryd.prog GG 4 args X := by
  intro args X H' h
  unfold plenumlaw13_StoreAll_t at h
  split at h
  · exact tell_okK MIX (by
    intro f e h
    simp only [plenumlaw13_StoreAll_env, Prod.mk.injEq, List.mem_cons, List.not_mem_nil, or_false] at h
    rcases h with ⟨rfl, rfl⟩ | ⟨rfl, rfl⟩ | ⟨rfl, rfl⟩ | ⟨rfl, rfl⟩ | ⟨rfl, rfl⟩ | ⟨rfl, rfl⟩ | ⟨rfl, rfl⟩ | ⟨rfl, rfl⟩ | ⟨rfl, rfl⟩
    · exact plenumlaw13_Few_ok m
    · exact plenumlaw13_edits_ok m
    · exact plenumlaw13_short_ok m
    · exact store_TakeQ_ok m
    · exact plenumlaw13_none_ok m
    · exact plenumlaw13_awake_ok m
    · exact store_Get_ok m
    · exact store_May_ok m
    · exact store_Undo_ok m) (f := 4) (c := plenumlaw13_StoreAll_c) Tryd.func4 rfl (by kernel_rfl) _ rfl Tryd.ntmps4 (Nat.le_of_ble_eq_true rfl) plenumlaw13_StoreAll_h h
  · cases h
end Go.Proofs.YtoeajbhlkccekaaDoor

namespace Go.Proofs.YtoeajbhlkccekaaDoor
open Go.RowKit
set_option maxRecDepth 20000
attribute [local go_sem] tC_len tC_sure tC_ltA tC_lt1 tC_ro tC_take tC_all1 zcT_eq zcI_len zC_len zC_ltA zC_lt1 zC_sure zC_ro zC_take set_tl set_tv sc_tt sc_zt sc_tz sc_zz add16 tA_def lA_def natInt u_tl u_tv st_take35 st_take stC_len st_sure st_ltA st_lt1 st_ro zcS_eq zS_len zS_sure zS_take zS_ltA zS_ro zS_all1 ss_zs ss_zz u_bS0
def fewSt (s : St) : St := { s with t := fewT s.t 16 }
theorem few13b_s (m : Nat) (s : St) (h : s.t.In) : plenumlaw13_Few m (stA s) = some (stA (fewSt s), []) := few13_s m s h.len
theorem none_s (m : Nat) (s : St) (hm : 16 < m) (h : ∀ i, (s.t.leaf i).length ≤ 34359738368) : plenumlaw13_none m (stA s) = some (bA (sameS s St.zero), []) := by
  rw [plenumlaw13_none_eq]
  have hS := rsameS_s m s St.zero hm h (fun i => by show ([] : List Item).length ≤ _; simp)
  rw [stA_def] at hS ⊢
  rw [stA_def] at hS
  simp (config := {maxSteps := 4000000, implicitDefEqProofs := false}) (disch := omega) only [go_sem, hS]
theorem sameS_self (s : St) : sameS s s = true := by
  unfold sameS
  simp [sameT_iff.2 (fun i _ => ⟨rfl, rfl⟩ : s.t.Eq16 s.t)]
end Go.Proofs.YtoeajbhlkccekaaDoor

namespace Go.Proofs.YtoeajbhlkccekaaDoor
open Go.RowKit
set_option maxRecDepth 20000
attribute [local go_sem] tC_len tC_sure tC_ltA tC_lt1 tC_ro tC_take tC_all1 zcT_eq zcI_len zC_len zC_ltA zC_lt1 zC_sure zC_ro zC_take set_tl set_tv sc_tt sc_zt sc_tz sc_zz add16 tA_def lA_def natInt u_tl u_tv st_take35 st_take stC_len st_sure st_ltA st_lt1 st_ro zcS_eq zS_len zS_sure zS_take zS_ltA zS_ro zS_all1 ss_zs ss_zz u_bS0 u_nthM ed_it ed_lenE zcE0 st_ver st_set zS_lt1 st_bytes st_keys
theorem del_ok {t : Tr} {k : Bytes} {v : Int} (h : mayT t = true) (hv : ∀ i, i < 16 → t.ver i ≤ v) (h0 : 0 ≤ v) (h1 : v ≤ 2147483647) (hg : (getT t k).isSome = true) : (delT t k v).2 = 0 := by
  have hg' := hg
  unfold getT at hg'
  cases hk : keyB k with
  | false => rw [hk] at hg'; simp at hg'
  | true =>
    rw [hk, h, if_pos (by rfl)] at hg'
    have hb := bk_lt hk
    have hvb := hv _ hb
    unfold getK at hg'
    split at hg'
    · rename_i hl
      simp only [Bool.and_eq_true] at hl
      unfold delT
      rw [if_neg (by rw [h]; simp; omega), if_neg (by rw [hg]; decide), if_neg (by omega)]
      unfold chgT delK
      rw [hl.1, hl.2]
      rfl
    · simp at hg'
theorem chg_vers {t : Tr} {b : Nat} {v : Int} {r : List Item × Nat} (hv : ∀ i, i < 16 → t.ver i ≤ v) (he : (chgT t b v r).2 = 0) : ∀ i, i < 16 → (chgT t b v r).1.ver i ≤ v := by
  unfold chgT at he ⊢
  split
  · intro i hi
    show (if i = b then v else t.ver i) ≤ v
    split
    · omega
    · exact hv i hi
  · rename_i q
    rw [if_neg q] at he
    exact absurd he q
theorem one_vers {t : Tr} {x : Edt} {v : Int} (hv : ∀ i, i < 16 → t.ver i ≤ v) (he : (oneT t x v).2 = 0) : ∀ i, i < 16 → (oneT t x v).1.ver i ≤ v := by
  unfold oneT at he ⊢
  by_cases hk : x.kind = 0
  · rw [if_pos hk] at he ⊢
    cases hg : (getT t x.key).isSome with
    | false => exact hv
    | true =>
      rw [hg, if_pos rfl] at he
      rw [if_pos rfl]
      unfold delT at he ⊢
      split
      · rename_i q; rw [if_pos q] at he; cases he
      · rename_i q
        rw [if_neg q] at he
        split
        · rename_i q2; rw [if_pos q2] at he; cases he
        · rename_i q2
          rw [if_neg q2] at he
          split
          · rename_i q3; rw [if_pos q3] at he; cases he
          · rename_i q3
            rw [if_neg q3] at he
            exact chg_vers hv he
  · rw [if_neg hk] at he ⊢
    unfold putT at he ⊢
    split
    · rename_i q; rw [if_pos q] at he; cases he
    · rename_i q
      rw [if_neg q] at he
      split
      · rename_i q2; rw [if_pos q2] at he; cases he
      · rename_i q2
        rw [if_neg q2] at he
        exact chg_vers hv he
theorem takeBad_none : ∀ {k : Nat} {l : List Edt}, takeBad k l = none → ∀ x ∈ l, editB x = true
  | k, [], h, x, hx => by cases hx
  | k, y :: r, h, x, hx => by
    unfold takeBad at h
    split at h
    · rename_i hy
      rcases List.mem_cons.1 hx with rfl | hx
      · exact hy
      · exact takeBad_none h x hx
    · cases h
end Go.Proofs.YtoeajbhlkccekaaDoor

namespace Go.Proofs.YtoeajbhlkccekaaDoor
open Go.RowKit
set_option maxRecDepth 20000
attribute [local go_sem] tC_len tC_sure tC_ltA tC_lt1 tC_ro tC_take tC_all1 zcT_eq zcI_len zC_len zC_ltA zC_lt1 zC_sure zC_ro zC_take set_tl set_tv sc_tt sc_zt sc_tz sc_zz add16 tA_def lA_def natInt u_tl u_tv st_take35 st_take stC_len st_sure st_ltA st_lt1 st_ro zcS_eq zS_len zS_sure zS_take zS_ltA zS_ro zS_all1 ss_zs ss_zz u_bS0
def Edt.one (x : Edt) : Edt := ⟨(x.it 0).one.key, x.kind, x.i, (x.it 0).one.s⟩
def editsL (l : List Edt) : List Edt := (l.take 90).map Edt.one
theorem u_bIt0 {R : Type} {K1 : AV → Option R} {k s : ByteArray} {a b : Int} : buildE (some pl_api_Item) (some zc_api_Item) [(0, V (.string k)), (1, .agg [V (.int .i64 a), V (.int .i64 b), V (.string s)])] K1 = K1 (.agg [V (.string k), V (.int .i64 a), V (.int .i64 b), V (.string s), V (.int .i64 0)]) := _root_.id rfl
theorem u_bIt0' {R : Type} {K1 : AV → Option R} {k s : ByteArray} {a b : Int} : buildE (some pl_api_Item) (some [V (.string ⟨#[]⟩), V (.int .i64 0), V (.int .i64 0), V (.string ⟨#[]⟩), V (.int .i64 0)]) [(0, V (.string k)), (1, .agg [V (.int .i64 a), V (.int .i64 b), V (.string s)])] K1 = K1 (.agg [V (.string k), V (.int .i64 a), V (.int .i64 b), V (.string s), V (.int .i64 0)]) := _root_.id rfl
theorem editsN_s (m : Nat) (l : List Edt) (hm : l.length < m) (hl : l.length ≤ 90) : plenumlaw13_edits_r1 m ⟨[], [(0, SL (l.map eA))]⟩ = some (SL ((l.map Edt.one).map eA), []) := by
  rw [plenumlaw13_edits_r1_eq]
  simp (config := {maxSteps := 4000000, implicitDefEqProofs := false}) (disch := omega) only [go_sem, ]
  refine iter_go (ι := {k : Nat // k ≤ l.length}) (fun k => ⟨[⟨2, ty_api_Edit, 4, ((l.take k.1).map Edt.one).map (flA Edt.cells)⟩], [(0, SL (l.map eA)), (3, OW 0 k.1), (4, nA k.1)]⟩) (fun k => l.length - k.1) (fun _ => some (SL ((l.map Edt.one).map eA), [])) ?_ ⟨0, Nat.zero_le _⟩ (by dsimp only; omega)
  rintro kx hkx ⟨k, hk⟩ kc hkc
  dsimp only at hk hkc ⊢
  rw [plenumlaw13_edits_b1_eq]
  by_cases hlt : k < l.length
  · have hlt' : (k : Int) < (l.length : Int) := by omega
    have hO := plenumlaw10_One_e m (l[k].it 0)
    rw [iA_def, iA_def] at hO
    unfold Edt.it at hO
    dsimp only at hO
    have step := hkc ⟨k + 1, by omega⟩ (by dsimp only; omega)
    dsimp only at step
    rw [List.take_succ_eq_append_getElem hlt, List.map_append, List.map_append] at step
    have hkm : k ≤ 34359738367 := by omega
    simp (config := {maxSteps := 4000000, implicitDefEqProofs := false}) (disch := omega) only [go_sem, hlt', u_nthM, ed_it, ed_lenE, u_bIt0, u_bIt0', hO, zcI0, u_bE1, ed_all, ed_allA, hkm, w_i64, List.length_take, Nat.min_eq_left]
    exact step
  · have hlt' : ¬ (k : Int) < (l.length : Int) := by omega
    have : k = l.length := by omega
    subst this
    simp (config := {maxSteps := 4000000, implicitDefEqProofs := false}) (disch := omega) only [go_sem, hlt', hkx, plenumlaw13_edits_r2_eq, List.length_take, List.take_length]
theorem edits_s (m : Nat) (l : List Edt) (hm : 90 < m) (hl : l.length ≤ maxLen) : plenumlaw13_edits m (SL (l.map eA)) = some (SL ((editsL l).map eA), []) := by
  rw [plenumlaw13_edits_eq]
  unfold editsL
  by_cases h : 90 < l.length
  · have h' : (90 : Int) < (l.length : Int) := by omega
    have hq := editsN_s m (l.take 90) (by simp; omega) (by simp; omega)
    have hc : cutE (l.map eA) 0 90 = (l.take 90).map eA := by
      unfold cutE
      show ((l.map eA).take 90).drop 0 = _
      rw [List.drop_zero, List.map_take]
    simp (config := {maxSteps := 4000000, implicitDefEqProofs := false}) (disch := omega) only [go_sem, h', hc, hq]
    have ha : (l.all fun x => decide ((cellsOf (eA x)).length = 4)) = true := ed_all
    rw [ha, whenE_t, decide_eq_true (by omega), whenE_t]
  · have h' : ¬ (90 : Int) < (l.length : Int) := by omega
    have hq := editsN_s m l (by omega) (by omega)
    rw [List.take_of_length_le (by omega)]
    simp (config := {maxSteps := 4000000, implicitDefEqProofs := false}) (disch := omega) only [go_sem, h', hq]
theorem one_inv2 {x : Edt} (h : NumOk (x.it 0)) : NumOk (x.one.it 0) := h
theorem edits_ok {l : List Edt} (h : ∀ x ∈ l, NumOk (x.it 0)) : (∀ x ∈ editsL l, NumOk (x.it 0)) ∧ (editsL l).length ≤ 90 ∧ ∀ x ∈ editsL l, x.key.length ≤ maxLen := by
  refine ⟨fun x hx => ?_, by simp [editsL]; omega, fun x hx => ?_⟩
  · obtain ⟨y, hy, rfl⟩ := List.mem_map.1 hx
    exact one_inv2 (h y (List.mem_of_mem_take hy))
  · obtain ⟨y, hy, rfl⟩ := List.mem_map.1 hx
    show (y.key.take 60).length ≤ _
    rw [List.length_take]
    exact Nat.le_trans (Nat.min_le_left _ _) (by decide)
end Go.Proofs.YtoeajbhlkccekaaDoor

namespace Go.Proofs.YtoeajbhlkccekaaDoor
open Go.RowKit
set_option maxRecDepth 20000
def mergeM : Nat → Tr → List Item
  | 0, _ => []
  | n + 1, u => if leastT u < 0 then [] else hdK u (leastT u).toNat :: mergeM n (pop u (leastT u).toNat)
def scanL (lo hi : Bytes) (most : Int) : List Item → List Item → List Item
  | [], acc => acc
  | x :: r, acc => if stopB hi most x acc then acc else scanL lo hi most r (takeX lo x acc)
theorem runM_scan {lo hi : Bytes} {most : Int} : ∀ (n : Nat) (u : Tr) (acc : List Item), runM lo hi most n u acc = scanL lo hi most (mergeM n u) acc
  | 0, u, acc => rfl
  | n + 1, u, acc => by
    unfold runM mergeM
    split
    · rfl
    · unfold scanL
      split
      · rfl
      · exact runM_scan n _ _
abbrev Srt (l : List Item) : Prop := l.Pairwise fun a b => less a.key b.key = true
structure Front (u : Tr) : Prop where
  srt : ∀ i, i < 16 → Srt (u.leaf i)
  dis : ∀ i j, i < 16 → j < 16 → i ≠ j → ∀ x ∈ u.leaf i, ∀ y ∈ u.leaf j, x.key ≠ y.key
theorem hd_mem {u : Tr} {i : Nat} (h : 0 < (u.leaf i).length) : hdK u i ∈ u.leaf i := by
  unfold hdK
  cases hl : u.leaf i with
  | nil => rw [hl] at h; simp at h
  | cons x r => simp
theorem best_min {u : Tr} (hf : Front u) : ∀ k, k ≤ 16 → ∀ j, j < k → 0 < (u.leaf j).length → ∃ b : Nat, b < k ∧ bestN u k = b ∧ 0 < (u.leaf b).length ∧ (j = b ∨ less (hdK u b).key (hdK u j).key = true)
  | 0, _, j, hj, _ => by omega
  | k + 1, hk, j, hj, hl => by
    have neq : ∀ i j, i < 16 → j < 16 → i ≠ j → 0 < (u.leaf i).length → 0 < (u.leaf j).length → less (hdK u i).key (hdK u j).key = false → less (hdK u j).key (hdK u i).key = true := by
      intro i j hi hj hne h1 h2 h3
      cases h4 : less (hdK u j).key (hdK u i).key with
      | true => rfl
      | false => exact absurd (less_tri _ _ h3 h4) (hf.dis i j hi hj hne _ (hd_mem h1) _ (hd_mem h2))
    unfold bestN stepB
    by_cases hk0 : (u.leaf k).length = 0
    · rw [if_pos hk0]
      have hjk : j < k := by
        rcases Nat.lt_or_ge j k with q | q
        · exact q
        · have : j = k := by omega
          subst this; omega
      obtain ⟨b, h1, h2, h3, h4⟩ := best_min hf k (by omega) j hjk hl
      exact ⟨b, by omega, h2, h3, h4⟩
    · rw [if_neg hk0]
      rcases bestN_at u k with hb | ⟨b, hb1, hb2, hb3⟩
      · rw [hb, if_pos (by omega)]
        refine ⟨k, by omega, rfl, by omega, ?_⟩
        rcases Nat.lt_or_ge j k with q | q
        · obtain ⟨b, h1, h2, h3, h4⟩ := best_min hf k (by omega) j q hl
          rw [hb] at h2; omega
        · exact .inl (by omega)
      · rw [hb2, if_neg (by omega), Int.toNat_natCast]
        have key : ∀ j, j < k → 0 < (u.leaf j).length → j = b ∨ less (hdK u b).key (hdK u j).key = true := by
          intro j hj hl
          obtain ⟨b', h1, h2, h3, h4⟩ := best_min hf k (by omega) j hj hl
          rw [hb2] at h2
          have : b' = b := by omega
          subst this; exact h4
        cases hlt : less (hdK u k).key (hdK u b).key with
        | true =>
          rw [if_pos rfl]
          refine ⟨k, by omega, rfl, by omega, ?_⟩
          rcases Nat.lt_or_ge j k with q | q
          · right
            rcases key j q hl with rfl | h
            · exact hlt
            · exact less_trans _ _ _ hlt h
          · exact .inl (by omega)
        | false =>
          rw [if_neg (by decide)]
          refine ⟨b, by omega, rfl, hb3, ?_⟩
          rcases Nat.lt_or_ge j k with q | q
          · exact key j q hl
          · have : j = k := by omega
            subst this
            exact .inr (neq j b (by omega) (by omega) (by omega) (by omega) hb3 hlt)
theorem least_min {u : Tr} (hf : Front u) {j : Nat} (hj : j < 16) (hl : 0 < (u.leaf j).length) : ∃ b : Nat, b < 16 ∧ leastT u = b ∧ 0 < (u.leaf b).length ∧ (j = b ∨ less (hdK u b).key (hdK u j).key = true) := best_min hf 16 (Nat.le_refl _) j hj hl
theorem pop_leaf {u : Tr} {b i : Nat} : (pop u b).leaf i = if i = b then (u.leaf b).tail else u.leaf i := rfl
theorem pop_front {u : Tr} (hf : Front u) (b : Nat) : Front (pop u b) := by
  have sub : ∀ i, ∀ x ∈ (pop u b).leaf i, x ∈ u.leaf i := by
    intro i x hx
    rw [pop_leaf] at hx
    split at hx
    · rename_i e; subst e; exact List.mem_of_mem_tail hx
    · exact hx
  refine ⟨fun i hi => ?_, fun i j hi hj hne x hx y hy => hf.dis i j hi hj hne x (sub i x hx) y (sub j y hy)⟩
  rw [pop_leaf]
  split
  · rename_i e; subst e
    exact (hf.srt i hi).sublist (List.tail_sublist _)
  · exact hf.srt i hi
theorem merge_mem : ∀ (n : Nat) (u : Tr) (x : Item), x ∈ mergeM n u → ∃ i, i < 16 ∧ x ∈ u.leaf i
  | 0, u, x, h => by cases h
  | n + 1, u, x, h => by
    unfold mergeM at h
    split at h
    · cases h
    · rename_i hneg
      rcases bestN_at u 16 with q | ⟨b, q1, q2, q3⟩
      · unfold leastT at hneg; omega
      · have hb : (leastT u).toNat = b := by unfold leastT; rw [q2]; exact Int.toNat_natCast b
        rw [hb] at h
        rcases List.mem_cons.1 h with rfl | h
        · exact ⟨b, q1, hd_mem q3⟩
        · obtain ⟨i, hi, hx⟩ := merge_mem n (pop u b) x h
          refine ⟨i, hi, ?_⟩
          rw [pop_leaf] at hx
          split at hx
          · rename_i e; subst e; exact List.mem_of_mem_tail hx
          · exact hx
theorem merge_all : ∀ (n : Nat) {u : Tr} (hf : Front u) (hn : cntT u ≤ n) (x : Item) (i : Nat), i < 16 → x ∈ u.leaf i → x ∈ mergeM n u
  | n, u, hf, hn, x, i, hi, hx => by
    have hl : 0 < (u.leaf i).length := List.length_pos_of_mem hx
    obtain ⟨b, h1, h2, h3, h4⟩ := least_min hf hi hl
    have hc := cnt_pop h1 h3
    cases n with
    | zero => omega
    | succ n =>
      unfold mergeM
      rw [h2, if_neg (by omega), Int.toNat_natCast]
      by_cases e : x = hdK u b
      · rw [e]; exact List.mem_cons_self ..
      · refine List.mem_cons_of_mem _ (merge_all n (pop_front hf b) (by omega) x i hi ?_)
        rw [pop_leaf]
        split
        · rename_i e2; subst e2
          unfold hdK at e
          cases hq : u.leaf i with
          | nil => rw [hq] at hx; cases hx
          | cons y r =>
            rw [hq] at hx e
            rcases List.mem_cons.1 hx with rfl | hx
            · exact absurd rfl e
            · exact hx
        · exact hx
theorem merge_srt : ∀ (n : Nat) {u : Tr} (hf : Front u), Srt (mergeM n u)
  | 0, u, hf => List.Pairwise.nil
  | n + 1, u, hf => by
    unfold mergeM
    split
    · exact List.Pairwise.nil
    · rename_i hneg
      refine List.Pairwise.cons ?_ (merge_srt n (pop_front hf _))
      intro y hy
      obtain ⟨i, hi, hyi⟩ := merge_mem n _ y hy
      rcases bestN_at u 16 with q | ⟨b0, q1, q2, q3⟩
      · unfold leastT at hneg; omega
      · have hb : (leastT u).toNat = b0 := by unfold leastT; rw [q2]; exact Int.toNat_natCast b0
        rw [hb] at hyi ⊢
        rw [pop_leaf] at hyi
        split at hyi
        · rename_i e; subst e
          unfold hdK
          cases hq : u.leaf i with
          | nil => rw [hq] at q3; simp at q3
          | cons z r =>
            rw [hq] at hyi
            have := hf.srt i hi
            rw [hq] at this
            exact (List.pairwise_cons.1 this).1 y hyi
        · rename_i hne
          have hl : 0 < (u.leaf i).length := List.length_pos_of_mem hyi
          obtain ⟨b, h1, h2, h3, h4⟩ := least_min hf hi hl
          have hbb : b = b0 := by
            have : leastT u = (b0 : Nat) := q2
            omega
          subst hbb
          rcases h4 with rfl | h4
          · exact absurd rfl hne
          · unfold hdK at h4 ⊢
            cases hq : u.leaf i with
            | nil => rw [hq] at hyi; cases hyi
            | cons z r =>
              rw [hq] at hyi h4
              have := hf.srt i hi
              rw [hq] at this
              rcases List.mem_cons.1 hyi with rfl | hyr
              · exact h4
              · exact less_trans _ _ _ h4 ((List.pairwise_cons.1 this).1 y hyr)
theorem srt_ext : ∀ {l k : List Item}, Srt l → Srt k → (∀ x, x ∈ l ↔ x ∈ k) → l = k
  | [], [], _, _, _ => rfl
  | [], y :: k, _, _, h => by have := (h y).2 (List.mem_cons_self ..); cases this
  | x :: l, [], _, _, h => by have := (h x).1 (List.mem_cons_self ..); cases this
  | x :: l, y :: k, hl, hk, h => by
    obtain ⟨l1, l2⟩ := List.pairwise_cons.1 hl
    obtain ⟨k1, k2⟩ := List.pairwise_cons.1 hk
    have e : x = y := by
      rcases List.mem_cons.1 ((h x).1 (List.mem_cons_self ..)) with e | hx
      · exact e
      · rcases List.mem_cons.1 ((h y).2 (List.mem_cons_self ..)) with e | hy
        · exact e.symm
        · have a := k1 x hx
          have b := l1 y hy
          rw [less_asymm _ _ a] at b
          cases b
    subst e
    have : l = k := srt_ext l2 k2 fun z => by
      constructor
      · intro hz
        rcases List.mem_cons.1 ((h z).1 (List.mem_cons_of_mem _ hz)) with e | hz'
        · subst e; have := l1 z hz; rw [less_irrefl] at this; cases this
        · exact hz'
      · intro hz
        rcases List.mem_cons.1 ((h z).2 (List.mem_cons_of_mem _ hz)) with e | hz'
        · subst e; have := k1 z hz; rw [less_irrefl] at this; cases this
        · exact hz'
    rw [this]
end Go.Proofs.YtoeajbhlkccekaaDoor

namespace Go.Proofs.YtoeajbhlkccekaaDoor
open Go.RowKit
set_option maxRecDepth 20000
def foldW (l : List Item) : List Item := l.foldl withK []
theorem withK_srt {l : List Item} (h : Srt l) (x : Item) : Srt (withK l x) := by
  unfold withK
  rw [List.append_assoc]
  refine List.pairwise_append.2 ⟨h.sublist List.filter_sublist, ?_, ?_⟩
  · refine List.pairwise_append.2 ⟨List.pairwise_singleton _ _, h.sublist List.filter_sublist, ?_⟩
    intro a ha b hb
    simp at ha; subst ha
    exact (List.mem_filter.1 hb).2
  · intro a ha b hb
    have h1 := (List.mem_filter.1 ha).2
    rcases List.mem_append.1 hb with hb | hb
    · simp at hb; subst hb; exact h1
    · exact less_trans _ _ _ h1 (List.mem_filter.1 hb).2
theorem withK_mem {l : List Item} {x y : Item} (hne : ∀ z ∈ l, z.key ≠ x.key) : y ∈ withK l x ↔ y ∈ l ∨ y = x := by
  unfold withK
  simp only [List.mem_append, List.mem_filter, List.mem_singleton]
  constructor
  · rintro ((⟨h, _⟩ | h) | ⟨h, _⟩)
    · exact .inl h
    · exact .inr h
    · exact .inl h
  · rintro (h | h)
    · cases h1 : less y.key x.key with
      | true => exact .inl (.inl ⟨h, rfl⟩)
      | false =>
        cases h2 : less x.key y.key with
        | true => exact .inr ⟨h, rfl⟩
        | false => exact absurd (less_tri _ _ h1 h2) (hne y h)
    · exact .inl (.inr h)
theorem fold_law : ∀ (l acc : List Item), Srt acc → (l.Pairwise fun a b => a.key ≠ b.key) → (∀ x ∈ l, ∀ z ∈ acc, z.key ≠ x.key) → Srt (l.foldl withK acc) ∧ ∀ y, y ∈ l.foldl withK acc ↔ y ∈ acc ∨ y ∈ l
  | [], acc, h, _, _ => ⟨h, fun y => by simp⟩
  | x :: r, acc, h, hp, hd => by
    obtain ⟨p1, p2⟩ := List.pairwise_cons.1 hp
    have hm := fun y => withK_mem (l := acc) (x := x) (y := y) (hd x (List.mem_cons_self ..))
    obtain ⟨f1, f2⟩ := fold_law r (withK acc x) (withK_srt h x) p2 (by
      intro a ha z hz
      rcases (hm z).1 hz with q | q
      · exact hd a (List.mem_cons_of_mem _ ha) z q
      · subst q; exact p1 a ha)
    refine ⟨f1, fun y => ?_⟩
    show y ∈ r.foldl withK (withK acc x) ↔ _
    rw [f2 y, hm y, List.mem_cons]
    constructor
    · rintro ((q | q) | q)
      · exact .inl q
      · exact .inr (.inl q)
      · exact .inr (.inr q)
    · rintro (q | q | q)
      · exact .inl (.inl q)
      · exact .inl (.inr q)
      · exact .inr q
theorem front_of {t : Tr} (h : mayT t = true) : Front t := by
  refine ⟨fun i hi => ((leafB_iff _).1 (fits_leaf h hi)).2.2, fun i j hi hj hne x hx y hy e => ?_⟩
  have h1 := (fits_key h hi hx).2.1
  have h2 := (fits_key h hj hy).2.1
  rw [e, h2] at h1
  omega
theorem all_pair {t : Tr} (h : Front t) : ∀ k, k ≤ 16 → (allTo t k).Pairwise fun a b => a.key ≠ b.key
  | 0, _ => by simp [allTo]
  | k + 1, hk => by
    rw [allTo_succ]
    refine List.pairwise_append.2 ⟨all_pair h k (by omega), ?_, ?_⟩
    · refine (h.srt k (by omega)).imp ?_
      intro a b hab e
      rw [e, less_irrefl] at hab
      cases hab
    · intro a ha b hb
      obtain ⟨i, hi, hai⟩ := allTo_mem ha
      exact h.dis i k (by omega) (by omega) (by omega) a hai b hb
theorem allTo_of {t : Tr} : ∀ k {i : Nat}, i < k → ∀ x ∈ t.leaf i, x ∈ allTo t k
  | 0, i, hi, x, hx => by omega
  | k + 1, i, hi, x, hx => by
    rw [allTo_succ]
    rcases Nat.lt_or_ge i k with q | q
    · exact List.mem_append_left _ (allTo_of k q x hx)
    · have : i = k := by omega
      subst this
      exact List.mem_append_right _ hx
theorem merge_fold {t : Tr} (h : mayT t = true) : mergeM (cntT t) t = foldW (allTo t 16) := by
  have hf := front_of h
  obtain ⟨f1, f2⟩ := fold_law (allTo t 16) [] List.Pairwise.nil (all_pair hf 16 (Nat.le_refl _)) (fun x _ z hz => by cases hz)
  refine srt_ext (merge_srt _ hf) f1 fun x => ?_
  show _ ↔ x ∈ (allTo t 16).foldl withK []
  rw [f2 x]
  constructor
  · intro hx
    obtain ⟨i, hi, hx⟩ := merge_mem _ _ x hx
    exact .inr (allTo_of 16 hi x hx)
  · rintro (hx | hx)
    · cases hx
    · obtain ⟨i, hi, hx⟩ := allTo_mem hx
      exact merge_all _ hf (Nat.le_refl _) x i hi hx
def inR (lo hi : Bytes) (x : Item) : Bool := !less x.key lo && (hi.isEmpty || less x.key hi)
theorem scan_law {lo hi : Bytes} {most : Nat} : ∀ (l acc : List Item), Srt l → acc.length ≤ most → scanL lo hi most l acc = (acc ++ l.filter (inR lo hi)).take most
  | [], acc, _, h => by
    show acc = _
    rw [List.filter_nil, List.append_nil, List.take_of_length_le h]
  | x :: r, acc, hs, h => by
    obtain ⟨s1, s2⟩ := List.pairwise_cons.1 hs
    unfold scanL stopB
    by_cases h1 : (most : Int) ≤ (acc.length : Int)
    · rw [if_pos (by simp [h1])]
      have : acc.length = most := by omega
      rw [List.take_append_of_le_length (by omega), List.take_of_length_le h]
    · by_cases h2 : (!hi.isEmpty && !less x.key hi) = true
      · rw [if_pos (by simp [h2])]
        have hno : ∀ y ∈ x :: r, inR lo hi y = false := by
          simp only [Bool.and_eq_true, Bool.not_eq_true'] at h2
          intro y hy
          unfold inR
          rw [h2.1]
          have : less y.key hi = false := by
            rcases List.mem_cons.1 hy with rfl | hy
            · exact h2.2
            · cases hq : less y.key hi with
              | false => rfl
              | true =>
                have := less_trans _ _ _ (s1 y hy) hq
                rw [h2.2] at this; cases this
          rw [this]; simp
        rw [List.filter_eq_nil_iff.2 (fun y hy => by rw [hno y hy]; decide), List.append_nil, List.take_of_length_le h]
      · rw [if_neg (by simp only [Bool.or_eq_true, decide_eq_true_eq, not_or]; exact ⟨h1, h2⟩)]
        have hin : inR lo hi x = !less x.key lo := by
          unfold inR
          have : (hi.isEmpty || less x.key hi) = true := by
            cases hq : hi.isEmpty <;> cases hq2 : less x.key hi <;> simp_all
          rw [this, Bool.and_true]
        unfold takeX
        cases hl : less x.key lo with
        | true =>
          rw [if_pos rfl, scan_law r acc s2 h, List.filter_cons, hin, hl]
          rfl
        | false =>
          rw [if_neg (by decide), scan_law r (acc ++ [x]) s2 (by simp; omega), List.filter_cons, hin, hl]
          simp
def sortA (t : Tr) : List Item := foldW (allTo t 16)
theorem scanR_law {t : Tr} {lo hi : Bytes} {most : Nat} (h : mayT t = true) (h1 : patB lo = true) (h2 : patB hi = true) : scanR lo hi most t = ((sortA t).filter (inR lo hi)).take most := by
  unfold scanR okS scanT
  rw [h, h1, h2, if_pos (by decide), runM_scan, merge_fold h, scan_law _ _ ?_ (Nat.zero_le _), List.nil_append]
  · rfl
  · rw [← merge_fold h]; exact merge_srt _ (front_of h)
end Go.Proofs.YtoeajbhlkccekaaDoor

namespace Go.Proofs.YtoeajbhlkccekaaDoor
open Go.RowKit
set_option maxRecDepth 20000
attribute [local go_sem] tC_len tC_sure tC_ltA tC_lt1 tC_ro tC_take tC_all1 zcT_eq zcI_len zC_len zC_ltA zC_lt1 zC_sure zC_ro zC_take set_tl set_tv sc_tt sc_zt sc_tz sc_zz add16 tA_def lA_def natInt u_tl u_tv st_take35 st_take stC_len st_sure st_ltA st_lt1 st_ro zcS_eq zS_len zS_sure zS_take zS_ltA zS_ro zS_all1 ss_zs ss_zz u_bS0
end Go.Proofs.YtoeajbhlkccekaaDoor

namespace Go.Proofs.YtoeajbhlkccekaaDoor
open Go.RowKit
set_option maxRecDepth 20000
attribute [local go_sem] tC_len tC_sure tC_ltA tC_lt1 tC_ro tC_take tC_all1 zcT_eq zcI_len zC_len zC_ltA zC_lt1 zC_sure zC_ro zC_take set_tl set_tv sc_tt sc_zt sc_tz sc_zz add16 tA_def lA_def natInt u_tl u_tv st_take35 st_take stC_len st_sure st_ltA st_lt1 st_ro zcS_eq zS_len zS_sure zS_take zS_ltA zS_ro zS_all1 ss_zs ss_zz u_bS0
def valO (x : Item) : AObj := ⟨1, ty_api_Value, 0, [V (.int .i64 x.kind), V (.int .i64 x.i), V (.string ⟨x.s.toArray⟩)]⟩
theorem short_s (m : Nat) (k : Bytes) : plenumlaw13_short m (sA k) = some (sA (k.take 60), []) := by
  rw [plenumlaw13_short_eq]
  by_cases h : 60 < k.length
  · have h' : (60 : Int) < (k.length : Int) := by omega
    simp (config := {maxSteps := 4000000, implicitDefEqProofs := false}) (disch := omega) only [go_sem, h']
    rw [decide_eq_true (by omega), whenE_t]
  · have h' : ¬ (60 : Int) < (k.length : Int) := by omega
    rw [List.take_of_length_le (by omega)]
    simp (config := {maxSteps := 4000000, implicitDefEqProofs := false}) (disch := omega) only [go_sem, h']
theorem sortA_facts {t : Tr} (h : TInv t) : (sortA t).length ≤ 1024 ∧ ∀ x ∈ sortA t, keyB x.key = true := by
  have hf := front_of h.may
  have hmem : ∀ x ∈ sortA t, ∃ i, i < 16 ∧ x ∈ t.leaf i := by
    intro x hx
    rw [show sortA t = mergeM (cntT t) t from (merge_fold h.may).symm] at hx
    exact merge_mem _ _ x hx
  constructor
  · rw [show sortA t = mergeM (cntT t) t from (merge_fold h.may).symm]
    have l1 : ∀ (n : Nat) (u : Tr), (mergeM n u).length ≤ n := by
      intro n
      induction n with
      | zero => intro u; exact Nat.le_refl _
      | succ n ih =>
        intro u
        unfold mergeM
        split
        · exact Nat.zero_le _
        · simp only [List.length_cons]
          have := ih (pop u (leastT u).toNat)
          omega
    have l2 : ∀ k, k ≤ 16 → cntN t k ≤ k * 64 := by
      intro k
      induction k with
      | zero => intro _; exact Nat.le_refl _
      | succ k ih =>
        intro hk
        have := ih (by omega)
        have := ((leafB_iff _).1 (fits_leaf h.may (show k < 16 by omega))).1
        unfold cntN
        omega
    have := l1 (cntT t) t
    have := l2 16 (Nat.le_refl _)
    unfold cntT at *
    omega
  · intro x hx
    obtain ⟨i, hi, hx⟩ := hmem x hx
    exact itemB_key (fits_key h.may hi hx).1
end Go.Proofs.YtoeajbhlkccekaaDoor

namespace Go.Proofs.YtoeajbhlkccekaaDoor
open Go.RowKit
set_option maxRecDepth 100000
theorem gok_sig {W : World} (h : Sig W) : GOk GG (SW W) := by
  intro g d hg j y hy
  simp only [GG, List.mem_singleton, Prod.mk.injEq] at hg
  obtain ⟨rfl, rfl⟩ := hg
  match j with
  | 0 => simp [cellsOf] at hy; subst hy; exact ⟨1, _, h.2.1, rfl, rfl, rfl⟩
  | 1 => simp [cellsOf] at hy; subst hy; exact ⟨1, _, h.2.2, rfl, rfl, rfl⟩
  | j + 2 => simp [cellsOf] at hy
theorem ofT_val {n : Nat} {ds : List AV} (h : ofT Tryd.prog n 43 ds) : ∃ (k i : Int) (s : Bytes), ds = [nA k, nA i, sA s] ∧ (-9223372036854775808 ≤ i ∧ i < 9223372036854775808) ∧ s.length ≤ maxLen := by
  obtain ⟨m, a1, b1, rfl, h1, a2, b2, rfl, h2, a3, b3, rfl, h3, rfl⟩ := ofT_struct Tryd.underlying43 h
  obtain ⟨k, rfl, _⟩ := ofT_i64 Tryd.underlying3 h1
  obtain ⟨i, rfl, hi⟩ := ofT_i64 Tryd.underlying2 h2
  obtain ⟨s, rfl, hs⟩ := ofT_str Tryd.underlying9 h3
  exact ⟨k, i, s, rfl, hi, hs⟩
theorem ofT_item {n : Nat} {ds : List AV} (h : ofT Tryd.prog n 58 ds) : ∃ x : Item, ds = x.cells.map (fun u => V u) ∧ ItemIn x := by
  obtain ⟨m, a1, b1, rfl, h1, a2, b2, rfl, h2, a3, b3, rfl, h3, rfl⟩ := ofT_struct Tryd.underlying58 h
  obtain ⟨k, rfl, hk⟩ := ofT_str Tryd.underlying9 h1
  obtain ⟨kd, i, s, rfl, hi, hs⟩ := ofT_val h2
  obtain ⟨v, rfl, _⟩ := ofT_i64 Tryd.underlying3 h3
  exact ⟨⟨k, kd, i, s, v⟩, rfl, hk, hs, hi⟩
theorem agg_item : aggT Tryd.prog 58 = true := by kernel_rfl
theorem ofT_items {n : Nat} {ds : List AV} (h : ofT Tryd.prog n 22 ds) : ∃ l : List Item, ds = [lA l] ∧ l.length ≤ maxLen ∧ ∀ x ∈ l, ItemIn x := by
  obtain ⟨m, es, rfl, hl, he⟩ := ofT_slice Tryd.underlying22 h
  obtain ⟨l, rfl, hi⟩ := list_of (f := flA Item.cells) (Q := ItemIn) fun x hx => by
    obtain ⟨q1, q2⟩ := he x hx
    obtain ⟨y, hy, hi⟩ := ofT_item q1
    exact ⟨y, by rw [cells_agg (q2.trans agg_item), hy]; rfl, hi⟩
  exact ⟨l, rfl, by simpa using hl, hi⟩
theorem flat_one {α β : Type} {f : β → α} {k : List β} : (k.map fun y => [f y]).flatten = k.map f := by
  induction k with
  | nil => rfl
  | cons x r ih => simp [ih]
theorem map_get {α β : Type} (f : α → β) (l : List α) (d : α) : l.map f = (List.range l.length).map fun i => f (l.getD i d) := by
  refine List.ext_getElem (by simp) fun i h1 h2 => ?_
  simp only [List.length_map] at h1
  simp [List.getElem_map, h1]
theorem ofT_trunk {n : Nat} {ds : List AV} (h : ofT Tryd.prog n 26 ds) : ∃ t : Tr, ds = tC t ∧ t.In := by
  obtain ⟨m, a1, b1, rfl, h1, a2, b2, rfl, h2, rfl⟩ := ofT_struct Tryd.underlying26 h
  obtain ⟨m1, ps, hp, rfl, hq⟩ := ofT_array Tryd.underlying23 h1
  obtain ⟨m2, qs, hp2, rfl, hq2⟩ := ofT_array Tryd.underlying24 h2
  obtain ⟨L, rfl, hL⟩ := list_of (f := fun l : List Item => [lA l]) (Q := fun l => l.length ≤ maxLen ∧ ∀ x ∈ l, ItemIn x) fun x hx => ofT_items (hq x hx)
  obtain ⟨Z, rfl, hZ⟩ := list_of (f := fun z : Int => [nA z]) (Q := fun _ => True) fun x hx => by
    obtain ⟨i, e, _⟩ := ofT_i64 Tryd.underlying3 (hq2 x hx)
    exact ⟨i, e, trivial⟩
  rw [List.length_map] at hp hp2
  refine ⟨⟨fun i => L.getD i [], fun i => Z.getD i 0⟩, ?_, fun i => ?_⟩
  · rw [List.append_nil, flat_one, flat_one, map_get lA L [], map_get nA Z 0, hp, hp2]
    rfl
  · dsimp only
    by_cases hi : i < L.length
    · have e : L.getD i [] = L[i] := by simp [hi]
      have hm := hL L[i] (List.getElem_mem hi)
      rw [e]
      exact ⟨hm.1, fun x hx => (hm.2 x hx).2.2, fun q => by omega⟩
    · have e : L.getD i [] = [] := by simp [List.getD, List.getElem?_eq_none (Nat.le_of_not_lt hi)]
      rw [e]
      exact ⟨Nat.zero_le _, (by intro x hx; cases hx), fun _ => rfl⟩
theorem ofT_store {n : Nat} {ds : List AV} (h : ofT Tryd.prog n 28 ds) : ∃ s : St, ds = stC s ∧ s.t.In := by
  obtain ⟨m, a1, b1, rfl, h1, a2, b2, rfl, h2, a3, b3, rfl, h3, a4, b4, rfl, h4, rfl⟩ := ofT_struct Tryd.underlying28 h
  obtain ⟨t, rfl, ht⟩ := ofT_trunk h1
  obtain ⟨v, rfl, _⟩ := ofT_i64 Tryd.underlying3 h2
  obtain ⟨b, rfl, _⟩ := ofT_i64 Tryd.underlying3 h3
  obtain ⟨k, rfl, _⟩ := ofT_i64 Tryd.underlying3 h4
  exact ⟨⟨t, v, b, k⟩, rfl, ht⟩
theorem mk_store {ds : List AV} : mkA Tryd.prog 28 ds = .agg ds := by
  unfold mkA
  rw [if_pos (show aggT Tryd.prog 28 = true by kernel_rfl)]
theorem ofT_edit {n : Nat} {ds : List AV} (h : ofT Tryd.prog n 47 ds) : ∃ x : Edt, ds = x.cells.map (fun u => V u) ∧ (x.key.length ≤ maxLen ∧ x.s.length ≤ maxLen ∧ NumOk (x.it 0)) := by
  obtain ⟨m, a1, b1, rfl, h1, a2, b2, rfl, h2, rfl⟩ := ofT_struct Tryd.underlying47 h
  obtain ⟨k, rfl, hk⟩ := ofT_str Tryd.underlying9 h1
  obtain ⟨kd, i, s, rfl, hi, hs⟩ := ofT_val h2
  exact ⟨⟨k, kd, i, s⟩, rfl, hk, hs, hi⟩
theorem agg_edit : aggT Tryd.prog 47 = true := by kernel_rfl
def EdIn (x : Edt) : Prop := x.key.length ≤ maxLen ∧ x.s.length ≤ maxLen ∧ NumOk (x.it 0)
theorem ofT_edits {n : Nat} {ds : List AV} (h : ofT Tryd.prog n 29 ds) : ∃ l : List Edt, ds = [SL (l.map eA)] ∧ l.length ≤ maxLen ∧ ∀ x ∈ l, EdIn x := by
  obtain ⟨m, es, rfl, hl, he⟩ := ofT_slice Tryd.underlying29 h
  obtain ⟨l, rfl, hi⟩ := list_of (f := flA Edt.cells) (Q := EdIn) fun x hx => by
    obtain ⟨q1, q2⟩ := he x hx
    obtain ⟨y, hy, hi⟩ := ofT_edit q1
    exact ⟨y, by rw [cells_agg (q2.trans agg_edit), hy]; rfl, hi⟩
  exact ⟨l, rfl, by simpa using hl, hi⟩
theorem mk_edits {d : AV} : mkA Tryd.prog 29 [d] = d := by
  unfold mkA
  rw [if_neg (by rw [show aggT Tryd.prog 29 = false by kernel_rfl]; decide)]
  rfl
theorem mk_str {d : AV} : mkA Tryd.prog 9 [d] = d := by
  unfold mkA
  rw [if_neg (by rw [show aggT Tryd.prog 9 = false by kernel_rfl]; decide)]
  rfl
theorem arg_store {W : World} {v : Value} (h : Arg Tryd.prog W 28 v) : ∃ s : St, s.t.In ∧ rep (SW W) [] (stA s) v := by
  obtain ⟨n, ds, h1, h2⟩ := h
  obtain ⟨t, rfl, ht⟩ := ofT_store h1
  rw [mk_store] at h2
  exact ⟨t, ht, h2⟩
theorem arg_edits {W : World} {v : Value} (h : Arg Tryd.prog W 29 v) : ∃ l : List Edt, (l.length ≤ maxLen ∧ ∀ x ∈ l, EdIn x) ∧ rep (SW W) [] (SL (l.map eA)) v := by
  obtain ⟨n, ds, h1, h2⟩ := h
  obtain ⟨t, rfl, ht⟩ := ofT_edits h1
  rw [mk_edits] at h2
  exact ⟨t, ht, h2⟩
theorem arg_str {W : World} {v : Value} (h : Arg Tryd.prog W 9 v) : ∃ s : Bytes, s.length ≤ maxLen ∧ rep (SW W) [] (sA s) v := by
  obtain ⟨n, ds, h1, h2⟩ := h
  obtain ⟨t, rfl, ht⟩ := ofT_str Tryd.underlying9 h1
  rw [mk_str] at h2
  exact ⟨t, ht, h2⟩
theorem reps3 {S : SS} {d0 d1 d2 : AV} {v0 v1 v2 : Value} (h0 : rep S [] d0 v0) (h1 : rep S [] d1 v1) (h2 : rep S [] d2 v2) : ∀ (j : Nat) (d : AV) (v : Value), [d0, d1, d2][j]? = some d → [v0, v1, v2][j]? = some v → rep S [] d v := by
  intro j d v hd hv
  match j with
  | 0 => simp at hd hv; subst hd hv; exact h0
  | 1 => simp at hd hv; subst hd hv; exact h1
  | 2 => simp at hd hv; subst hd hv; exact h2
  | j + 3 => simp at hd
end Go.Proofs.YtoeajbhlkccekaaDoor

namespace Go.Proofs.YtoeajbhlkccekaaDoor
open Go.RowKit
set_option maxRecDepth 20000
abbrev SrtK (l : List Bytes) : Prop := l.Pairwise fun a b => less a b = true
theorem srtK_ext : ∀ {l k : List Bytes}, SrtK l → SrtK k → (∀ x, x ∈ l ↔ x ∈ k) → l = k
  | [], [], _, _, _ => rfl
  | [], y :: k, _, _, h => by have := (h y).2 (List.mem_cons_self ..); cases this
  | x :: l, [], _, _, h => by have := (h x).1 (List.mem_cons_self ..); cases this
  | x :: l, y :: k, hl, hk, h => by
    obtain ⟨l1, l2⟩ := List.pairwise_cons.1 hl
    obtain ⟨k1, k2⟩ := List.pairwise_cons.1 hk
    have e : x = y := by
      rcases List.mem_cons.1 ((h x).1 (List.mem_cons_self ..)) with e | hx
      · exact e
      · rcases List.mem_cons.1 ((h y).2 (List.mem_cons_self ..)) with e | hy
        · exact e.symm
        · have a := k1 x hx
          have b := l1 y hy
          rw [less_asymm _ _ a] at b
          cases b
    subst e
    have : l = k := srtK_ext l2 k2 fun z => by
      constructor
      · intro hz
        rcases List.mem_cons.1 ((h z).1 (List.mem_cons_of_mem _ hz)) with e | hz'
        · subst e; have := l1 z hz; rw [less_irrefl] at this; cases this
        · exact hz'
      · intro hz
        rcases List.mem_cons.1 ((h z).2 (List.mem_cons_of_mem _ hz)) with e | hz'
        · subst e; have := k1 z hz; rw [less_irrefl] at this; cases this
        · exact hz'
    rw [this]
def lkL : List Item → Bytes → Option Item
  | [], _ => none
  | x :: l, k => if x.key = k then some x else lkL l k
theorem lk_mem : ∀ {l : List Item} {k : Bytes} {y : Item}, Srt l → (lkL l k = some y ↔ y ∈ l ∧ y.key = k)
  | [], k, y, _ => by simp [lkL]
  | x :: l, k, y, h => by
    obtain ⟨h1, h2⟩ := List.pairwise_cons.1 h
    unfold lkL
    by_cases e : x.key = k
    · rw [if_pos e]
      constructor
      · intro q
        injection q with q
        subst q
        exact ⟨List.mem_cons_self .., e⟩
      · rintro ⟨q, r⟩
        rcases List.mem_cons.1 q with rfl | q
        · rfl
        · have := h1 y q
          rw [r, e, less_irrefl] at this
          cases this
    · rw [if_neg e, lk_mem h2]
      constructor
      · rintro ⟨q, r⟩; exact ⟨List.mem_cons_of_mem _ q, r⟩
      · rintro ⟨q, r⟩
        rcases List.mem_cons.1 q with rfl | q
        · exact absurd r e
        · exact ⟨q, r⟩
theorem lk_none : ∀ {l : List Item} {k : Bytes}, (∀ x ∈ l, x.key ≠ k) → lkL l k = none
  | [], _, _ => rfl
  | x :: l, k, h => by
    unfold lkL
    rw [if_neg (h x (List.mem_cons_self ..))]
    exact lk_none fun y hy => h y (List.mem_cons_of_mem _ hy)
def edV (k : Bytes) (u v : Item) : List Edt := if sameV u v then [] else [⟨k, u.kind, u.i, u.s⟩]
def edK (a b : List Item) (k : Bytes) : List Edt := edV k ((lkL a k).getD Item.zero) ((lkL b k).getD Item.zero)
theorem edV_ne {k : Bytes} {u v : Item} (h : u.kind ≠ v.kind) : edV k u v = [⟨k, u.kind, u.i, u.s⟩] := by
  unfold edV sameV
  rw [decide_eq_false h]; rfl
def mergeK : Nat → List Item → List Item → List Bytes
  | 0, _, _ => []
  | _ + 1, [], [] => []
  | n + 1, x :: a, [] => x.key :: mergeK n a []
  | n + 1, [], y :: b => y.key :: mergeK n [] b
  | n + 1, x :: a, y :: b => if less x.key y.key then x.key :: mergeK n a (y :: b) else if less y.key x.key then y.key :: mergeK n (x :: a) b else x.key :: mergeK n a b
theorem mergeK_mem : ∀ (n : Nat) (a b : List Item) (k : Bytes), k ∈ mergeK n a b → (∃ x ∈ a, x.key = k) ∨ ∃ y ∈ b, y.key = k
  | 0, _, _, k, h => by simp [mergeK] at h
  | n + 1, [], [], k, h => by simp [mergeK] at h
  | n + 1, x :: a, [], k, h => by
    simp only [mergeK, List.mem_cons] at h
    rcases h with rfl | h
    · exact .inl ⟨x, List.mem_cons_self .., rfl⟩
    · rcases mergeK_mem n a [] k h with ⟨z, h1, h2⟩ | ⟨z, h1, h2⟩
      · exact .inl ⟨z, List.mem_cons_of_mem _ h1, h2⟩
      · cases h1
  | n + 1, [], y :: b, k, h => by
    simp only [mergeK, List.mem_cons] at h
    rcases h with rfl | h
    · exact .inr ⟨y, List.mem_cons_self .., rfl⟩
    · rcases mergeK_mem n [] b k h with ⟨z, h1, h2⟩ | ⟨z, h1, h2⟩
      · cases h1
      · exact .inr ⟨z, List.mem_cons_of_mem _ h1, h2⟩
  | n + 1, x :: a, y :: b, k, h => by
    unfold mergeK at h
    split at h
    · rcases List.mem_cons.1 h with rfl | h
      · exact .inl ⟨x, List.mem_cons_self .., rfl⟩
      · rcases mergeK_mem n a (y :: b) k h with ⟨z, h1, h2⟩ | h
        · exact .inl ⟨z, List.mem_cons_of_mem _ h1, h2⟩
        · exact .inr h
    · split at h
      · rcases List.mem_cons.1 h with rfl | h
        · exact .inr ⟨y, List.mem_cons_self .., rfl⟩
        · rcases mergeK_mem n (x :: a) b k h with h | ⟨z, h1, h2⟩
          · exact .inl h
          · exact .inr ⟨z, List.mem_cons_of_mem _ h1, h2⟩
      · rcases List.mem_cons.1 h with rfl | h
        · exact .inl ⟨x, List.mem_cons_self .., rfl⟩
        · rcases mergeK_mem n a b k h with ⟨z, h1, h2⟩ | ⟨z, h1, h2⟩
          · exact .inl ⟨z, List.mem_cons_of_mem _ h1, h2⟩
          · exact .inr ⟨z, List.mem_cons_of_mem _ h1, h2⟩
theorem key_eq {x y : Item} (h1 : ¬ less x.key y.key = true) (h2 : ¬ less y.key x.key = true) : x.key = y.key := less_tri _ _ (by simpa using h1) (by simpa using h2)
theorem head_lt {x : Item} {a : List Item} (h : Srt (x :: a)) {k : Bytes} (hk : ∃ z ∈ a, z.key = k) : less x.key k = true := by
  obtain ⟨z, h1, rfl⟩ := hk
  exact (List.pairwise_cons.1 h).1 z h1
theorem both_lt {x : Item} {a : List Item} (h : Srt (x :: a)) {k j : Bytes} (hj : less j x.key = true) (hk : ∃ z ∈ x :: a, z.key = k) : less j k = true := by
  obtain ⟨z, h1, rfl⟩ := hk
  rcases List.mem_cons.1 h1 with rfl | h1
  · exact hj
  · exact less_trans _ _ _ hj ((List.pairwise_cons.1 h).1 z h1)
theorem mergeK_gt {x y : Item} {a b : List Item} (ha : Srt (x :: a)) (hb : Srt (y :: b)) {n : Nat} {k : Bytes} :
    (less x.key y.key = true → k ∈ mergeK n a (y :: b) → less x.key k = true) ∧ (less y.key x.key = true → k ∈ mergeK n (x :: a) b → less y.key k = true) ∧ (x.key = y.key → k ∈ mergeK n a b → less x.key k = true) := by
  refine ⟨fun h hk => ?_, fun h hk => ?_, fun h hk => ?_⟩
  · rcases mergeK_mem _ _ _ _ hk with q | q
    · exact head_lt ha q
    · exact both_lt hb h q
  · rcases mergeK_mem _ _ _ _ hk with q | q
    · exact both_lt ha h q
    · exact head_lt hb q
  · rcases mergeK_mem _ _ _ _ hk with q | q
    · exact head_lt ha q
    · rw [h]; exact head_lt hb q
theorem mergeK_srt : ∀ (n : Nat) {a b : List Item}, Srt a → Srt b → SrtK (mergeK n a b)
  | 0, _, _, _, _ => List.Pairwise.nil
  | n + 1, [], [], _, _ => List.Pairwise.nil
  | n + 1, x :: a, [], ha, hb => by
    refine List.Pairwise.cons (fun k hk => ?_) (mergeK_srt n (List.pairwise_cons.1 ha).2 hb)
    rcases mergeK_mem _ _ _ _ hk with q | ⟨z, q, _⟩
    · exact head_lt ha q
    · cases q
  | n + 1, [], y :: b, ha, hb => by
    refine List.Pairwise.cons (fun k hk => ?_) (mergeK_srt n ha (List.pairwise_cons.1 hb).2)
    rcases mergeK_mem _ _ _ _ hk with ⟨z, q, _⟩ | q
    · cases q
    · exact head_lt hb q
  | n + 1, x :: a, y :: b, ha, hb => by
    unfold mergeK
    split
    · rename_i h
      exact List.Pairwise.cons (fun k hk => (mergeK_gt ha hb).1 h hk) (mergeK_srt n (List.pairwise_cons.1 ha).2 hb)
    · rename_i h1
      split
      · rename_i h
        exact List.Pairwise.cons (fun k hk => (mergeK_gt ha hb).2.1 h hk) (mergeK_srt n ha (List.pairwise_cons.1 hb).2)
      · rename_i h2
        exact List.Pairwise.cons (fun k hk => (mergeK_gt ha hb).2.2 (key_eq h1 h2) hk) (mergeK_srt n (List.pairwise_cons.1 ha).2 (List.pairwise_cons.1 hb).2)
theorem mergeK_all : ∀ (n : Nat) (a b : List Item), a.length + b.length ≤ n → ∀ z, z ∈ a ∨ z ∈ b → z.key ∈ mergeK n a b
  | 0, [], [], _, z, hz => by simp at hz
  | 0, x :: a, _, h, z, hz => by simp at h
  | 0, [], y :: b, h, z, hz => by simp at h
  | n + 1, [], [], _, z, hz => by simp at hz
  | n + 1, x :: a, [], h, z, hz => by
    simp only [mergeK, List.mem_cons]
    simp only [List.length_cons, List.length_nil] at h
    rcases hz with hz | hz
    · rcases List.mem_cons.1 hz with rfl | hz
      · exact .inl rfl
      · exact .inr (mergeK_all n a [] (by simp; omega) z (.inl hz))
    · cases hz
  | n + 1, [], y :: b, h, z, hz => by
    simp only [mergeK, List.mem_cons]
    simp only [List.length_cons, List.length_nil] at h
    rcases hz with hz | hz
    · cases hz
    · rcases List.mem_cons.1 hz with rfl | hz
      · exact .inl rfl
      · exact .inr (mergeK_all n [] b (by simp; omega) z (.inr hz))
  | n + 1, x :: a, y :: b, h, z, hz => by
    simp only [List.length_cons] at h
    unfold mergeK
    split
    · rcases hz with hz | hz
      · rcases List.mem_cons.1 hz with rfl | hz
        · exact List.mem_cons_self ..
        · exact List.mem_cons_of_mem _ (mergeK_all n a (y :: b) (by simp; omega) z (.inl hz))
      · exact List.mem_cons_of_mem _ (mergeK_all n a (y :: b) (by simp; omega) z (.inr hz))
    · rename_i h1
      split
      · rcases hz with hz | hz
        · exact List.mem_cons_of_mem _ (mergeK_all n (x :: a) b (by simp; omega) z (.inl hz))
        · rcases List.mem_cons.1 hz with rfl | hz
          · exact List.mem_cons_self ..
          · exact List.mem_cons_of_mem _ (mergeK_all n (x :: a) b (by simp; omega) z (.inr hz))
      · rename_i h2
        have e := key_eq h1 h2
        rcases hz with hz | hz
        · rcases List.mem_cons.1 hz with rfl | hz
          · exact List.mem_cons_self ..
          · exact List.mem_cons_of_mem _ (mergeK_all n a b (by omega) z (.inl hz))
        · rcases List.mem_cons.1 hz with rfl | hz
          · rw [e]; exact List.mem_cons_self ..
          · exact List.mem_cons_of_mem _ (mergeK_all n a b (by omega) z (.inr hz))
theorem fm_congr {α β : Type} {f g : α → List β} : ∀ {l : List α}, (∀ k ∈ l, f k = g k) → l.flatMap f = l.flatMap g
  | [], _ => rfl
  | x :: l, h => by
    rw [List.flatMap_cons, List.flatMap_cons, h x (List.mem_cons_self ..), fm_congr fun k hk => h k (List.mem_cons_of_mem _ hk)]
theorem lt_ne {a b : Bytes} (h : less a b = true) : a ≠ b := fun e => by rw [e, less_irrefl] at h; cases h
theorem lk_tail {x : Item} {a : List Item} {k : Bytes} (h : less x.key k = true) : lkL (x :: a) k = lkL a k := by
  conv => lhs; unfold lkL
  rw [if_neg (lt_ne h)]
theorem lk_head {x : Item} {a : List Item} {k : Bytes} (h : x.key = k) : lkL (x :: a) k = some x := by
  conv => lhs; unfold lkL
  rw [if_pos h]
theorem undo_merge : ∀ (n : Nat) (a b : List Item) (acc : List Edt), a.length + b.length ≤ n → Srt a → Srt b → (∀ x ∈ a, x.kind ≠ 0) → (∀ x ∈ b, x.kind ≠ 0) → undoN n a b acc = acc ++ (mergeK n a b).flatMap (edK a b)
  | 0, [], [], acc, _, _, _, _, _ => by simp [undoN, mergeK]
  | 0, x :: a, _, acc, h, _, _, _, _ => by simp at h
  | 0, [], y :: b, acc, h, _, _, _, _ => by simp at h
  | n + 1, [], [], acc, _, _, _, _, _ => by simp [undoN, mergeK]
  | n + 1, x :: a, [], acc, h, ha, hb, ka, kb => by
    simp only [List.length_cons, List.length_nil] at h
    unfold undoN mergeK
    rw [undo_merge n a [] _ (by simp; omega) (List.pairwise_cons.1 ha).2 hb (fun z hz => ka z (List.mem_cons_of_mem _ hz)) kb, List.flatMap_cons, List.append_assoc]
    refine congrArg (acc ++ ·) ?_
    refine congr (congrArg _ ?_) (fm_congr fun k hk => ?_)
    · unfold edK
      rw [lk_head rfl]
      exact (edV_ne (ka x (List.mem_cons_self ..))).symm
    · unfold edK
      rw [lk_tail]
      rcases mergeK_mem _ _ _ _ hk with q | ⟨z, q, _⟩
      · exact head_lt ha q
      · cases q
  | n + 1, [], y :: b, acc, h, ha, hb, ka, kb => by
    simp only [List.length_cons, List.length_nil] at h
    unfold undoN mergeK
    rw [undo_merge n [] b _ (by simp; omega) ha (List.pairwise_cons.1 hb).2 ka (fun z hz => kb z (List.mem_cons_of_mem _ hz)), List.flatMap_cons, List.append_assoc]
    refine congrArg (acc ++ ·) ?_
    refine congr (congrArg _ ?_) (fm_congr fun k hk => ?_)
    · unfold edK
      rw [lk_head rfl]
      exact (edV_ne (show Item.zero.kind ≠ y.kind from fun e => kb y (List.mem_cons_self ..) e.symm)).symm
    · unfold edK
      rw [lk_tail (a := b)]
      rcases mergeK_mem _ _ _ _ hk with ⟨z, q, _⟩ | q
      · cases q
      · exact head_lt hb q
  | n + 1, x :: a, y :: b, acc, h, ha, hb, ka, kb => by
    simp only [List.length_cons] at h
    have ka' : ∀ z ∈ a, z.kind ≠ 0 := fun z hz => ka z (List.mem_cons_of_mem _ hz)
    have kb' : ∀ z ∈ b, z.kind ≠ 0 := fun z hz => kb z (List.mem_cons_of_mem _ hz)
    have sa := (List.pairwise_cons.1 ha).2
    have sb := (List.pairwise_cons.1 hb).2
    unfold undoN mergeK
    by_cases h1 : less x.key y.key = true
    · rw [if_pos h1, if_pos h1, undo_merge n a (y :: b) _ (by simp; omega) sa hb ka' kb, List.flatMap_cons, List.append_assoc]
      refine congrArg (acc ++ ·) ?_
      refine congr (congrArg _ ?_) (fm_congr fun k hk => ?_)
      · unfold edK
        rw [lk_head rfl, lk_none (l := y :: b) (fun z hz => ?_)]
        · exact (edV_ne (ka x (List.mem_cons_self ..))).symm
        · exact (lt_ne (both_lt hb h1 ⟨z, hz, rfl⟩)).symm
      · unfold edK
        rw [lk_tail (a := a) ((mergeK_gt ha hb).1 h1 hk)]
    · rw [if_neg h1, if_neg h1]
      by_cases h2 : less y.key x.key = true
      · rw [if_pos h2, if_pos h2, undo_merge n (x :: a) b _ (by simp; omega) ha sb ka kb', List.flatMap_cons, List.append_assoc]
        refine congrArg (acc ++ ·) ?_
        refine congr (congrArg _ ?_) (fm_congr fun k hk => ?_)
        · unfold edK
          rw [lk_head (x := y) rfl, lk_none (l := x :: a) (fun z hz => ?_)]
          · exact (edV_ne (show Item.zero.kind ≠ y.kind from fun e => kb y (List.mem_cons_self ..) e.symm)).symm
          · exact (lt_ne (both_lt ha h2 ⟨z, hz, rfl⟩)).symm
        · unfold edK
          rw [lk_tail (a := b) ((mergeK_gt ha hb).2.1 h2 hk)]
      · have e := key_eq h1 h2
        rw [if_neg h2, if_neg h2, undo_merge n a b _ (by omega) sa sb ka' kb', List.flatMap_cons, ← List.append_assoc]
        refine congr (congrArg _ ?_) (fm_congr fun k hk => ?_)
        · unfold edK
          rw [lk_head rfl, lk_head e.symm]
          show _ = acc ++ edV x.key x y
          unfold edV
          cases sameV x y
          · rfl
          · exact (List.append_nil _).symm
        · unfold edK
          have q := (mergeK_gt ha hb).2.2 e hk
          rw [lk_tail (a := a) q, lk_tail (a := b) (e ▸ q)]
theorem withK_keys {l : List Item} {x : Item} {k : Bytes} : (∃ y ∈ withK l x, y.key = k) ↔ (∃ y ∈ l, y.key = k) ∨ x.key = k := by
  unfold withK
  constructor
  · rintro ⟨y, hy, rfl⟩
    simp only [List.mem_append, List.mem_filter, List.mem_singleton] at hy
    rcases hy with (⟨h, _⟩ | h) | ⟨h, _⟩
    · exact .inl ⟨y, h, rfl⟩
    · exact .inr (by rw [h])
    · exact .inl ⟨y, h, rfl⟩
  · rintro (⟨y, hy, rfl⟩ | h)
    · cases h1 : less y.key x.key with
      | true => exact ⟨y, by simp [hy, h1], rfl⟩
      | false =>
        cases h2 : less x.key y.key with
        | true => exact ⟨y, by simp [hy, h2], rfl⟩
        | false => exact ⟨x, by simp, (less_tri _ _ h1 h2).symm⟩
    · exact ⟨x, by simp, h⟩
theorem fold_keys : ∀ (l acc : List Item), Srt acc → Srt (l.foldl withK acc) ∧ ∀ k, (∃ y ∈ l.foldl withK acc, y.key = k) ↔ (∃ y ∈ acc, y.key = k) ∨ ∃ y ∈ l, y.key = k
  | [], acc, h => ⟨h, fun k => by simp⟩
  | x :: r, acc, h => by
    obtain ⟨f1, f2⟩ := fold_keys r (withK acc x) (withK_srt h x)
    refine ⟨f1, fun k => ?_⟩
    show (∃ y ∈ r.foldl withK (withK acc x), y.key = k) ↔ _
    rw [f2 k, withK_keys]
    constructor
    · rintro ((q | q) | ⟨y, q, e⟩)
      · exact .inl q
      · exact .inr ⟨x, List.mem_cons_self .., q⟩
      · exact .inr ⟨y, List.mem_cons_of_mem _ q, e⟩
    · rintro (q | ⟨y, q, e⟩)
      · exact .inl (.inl q)
      · rcases List.mem_cons.1 q with rfl | q
        · exact .inl (.inr e)
        · exact .inr ⟨y, q, e⟩
theorem keys_merge {a b : List Item} (ha : Srt a) (hb : Srt b) : (foldW (a ++ b)).map Item.key = mergeK (a.length + b.length) a b := by
  obtain ⟨f1, f2⟩ := fold_keys (a ++ b) [] List.Pairwise.nil
  refine srtK_ext (List.pairwise_map.2 f1) (mergeK_srt _ ha hb) fun k => ?_
  rw [List.mem_map]
  show (∃ y ∈ (a ++ b).foldl withK [], y.key = k) ↔ _
  rw [f2 k]
  constructor
  · rintro (⟨y, q, _⟩ | ⟨y, q, rfl⟩)
    · cases q
    · exact mergeK_all _ a b (Nat.le_refl _) y (List.mem_append.1 q)
  · intro h
    rcases mergeK_mem _ _ _ _ h with ⟨y, q, e⟩ | ⟨y, q, e⟩
    · exact .inr ⟨y, List.mem_append_left _ q, e⟩
    · exact .inr ⟨y, List.mem_append_right _ q, e⟩
def edT (p q : Tr) (x : Item) : List Edt := edV x.key ((getT p x.key).getD Item.zero) ((getT q x.key).getD Item.zero)
def rundoL (p q : Tr) : List Edt := (foldW (sortA p ++ sortA q)).flatMap (edT p q)
theorem sortA_srt {t : Tr} (h : mayT t = true) : Srt (sortA t) := by
  rw [show sortA t = mergeM (cntT t) t from (merge_fold h).symm]
  exact merge_srt _ (front_of h)
theorem sortA_mem {t : Tr} (h : mayT t = true) {x : Item} : x ∈ sortA t ↔ ∃ i, i < 16 ∧ x ∈ t.leaf i := by
  rw [show sortA t = mergeM (cntT t) t from (merge_fold h).symm]
  constructor
  · exact merge_mem _ _ x
  · rintro ⟨i, hi, hx⟩
    exact merge_all _ (front_of h) (Nat.le_refl _) x i hi hx
theorem get_lk {t : Tr} (h : mayT t = true) (k : Bytes) : getT t k = lkL (sortA t) k := by
  have key : ∀ y, getT t k = some y ↔ lkL (sortA t) k = some y := by
    intro y
    rw [getT_mem h, lk_mem (sortA_srt h), sortA_mem h]
    constructor
    · rintro ⟨b, h1, h2, h3⟩; exact ⟨⟨b, h1, h2⟩, h3⟩
    · rintro ⟨⟨b, h1, h2⟩, h3⟩; exact ⟨b, h1, h2, h3⟩
  cases h1 : getT t k with
  | some y => exact ((key y).1 h1).symm
  | none =>
    cases h2 : lkL (sortA t) k with
    | none => rfl
    | some y => rw [(key y).2 h2] at h1; cases h1
theorem item_kind {x : Item} (h : itemB x = true) : x.kind ≠ 0 := by
  unfold itemB at h
  simp only [Bool.and_eq_true, bne_iff_ne] at h
  exact h.1.1.2
theorem sortA_kind {t : Tr} (h : mayT t = true) : ∀ x ∈ sortA t, x.kind ≠ 0 := by
  intro x hx
  obtain ⟨i, hi, hx⟩ := (sortA_mem h).1 hx
  exact item_kind (fits_key h hi hx).1
theorem scanR_all {t : Tr} (h : TInv t) : scanR [] [] 1024 t = sortA t := by
  obtain ⟨f1, f2⟩ := sortA_facts h
  have e : scanR [] [] 1024 t = ((sortA t).filter (inR [] [])).take 1024 := scanR_law (most := 1024) h.may rfl rfl
  have e2 : (sortA t).filter (inR [] []) = sortA t := by
    refine List.filter_eq_self.2 fun x _ => ?_
    unfold inR
    rw [less_nil]; rfl
  rw [e, e2, List.take_of_length_le f1]
theorem undo_law {p q : St} (h1 : mayS p = true) (h2 : mayS q = true) (i1 : TInv p.t) (i2 : TInv q.t) : undoR p q = rundoL p.t q.t := by
  unfold undoR rundoL
  rw [h1, h2, scanR_all i1, scanR_all i2]
  rw [if_pos (by rfl), undo_merge _ _ _ _ (Nat.le_refl _) (sortA_srt i1.may) (sortA_srt i2.may) (sortA_kind i1.may) (sortA_kind i2.may), List.nil_append, ← keys_merge (sortA_srt i1.may) (sortA_srt i2.may), List.flatMap_map]
  refine fm_congr fun x _ => ?_
  unfold edK edT
  rw [get_lk i1.may, get_lk i2.may]
end Go.Proofs.YtoeajbhlkccekaaDoor
