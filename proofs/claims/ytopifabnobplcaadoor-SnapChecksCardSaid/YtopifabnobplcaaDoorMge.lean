/-
  Texts laid together, part 5 of 6: laws of a walk over data, contracts of functions, each whole by itself.
-/
import Derived.Test.YtopifabnobplcaaDoorMgd
namespace Go.Proofs.YtopifabnobplcaaDoor
open Go.RowKit
set_option linter.unusedVariables false
set_option maxRecDepth 100000
def ty_api_Item : TypeId := 68
def ty_api_Snap : TypeId := 40
def ty_api_Store : TypeId := 37
def ty_api_Trunk : TypeId := 35
def ty_int : TypeId := 3
def ty_sl_api_Snap : TypeId := 22
def zc_api_Snap : List AV := [(V (.int .i64 0)), (V (.slice none 0 0)), (V (.slice none 0 0)), (V (.slice none 0 0)), (V (.slice none 0 0)), (V (.slice none 0 0)), (V (.slice none 0 0)), (V (.slice none 0 0)), (V (.slice none 0 0)), (V (.slice none 0 0)), (V (.slice none 0 0)), (V (.slice none 0 0)), (V (.slice none 0 0)), (V (.slice none 0 0)), (V (.slice none 0 0)), (V (.slice none 0 0)), (V (.slice none 0 0)), (V (.int .i64 0)), (V (.int .i64 0)), (V (.int .i64 0)), (V (.int .i64 0)), (V (.int .i64 0)), (V (.int .i64 0)), (V (.int .i64 0)), (V (.int .i64 0)), (V (.int .i64 0)), (V (.int .i64 0)), (V (.int .i64 0)), (V (.int .i64 0)), (V (.int .i64 0)), (V (.int .i64 0)), (V (.int .i64 0)), (V (.int .i64 0)), (V (.int .i64 0)), (V (.int .i64 0)), (V (.int .i64 0))]
def zc_api_Store : List AV := [(V (.slice none 0 0)), (V (.slice none 0 0)), (V (.slice none 0 0)), (V (.slice none 0 0)), (V (.slice none 0 0)), (V (.slice none 0 0)), (V (.slice none 0 0)), (V (.slice none 0 0)), (V (.slice none 0 0)), (V (.slice none 0 0)), (V (.slice none 0 0)), (V (.slice none 0 0)), (V (.slice none 0 0)), (V (.slice none 0 0)), (V (.slice none 0 0)), (V (.slice none 0 0)), (V (.int .i64 0)), (V (.int .i64 0)), (V (.int .i64 0)), (V (.int .i64 0)), (V (.int .i64 0)), (V (.int .i64 0)), (V (.int .i64 0)), (V (.int .i64 0)), (V (.int .i64 0)), (V (.int .i64 0)), (V (.int .i64 0)), (V (.int .i64 0)), (V (.int .i64 0)), (V (.int .i64 0)), (V (.int .i64 0)), (V (.int .i64 0)), (V (.int .i64 0)), (V (.int .i64 0)), (V (.int .i64 0))]
def pl_api_Snap : List (Nat × Nat) := [(0, 1), (1, 35)]
def pl_api_Store : List (Nat × Nat) := [(0, 32), (32, 1), (33, 1), (34, 1)]
noncomputable def slices_Equal_Item_c : Code := (Tryd.f44.body).getD .skip
def slices_Equal_Item_h : Hint := (.two .n (.two (.two .n (.two (.two .n .n) .n)) (.join [] (.two .n (.one (.lp [] [0, 1, 12, 13] [4] (.two .n (.two (.two .n .n) (.two (.one (.two .n (.two .n (.two (.two .n .n) .n)))) .n)))))) (.two .n .n))))
noncomputable def slices_Equal_Item_env (m : Nat) : Env := []
noncomputable abbrev slices_Equal_Item_fin : KO (AV × List AObj) := tellFK Tryd.prog [.tmp 4]
noncomputable def slices_Equal_Item_r1 (m : Nat) (s : ASt) : RO := joinW Tryd.prog GG (slices_Equal_Item_env m) m 26 (cdR (cdR (cdR slices_Equal_Item_c))) slices_Equal_Item_h.r.r.r s (slices_Equal_Item_fin)
noncomputable def slices_Equal_Item_b1 (m : Nat) (s : ASt) (kc : ASt → RO) (kx : KO (AV × List AObj)) : RO := bodyW Tryd.prog GG (slices_Equal_Item_env m) m 26 (cdL (cdL (cdR (cdL (cdR (cdR slices_Equal_Item_c)))))) slices_Equal_Item_h.r.r.l.r.c.c [0, 1, 12, 13] [4] s kc kx
noncomputable def slices_Equal_Item (m : Nat) (t0 t1 : AV) : RO := exec Tryd.prog GG (slices_Equal_Item_env m) m 26 slices_Equal_Item_c slices_Equal_Item_h ⟨[], argsT 0 [t0, t1]⟩ (slices_Equal_Item_fin)
theorem slices_Equal_Item_r1_eq (m : Nat) (H : List AObj) : slices_Equal_Item_r1 m ⟨H, []⟩ =
  tellK H (ro H (V (.bool true))) := by
  refine (joinW_eq Tryd.prog GG (slices_Equal_Item_env m) m 26 (cdR (cdR (cdR slices_Equal_Item_c))) slices_Equal_Item_h.r.r.r ⟨H, []⟩ (slices_Equal_Item_fin)).trans ?_
  kernel_rfl
theorem slices_Equal_Item_b1_eq (m : Nat) (H : List AObj) (t0 t1 t12 t13 : AV) (kc : ASt → RO) (kx : KO (AV × List AObj)) : slices_Equal_Item_b1 m ⟨H, [(0, t0), (1, t1), (12, t12), (13, t13)]⟩ kc kx =
  binE none false false .lss t13 t12 fun t14 =>
  condE t14 (
   idxSE 7 H t0 t13 fun t18 =>
   loadE 7 H t18 fun t19 =>
   idxSE 7 H t1 t13 fun t22 =>
   loadE 7 H t22 fun t23 =>
   binE (some [.s, .i .i64, .i .i64, .s, .i .i64]) false false .neq t19 t23 fun t24 =>
   condE t24 (
    kx .ret ⟨H, [(4, (V (.bool false)))]⟩) (
    binE none false false .add t13 (V (.int .i64 1)) fun t25 =>
    backE H.length H [(0, t0), (1, t1), (12, t12), (13, t25)] kc)) (
   kx (.exit 0) ⟨H, [(4, .nil)]⟩) := by
  refine (bodyW_eq Tryd.prog GG (slices_Equal_Item_env m) m 26 (cdL (cdL (cdR (cdL (cdR (cdR slices_Equal_Item_c)))))) slices_Equal_Item_h.r.r.l.r.c.c [0, 1, 12, 13] [4] ⟨H, [(0, t0), (1, t1), (12, t12), (13, t13)]⟩ kc kx).trans ?_
  kernel_rfl
theorem slices_Equal_Item_eq (m : Nat) (t0 t1 : AV) : slices_Equal_Item m t0 t1 =
  lenE false true [] t0 fun t7 =>
  lenE false true [] t1 fun t9 =>
  binE none false false .neq t7 t9 fun t10 =>
  condE t10 (
   tellK [] (ro [] (V (.bool false)))) (
   lenE false true [] t0 fun t12 =>
   iterC m (slices_Equal_Item_b1 m) ⟨[], [(0, t0), (1, t1), (12, t12), (13, (V (.int .i64 0)))]⟩ (blockX 0 (seqX (fun s => slices_Equal_Item_r1 m ⟨s.H, []⟩) (slices_Equal_Item_fin)))) := by
  refine (tellX Tryd.prog GG (slices_Equal_Item_env m) m 26 slices_Equal_Item_c slices_Equal_Item_h ⟨[], argsT 0 [t0, t1]⟩ [.tmp 4]).trans ?_
  kernel_rfl
noncomputable def slices_Equal_Item_t (m : Nat) : List AV → RO | [t0, t1] => slices_Equal_Item m t0 t1 | _ => none
theorem slices_Equal_Item_ok (m : Nat) : ∀ args X H', slices_Equal_Item_t m args = some (X, H') → ACp Tryd.prog GG 44 args X := by
  intro args X H' h
  unfold slices_Equal_Item_t at h
  split at h
  · exact tell_okK MIX (by intro f e h; cases h) (f := 44) (c := slices_Equal_Item_c) Tryd.func44 rfl (by kernel_rfl) _ rfl Tryd.ntmps44 (Nat.le_of_ble_eq_true rfl) slices_Equal_Item_h h
  · cases h
noncomputable def trunk_Unlike_c : Code := (Tryd.f32.body).getD .skip
def trunk_Unlike_h : Hint := (.two .n (.join [2, 3] (.two .n (.two (.two .n .n) .n)) (.two .n (.join [6] (.two .n (.one (.lp [(6, ty_int, 1)] [2, 3, 6, 16] [6] (.two .n (.two (.two .n .n) (.join [2, 3, 6, 16] (.one (.two .n (.join [2, 3, 6, 7, 16, 39] .n (.two .n .n)))) .n)))))) (.two .n .n)))))
noncomputable def trunk_Unlike_env (m : Nat) : Env := [(33, .tell (trunk_May_t m)), (44, .tell (slices_Equal_Item_t m))]
noncomputable abbrev trunk_Unlike_fin : KO (AV × List AObj) := tellFK Tryd.prog [.tmp 4, .tmp 5]
noncomputable def trunk_Unlike_r4 (m : Nat) (n0 : Nat) (kc : ASt → RO) (kx : KO (AV × List AObj)) (s : ASt) : RO := joinW Tryd.prog GG (trunk_Unlike_env m) m 46 (cdR (cdR (cdR (cdL (cdL (cdR (cdL (cdR (cdR (cdR trunk_Unlike_c)))))))))) trunk_Unlike_h.r.r.r.l.r.c.c.r.r.r s (backW n0 [2, 3, 6, 16] [6] kc kx)
noncomputable def trunk_Unlike_r3 (m : Nat) (n0 : Nat) (kc : ASt → RO) (kx : KO (AV × List AObj)) (s : ASt) : RO := joinW Tryd.prog GG (trunk_Unlike_env m) m 46 (cdR (cdR (cdL (cdL (cdR (cdR (cdL (cdL (cdR (cdL (cdR (cdR (cdR trunk_Unlike_c))))))))))))) trunk_Unlike_h.r.r.r.l.r.c.c.r.r.l.c.r.r s (blockX 1 (seqX (fun s => trunk_Unlike_r4 m n0 kc kx ⟨s.H, [(2, gt s.T 2), (3, gt s.T 3), (6, gt s.T 6), (16, gt s.T 16)]⟩) (backW n0 [2, 3, 6, 16] [6] kc kx)))
noncomputable def trunk_Unlike_r2 (m : Nat) (s : ASt) : RO := joinW Tryd.prog GG (trunk_Unlike_env m) m 46 (cdR (cdR (cdR (cdR trunk_Unlike_c)))) trunk_Unlike_h.r.r.r.r s (trunk_Unlike_fin)
noncomputable def trunk_Unlike_b1 (m : Nat) (s : ASt) (kc : ASt → RO) (kx : KO (AV × List AObj)) : RO := bodyW Tryd.prog GG (trunk_Unlike_env m) m 46 (cdL (cdL (cdR (cdL (cdR (cdR (cdR trunk_Unlike_c))))))) trunk_Unlike_h.r.r.r.l.r.c.c [2, 3, 6, 16] [6] s kc kx
noncomputable def trunk_Unlike_r1 (m : Nat) (s : ASt) : RO := joinW Tryd.prog GG (trunk_Unlike_env m) m 46 (cdR (cdR trunk_Unlike_c)) trunk_Unlike_h.r.r s (trunk_Unlike_fin)
noncomputable def trunk_Unlike (m : Nat) (t0 t1 : AV) : RO := exec Tryd.prog GG (trunk_Unlike_env m) m 46 trunk_Unlike_c trunk_Unlike_h ⟨[], argsT 0 [t0, t1]⟩ (trunk_Unlike_fin)
theorem trunk_Unlike_r4_eq (m : Nat) (n0 : Nat) (kc : ASt → RO) (kx : KO (AV × List AObj)) (H : List AObj) (t2 t3 t6 t16 : AV) : trunk_Unlike_r4 m n0 kc kx ⟨H, [(2, t2), (3, t3), (6, t6), (16, t16)]⟩ =
  binE none false false .add t16 (V (.int .i64 1)) fun t44 =>
  backE n0 H [(2, t2), (3, t3), (6, t6), (16, t44)] kc := by
  refine (joinW_eq Tryd.prog GG (trunk_Unlike_env m) m 46 (cdR (cdR (cdR (cdL (cdL (cdR (cdL (cdR (cdR (cdR trunk_Unlike_c)))))))))) trunk_Unlike_h.r.r.r.l.r.c.c.r.r.r ⟨H, [(2, t2), (3, t3), (6, t6), (16, t16)]⟩ (backW n0 [2, 3, 6, 16] [6] kc kx)).trans ?_
  kernel_rfl
theorem trunk_Unlike_r3_eq (m : Nat) (n0 : Nat) (kc : ASt → RO) (kx : KO (AV × List AObj)) (H : List AObj) (t2 t3 t6 t7 t16 t39 : AV) : trunk_Unlike_r3 m n0 kc kx ⟨H, [(2, t2), (3, t3), (6, t6), (7, t7), (16, t16), (39, t39)]⟩ =
  condE t39 (
   buildSE (some (ty_int, 1)) 1 [(0, t7)] fun t42 =>
   appE (some (ty_int, 1)) H t6 t42 fun t43 H2 =>
   trunk_Unlike_r4 m n0 kc kx ⟨H2, [(2, t2), (3, t3), (6, t43), (16, t16)]⟩) (
   trunk_Unlike_r4 m n0 kc kx ⟨H, [(2, t2), (3, t3), (6, t6), (16, t16)]⟩) := by
  refine (joinW_eq Tryd.prog GG (trunk_Unlike_env m) m 46 (cdR (cdR (cdL (cdL (cdR (cdR (cdL (cdL (cdR (cdL (cdR (cdR (cdR trunk_Unlike_c))))))))))))) trunk_Unlike_h.r.r.r.l.r.c.c.r.r.l.c.r.r ⟨H, [(2, t2), (3, t3), (6, t6), (7, t7), (16, t16), (39, t39)]⟩ (blockX 1 (seqX (fun s => trunk_Unlike_r4 m n0 kc kx ⟨s.H, [(2, gt s.T 2), (3, gt s.T 3), (6, gt s.T 6), (16, gt s.T 16)]⟩) (backW n0 [2, 3, 6, 16] [6] kc kx)))).trans ?_
  kernel_rfl
theorem trunk_Unlike_r2_eq (m : Nat) (H : List AObj) (t6 : AV) : trunk_Unlike_r2 m ⟨H, [(6, t6)]⟩ =
  tellK H (ro H (TU [noT t6, noT (V (.int .i64 0))])) := by
  refine (joinW_eq Tryd.prog GG (trunk_Unlike_env m) m 46 (cdR (cdR (cdR (cdR trunk_Unlike_c)))) trunk_Unlike_h.r.r.r.r ⟨H, [(6, t6)]⟩ (trunk_Unlike_fin)).trans ?_
  kernel_rfl
theorem trunk_Unlike_b1_eq (m : Nat) (H : List AObj) (t2 t3 t6 t16 : AV) (kc : ASt → RO) (kx : KO (AV × List AObj)) : trunk_Unlike_b1 m ⟨H, [(2, t2), (3, t3), (6, t6), (16, t16)]⟩ kc kx =
  binE none false false .lss t16 (V (.int .i64 16)) fun t17 =>
  condE t17 (
   fieldE (some (16, 18)) t2 fun t20 =>
   idxPE 16 1 t20 t16 fun t21 =>
   loadE 1 H t21 fun t22 =>
   fieldE (some (16, 18)) t3 fun t24 =>
   idxPE 16 1 t24 t16 fun t25 =>
   loadE 1 H t25 fun t26 =>
   binE none false false .neq t22 t26 fun t27 =>
   condE t27 (
    trunk_Unlike_r3 m H.length kc kx ⟨H, [(2, t2), (3, t3), (6, t6), (7, t16), (16, t16), (39, (V (.bool true)))]⟩) (
    fieldE (some (0, 18)) t2 fun t30 =>
    idxPE 16 1 t30 t16 fun t31 =>
    loadE 1 H t31 fun t32 =>
    fieldE (some (0, 18)) t3 fun t34 =>
    idxPE 16 1 t34 t16 fun t35 =>
    loadE 1 H t35 fun t36 =>
    tellE (slices_Equal_Item m (ro H t32) (ro H t36)) [(ro H t32), (ro H t36)] fun t37 =>
    unE .not t37 fun t38 =>
    trunk_Unlike_r3 m H.length kc kx ⟨H, [(2, t2), (3, t3), (6, t6), (7, t16), (16, t16), (39, t38)]⟩)) (
   kx (.exit 0) ⟨H, [(6, t6)]⟩) := by
  refine (bodyW_eq Tryd.prog GG (trunk_Unlike_env m) m 46 (cdL (cdL (cdR (cdL (cdR (cdR (cdR trunk_Unlike_c))))))) trunk_Unlike_h.r.r.r.l.r.c.c [2, 3, 6, 16] [6] ⟨H, [(2, t2), (3, t3), (6, t6), (16, t16)]⟩ kc kx).trans ?_
  kernel_rfl
theorem trunk_Unlike_r1_eq (m : Nat) (H : List AObj) (t2 t3 : AV) : trunk_Unlike_r1 m ⟨H, [(2, t2), (3, t3)]⟩ =
  rowE (V (.slice none 0 0)) ty_int 1 H fun t6 H2 =>
  iterC m (trunk_Unlike_b1 m) ⟨H2, [(2, t2), (3, t3), (6, t6), (16, (V (.int .i64 0)))]⟩ (blockX 0 (seqX (fun s => trunk_Unlike_r2 m ⟨s.H, [(6, gt s.T 6)]⟩) (trunk_Unlike_fin))) := by
  refine (joinW_eq Tryd.prog GG (trunk_Unlike_env m) m 46 (cdR (cdR trunk_Unlike_c)) trunk_Unlike_h.r.r ⟨H, [(2, t2), (3, t3)]⟩ (trunk_Unlike_fin)).trans ?_
  kernel_rfl
theorem trunk_Unlike_eq (m : Nat) (t0 t1 : AV) : trunk_Unlike m t0 t1 =
  boxE ty_api_Trunk [] t0 fun t2 H1 =>
  boxE ty_api_Trunk H1 t1 fun t3 H2 =>
  loadE 34 H2 t2 fun t8 =>
  tellE (trunk_May_t m [(ro H2 t8)]) [(ro H2 t8)] fun t9 =>
  unE .not t9 fun t10 =>
  condE t10 (
   tellK H2 (ro H2 (TU [noT (V (.slice none 0 0)), noT (V (.int .i64 1))]))) (
   loadE 34 H2 t3 fun t12 =>
   tellE (trunk_May_t m [(ro H2 t12)]) [(ro H2 t12)] fun t13 =>
   unE .not t13 fun t14 =>
   condE t14 (
   tellK H2 (ro H2 (TU [noT (V (.slice none 0 0)), noT (V (.int .i64 1))]))) (
   trunk_Unlike_r1 m ⟨H2, [(2, t2), (3, t3)]⟩)) := by
  refine (tellX Tryd.prog GG (trunk_Unlike_env m) m 46 trunk_Unlike_c trunk_Unlike_h ⟨[], argsT 0 [t0, t1]⟩ [.tmp 4, .tmp 5]).trans ?_
  kernel_rfl
noncomputable def trunk_Unlike_t (m : Nat) : List AV → RO | [t0, t1] => trunk_Unlike m t0 t1 | _ => none
theorem trunk_Unlike_ok (m : Nat) : ∀ args X H', trunk_Unlike_t m args = some (X, H') → ACp Tryd.prog GG 32 args X := by
  intro args X H' h
  unfold trunk_Unlike_t at h
  split at h
  · exact tell_okK MIX (by
    intro f e h
    simp only [trunk_Unlike_env, Prod.mk.injEq, List.mem_cons, List.not_mem_nil, or_false] at h
    rcases h with ⟨rfl, rfl⟩ | ⟨rfl, rfl⟩
    · exact trunk_May_ok m
    · exact slices_Equal_Item_ok m) (f := 32) (c := trunk_Unlike_c) Tryd.func32 rfl (by kernel_rfl) _ rfl Tryd.ntmps32 (Nat.le_of_ble_eq_true rfl) trunk_Unlike_h h
  · cases h
noncomputable def plenumref10_Fits_c : Code := (Tryd.f47.body).getD .skip
def plenumref10_Fits_h : Hint := (.two .n (.join [1, 2] (.two .n (.one (.lp [] [0, 1, 2, 7] [1, 2, 6] (.two (.two .n (.two .n .n)) (.two (.one (.two .n (.two (.two .n .n) .n))) .n))))) (.two .n .n)))
noncomputable def plenumref10_Fits_env (m : Nat) : Env := [(54, .tell (plenumref08_Is_t m)), (55, .tell (plenumref09_Is_t m))]
noncomputable abbrev plenumref10_Fits_fin : KO (AV × List AObj) := tellFK Tryd.prog [.tmp 6]
noncomputable def plenumref10_Fits_r1 (m : Nat) (s : ASt) : RO := joinW Tryd.prog GG (plenumref10_Fits_env m) m 52 (cdR (cdR plenumref10_Fits_c)) plenumref10_Fits_h.r.r s (plenumref10_Fits_fin)
noncomputable def plenumref10_Fits_b1 (m : Nat) (s : ASt) (kc : ASt → RO) (kx : KO (AV × List AObj)) : RO := bodyW Tryd.prog GG (plenumref10_Fits_env m) m 52 (cdL (cdL (cdR (cdL (cdR plenumref10_Fits_c))))) plenumref10_Fits_h.r.l.r.c.c [0, 1, 2, 7] [1, 2, 6] s kc kx
noncomputable def plenumref10_Fits (m : Nat) (t0 t1 t2 : AV) : RO := exec Tryd.prog GG (plenumref10_Fits_env m) m 52 plenumref10_Fits_c plenumref10_Fits_h ⟨[], argsT 0 [t0, t1, t2]⟩ (plenumref10_Fits_fin)
theorem plenumref10_Fits_r1_eq (m : Nat) (H : List AObj) (t1 t2 : AV) : plenumref10_Fits_r1 m ⟨H, [(1, t1), (2, t2)]⟩ =
  tellE (plenumref09_Is_t m [(ro H t1)]) [(ro H t1)] fun t43 =>
  condE t43 (
   binE none false false .leq (V (.int .i64 0)) t2 fun t46 =>
   condE t46 (
   binE none false false .leq t2 (V (.int .i64 2147483647)) fun t50 =>
   tellK H (ro H t50)) (
   tellK H (ro H (V (.bool false))))) (
   tellK H (ro H (V (.bool false)))) := by
  refine (joinW_eq Tryd.prog GG (plenumref10_Fits_env m) m 52 (cdR (cdR plenumref10_Fits_c)) plenumref10_Fits_h.r.r ⟨H, [(1, t1), (2, t2)]⟩ (plenumref10_Fits_fin)).trans ?_
  kernel_rfl
theorem plenumref10_Fits_b1_eq (m : Nat) (H : List AObj) (t0 t1 t2 t7 : AV) (kc : ASt → RO) (kx : KO (AV × List AObj)) : plenumref10_Fits_b1 m ⟨H, [(0, t0), (1, t1), (2, t2), (7, t7)]⟩ kc kx =
  lenE false true H t1 fun t10 =>
  binE none false false .lss t7 t10 fun t11 =>
  condE t11 (
   idxSE 7 H t1 t7 fun t16 =>
   fieldE (some (0, 1)) t16 fun t17 =>
   loadE 1 H t17 fun t18 =>
   tellE (plenumref08_Is_t m [(ro H t18)]) [(ro H t18)] fun t19 =>
   unE .not t19 fun t20 =>
   condE t20 (
    kx .ret ⟨H, [(1, t1), (2, t2), (6, (V (.bool false)))]⟩) (
    idxSE 7 H t1 t7 fun t24 =>
    fieldE (some (0, 1)) t24 fun t25 =>
    loadE 1 H t25 fun t26 =>
    idxVE true none t26 (V (.int .i64 0)) fun t27 =>
    convE false (some .i64) true t27 fun t28 =>
    binE none false false .rem t28 (V (.int .i64 16)) fun t29 =>
    binE none false false .neq t29 t0 fun t31 =>
    condE t31 (
    kx .ret ⟨H, [(1, t1), (2, t2), (6, (V (.bool false)))]⟩) (
    idxSE 7 H t1 t7 fun t36 =>
    fieldE (some (4, 1)) t36 fun t37 =>
    loadE 1 H t37 fun t38 =>
    binE none false false .gtr t38 t2 fun t40 =>
    condE t40 (
    kx .ret ⟨H, [(1, t1), (2, t2), (6, (V (.bool false)))]⟩) (
    binE none false false .add t7 (V (.int .i64 1)) fun t13 =>
    backE H.length H [(0, t0), (1, t1), (2, t2), (7, t13)] kc)))) (
   kx (.exit 0) ⟨H, [(1, t1), (2, t2), (6, .nil)]⟩) := by
  refine (bodyW_eq Tryd.prog GG (plenumref10_Fits_env m) m 52 (cdL (cdL (cdR (cdL (cdR plenumref10_Fits_c))))) plenumref10_Fits_h.r.l.r.c.c [0, 1, 2, 7] [1, 2, 6] ⟨H, [(0, t0), (1, t1), (2, t2), (7, t7)]⟩ kc kx).trans ?_
  kernel_rfl
theorem plenumref10_Fits_eq (m : Nat) (t0 t1 t2 : AV) : plenumref10_Fits m t0 t1 t2 =
  iterC m (plenumref10_Fits_b1 m) ⟨[], [(0, t0), (1, t1), (2, t2), (7, (V (.int .i64 0)))]⟩ (blockX 0 (seqX (fun s => plenumref10_Fits_r1 m ⟨s.H, [(1, gt s.T 1), (2, gt s.T 2)]⟩) (plenumref10_Fits_fin))) := by
  refine (tellX Tryd.prog GG (plenumref10_Fits_env m) m 52 plenumref10_Fits_c plenumref10_Fits_h ⟨[], argsT 0 [t0, t1, t2]⟩ [.tmp 6]).trans ?_
  kernel_rfl
noncomputable def plenumref10_Fits_t (m : Nat) : List AV → RO | [t0, t1, t2] => plenumref10_Fits m t0 t1 t2 | _ => none
theorem plenumref10_Fits_ok (m : Nat) : ∀ args X H', plenumref10_Fits_t m args = some (X, H') → ACp Tryd.prog GG 47 args X := by
  intro args X H' h
  unfold plenumref10_Fits_t at h
  split at h
  · exact tell_okK MIX (by
    intro f e h
    simp only [plenumref10_Fits_env, Prod.mk.injEq, List.mem_cons, List.not_mem_nil, or_false] at h
    rcases h with ⟨rfl, rfl⟩ | ⟨rfl, rfl⟩
    · exact plenumref08_Is_ok m
    · exact plenumref09_Is_ok m) (f := 47) (c := plenumref10_Fits_c) Tryd.func47 rfl (by kernel_rfl) _ rfl Tryd.ntmps47 (Nat.le_of_ble_eq_true rfl) plenumref10_Fits_h h
  · cases h
noncomputable def plenumref10_May_c : Code := (Tryd.f37.body).getD .skip
def plenumref10_May_h : Hint := (.two .n (.join [] (.two .n (.one (.lp [] [1, 3] [2] (.two (.two .n (.two .n .n)) (.two (.one (.two .n (.two (.two .n .n) .n))) .n))))) (.two .n .n)))
noncomputable def plenumref10_May_env (m : Nat) : Env := [(47, .tell (plenumref10_Fits_t m))]
noncomputable abbrev plenumref10_May_fin : KO (AV × List AObj) := tellFK Tryd.prog [.tmp 2]
noncomputable def plenumref10_May_r1 (m : Nat) (s : ASt) : RO := joinW Tryd.prog GG (plenumref10_May_env m) m 19 (cdR (cdR plenumref10_May_c)) plenumref10_May_h.r.r s (plenumref10_May_fin)
noncomputable def plenumref10_May_b1 (m : Nat) (s : ASt) (kc : ASt → RO) (kx : KO (AV × List AObj)) : RO := bodyW Tryd.prog GG (plenumref10_May_env m) m 19 (cdL (cdL (cdR (cdL (cdR plenumref10_May_c))))) plenumref10_May_h.r.l.r.c.c [1, 3] [2] s kc kx
noncomputable def plenumref10_May (m : Nat) (t0 : AV) : RO := exec Tryd.prog GG (plenumref10_May_env m) m 19 plenumref10_May_c plenumref10_May_h ⟨[], argsT 0 [t0]⟩ (plenumref10_May_fin)
theorem plenumref10_May_r1_eq (m : Nat) (H : List AObj) : plenumref10_May_r1 m ⟨H, []⟩ =
  tellK H (ro H (V (.bool true))) := by
  refine (joinW_eq Tryd.prog GG (plenumref10_May_env m) m 19 (cdR (cdR plenumref10_May_c)) plenumref10_May_h.r.r ⟨H, []⟩ (plenumref10_May_fin)).trans ?_
  kernel_rfl
theorem plenumref10_May_b1_eq (m : Nat) (H : List AObj) (t1 t3 : AV) (kc : ASt → RO) (kx : KO (AV × List AObj)) : plenumref10_May_b1 m ⟨H, [(1, t1), (3, t3)]⟩ kc kx =
  binE none false false .lss t3 (V (.int .i64 16)) fun t5 =>
  condE t5 (
   fieldE (some (0, 18)) t1 fun t10 =>
   idxPE 16 1 t10 t3 fun t11 =>
   loadE 1 H t11 fun t12 =>
   fieldE (some (16, 18)) t1 fun t14 =>
   idxPE 16 1 t14 t3 fun t15 =>
   loadE 1 H t15 fun t16 =>
   tellE (plenumref10_Fits m (ro H t3) (ro H t12) (ro H t16)) [(ro H t3), (ro H t12), (ro H t16)] fun t17 =>
   unE .not t17 fun t18 =>
   condE t18 (
    kx .ret ⟨H, [(2, (V (.bool false)))]⟩) (
    binE none false false .add t3 (V (.int .i64 1)) fun t7 =>
    backE H.length H [(1, t1), (3, t7)] kc)) (
   kx (.exit 0) ⟨H, [(2, .nil)]⟩) := by
  refine (bodyW_eq Tryd.prog GG (plenumref10_May_env m) m 19 (cdL (cdL (cdR (cdL (cdR plenumref10_May_c))))) plenumref10_May_h.r.l.r.c.c [1, 3] [2] ⟨H, [(1, t1), (3, t3)]⟩ kc kx).trans ?_
  kernel_rfl
theorem plenumref10_May_eq (m : Nat) (t0 : AV) : plenumref10_May m t0 =
  boxE ty_api_Trunk [] t0 fun t1 H1 =>
  iterC m (plenumref10_May_b1 m) ⟨H1, [(1, t1), (3, (V (.int .i64 0)))]⟩ (blockX 0 (seqX (fun s => plenumref10_May_r1 m ⟨s.H, []⟩) (plenumref10_May_fin))) := by
  refine (tellX Tryd.prog GG (plenumref10_May_env m) m 19 plenumref10_May_c plenumref10_May_h ⟨[], argsT 0 [t0]⟩ [.tmp 2]).trans ?_
  kernel_rfl
noncomputable def plenumref10_May_t (m : Nat) : List AV → RO | [t0] => plenumref10_May m t0 | _ => none
theorem plenumref10_May_ok (m : Nat) : ∀ args X H', plenumref10_May_t m args = some (X, H') → ACp Tryd.prog GG 37 args X := by
  intro args X H' h
  unfold plenumref10_May_t at h
  split at h
  · exact tell_okK MIX (by
    intro f e h
    simp only [plenumref10_May_env, Prod.mk.injEq, List.mem_cons, List.not_mem_nil, or_false] at h
    obtain ⟨rfl, rfl⟩ := h
    · exact plenumref10_Fits_ok m) (f := 37) (c := plenumref10_May_c) Tryd.func37 rfl (by kernel_rfl) _ rfl Tryd.ntmps37 (Nat.le_of_ble_eq_true rfl) plenumref10_May_h h
  · cases h
noncomputable def plenumref10_All_c : Code := (Tryd.f40.body).getD .skip
def plenumref10_All_h : Hint := (.two .n (.two .n (.join [3] (.two .n (.one (.lp [(3, ty_api_Item, 5)] [1, 3, 4] [3] (.two (.two .n (.two .n .n)) (.two (.one .n) .n))))) (.two .n .n))))
noncomputable def plenumref10_All_env (m : Nat) : Env := []
noncomputable abbrev plenumref10_All_fin : KO (AV × List AObj) := tellFK Tryd.prog [.tmp 2]
noncomputable def plenumref10_All_r1 (m : Nat) (s : ASt) : RO := joinW Tryd.prog GG (plenumref10_All_env m) m 16 (cdR (cdR (cdR plenumref10_All_c))) plenumref10_All_h.r.r.r s (plenumref10_All_fin)
noncomputable def plenumref10_All_b1 (m : Nat) (s : ASt) (kc : ASt → RO) (kx : KO (AV × List AObj)) : RO := bodyW Tryd.prog GG (plenumref10_All_env m) m 16 (cdL (cdL (cdR (cdL (cdR (cdR plenumref10_All_c)))))) plenumref10_All_h.r.r.l.r.c.c [1, 3, 4] [3] s kc kx
noncomputable def plenumref10_All (m : Nat) (t0 : AV) : RO := exec Tryd.prog GG (plenumref10_All_env m) m 16 plenumref10_All_c plenumref10_All_h ⟨[], argsT 0 [t0]⟩ (plenumref10_All_fin)
theorem plenumref10_All_r1_eq (m : Nat) (H : List AObj) (t3 : AV) : plenumref10_All_r1 m ⟨H, [(3, t3)]⟩ =
  tellK H (ro H t3) := by
  refine (joinW_eq Tryd.prog GG (plenumref10_All_env m) m 16 (cdR (cdR (cdR plenumref10_All_c))) plenumref10_All_h.r.r.r ⟨H, [(3, t3)]⟩ (plenumref10_All_fin)).trans ?_
  kernel_rfl
theorem plenumref10_All_b1_eq (m : Nat) (H : List AObj) (t1 t3 t4 : AV) (kc : ASt → RO) (kx : KO (AV × List AObj)) : plenumref10_All_b1 m ⟨H, [(1, t1), (3, t3), (4, t4)]⟩ kc kx =
  binE none false false .lss t4 (V (.int .i64 16)) fun t6 =>
  condE t6 (
   fieldE (some (0, 18)) t1 fun t11 =>
   idxPE 16 1 t11 t4 fun t12 =>
   loadE 1 H t12 fun t13 =>
   appE (some (ty_api_Item, 5)) H t3 t13 fun t14 H2 =>
   binE none false false .add t4 (V (.int .i64 1)) fun t8 =>
   backE H.length H2 [(1, t1), (3, t14), (4, t8)] kc) (
   kx (.exit 0) ⟨H, [(3, t3)]⟩) := by
  refine (bodyW_eq Tryd.prog GG (plenumref10_All_env m) m 16 (cdL (cdL (cdR (cdL (cdR (cdR plenumref10_All_c)))))) plenumref10_All_h.r.r.l.r.c.c [1, 3, 4] [3] ⟨H, [(1, t1), (3, t3), (4, t4)]⟩ kc kx).trans ?_
  kernel_rfl
theorem plenumref10_All_eq (m : Nat) (t0 : AV) : plenumref10_All m t0 =
  boxE ty_api_Trunk [] t0 fun t1 H1 =>
  rowE (V (.slice none 0 0)) ty_api_Item 5 H1 fun t3 H2 =>
  iterC m (plenumref10_All_b1 m) ⟨H2, [(1, t1), (3, t3), (4, (V (.int .i64 0)))]⟩ (blockX 0 (seqX (fun s => plenumref10_All_r1 m ⟨s.H, [(3, gt s.T 3)]⟩) (plenumref10_All_fin))) := by
  refine (tellX Tryd.prog GG (plenumref10_All_env m) m 16 plenumref10_All_c plenumref10_All_h ⟨[], argsT 0 [t0]⟩ [.tmp 2]).trans ?_
  kernel_rfl
noncomputable def plenumref10_All_t (m : Nat) : List AV → RO | [t0] => plenumref10_All m t0 | _ => none
theorem plenumref10_All_ok (m : Nat) : ∀ args X H', plenumref10_All_t m args = some (X, H') → ACp Tryd.prog GG 40 args X := by
  intro args X H' h
  unfold plenumref10_All_t at h
  split at h
  · exact tell_okK MIX (by intro f e h; cases h) (f := 40) (c := plenumref10_All_c) Tryd.func40 rfl (by kernel_rfl) _ rfl Tryd.ntmps40 (Nat.le_of_ble_eq_true rfl) plenumref10_All_h h
  · cases h
noncomputable def plenumref10_Same_c : Code := (Tryd.f31.body).getD .skip
def plenumref10_Same_h : Hint := (.two .n (.join [] (.two .n (.one (.lp [] [2, 3, 5] [4] (.two (.two .n (.two .n .n)) (.two (.one (.two .n (.two (.two .n .n) .n))) .n))))) (.two .n .n)))
noncomputable def plenumref10_Same_env (m : Nat) : Env := [(24, .tell (plenumref09_Same_t m))]
noncomputable abbrev plenumref10_Same_fin : KO (AV × List AObj) := tellFK Tryd.prog [.tmp 4]
noncomputable def plenumref10_Same_r1 (m : Nat) (s : ASt) : RO := joinW Tryd.prog GG (plenumref10_Same_env m) m 31 (cdR (cdR plenumref10_Same_c)) plenumref10_Same_h.r.r s (plenumref10_Same_fin)
noncomputable def plenumref10_Same_b1 (m : Nat) (s : ASt) (kc : ASt → RO) (kx : KO (AV × List AObj)) : RO := bodyW Tryd.prog GG (plenumref10_Same_env m) m 31 (cdL (cdL (cdR (cdL (cdR plenumref10_Same_c))))) plenumref10_Same_h.r.l.r.c.c [2, 3, 5] [4] s kc kx
noncomputable def plenumref10_Same (m : Nat) (t0 t1 : AV) : RO := exec Tryd.prog GG (plenumref10_Same_env m) m 31 plenumref10_Same_c plenumref10_Same_h ⟨[], argsT 0 [t0, t1]⟩ (plenumref10_Same_fin)
theorem plenumref10_Same_r1_eq (m : Nat) (H : List AObj) : plenumref10_Same_r1 m ⟨H, []⟩ =
  tellK H (ro H (V (.bool true))) := by
  refine (joinW_eq Tryd.prog GG (plenumref10_Same_env m) m 31 (cdR (cdR plenumref10_Same_c)) plenumref10_Same_h.r.r ⟨H, []⟩ (plenumref10_Same_fin)).trans ?_
  kernel_rfl
theorem plenumref10_Same_b1_eq (m : Nat) (H : List AObj) (t2 t3 t5 : AV) (kc : ASt → RO) (kx : KO (AV × List AObj)) : plenumref10_Same_b1 m ⟨H, [(2, t2), (3, t3), (5, t5)]⟩ kc kx =
  binE none false false .lss t5 (V (.int .i64 16)) fun t7 =>
  condE t7 (
   fieldE (some (16, 18)) t2 fun t11 =>
   idxPE 16 1 t11 t5 fun t12 =>
   loadE 1 H t12 fun t13 =>
   fieldE (some (16, 18)) t3 fun t15 =>
   idxPE 16 1 t15 t5 fun t16 =>
   loadE 1 H t16 fun t17 =>
   binE none false false .neq t13 t17 fun t18 =>
   condE t18 (
    kx .ret ⟨H, [(4, (V (.bool false)))]⟩) (
    fieldE (some (0, 18)) t2 fun t21 =>
    idxPE 16 1 t21 t5 fun t22 =>
    loadE 1 H t22 fun t23 =>
    fieldE (some (0, 18)) t3 fun t25 =>
    idxPE 16 1 t25 t5 fun t26 =>
    loadE 1 H t26 fun t27 =>
    tellE (plenumref09_Same_t m [(ro H t23), (ro H t27)]) [(ro H t23), (ro H t27)] fun t28 =>
    unE .not t28 fun t29 =>
    condE t29 (
    kx .ret ⟨H, [(4, (V (.bool false)))]⟩) (
    binE none false false .add t5 (V (.int .i64 1)) fun t9 =>
    backE H.length H [(2, t2), (3, t3), (5, t9)] kc))) (
   kx (.exit 0) ⟨H, [(4, .nil)]⟩) := by
  refine (bodyW_eq Tryd.prog GG (plenumref10_Same_env m) m 31 (cdL (cdL (cdR (cdL (cdR plenumref10_Same_c))))) plenumref10_Same_h.r.l.r.c.c [2, 3, 5] [4] ⟨H, [(2, t2), (3, t3), (5, t5)]⟩ kc kx).trans ?_
  kernel_rfl
theorem plenumref10_Same_eq (m : Nat) (t0 t1 : AV) : plenumref10_Same m t0 t1 =
  boxE ty_api_Trunk [] t0 fun t2 H1 =>
  boxE ty_api_Trunk H1 t1 fun t3 H2 =>
  iterC m (plenumref10_Same_b1 m) ⟨H2, [(2, t2), (3, t3), (5, (V (.int .i64 0)))]⟩ (blockX 0 (seqX (fun s => plenumref10_Same_r1 m ⟨s.H, []⟩) (plenumref10_Same_fin))) := by
  refine (tellX Tryd.prog GG (plenumref10_Same_env m) m 31 plenumref10_Same_c plenumref10_Same_h ⟨[], argsT 0 [t0, t1]⟩ [.tmp 4]).trans ?_
  kernel_rfl
noncomputable def plenumref10_Same_t (m : Nat) : List AV → RO | [t0, t1] => plenumref10_Same m t0 t1 | _ => none
theorem plenumref10_Same_ok (m : Nat) : ∀ args X H', plenumref10_Same_t m args = some (X, H') → ACp Tryd.prog GG 31 args X := by
  intro args X H' h
  unfold plenumref10_Same_t at h
  split at h
  · exact tell_okK MIX (by
    intro f e h
    simp only [plenumref10_Same_env, Prod.mk.injEq, List.mem_cons, List.not_mem_nil, or_false] at h
    obtain ⟨rfl, rfl⟩ := h
    · exact plenumref09_Same_ok m) (f := 31) (c := plenumref10_Same_c) Tryd.func31 rfl (by kernel_rfl) _ rfl Tryd.ntmps31 (Nat.le_of_ble_eq_true rfl) plenumref10_Same_h h
  · cases h
noncomputable def store_within_c : Code := (Tryd.f34.body).getD .skip
def store_within_h : Hint := (.two .n (.two .n .n))
noncomputable def store_within_env (m : Nat) : Env := []
noncomputable abbrev store_within_fin : KO (AV × List AObj) := tellFK Tryd.prog [.tmp 4]
noncomputable def store_within (m : Nat) (t0 t1 : AV) : RO := exec Tryd.prog GG (store_within_env m) m 12 store_within_c store_within_h ⟨[], argsT 0 [t0, t1]⟩ (store_within_fin)
theorem store_within_eq (m : Nat) (t0 t1 : AV) : store_within m t0 t1 =
  binE none false false .geq t0 (V (.int .i64 0)) fun t6 =>
  condE t6 (
   binE none false false .leq t0 t1 fun t10 =>
   tellK [] (ro [] t10)) (
   tellK [] (ro [] (V (.bool false)))) := by
  refine (tellX Tryd.prog GG (store_within_env m) m 12 store_within_c store_within_h ⟨[], argsT 0 [t0, t1]⟩ [.tmp 4]).trans ?_
  kernel_rfl
noncomputable def store_within_t (m : Nat) : List AV → RO | [t0, t1] => store_within m t0 t1 | _ => none
theorem store_within_ok (m : Nat) : ∀ args X H', store_within_t m args = some (X, H') → ACp Tryd.prog GG 34 args X := by
  intro args X H' h
  unfold store_within_t at h
  split at h
  · exact tell_okK MIX (by intro f e h; cases h) (f := 34) (c := store_within_c) Tryd.func34 rfl (by kernel_rfl) _ rfl Tryd.ntmps34 (Nat.le_of_ble_eq_true rfl) store_within_h h
  · cases h
noncomputable def store_May_c : Code := (Tryd.f25.body).getD .skip
def store_May_h : Hint := (.two .n (.join [1] (.two .n (.two (.two .n .n) .n)) (.join [1] (.two .n (.one (.lp [] [1, 29, 30] [1, 2] (.two .n (.two (.two .n .n) (.two (.one (.two .n (.two .n (.two (.two .n .n) .n)))) .n)))))) (.two .n .n))))
noncomputable def store_May_env (m : Nat) : Env := [(33, .tell (trunk_May_t m)), (34, .tell (store_within_t m)), (35, .tell (trunk_Weight_t m)), (36, .tell (trunk_Count_t m))]
noncomputable abbrev store_May_fin : KO (AV × List AObj) := tellFK Tryd.prog [.tmp 2]
noncomputable def store_May_r2 (m : Nat) (s : ASt) : RO := joinW Tryd.prog GG (store_May_env m) m 52 (cdR (cdR (cdR store_May_c))) store_May_h.r.r.r s (store_May_fin)
noncomputable def store_May_b1 (m : Nat) (s : ASt) (kc : ASt → RO) (kx : KO (AV × List AObj)) : RO := bodyW Tryd.prog GG (store_May_env m) m 52 (cdL (cdL (cdR (cdL (cdR (cdR store_May_c)))))) store_May_h.r.r.l.r.c.c [1, 29, 30] [1, 2] s kc kx
noncomputable def store_May_r1 (m : Nat) (s : ASt) : RO := joinW Tryd.prog GG (store_May_env m) m 52 (cdR (cdR store_May_c)) store_May_h.r.r s (store_May_fin)
noncomputable def store_May (m : Nat) (t0 : AV) : RO := exec Tryd.prog GG (store_May_env m) m 52 store_May_c store_May_h ⟨[], argsT 0 [t0]⟩ (store_May_fin)
theorem store_May_r2_eq (m : Nat) (H : List AObj) (t1 : AV) : store_May_r2 m ⟨H, [(1, t1)]⟩ =
  fieldE (some (0, 34)) t1 fun t38 =>
  loadE 34 H t38 fun t39 =>
  tellE (trunk_Weight_t m [(ro H t39)]) [(ro H t39)] fun t40 =>
  fieldE (some (33, 1)) t1 fun t41 =>
  loadE 1 H t41 fun t42 =>
  binE none false false .leq t40 t42 fun t43 =>
  condE t43 (
   fieldE (some (0, 34)) t1 fun t45 =>
   loadE 34 H t45 fun t46 =>
   tellE (trunk_Count_t m [(ro H t46)]) [(ro H t46)] fun t47 =>
   fieldE (some (34, 1)) t1 fun t48 =>
   loadE 1 H t48 fun t49 =>
   binE none false false .leq t47 t49 fun t50 =>
   tellK H (ro H t50)) (
   tellK H (ro H (V (.bool false)))) := by
  refine (joinW_eq Tryd.prog GG (store_May_env m) m 52 (cdR (cdR (cdR store_May_c))) store_May_h.r.r.r ⟨H, [(1, t1)]⟩ (store_May_fin)).trans ?_
  kernel_rfl
theorem store_May_b1_eq (m : Nat) (H : List AObj) (t1 t29 t30 : AV) (kc : ASt → RO) (kx : KO (AV × List AObj)) : store_May_b1 m ⟨H, [(1, t1), (29, t29), (30, t30)]⟩ kc kx =
  binE none false false .lss t30 (V (.int .i64 16)) fun t31 =>
  condE t31 (
   idxVE false (some (16, 1)) t29 t30 fun t32 =>
   fieldE (some (32, 1)) t1 fun t34 =>
   loadE 1 H t34 fun t35 =>
   binE none false false .gtr t32 t35 fun t36 =>
   condE t36 (
    kx .ret ⟨H, [(1, t1), (2, (V (.bool false)))]⟩) (
    binE none false false .add t30 (V (.int .i64 1)) fun t37 =>
    backE H.length H [(1, t1), (29, t29), (30, t37)] kc)) (
   kx (.exit 0) ⟨H, [(1, t1), (2, .nil)]⟩) := by
  refine (bodyW_eq Tryd.prog GG (store_May_env m) m 52 (cdL (cdL (cdR (cdL (cdR (cdR store_May_c)))))) store_May_h.r.r.l.r.c.c [1, 29, 30] [1, 2] ⟨H, [(1, t1), (29, t29), (30, t30)]⟩ kc kx).trans ?_
  kernel_rfl
theorem store_May_r1_eq (m : Nat) (H : List AObj) (t1 : AV) : store_May_r1 m ⟨H, [(1, t1)]⟩ =
  fieldE (some (0, 34)) t1 fun t27 =>
  fieldE (some (16, 18)) t27 fun t28 =>
  loadE 18 H t28 fun t29 =>
  iterC m (store_May_b1 m) ⟨H, [(1, t1), (29, t29), (30, (V (.int .i64 0)))]⟩ (blockX 0 (seqX (fun s => store_May_r2 m ⟨s.H, [(1, gt s.T 1)]⟩) (store_May_fin))) := by
  refine (joinW_eq Tryd.prog GG (store_May_env m) m 52 (cdR (cdR store_May_c)) store_May_h.r.r ⟨H, [(1, t1)]⟩ (store_May_fin)).trans ?_
  kernel_rfl
theorem store_May_eq (m : Nat) (t0 : AV) : store_May m t0 =
  boxE ty_api_Store [] t0 fun t1 H1 =>
  fieldE (some (0, 34)) t1 fun t5 =>
  loadE 34 H1 t5 fun t6 =>
  tellE (trunk_May_t m [(ro H1 t6)]) [(ro H1 t6)] fun t7 =>
  unE .not t7 fun t8 =>
  condE t8 (
   tellK H1 (ro H1 (V (.bool false)))) (
   fieldE (some (32, 1)) t1 fun t10 =>
   loadE 1 H1 t10 fun t11 =>
   tellE (store_within m (ro H1 t11) (V (.int .i64 2147483647))) [(ro H1 t11), (V (.int .i64 2147483647))] fun t12 =>
   unE .not t12 fun t13 =>
   condE t13 (
   tellK H1 (ro H1 (V (.bool false)))) (
   fieldE (some (33, 1)) t1 fun t16 =>
   loadE 1 H1 t16 fun t17 =>
   tellE (store_within m (ro H1 t17) (V (.int .i64 65536))) [(ro H1 t17), (V (.int .i64 65536))] fun t18 =>
   unE .not t18 fun t19 =>
   condE t19 (
   tellK H1 (ro H1 (V (.bool false)))) (
   fieldE (some (34, 1)) t1 fun t22 =>
   loadE 1 H1 t22 fun t23 =>
   tellE (store_within m (ro H1 t23) (V (.int .i64 1024))) [(ro H1 t23), (V (.int .i64 1024))] fun t24 =>
   unE .not t24 fun t25 =>
   condE t25 (
   tellK H1 (ro H1 (V (.bool false)))) (
   store_May_r1 m ⟨H1, [(1, t1)]⟩)))) := by
  refine (tellX Tryd.prog GG (store_May_env m) m 52 store_May_c store_May_h ⟨[], argsT 0 [t0]⟩ [.tmp 2]).trans ?_
  kernel_rfl
noncomputable def store_May_t (m : Nat) : List AV → RO | [t0] => store_May m t0 | _ => none
theorem store_May_ok (m : Nat) : ∀ args X H', store_May_t m args = some (X, H') → ACp Tryd.prog GG 25 args X := by
  intro args X H' h
  unfold store_May_t at h
  split at h
  · exact tell_okK MIX (by
    intro f e h
    simp only [store_May_env, Prod.mk.injEq, List.mem_cons, List.not_mem_nil, or_false] at h
    rcases h with ⟨rfl, rfl⟩ | ⟨rfl, rfl⟩ | ⟨rfl, rfl⟩ | ⟨rfl, rfl⟩
    · exact trunk_May_ok m
    · exact store_within_ok m
    · exact trunk_Weight_ok m
    · exact trunk_Count_ok m) (f := 25) (c := store_May_c) Tryd.func25 rfl (by kernel_rfl) _ rfl Tryd.ntmps25 (Nat.le_of_ble_eq_true rfl) store_May_h h
  · cases h
noncomputable def plenumlaw13_Few_c : Code := (Tryd.f12.body).getD .skip
def plenumlaw13_Few_h : Hint := (.two .n (.two .n (.two .n .n)))
noncomputable def plenumlaw13_Few_env (m : Nat) : Env := [(27, .tell (plenumlaw10_Few_t m))]
noncomputable abbrev plenumlaw13_Few_fin : KO (AV × List AObj) := tellFK Tryd.prog [.cell 2 37]
noncomputable def plenumlaw13_Few (m : Nat) (t0 : AV) : RO := exec Tryd.prog GG (plenumlaw13_Few_env m) m 8 plenumlaw13_Few_c plenumlaw13_Few_h ⟨[], argsT 0 [t0]⟩ (plenumlaw13_Few_fin)
theorem plenumlaw13_Few_eq (m : Nat) (t0 : AV) : plenumlaw13_Few m t0 =
  boxE ty_api_Store [] t0 fun t1 H1 =>
  allocE (some zc_api_Store) ty_api_Store H1 fun t2 H2 =>
  fieldE (some (0, 34)) t1 fun t3 =>
  loadE 34 H2 t3 fun t4 =>
  tellE (plenumlaw10_Few_t m [(ro H2 t4)]) [(ro H2 t4)] fun t5 =>
  fieldE (some (0, 34)) t1 fun t6 =>
  storeE 34 H2 t6 t5 fun H3 =>
  loadE 37 H3 t1 fun t7 =>
  storeE 37 H3 t2 t7 fun H4 =>
  loadE 37 H4 t2 fun t9000 =>
  tellK H4 (ro H4 t9000) := by
  refine (tellX Tryd.prog GG (plenumlaw13_Few_env m) m 8 plenumlaw13_Few_c plenumlaw13_Few_h ⟨[], argsT 0 [t0]⟩ [.cell 2 37]).trans ?_
  kernel_rfl
noncomputable def plenumlaw13_Few_t (m : Nat) : List AV → RO | [t0] => plenumlaw13_Few m t0 | _ => none
theorem plenumlaw13_Few_ok (m : Nat) : ∀ args X H', plenumlaw13_Few_t m args = some (X, H') → ACp Tryd.prog GG 12 args X := by
  intro args X H' h
  unfold plenumlaw13_Few_t at h
  split at h
  · exact tell_okK MIX (by
    intro f e h
    simp only [plenumlaw13_Few_env, Prod.mk.injEq, List.mem_cons, List.not_mem_nil, or_false] at h
    obtain ⟨rfl, rfl⟩ := h
    · exact plenumlaw10_Few_ok m) (f := 12) (c := plenumlaw13_Few_c) Tryd.func12 rfl (by kernel_rfl) _ rfl Tryd.ntmps12 (Nat.le_of_ble_eq_true rfl) plenumlaw13_Few_h h
  · cases h
noncomputable def plenumref13_in_c : Code := (Tryd.f38.body).getD .skip
def plenumref13_in_h : Hint := (.two .n (.two .n .n))
noncomputable def plenumref13_in_env (m : Nat) : Env := []
noncomputable abbrev plenumref13_in_fin : KO (AV × List AObj) := tellFK Tryd.prog [.tmp 4]
noncomputable def plenumref13_in (m : Nat) (t0 t1 : AV) : RO := exec Tryd.prog GG (plenumref13_in_env m) m 12 plenumref13_in_c plenumref13_in_h ⟨[], argsT 0 [t0, t1]⟩ (plenumref13_in_fin)
theorem plenumref13_in_eq (m : Nat) (t0 t1 : AV) : plenumref13_in m t0 t1 =
  binE none false false .leq (V (.int .i64 0)) t0 fun t6 =>
  condE t6 (
   binE none false false .leq t0 t1 fun t10 =>
   tellK [] (ro [] t10)) (
   tellK [] (ro [] (V (.bool false)))) := by
  refine (tellX Tryd.prog GG (plenumref13_in_env m) m 12 plenumref13_in_c plenumref13_in_h ⟨[], argsT 0 [t0, t1]⟩ [.tmp 4]).trans ?_
  kernel_rfl
noncomputable def plenumref13_in_t (m : Nat) : List AV → RO | [t0, t1] => plenumref13_in m t0 t1 | _ => none
theorem plenumref13_in_ok (m : Nat) : ∀ args X H', plenumref13_in_t m args = some (X, H') → ACp Tryd.prog GG 38 args X := by
  intro args X H' h
  unfold plenumref13_in_t at h
  split at h
  · exact tell_okK MIX (by intro f e h; cases h) (f := 38) (c := plenumref13_in_c) Tryd.func38 rfl (by kernel_rfl) _ rfl Tryd.ntmps38 (Nat.le_of_ble_eq_true rfl) plenumref13_in_h h
  · cases h
noncomputable def plenumref13_Weight_c : Code := (Tryd.f39.body).getD .skip
def plenumref13_Weight_h : Hint := (.two .n (.two .n (.two .n (.join [3] (.two .n (.one (.lp [] [3, 4, 5] [3] (.two (.two .n (.two .n .n)) (.two (.one .n) .n))))) (.two .n .n)))))
noncomputable def plenumref13_Weight_env (m : Nat) : Env := [(40, .tell (plenumref10_All_t m)), (48, .tell (plenumref07_Encode_t m))]
noncomputable abbrev plenumref13_Weight_fin : KO (AV × List AObj) := tellFK Tryd.prog [.tmp 2]
noncomputable def plenumref13_Weight_r1 (m : Nat) (s : ASt) : RO := joinW Tryd.prog GG (plenumref13_Weight_env m) m 31 (cdR (cdR (cdR (cdR plenumref13_Weight_c)))) plenumref13_Weight_h.r.r.r.r s (plenumref13_Weight_fin)
noncomputable def plenumref13_Weight_b1 (m : Nat) (s : ASt) (kc : ASt → RO) (kx : KO (AV × List AObj)) : RO := bodyW Tryd.prog GG (plenumref13_Weight_env m) m 31 (cdL (cdL (cdR (cdL (cdR (cdR (cdR plenumref13_Weight_c))))))) plenumref13_Weight_h.r.r.r.l.r.c.c [3, 4, 5] [3] s kc kx
noncomputable def plenumref13_Weight (m : Nat) (t0 : AV) : RO := exec Tryd.prog GG (plenumref13_Weight_env m) m 31 plenumref13_Weight_c plenumref13_Weight_h ⟨[], argsT 0 [t0]⟩ (plenumref13_Weight_fin)
theorem plenumref13_Weight_r1_eq (m : Nat) (H : List AObj) (t3 : AV) : plenumref13_Weight_r1 m ⟨H, [(3, t3)]⟩ =
  tellK H (ro H t3) := by
  refine (joinW_eq Tryd.prog GG (plenumref13_Weight_env m) m 31 (cdR (cdR (cdR (cdR plenumref13_Weight_c)))) plenumref13_Weight_h.r.r.r.r ⟨H, [(3, t3)]⟩ (plenumref13_Weight_fin)).trans ?_
  kernel_rfl
theorem plenumref13_Weight_b1_eq (m : Nat) (H : List AObj) (t3 t4 t5 : AV) (kc : ASt → RO) (kx : KO (AV × List AObj)) : plenumref13_Weight_b1 m ⟨H, [(3, t3), (4, t4), (5, t5)]⟩ kc kx =
  lenE false true H t4 fun t10 =>
  binE none false false .lss t5 t10 fun t11 =>
  condE t11 (
   idxSE 7 H t4 t5 fun t17 =>
   fieldE (some (0, 1)) t17 fun t18 =>
   loadE 1 H t18 fun t19 =>
   lenE true false H t19 fun t20 =>
   idxSE 7 H t4 t5 fun t23 =>
   fieldE (some (1, 5)) t23 fun t24 =>
   loadE 5 H t24 fun t25 =>
   tellE (plenumref07_Encode_t m [(ro H t25)]) [(ro H t25)] fun t26 =>
   lenE true false H t26 fun t27 =>
   binE none false false .add t20 t27 fun t28 =>
   binE none false false .add t3 t28 fun t29 =>
   binE none false false .add t5 (V (.int .i64 1)) fun t13 =>
   backE H.length H [(3, t29), (4, t4), (5, t13)] kc) (
   kx (.exit 0) ⟨H, [(3, t3)]⟩) := by
  refine (bodyW_eq Tryd.prog GG (plenumref13_Weight_env m) m 31 (cdL (cdL (cdR (cdL (cdR (cdR (cdR plenumref13_Weight_c))))))) plenumref13_Weight_h.r.r.r.l.r.c.c [3, 4, 5] [3] ⟨H, [(3, t3), (4, t4), (5, t5)]⟩ kc kx).trans ?_
  kernel_rfl
theorem plenumref13_Weight_eq (m : Nat) (t0 : AV) : plenumref13_Weight m t0 =
  boxE ty_api_Trunk [] t0 fun t1 H1 =>
  loadE 34 H1 t1 fun t6 =>
  tellE (plenumref10_All m (ro H1 t6)) [(ro H1 t6)] fun t7 =>
  iterC m (plenumref13_Weight_b1 m) ⟨H1, [(3, (V (.int .i64 0))), (4, t7), (5, (V (.int .i64 0)))]⟩ (blockX 0 (seqX (fun s => plenumref13_Weight_r1 m ⟨s.H, [(3, gt s.T 3)]⟩) (plenumref13_Weight_fin))) := by
  refine (tellX Tryd.prog GG (plenumref13_Weight_env m) m 31 plenumref13_Weight_c plenumref13_Weight_h ⟨[], argsT 0 [t0]⟩ [.tmp 2]).trans ?_
  kernel_rfl
noncomputable def plenumref13_Weight_t (m : Nat) : List AV → RO | [t0] => plenumref13_Weight m t0 | _ => none
theorem plenumref13_Weight_ok (m : Nat) : ∀ args X H', plenumref13_Weight_t m args = some (X, H') → ACp Tryd.prog GG 39 args X := by
  intro args X H' h
  unfold plenumref13_Weight_t at h
  split at h
  · exact tell_okK MIX (by
    intro f e h
    simp only [plenumref13_Weight_env, Prod.mk.injEq, List.mem_cons, List.not_mem_nil, or_false] at h
    rcases h with ⟨rfl, rfl⟩ | ⟨rfl, rfl⟩
    · exact plenumref10_All_ok m
    · exact plenumref07_Encode_ok m) (f := 39) (c := plenumref13_Weight_c) Tryd.func39 rfl (by kernel_rfl) _ rfl Tryd.ntmps39 (Nat.le_of_ble_eq_true rfl) plenumref13_Weight_h h
  · cases h
noncomputable def plenumref13_May_c : Code := (Tryd.f26.body).getD .skip
def plenumref13_May_h : Hint := (.two .n (.join [1] (.two .n (.two (.two .n .n) .n)) (.join [1] (.two .n (.one (.lp [] [1, 3] [1, 2] (.two (.two .n (.two .n .n)) (.two (.one (.two .n (.two (.two .n .n) .n))) .n))))) (.two .n .n))))
noncomputable def plenumref13_May_env (m : Nat) : Env := [(37, .tell (plenumref10_May_t m)), (38, .tell (plenumref13_in_t m)), (39, .tell (plenumref13_Weight_t m)), (40, .tell (plenumref10_All_t m))]
noncomputable abbrev plenumref13_May_fin : KO (AV × List AObj) := tellFK Tryd.prog [.tmp 2]
noncomputable def plenumref13_May_r2 (m : Nat) (s : ASt) : RO := joinW Tryd.prog GG (plenumref13_May_env m) m 53 (cdR (cdR (cdR plenumref13_May_c))) plenumref13_May_h.r.r.r s (plenumref13_May_fin)
noncomputable def plenumref13_May_b1 (m : Nat) (s : ASt) (kc : ASt → RO) (kx : KO (AV × List AObj)) : RO := bodyW Tryd.prog GG (plenumref13_May_env m) m 53 (cdL (cdL (cdR (cdL (cdR (cdR plenumref13_May_c)))))) plenumref13_May_h.r.r.l.r.c.c [1, 3] [1, 2] s kc kx
noncomputable def plenumref13_May_r1 (m : Nat) (s : ASt) : RO := joinW Tryd.prog GG (plenumref13_May_env m) m 53 (cdR (cdR plenumref13_May_c)) plenumref13_May_h.r.r s (plenumref13_May_fin)
noncomputable def plenumref13_May (m : Nat) (t0 : AV) : RO := exec Tryd.prog GG (plenumref13_May_env m) m 53 plenumref13_May_c plenumref13_May_h ⟨[], argsT 0 [t0]⟩ (plenumref13_May_fin)
theorem plenumref13_May_r2_eq (m : Nat) (H : List AObj) (t1 : AV) : plenumref13_May_r2 m ⟨H, [(1, t1)]⟩ =
  fieldE (some (0, 34)) t1 fun t38 =>
  loadE 34 H t38 fun t39 =>
  tellE (plenumref13_Weight m (ro H t39)) [(ro H t39)] fun t40 =>
  fieldE (some (33, 1)) t1 fun t41 =>
  loadE 1 H t41 fun t42 =>
  binE none false false .leq t40 t42 fun t43 =>
  condE t43 (
   fieldE (some (0, 34)) t1 fun t45 =>
   loadE 34 H t45 fun t46 =>
   tellE (plenumref10_All m (ro H t46)) [(ro H t46)] fun t47 =>
   lenE false true H t47 fun t48 =>
   fieldE (some (34, 1)) t1 fun t49 =>
   loadE 1 H t49 fun t50 =>
   binE none false false .leq t48 t50 fun t51 =>
   tellK H (ro H t51)) (
   tellK H (ro H (V (.bool false)))) := by
  refine (joinW_eq Tryd.prog GG (plenumref13_May_env m) m 53 (cdR (cdR (cdR plenumref13_May_c))) plenumref13_May_h.r.r.r ⟨H, [(1, t1)]⟩ (plenumref13_May_fin)).trans ?_
  kernel_rfl
theorem plenumref13_May_b1_eq (m : Nat) (H : List AObj) (t1 t3 : AV) (kc : ASt → RO) (kx : KO (AV × List AObj)) : plenumref13_May_b1 m ⟨H, [(1, t1), (3, t3)]⟩ kc kx =
  binE none false false .lss t3 (V (.int .i64 16)) fun t27 =>
  condE t27 (
   fieldE (some (0, 34)) t1 fun t31 =>
   fieldE (some (16, 18)) t31 fun t32 =>
   idxPE 16 1 t32 t3 fun t33 =>
   loadE 1 H t33 fun t34 =>
   fieldE (some (32, 1)) t1 fun t35 =>
   loadE 1 H t35 fun t36 =>
   binE none false false .gtr t34 t36 fun t37 =>
   condE t37 (
    kx .ret ⟨H, [(1, t1), (2, (V (.bool false)))]⟩) (
    binE none false false .add t3 (V (.int .i64 1)) fun t29 =>
    backE H.length H [(1, t1), (3, t29)] kc)) (
   kx (.exit 0) ⟨H, [(1, t1), (2, .nil)]⟩) := by
  refine (bodyW_eq Tryd.prog GG (plenumref13_May_env m) m 53 (cdL (cdL (cdR (cdL (cdR (cdR plenumref13_May_c)))))) plenumref13_May_h.r.r.l.r.c.c [1, 3] [1, 2] ⟨H, [(1, t1), (3, t3)]⟩ kc kx).trans ?_
  kernel_rfl
theorem plenumref13_May_r1_eq (m : Nat) (H : List AObj) (t1 : AV) : plenumref13_May_r1 m ⟨H, [(1, t1)]⟩ =
  iterC m (plenumref13_May_b1 m) ⟨H, [(1, t1), (3, (V (.int .i64 0)))]⟩ (blockX 0 (seqX (fun s => plenumref13_May_r2 m ⟨s.H, [(1, gt s.T 1)]⟩) (plenumref13_May_fin))) := by
  refine (joinW_eq Tryd.prog GG (plenumref13_May_env m) m 53 (cdR (cdR plenumref13_May_c)) plenumref13_May_h.r.r ⟨H, [(1, t1)]⟩ (plenumref13_May_fin)).trans ?_
  kernel_rfl
theorem plenumref13_May_eq (m : Nat) (t0 : AV) : plenumref13_May m t0 =
  boxE ty_api_Store [] t0 fun t1 H1 =>
  fieldE (some (0, 34)) t1 fun t4 =>
  loadE 34 H1 t4 fun t5 =>
  tellE (plenumref10_May m (ro H1 t5)) [(ro H1 t5)] fun t6 =>
  unE .not t6 fun t7 =>
  condE t7 (
   tellK H1 (ro H1 (V (.bool false)))) (
   fieldE (some (32, 1)) t1 fun t9 =>
   loadE 1 H1 t9 fun t10 =>
   tellE (plenumref13_in m (ro H1 t10) (V (.int .i64 2147483647))) [(ro H1 t10), (V (.int .i64 2147483647))] fun t11 =>
   unE .not t11 fun t12 =>
   condE t12 (
   tellK H1 (ro H1 (V (.bool false)))) (
   fieldE (some (33, 1)) t1 fun t15 =>
   loadE 1 H1 t15 fun t16 =>
   tellE (plenumref13_in m (ro H1 t16) (V (.int .i64 65536))) [(ro H1 t16), (V (.int .i64 65536))] fun t17 =>
   unE .not t17 fun t18 =>
   condE t18 (
   tellK H1 (ro H1 (V (.bool false)))) (
   fieldE (some (34, 1)) t1 fun t21 =>
   loadE 1 H1 t21 fun t22 =>
   tellE (plenumref13_in m (ro H1 t22) (V (.int .i64 1024))) [(ro H1 t22), (V (.int .i64 1024))] fun t23 =>
   unE .not t23 fun t24 =>
   condE t24 (
   tellK H1 (ro H1 (V (.bool false)))) (
   plenumref13_May_r1 m ⟨H1, [(1, t1)]⟩)))) := by
  refine (tellX Tryd.prog GG (plenumref13_May_env m) m 53 plenumref13_May_c plenumref13_May_h ⟨[], argsT 0 [t0]⟩ [.tmp 2]).trans ?_
  kernel_rfl
noncomputable def plenumref13_May_t (m : Nat) : List AV → RO | [t0] => plenumref13_May m t0 | _ => none
theorem plenumref13_May_ok (m : Nat) : ∀ args X H', plenumref13_May_t m args = some (X, H') → ACp Tryd.prog GG 26 args X := by
  intro args X H' h
  unfold plenumref13_May_t at h
  split at h
  · exact tell_okK MIX (by
    intro f e h
    simp only [plenumref13_May_env, Prod.mk.injEq, List.mem_cons, List.not_mem_nil, or_false] at h
    rcases h with ⟨rfl, rfl⟩ | ⟨rfl, rfl⟩ | ⟨rfl, rfl⟩ | ⟨rfl, rfl⟩
    · exact plenumref10_May_ok m
    · exact plenumref13_in_ok m
    · exact plenumref13_Weight_ok m
    · exact plenumref10_All_ok m) (f := 26) (c := plenumref13_May_c) Tryd.func26 rfl (by kernel_rfl) _ rfl Tryd.ntmps26 (Nat.le_of_ble_eq_true rfl) plenumref13_May_h h
  · cases h
noncomputable def plenumref13_Same_c : Code := (Tryd.f19.body).getD .skip
def plenumref13_Same_h : Hint := (.two .n (.two .n .n))
noncomputable def plenumref13_Same_env (m : Nat) : Env := [(31, .tell (plenumref10_Same_t m))]
noncomputable abbrev plenumref13_Same_fin : KO (AV × List AObj) := tellFK Tryd.prog [.tmp 4]
noncomputable def plenumref13_Same (m : Nat) (t0 t1 : AV) : RO := exec Tryd.prog GG (plenumref13_Same_env m) m 31 plenumref13_Same_c plenumref13_Same_h ⟨[], argsT 0 [t0, t1]⟩ (plenumref13_Same_fin)
theorem plenumref13_Same_eq (m : Nat) (t0 t1 : AV) : plenumref13_Same m t0 t1 =
  boxE ty_api_Store [] t0 fun t2 H1 =>
  boxE ty_api_Store H1 t1 fun t3 H2 =>
  fieldE (some (32, 1)) t2 fun t5 =>
  loadE 1 H2 t5 fun t6 =>
  fieldE (some (32, 1)) t3 fun t7 =>
  loadE 1 H2 t7 fun t8 =>
  binE none false false .eql t6 t8 fun t9 =>
  condE t9 (
   fieldE (some (33, 1)) t2 fun t11 =>
   loadE 1 H2 t11 fun t12 =>
   fieldE (some (33, 1)) t3 fun t13 =>
   loadE 1 H2 t13 fun t14 =>
   binE none false false .eql t12 t14 fun t15 =>
   condE t15 (
   fieldE (some (34, 1)) t2 fun t18 =>
   loadE 1 H2 t18 fun t19 =>
   fieldE (some (34, 1)) t3 fun t20 =>
   loadE 1 H2 t20 fun t21 =>
   binE none false false .eql t19 t21 fun t22 =>
   condE t22 (
   fieldE (some (0, 34)) t2 fun t25 =>
   loadE 34 H2 t25 fun t26 =>
   fieldE (some (0, 34)) t3 fun t27 =>
   loadE 34 H2 t27 fun t28 =>
   tellE (plenumref10_Same m (ro H2 t26) (ro H2 t28)) [(ro H2 t26), (ro H2 t28)] fun t29 =>
   tellK H2 (ro H2 t29)) (
   tellK H2 (ro H2 (V (.bool false))))) (
   tellK H2 (ro H2 (V (.bool false))))) (
   tellK H2 (ro H2 (V (.bool false)))) := by
  refine (tellX Tryd.prog GG (plenumref13_Same_env m) m 31 plenumref13_Same_c plenumref13_Same_h ⟨[], argsT 0 [t0, t1]⟩ [.tmp 4]).trans ?_
  kernel_rfl
noncomputable def plenumref13_Same_t (m : Nat) : List AV → RO | [t0, t1] => plenumref13_Same m t0 t1 | _ => none
theorem plenumref13_Same_ok (m : Nat) : ∀ args X H', plenumref13_Same_t m args = some (X, H') → ACp Tryd.prog GG 19 args X := by
  intro args X H' h
  unfold plenumref13_Same_t at h
  split at h
  · exact tell_okK MIX (by
    intro f e h
    simp only [plenumref13_Same_env, Prod.mk.injEq, List.mem_cons, List.not_mem_nil, or_false] at h
    obtain ⟨rfl, rfl⟩ := h
    · exact plenumref10_Same_ok m) (f := 19) (c := plenumref13_Same_c) Tryd.func19 rfl (by kernel_rfl) _ rfl Tryd.ntmps19 (Nat.le_of_ble_eq_true rfl) plenumref13_Same_h h
  · cases h
noncomputable def snap_Check_c : Code := (Tryd.f9.body).getD .skip
def snap_Check_h : Hint := (.two .n (.two (.two .n (.two (.two .n .n) .n)) (.join [] (.two .n (.one (.lp [] [0, 10, 11, 12] [2, 3] (.two .n (.two (.two .n .n) (.join [0, 10, 11, 12] (.one (.two .n (.join [0, 4, 5, 10, 11, 12] (.join [0, 4, 5, 10, 11, 12, 25] .n (.two (.two .n .n) .n)) (.two (.two .n (.two .n .n)) (.two .n (.join [0, 4, 10, 11, 12, 65] .n (.two (.two .n .n) .n))))))) .n)))))) (.two .n .n))))
noncomputable def snap_Check_env (m : Nat) : Env := [(25, .tell (store_May_t m))]
noncomputable abbrev snap_Check_fin : KO (AV × List AObj) := tellFK Tryd.prog [.tmp 2, .tmp 3]
noncomputable def snap_Check_r7 (m : Nat) (n0 : Nat) (kc : ASt → RO) (kx : KO (AV × List AObj)) (s : ASt) : RO := joinW Tryd.prog GG (snap_Check_env m) m 68 (cdR (cdR (cdR (cdL (cdL (cdR (cdL (cdR (cdR snap_Check_c))))))))) snap_Check_h.r.r.l.r.c.c.r.r.r s (backW n0 [0, 10, 11, 12] [2, 3] kc kx)
noncomputable def snap_Check_r6 (m : Nat) (n0 : Nat) (kc : ASt → RO) (kx : KO (AV × List AObj)) (s : ASt) : RO := joinW Tryd.prog GG (snap_Check_env m) m 68 (cdR (cdR (cdR (cdR (cdR (cdL (cdL (cdR (cdR (cdL (cdL (cdR (cdL (cdR (cdR snap_Check_c))))))))))))))) snap_Check_h.r.r.l.r.c.c.r.r.l.c.r.r.r.r.r s (blockX 1 (seqX (fun s => snap_Check_r7 m n0 kc kx ⟨s.H, [(0, gt s.T 0), (10, gt s.T 10), (11, gt s.T 11), (12, gt s.T 12)]⟩) (backW n0 [0, 10, 11, 12] [2, 3] kc kx)))
noncomputable def snap_Check_r5 (m : Nat) (n0 : Nat) (kc : ASt → RO) (kx : KO (AV × List AObj)) (s : ASt) : RO := joinW Tryd.prog GG (snap_Check_env m) m 68 (cdR (cdR (cdR (cdL (cdL (cdR (cdL (cdR (cdR snap_Check_c))))))))) snap_Check_h.r.r.l.r.c.c.r.r.r s (backW n0 [0, 10, 11, 12] [2, 3] kc kx)
noncomputable def snap_Check_r4 (m : Nat) (n0 : Nat) (kc : ASt → RO) (kx : KO (AV × List AObj)) (s : ASt) : RO := joinW Tryd.prog GG (snap_Check_env m) m 68 (cdR (cdR (cdR (cdL (cdL (cdR (cdL (cdR (cdR snap_Check_c))))))))) snap_Check_h.r.r.l.r.c.c.r.r.r s (backW n0 [0, 10, 11, 12] [2, 3] kc kx)
noncomputable def snap_Check_r3 (m : Nat) (n0 : Nat) (kc : ASt → RO) (kx : KO (AV × List AObj)) (s : ASt) : RO := joinW Tryd.prog GG (snap_Check_env m) m 68 (cdR (cdR (cdL (cdL (cdR (cdR (cdL (cdL (cdR (cdL (cdR (cdR snap_Check_c)))))))))))) snap_Check_h.r.r.l.r.c.c.r.r.l.c.r.r s (blockX 1 (seqX (fun s => snap_Check_r5 m n0 kc kx ⟨s.H, [(0, gt s.T 0), (10, gt s.T 10), (11, gt s.T 11), (12, gt s.T 12)]⟩) (backW n0 [0, 10, 11, 12] [2, 3] kc kx)))
noncomputable def snap_Check_r2 (m : Nat) (n0 : Nat) (kc : ASt → RO) (kx : KO (AV × List AObj)) (s : ASt) : RO := joinW Tryd.prog GG (snap_Check_env m) m 68 (cdR (cdL (cdR (cdL (cdL (cdR (cdR (cdL (cdL (cdR (cdL (cdR (cdR snap_Check_c))))))))))))) snap_Check_h.r.r.l.r.c.c.r.r.l.c.r.l.r s (seqX (fun s => snap_Check_r3 m n0 kc kx ⟨s.H, [(0, gt s.T 0), (4, gt s.T 4), (5, gt s.T 5), (10, gt s.T 10), (11, gt s.T 11), (12, gt s.T 12)]⟩) (blockX 1 (seqX (fun s => snap_Check_r4 m n0 kc kx ⟨s.H, [(0, gt s.T 0), (10, gt s.T 10), (11, gt s.T 11), (12, gt s.T 12)]⟩) (backW n0 [0, 10, 11, 12] [2, 3] kc kx))))
noncomputable def snap_Check_r1 (m : Nat) (s : ASt) : RO := joinW Tryd.prog GG (snap_Check_env m) m 68 (cdR (cdR (cdR snap_Check_c))) snap_Check_h.r.r.r s (snap_Check_fin)
noncomputable def snap_Check_b1 (m : Nat) (s : ASt) (kc : ASt → RO) (kx : KO (AV × List AObj)) : RO := bodyW Tryd.prog GG (snap_Check_env m) m 68 (cdL (cdL (cdR (cdL (cdR (cdR snap_Check_c)))))) snap_Check_h.r.r.l.r.c.c [0, 10, 11, 12] [2, 3] s kc kx
noncomputable def snap_Check (m : Nat) (t0 : AV) : RO := exec Tryd.prog GG (snap_Check_env m) m 68 snap_Check_c snap_Check_h ⟨[], argsT 0 [t0]⟩ (snap_Check_fin)
theorem snap_Check_r7_eq (m : Nat) (n0 : Nat) (kc : ASt → RO) (kx : KO (AV × List AObj)) (H : List AObj) (t0 t10 t11 t12 : AV) : snap_Check_r7 m n0 kc kx ⟨H, [(0, t0), (10, t10), (11, t11), (12, t12)]⟩ =
  binE none false false .add t12 (V (.int .i64 1)) fun t67 =>
  backE n0 H [(0, t0), (10, t10), (11, t11), (12, t67)] kc := by
  refine (joinW_eq Tryd.prog GG (snap_Check_env m) m 68 (cdR (cdR (cdR (cdL (cdL (cdR (cdL (cdR (cdR snap_Check_c))))))))) snap_Check_h.r.r.l.r.c.c.r.r.r ⟨H, [(0, t0), (10, t10), (11, t11), (12, t12)]⟩ (backW n0 [0, 10, 11, 12] [2, 3] kc kx)).trans ?_
  kernel_rfl
theorem snap_Check_r6_eq (m : Nat) (n0 : Nat) (kc : ASt → RO) (kx : KO (AV × List AObj)) (H : List AObj) (t0 t4 t10 t11 t12 t65 : AV) : snap_Check_r6 m n0 kc kx ⟨H, [(0, t0), (4, t4), (10, t10), (11, t11), (12, t12), (65, t65)]⟩ =
  condE t65 (
   kx .ret ⟨H, [(2, (V (.int .i64 3))), (3, t4)]⟩) (
   snap_Check_r7 m n0 kc kx ⟨H, [(0, t0), (10, t10), (11, t11), (12, t12)]⟩) := by
  refine (joinW_eq Tryd.prog GG (snap_Check_env m) m 68 (cdR (cdR (cdR (cdR (cdR (cdL (cdL (cdR (cdR (cdL (cdL (cdR (cdL (cdR (cdR snap_Check_c))))))))))))))) snap_Check_h.r.r.l.r.c.c.r.r.l.c.r.r.r.r.r ⟨H, [(0, t0), (4, t4), (10, t10), (11, t11), (12, t12), (65, t65)]⟩ (blockX 1 (seqX (fun s => snap_Check_r7 m n0 kc kx ⟨s.H, [(0, gt s.T 0), (10, gt s.T 10), (11, gt s.T 11), (12, gt s.T 12)]⟩) (backW n0 [0, 10, 11, 12] [2, 3] kc kx)))).trans ?_
  kernel_rfl
theorem snap_Check_r5_eq (m : Nat) (n0 : Nat) (kc : ASt → RO) (kx : KO (AV × List AObj)) (H : List AObj) (t0 t10 t11 t12 : AV) : snap_Check_r5 m n0 kc kx ⟨H, [(0, t0), (10, t10), (11, t11), (12, t12)]⟩ =
  binE none false false .add t12 (V (.int .i64 1)) fun t67 =>
  backE n0 H [(0, t0), (10, t10), (11, t11), (12, t67)] kc := by
  refine (joinW_eq Tryd.prog GG (snap_Check_env m) m 68 (cdR (cdR (cdR (cdL (cdL (cdR (cdL (cdR (cdR snap_Check_c))))))))) snap_Check_h.r.r.l.r.c.c.r.r.r ⟨H, [(0, t0), (10, t10), (11, t11), (12, t12)]⟩ (backW n0 [0, 10, 11, 12] [2, 3] kc kx)).trans ?_
  kernel_rfl
theorem snap_Check_r4_eq (m : Nat) (n0 : Nat) (kc : ASt → RO) (kx : KO (AV × List AObj)) (H : List AObj) (t0 t10 t11 t12 : AV) : snap_Check_r4 m n0 kc kx ⟨H, [(0, t0), (10, t10), (11, t11), (12, t12)]⟩ =
  binE none false false .add t12 (V (.int .i64 1)) fun t67 =>
  backE n0 H [(0, t0), (10, t10), (11, t11), (12, t67)] kc := by
  refine (joinW_eq Tryd.prog GG (snap_Check_env m) m 68 (cdR (cdR (cdR (cdL (cdL (cdR (cdL (cdR (cdR snap_Check_c))))))))) snap_Check_h.r.r.l.r.c.c.r.r.r ⟨H, [(0, t0), (10, t10), (11, t11), (12, t12)]⟩ (backW n0 [0, 10, 11, 12] [2, 3] kc kx)).trans ?_
  kernel_rfl
theorem snap_Check_r3_eq (m : Nat) (n0 : Nat) (kc : ASt → RO) (kx : KO (AV × List AObj)) (H : List AObj) (t0 t4 t5 t10 t11 t12 : AV) : snap_Check_r3 m n0 kc kx ⟨H, [(0, t0), (4, t4), (5, t5), (10, t10), (11, t11), (12, t12)]⟩ =
  binE none false false .eql t4 (V (.int .i64 0)) fun t28 =>
  condE t28 (
   snap_Check_r5 m n0 kc kx ⟨H, [(0, t0), (10, t10), (11, t11), (12, t12)]⟩) (
   binE none false false .sub t4 (V (.int .i64 1)) fun t31 =>
   idxSE 38 H t0 t31 fun t32 =>
   loadE 38 H t32 fun t33 =>
   allocE (some zc_api_Snap) ty_api_Snap H fun t6 H2 =>
   storeE 38 H2 t6 t33 fun H3 =>
   fieldE (some (0, 1)) t5 fun t34 =>
   loadE 1 H3 t34 fun t35 =>
   fieldE (some (0, 1)) t6 fun t36 =>
   loadE 1 H3 t36 fun t37 =>
   binE none false false .leq t35 t37 fun t38 =>
   condE t38 (
    snap_Check_r6 m n0 kc kx ⟨H3, [(0, t0), (4, t4), (10, t10), (11, t11), (12, t12), (65, (V (.bool true)))]⟩) (
    fieldE (some (1, 37)) t5 fun t40 =>
    fieldE (some (32, 1)) t40 fun t41 =>
    loadE 1 H3 t41 fun t42 =>
    fieldE (some (1, 37)) t6 fun t43 =>
    fieldE (some (32, 1)) t43 fun t44 =>
    loadE 1 H3 t44 fun t45 =>
    binE none false false .lss t42 t45 fun t46 =>
    condE t46 (
    snap_Check_r6 m n0 kc kx ⟨H3, [(0, t0), (4, t4), (10, t10), (11, t11), (12, t12), (65, (V (.bool true)))]⟩) (
    fieldE (some (1, 37)) t5 fun t49 =>
    fieldE (some (33, 1)) t49 fun t50 =>
    loadE 1 H3 t50 fun t51 =>
    fieldE (some (1, 37)) t6 fun t52 =>
    fieldE (some (33, 1)) t52 fun t53 =>
    loadE 1 H3 t53 fun t54 =>
    binE none false false .neq t51 t54 fun t55 =>
    condE t55 (
    snap_Check_r6 m n0 kc kx ⟨H3, [(0, t0), (4, t4), (10, t10), (11, t11), (12, t12), (65, (V (.bool true)))]⟩) (
    fieldE (some (1, 37)) t5 fun t58 =>
    fieldE (some (34, 1)) t58 fun t59 =>
    loadE 1 H3 t59 fun t60 =>
    fieldE (some (1, 37)) t6 fun t61 =>
    fieldE (some (34, 1)) t61 fun t62 =>
    loadE 1 H3 t62 fun t63 =>
    binE none false false .neq t60 t63 fun t64 =>
    snap_Check_r6 m n0 kc kx ⟨H3, [(0, t0), (4, t4), (10, t10), (11, t11), (12, t12), (65, t64)]⟩)))) := by
  refine (joinW_eq Tryd.prog GG (snap_Check_env m) m 68 (cdR (cdR (cdL (cdL (cdR (cdR (cdL (cdL (cdR (cdL (cdR (cdR snap_Check_c)))))))))))) snap_Check_h.r.r.l.r.c.c.r.r.l.c.r.r ⟨H, [(0, t0), (4, t4), (5, t5), (10, t10), (11, t11), (12, t12)]⟩ (blockX 1 (seqX (fun s => snap_Check_r5 m n0 kc kx ⟨s.H, [(0, gt s.T 0), (10, gt s.T 10), (11, gt s.T 11), (12, gt s.T 12)]⟩) (backW n0 [0, 10, 11, 12] [2, 3] kc kx)))).trans ?_
  kernel_rfl
theorem snap_Check_r2_eq (m : Nat) (n0 : Nat) (kc : ASt → RO) (kx : KO (AV × List AObj)) (H : List AObj) (t0 t4 t5 t10 t11 t12 t25 : AV) : snap_Check_r2 m n0 kc kx ⟨H, [(0, t0), (4, t4), (5, t5), (10, t10), (11, t11), (12, t12), (25, t25)]⟩ =
  condE t25 (
   kx .ret ⟨H, [(2, (V (.int .i64 1))), (3, t4)]⟩) (
   snap_Check_r3 m n0 kc kx ⟨H, [(0, t0), (4, t4), (5, t5), (10, t10), (11, t11), (12, t12)]⟩) := by
  refine (joinW_eq Tryd.prog GG (snap_Check_env m) m 68 (cdR (cdL (cdR (cdL (cdL (cdR (cdR (cdL (cdL (cdR (cdL (cdR (cdR snap_Check_c))))))))))))) snap_Check_h.r.r.l.r.c.c.r.r.l.c.r.l.r ⟨H, [(0, t0), (4, t4), (5, t5), (10, t10), (11, t11), (12, t12), (25, t25)]⟩ (seqX (fun s => snap_Check_r3 m n0 kc kx ⟨s.H, [(0, gt s.T 0), (4, gt s.T 4), (5, gt s.T 5), (10, gt s.T 10), (11, gt s.T 11), (12, gt s.T 12)]⟩) (blockX 1 (seqX (fun s => snap_Check_r4 m n0 kc kx ⟨s.H, [(0, gt s.T 0), (10, gt s.T 10), (11, gt s.T 11), (12, gt s.T 12)]⟩) (backW n0 [0, 10, 11, 12] [2, 3] kc kx))))).trans ?_
  kernel_rfl
theorem snap_Check_r1_eq (m : Nat) (H : List AObj) : snap_Check_r1 m ⟨H, []⟩ =
  tellK H (ro H (TU [noT (V (.int .i64 0)), noT (V (.int .i64 0))])) := by
  refine (joinW_eq Tryd.prog GG (snap_Check_env m) m 68 (cdR (cdR (cdR snap_Check_c))) snap_Check_h.r.r.r ⟨H, []⟩ (snap_Check_fin)).trans ?_
  kernel_rfl
theorem snap_Check_b1_eq (m : Nat) (H : List AObj) (t0 t10 t11 t12 : AV) (kc : ASt → RO) (kx : KO (AV × List AObj)) : snap_Check_b1 m ⟨H, [(0, t0), (10, t10), (11, t11), (12, t12)]⟩ kc kx =
  binE none false false .lss t12 t11 fun t13 =>
  condE t13 (
   idxSE 38 H t10 t12 fun t15 =>
   loadE 38 H t15 fun t16 =>
   allocE (some zc_api_Snap) ty_api_Snap H fun t5 H2 =>
   storeE 38 H2 t5 t16 fun H3 =>
   fieldE (some (0, 1)) t5 fun t17 =>
   loadE 1 H3 t17 fun t18 =>
   binE none false false .lss t18 (V (.int .i64 0)) fun t19 =>
   condE t19 (
    snap_Check_r2 m H.length kc kx ⟨H3, [(0, t0), (4, t12), (5, t5), (10, t10), (11, t11), (12, t12), (25, (V (.bool true)))]⟩) (
    fieldE (some (1, 37)) t5 fun t21 =>
    loadE 37 H3 t21 fun t22 =>
    tellE (store_May m (ro H3 t22)) [(ro H3 t22)] fun t23 =>
    unE .not t23 fun t24 =>
    snap_Check_r2 m H.length kc kx ⟨H3, [(0, t0), (4, t12), (5, t5), (10, t10), (11, t11), (12, t12), (25, t24)]⟩)) (
   kx (.exit 0) ⟨H, [(2, .nil), (3, .nil)]⟩) := by
  refine (bodyW_eq Tryd.prog GG (snap_Check_env m) m 68 (cdL (cdL (cdR (cdL (cdR (cdR snap_Check_c)))))) snap_Check_h.r.r.l.r.c.c [0, 10, 11, 12] [2, 3] ⟨H, [(0, t0), (10, t10), (11, t11), (12, t12)]⟩ kc kx).trans ?_
  kernel_rfl
theorem snap_Check_eq (m : Nat) (t0 : AV) : snap_Check m t0 =
  lenE false true [] t0 fun t8 =>
  binE none false false .gtr t8 (V (.int .i64 8)) fun t9 =>
  condE t9 (
   tellK [] (ro [] (TU [noT (V (.int .i64 5)), noT (V (.int .i64 8))]))) (
   lenE false true [] t0 fun t11 =>
   iterC m (snap_Check_b1 m) ⟨[], [(0, t0), (10, t0), (11, t11), (12, (V (.int .i64 0)))]⟩ (blockX 0 (seqX (fun s => snap_Check_r1 m ⟨s.H, []⟩) (snap_Check_fin)))) := by
  refine (tellX Tryd.prog GG (snap_Check_env m) m 68 snap_Check_c snap_Check_h ⟨[], argsT 0 [t0]⟩ [.tmp 2, .tmp 3]).trans ?_
  kernel_rfl
noncomputable def snap_Check_t (m : Nat) : List AV → RO | [t0] => snap_Check m t0 | _ => none
theorem snap_Check_ok (m : Nat) : ∀ args X H', snap_Check_t m args = some (X, H') → ACp Tryd.prog GG 9 args X := by
  intro args X H' h
  unfold snap_Check_t at h
  split at h
  · exact tell_okK MIX (by
    intro f e h
    simp only [snap_Check_env, Prod.mk.injEq, List.mem_cons, List.not_mem_nil, or_false] at h
    obtain ⟨rfl, rfl⟩ := h
    · exact store_May_ok m) (f := 9) (c := snap_Check_c) Tryd.func9 rfl (by kernel_rfl) _ rfl Tryd.ntmps9 (Nat.le_of_ble_eq_true rfl) snap_Check_h h
  · cases h
noncomputable def snap_is_c : Code := (Tryd.f28.body).getD .skip
def snap_is_h : Hint := (.two .n (.two .n (.two .n .n)))
noncomputable def snap_is_env (m : Nat) : Env := [(9, .tell (snap_Check_t m))]
noncomputable abbrev snap_is_fin : KO (AV × List AObj) := tellFK Tryd.prog [.tmp 2]
noncomputable def snap_is (m : Nat) (t0 : AV) : RO := exec Tryd.prog GG (snap_is_env m) m 12 snap_is_c snap_is_h ⟨[], argsT 0 [t0]⟩ (snap_is_fin)
theorem snap_is_eq (m : Nat) (t0 : AV) : snap_is m t0 =
  tellE (snap_Check m (ro [] t0)) [(ro [] t0)] fun t7 =>
  extE t7 0 fun t8 =>
  extE t7 1 fun t9 =>
  binE none false false .eql t8 (V (.int .i64 0)) fun t11 =>
  tellK [] (ro [] t11) := by
  refine (tellX Tryd.prog GG (snap_is_env m) m 12 snap_is_c snap_is_h ⟨[], argsT 0 [t0]⟩ [.tmp 2]).trans ?_
  kernel_rfl
noncomputable def snap_is_t (m : Nat) : List AV → RO | [t0] => snap_is m t0 | _ => none
theorem snap_is_ok (m : Nat) : ∀ args X H', snap_is_t m args = some (X, H') → ACp Tryd.prog GG 28 args X := by
  intro args X H' h
  unfold snap_is_t at h
  split at h
  · exact tell_okK MIX (by
    intro f e h
    simp only [snap_is_env, Prod.mk.injEq, List.mem_cons, List.not_mem_nil, or_false] at h
    obtain ⟨rfl, rfl⟩ := h
    · exact snap_Check_ok m) (f := 28) (c := snap_is_c) Tryd.func28 rfl (by kernel_rfl) _ rfl Tryd.ntmps28 (Nat.le_of_ble_eq_true rfl) snap_is_h h
  · cases h
noncomputable def snap_Keep_c : Code := (Tryd.f13.body).getD .skip
def snap_Keep_h : Hint := (.two .n (.two (.two .n (.two (.two .n .n) .n)) (.join [0, 1, 5] (.two .n (.two .n (.two (.two .n .n) .n))) (.two .n (.join [9] (.two .n (.two .n .n)) (.two (.two .n (.two .n (.two (.two .n .n) .n))) (.two .n .n)))))))
noncomputable def snap_Keep_env (m : Nat) : Env := [(28, .tell (snap_is_t m)), (29, .add (slices_Clone_Snap_t m)), (9, .tell (snap_Check_t m))]
noncomputable abbrev snap_Keep_fin : KO (AV × List AObj) := tellFK Tryd.prog [.tmp 6, .tmp 7]
noncomputable def snap_Keep_r2 (m : Nat) (s : ASt) : RO := joinW Tryd.prog GG (snap_Keep_env m) m 50 (cdR (cdR (cdR (cdR (cdR snap_Keep_c))))) snap_Keep_h.r.r.r.r.r s (snap_Keep_fin)
noncomputable def snap_Keep_r1 (m : Nat) (s : ASt) : RO := joinW Tryd.prog GG (snap_Keep_env m) m 50 (cdR (cdR (cdR snap_Keep_c))) snap_Keep_h.r.r.r s (snap_Keep_fin)
noncomputable def snap_Keep (m : Nat) (t0 t1 t2 : AV) : RO := exec Tryd.prog GG (snap_Keep_env m) m 50 snap_Keep_c snap_Keep_h ⟨[], argsT 0 [t0, t1, t2]⟩ (snap_Keep_fin)
theorem snap_Keep_r2_eq (m : Nat) (H : List AObj) (t9 : AV) : snap_Keep_r2 m ⟨H, [(9, t9)]⟩ =
  tellE (snap_Check m (ro H t9)) [(ro H t9)] fun t43 =>
  extE t43 0 fun t44 =>
  extE t43 1 fun t45 =>
  binE none false false .neq t44 (V (.int .i64 0)) fun t47 =>
  condE t47 (
   tellK H (ro H (TU [noT (V (.slice none 0 0)), noT t44]))) (
   tellK H (ro H (TU [noT t9, noT (V (.int .i64 0))]))) := by
  refine (joinW_eq Tryd.prog GG (snap_Keep_env m) m 50 (cdR (cdR (cdR (cdR (cdR snap_Keep_c))))) snap_Keep_h.r.r.r.r.r ⟨H, [(9, t9)]⟩ (snap_Keep_fin)).trans ?_
  kernel_rfl
theorem snap_Keep_r1_eq (m : Nat) (H : List AObj) (t0 t1 t5 : AV) : snap_Keep_r1 m ⟨H, [(0, t0), (1, t1), (5, t5)]⟩ =
  addE (slices_Clone_Snap_t m [(ro H t0)] H.length) H fun t30 H2 =>
  loadE 37 H t5 fun t32 =>
  buildE (some pl_api_Snap) (some zc_api_Snap) [(0, t1), (1, t32)] fun t33 =>
  buildSE (some (ty_api_Snap, 36)) 1 [(0, t33)] fun t34 =>
  appE (some (ty_api_Snap, 36)) H2 t30 t34 fun t35 H3 =>
  lenE false true H3 t35 fun t37 =>
  binE none false false .gtr t37 (V (.int .i64 8)) fun t38 =>
  condE t38 (
   sliceE false (some (ty_api_Snap, 38)) H3 t35 (some (V (.int .i64 1))) none fun t40 =>
   snap_Keep_r2 m ⟨H3, [(9, t40)]⟩) (
   snap_Keep_r2 m ⟨H3, [(9, t35)]⟩) := by
  refine (joinW_eq Tryd.prog GG (snap_Keep_env m) m 50 (cdR (cdR (cdR snap_Keep_c))) snap_Keep_h.r.r.r ⟨H, [(0, t0), (1, t1), (5, t5)]⟩ (snap_Keep_fin)).trans ?_
  kernel_rfl
theorem snap_Keep_eq (m : Nat) (t0 t1 t2 : AV) : snap_Keep m t0 t1 t2 =
  boxE ty_api_Store [] t2 fun t5 H1 =>
  tellE (snap_is m (ro H1 t0)) [(ro H1 t0)] fun t13 =>
  unE .not t13 fun t14 =>
  condE t14 (
   tellK H1 (ro H1 (TU [noT (V (.slice none 0 0)), noT (V (.int .i64 1))]))) (
   lenE false true H1 t0 fun t16 =>
   binE none false false .gtr t16 (V (.int .i64 0)) fun t18 =>
   condE t18 (
    binE none false false .sub t16 (V (.int .i64 1)) fun t23 =>
    idxSE 38 H1 t0 t23 fun t24 =>
    fieldE (some (0, 1)) t24 fun t25 =>
    loadE 1 H1 t25 fun t26 =>
    binE none false false .leq t1 t26 fun t27 =>
    condE t27 (
    tellK H1 (ro H1 (TU [noT (V (.slice none 0 0)), noT (V (.int .i64 18))]))) (
    snap_Keep_r1 m ⟨H1, [(0, t0), (1, t1), (5, t5)]⟩)) (
    snap_Keep_r1 m ⟨H1, [(0, t0), (1, t1), (5, t5)]⟩)) := by
  refine (tellX Tryd.prog GG (snap_Keep_env m) m 50 snap_Keep_c snap_Keep_h ⟨[], argsT 0 [t0, t1, t2]⟩ [.tmp 6, .tmp 7]).trans ?_
  kernel_rfl
noncomputable def snap_Keep_t (m : Nat) : List AV → RO | [t0, t1, t2] => snap_Keep m t0 t1 t2 | _ => none
theorem snap_Keep_ok (m : Nat) : ∀ args X H', snap_Keep_t m args = some (X, H') → ACp Tryd.prog GG 13 args X := by
  intro args X H' h
  unfold snap_Keep_t at h
  split at h
  · exact tell_okK MIX (by
    intro f e h
    simp only [snap_Keep_env, Prod.mk.injEq, List.mem_cons, List.not_mem_nil, or_false] at h
    rcases h with ⟨rfl, rfl⟩ | ⟨rfl, rfl⟩ | ⟨rfl, rfl⟩
    · exact snap_is_ok m
    · exact slices_Clone_Snap_ok m
    · exact snap_Check_ok m) (f := 13) (c := snap_Keep_c) Tryd.func13 rfl (by kernel_rfl) _ rfl Tryd.ntmps13 (Nat.le_of_ble_eq_true rfl) snap_Keep_h h
  · cases h
noncomputable def snap_from_1_c : Code := (Tryd.f43.body).getD .skip
def snap_from_1_h : Hint := (.two .n (.two .n .n))
noncomputable def snap_from_1_env (m : Nat) : Env := []
noncomputable abbrev snap_from_1_fin (n0 : Nat) : KO (AV × List AObj) := keepFK Tryd.prog n0 [.tmp 4]
noncomputable def snap_from_1 (m : Nat) (t0 t1 t2 : AV) (H : List AObj) : RO := exec Tryd.prog GG (snap_from_1_env m) m 12 snap_from_1_c snap_from_1_h ⟨H, argsT 0 [t0, t1, t2]⟩ (snap_from_1_fin H.length)
theorem snap_from_1_eq (m : Nat) (t0 t1 t2 : AV) (H : List AObj) : snap_from_1 m t0 t1 t2 H =
  loadE 1 H t1 fun t5 =>
  idxSE 38 H t5 t0 fun t7 =>
  fieldE (some (0, 1)) t7 fun t8 =>
  loadE 1 H t8 fun t9 =>
  loadE 1 H t2 fun t10 =>
  binE none false false .geq t9 t10 fun t11 =>
  keepK H.length H (ro H t11) := by
  refine (keepX Tryd.prog GG (snap_from_1_env m) m 12 H.length snap_from_1_c snap_from_1_h ⟨H, argsT 0 [t0, t1, t2]⟩ [.tmp 4]).trans ?_
  kernel_rfl
noncomputable def snap_from_1_t (m : Nat) : List AV → List AObj → RO | [t0, t1, t2], H => snap_from_1 m t0 t1 t2 H | _, _ => none
theorem snap_from_1_ok (m : Nat) : ∀ args H X H', snap_from_1_t m args H = some (X, H') → AC Tryd.prog GG 43 args H (Is X H') := by
  intro args H X H' h
  unfold snap_from_1_t at h
  split at h
  · exact keep_okK MIX (by intro f e h; cases h) (f := 43) (c := snap_from_1_c) Tryd.func43 rfl (by kernel_rfl) _ rfl Tryd.ntmps43 (Nat.le_of_ble_eq_true rfl) snap_from_1_h h
  · cases h
noncomputable def sort_Search_c : Code := (Tryd.f42.body).getD .skip
def sort_Search_h : Hint := (.two .n (.two .n (.join [5] (.one (.lp [] [1, 5, 6] [5] (.two (.two .n (.two .n .n)) (.one (.two .n (.two .n (.two .n .n))))))) (.two .n .n))))
noncomputable def sort_Search_env (m : Nat) : Env := [(43, .keep (snap_from_1_t m))]
noncomputable abbrev sort_Search_fin (n0 : Nat) : KO (AV × List AObj) := keepFK Tryd.prog n0 [.tmp 4]
noncomputable def sort_Search_r1 (m : Nat) (n0k : Nat) (s : ASt) : RO := joinW Tryd.prog GG (sort_Search_env m) m 26 (cdR (cdR (cdR sort_Search_c))) sort_Search_h.r.r.r s (sort_Search_fin n0k)
noncomputable def sort_Search_b1 (m : Nat) (s : ASt) (kc : ASt → RO) (kx : KO (AV × List AObj)) : RO := bodyW Tryd.prog GG (sort_Search_env m) m 26 (cdL (cdL (cdL (cdR (cdR sort_Search_c))))) sort_Search_h.r.r.l.c.c [1, 5, 6] [5] s kc kx
noncomputable def sort_Search (m : Nat) (t0 t1 : AV) (H : List AObj) : RO := exec Tryd.prog GG (sort_Search_env m) m 26 sort_Search_c sort_Search_h ⟨H, argsT 0 [t0, t1]⟩ (sort_Search_fin H.length)
theorem sort_Search_r1_eq (m : Nat) (n0k : Nat) (H : List AObj) (t5 : AV) : sort_Search_r1 m n0k ⟨H, [(5, t5)]⟩ =
  keepK n0k H (ro H t5) := by
  refine (joinW_eq Tryd.prog GG (sort_Search_env m) m 26 (cdR (cdR (cdR sort_Search_c))) sort_Search_h.r.r.r ⟨H, [(5, t5)]⟩ (sort_Search_fin n0k)).trans ?_
  kernel_rfl
theorem sort_Search_b1_eq (m : Nat) (H : List AObj) (t1 t5 t6 : AV) (kc : ASt → RO) (kx : KO (AV × List AObj)) : sort_Search_b1 m ⟨H, [(1, t1), (5, t5), (6, t6)]⟩ kc kx =
  binE none false false .lss t5 t6 fun t11 =>
  condE t11 (
   binE none false false .add t5 t6 fun t14 =>
   convE false (some .u64) true t14 fun t15 =>
   binE none false false .shr t15 (V (.int .u64 1)) fun t16 =>
   convE false (some .i64) true t16 fun t17 =>
   callVE (sort_Search_env m) t1 [t17] H fun t20 H2 =>
   unE .not t20 fun t21 =>
   condE t21 (
    binE none false false .add t17 (V (.int .i64 1)) fun t23 =>
    backE H.length H2 [(1, t1), (5, t23), (6, t6)] kc) (
    backE H.length H2 [(1, t1), (5, t5), (6, t17)] kc)) (
   kx (.exit 0) ⟨H, [(5, t5)]⟩) := by
  refine (bodyW_eq Tryd.prog GG (sort_Search_env m) m 26 (cdL (cdL (cdL (cdR (cdR sort_Search_c))))) sort_Search_h.r.r.l.c.c [1, 5, 6] [5] ⟨H, [(1, t1), (5, t5), (6, t6)]⟩ kc kx).trans ?_
  kernel_rfl
theorem sort_Search_eq (m : Nat) (t0 t1 : AV) (H : List AObj) : sort_Search m t0 t1 H =
  iterC m (sort_Search_b1 m) ⟨H, [(1, t1), (5, (V (.int .i64 0))), (6, t0)]⟩ (blockX 0 (seqX (fun s => sort_Search_r1 m H.length ⟨s.H, [(5, gt s.T 5)]⟩) (sort_Search_fin H.length))) := by
  refine (keepX Tryd.prog GG (sort_Search_env m) m 26 H.length sort_Search_c sort_Search_h ⟨H, argsT 0 [t0, t1]⟩ [.tmp 4]).trans ?_
  kernel_rfl
noncomputable def sort_Search_t (m : Nat) : List AV → List AObj → RO | [t0, t1], H => sort_Search m t0 t1 H | _, _ => none
theorem sort_Search_ok (m : Nat) : ∀ args H X H', sort_Search_t m args H = some (X, H') → AC Tryd.prog GG 42 args H (Is X H') := by
  intro args H X H' h
  unfold sort_Search_t at h
  split at h
  · exact keep_okK MIX (by
    intro f e h
    simp only [sort_Search_env, Prod.mk.injEq, List.mem_cons, List.not_mem_nil, or_false] at h
    obtain ⟨rfl, rfl⟩ := h
    · exact snap_from_1_ok m) (f := 42) (c := sort_Search_c) Tryd.func42 rfl (by kernel_rfl) _ rfl Tryd.ntmps42 (Nat.le_of_ble_eq_true rfl) sort_Search_h h
  · cases h
noncomputable def snap_from_c : Code := (Tryd.f30.body).getD .skip
def snap_from_h : Hint := (.two .n (.two .n .n))
noncomputable def snap_from_env (m : Nat) : Env := [(42, .keep (sort_Search_t m))]
noncomputable abbrev snap_from_fin : KO (AV × List AObj) := tellFK Tryd.prog [.tmp 4]
noncomputable def snap_from (m : Nat) (t0 t1 : AV) : RO := exec Tryd.prog GG (snap_from_env m) m 9 snap_from_c snap_from_h ⟨[], argsT 0 [t0, t1]⟩ (snap_from_fin)
theorem snap_from_eq (m : Nat) (t0 t1 : AV) : snap_from m t0 t1 =
  boxE ty_sl_api_Snap [] t0 fun t2 H1 =>
  boxE ty_int H1 t1 fun t3 H2 =>
  loadE 1 H2 t2 fun t5 =>
  lenE false true H2 t5 fun t6 =>
  whenE (([t2, t3] : List AV).all cap0) (
  keepE (sort_Search m (ro H2 t6) (ro H2 (CL (.func 43) 0 [t2, t3])) H2) fun t8 H3 =>
  tellK H3 (ro H3 t8)) := by
  refine (tellX Tryd.prog GG (snap_from_env m) m 9 snap_from_c snap_from_h ⟨[], argsT 0 [t0, t1]⟩ [.tmp 4]).trans ?_
  kernel_rfl
noncomputable def snap_from_t (m : Nat) : List AV → RO | [t0, t1] => snap_from m t0 t1 | _ => none
theorem snap_from_ok (m : Nat) : ∀ args X H', snap_from_t m args = some (X, H') → ACp Tryd.prog GG 30 args X := by
  intro args X H' h
  unfold snap_from_t at h
  split at h
  · exact tell_okK MIX (by
    intro f e h
    simp only [snap_from_env, Prod.mk.injEq, List.mem_cons, List.not_mem_nil, or_false] at h
    obtain ⟨rfl, rfl⟩ := h
    · exact sort_Search_ok m) (f := 30) (c := snap_from_c) Tryd.func30 rfl (by kernel_rfl) _ rfl Tryd.ntmps30 (Nat.le_of_ble_eq_true rfl) snap_from_h h
  · cases h
noncomputable def snap_At_c : Code := (Tryd.f16.body).getD .skip
def snap_At_h : Hint := (.two .n (.two (.two .n (.two (.two .n .n) .n)) (.two .n (.join [0, 4, 6] (.join [0, 4, 6, 26] .n (.two (.two .n .n) .n)) (.two .n .n)))))
noncomputable def snap_At_env (m : Nat) : Env := [(28, .tell (snap_is_t m)), (30, .tell (snap_from_t m))]
noncomputable abbrev snap_At_fin : KO (AV × List AObj) := tellFK Tryd.prog [.cell 4 37, .tmp 5]
noncomputable def snap_At_r2 (m : Nat) (s : ASt) : RO := joinW Tryd.prog GG (snap_At_env m) m 33 (cdR (cdR (cdR (cdR snap_At_c)))) snap_At_h.r.r.r.r s (snap_At_fin)
noncomputable def snap_At_r1 (m : Nat) (s : ASt) : RO := joinW Tryd.prog GG (snap_At_env m) m 33 (cdR (cdL (cdR (cdR (cdR snap_At_c))))) snap_At_h.r.r.r.l.r s (seqX (fun s => snap_At_r2 m ⟨s.H, [(0, gt s.T 0), (4, gt s.T 4), (6, gt s.T 6)]⟩) (snap_At_fin))
noncomputable def snap_At (m : Nat) (t0 t1 : AV) : RO := exec Tryd.prog GG (snap_At_env m) m 33 snap_At_c snap_At_h ⟨[], argsT 0 [t0, t1]⟩ (snap_At_fin)
theorem snap_At_r2_eq (m : Nat) (H : List AObj) (t0 t4 t6 : AV) : snap_At_r2 m ⟨H, [(0, t0), (4, t4), (6, t6)]⟩ =
  idxSE 38 H t0 t6 fun t30 =>
  fieldE (some (1, 37)) t30 fun t31 =>
  loadE 37 H t31 fun t32 =>
  storeE 37 H t4 t32 fun H2 =>
  loadE 37 H2 t4 fun t9000 =>
  tellK H2 (ro H2 (TU [noT t9000, noT (V (.int .i64 0))])) := by
  refine (joinW_eq Tryd.prog GG (snap_At_env m) m 33 (cdR (cdR (cdR (cdR snap_At_c)))) snap_At_h.r.r.r.r ⟨H, [(0, t0), (4, t4), (6, t6)]⟩ (snap_At_fin)).trans ?_
  kernel_rfl
theorem snap_At_r1_eq (m : Nat) (H : List AObj) (t0 t4 t6 t26 : AV) : snap_At_r1 m ⟨H, [(0, t0), (4, t4), (6, t6), (26, t26)]⟩ =
  condE t26 (
   buildE (some pl_api_Store) (some zc_api_Store) [] fun t27 =>
   storeE 37 H t4 t27 fun H2 =>
   loadE 37 H2 t4 fun t9000 =>
   tellK H2 (ro H2 (TU [noT t9000, noT (V (.int .i64 6))]))) (
   snap_At_r2 m ⟨H, [(0, t0), (4, t4), (6, t6)]⟩) := by
  refine (joinW_eq Tryd.prog GG (snap_At_env m) m 33 (cdR (cdL (cdR (cdR (cdR snap_At_c))))) snap_At_h.r.r.r.l.r ⟨H, [(0, t0), (4, t4), (6, t6), (26, t26)]⟩ (seqX (fun s => snap_At_r2 m ⟨s.H, [(0, gt s.T 0), (4, gt s.T 4), (6, gt s.T 6)]⟩) (snap_At_fin))).trans ?_
  kernel_rfl
theorem snap_At_eq (m : Nat) (t0 t1 : AV) : snap_At m t0 t1 =
  allocE (some zc_api_Store) ty_api_Store [] fun t4 H1 =>
  tellE (snap_is m (ro H1 t0)) [(ro H1 t0)] fun t8 =>
  unE .not t8 fun t9 =>
  condE t9 (
   buildE (some pl_api_Store) (some zc_api_Store) [] fun t10 =>
   storeE 37 H1 t4 t10 fun H2 =>
   loadE 37 H2 t4 fun t9000 =>
   tellK H2 (ro H2 (TU [noT t9000, noT (V (.int .i64 1))]))) (
   tellE (snap_from m (ro H1 t0) (ro H1 t1)) [(ro H1 t0), (ro H1 t1)] fun t13 =>
   lenE false true H1 t0 fun t16 =>
   binE none false false .eql t13 t16 fun t17 =>
   condE t17 (
    snap_At_r1 m ⟨H1, [(0, t0), (4, t4), (6, t13), (26, (V (.bool true)))]⟩) (
    idxSE 38 H1 t0 t13 fun t21 =>
    fieldE (some (0, 1)) t21 fun t22 =>
    loadE 1 H1 t22 fun t23 =>
    binE none false false .neq t23 t1 fun t25 =>
    snap_At_r1 m ⟨H1, [(0, t0), (4, t4), (6, t13), (26, t25)]⟩)) := by
  refine (tellX Tryd.prog GG (snap_At_env m) m 33 snap_At_c snap_At_h ⟨[], argsT 0 [t0, t1]⟩ [.cell 4 37, .tmp 5]).trans ?_
  kernel_rfl
noncomputable def snap_At_t (m : Nat) : List AV → RO | [t0, t1] => snap_At m t0 t1 | _ => none
theorem snap_At_ok (m : Nat) : ∀ args X H', snap_At_t m args = some (X, H') → ACp Tryd.prog GG 16 args X := by
  intro args X H' h
  unfold snap_At_t at h
  split at h
  · exact tell_okK MIX (by
    intro f e h
    simp only [snap_At_env, Prod.mk.injEq, List.mem_cons, List.not_mem_nil, or_false] at h
    rcases h with ⟨rfl, rfl⟩ | ⟨rfl, rfl⟩
    · exact snap_is_ok m
    · exact snap_from_ok m) (f := 16) (c := snap_At_c) Tryd.func16 rfl (by kernel_rfl) _ rfl Tryd.ntmps16 (Nat.le_of_ble_eq_true rfl) snap_At_h h
  · cases h
noncomputable def snap_Last_c : Code := (Tryd.f17.body).getD .skip
def snap_Last_h : Hint := (.two .n (.two (.two .n (.two (.two .n .n) .n)) (.join [5] (.two .n (.one (.lp [] [0, 1, 5, 7] [4, 5, 6] (.two (.two .n (.two .n .n)) (.two (.one (.two .n (.two (.two .n .n) .n))) .n))))) (.two .n .n))))
noncomputable def snap_Last_env (m : Nat) : Env := [(28, .tell (snap_is_t m))]
noncomputable abbrev snap_Last_fin : KO (AV × List AObj) := tellFK Tryd.prog [.tmp 4, .cell 5 37, .tmp 6]
noncomputable def snap_Last_r1 (m : Nat) (s : ASt) : RO := joinW Tryd.prog GG (snap_Last_env m) m 37 (cdR (cdR (cdR snap_Last_c))) snap_Last_h.r.r.r s (snap_Last_fin)
noncomputable def snap_Last_b1 (m : Nat) (s : ASt) (kc : ASt → RO) (kx : KO (AV × List AObj)) : RO := bodyW Tryd.prog GG (snap_Last_env m) m 37 (cdL (cdL (cdR (cdL (cdR (cdR snap_Last_c)))))) snap_Last_h.r.r.l.r.c.c [0, 1, 5, 7] [4, 5, 6] s kc kx
noncomputable def snap_Last (m : Nat) (t0 t1 : AV) : RO := exec Tryd.prog GG (snap_Last_env m) m 37 snap_Last_c snap_Last_h ⟨[], argsT 0 [t0, t1]⟩ (snap_Last_fin)
theorem snap_Last_r1_eq (m : Nat) (H : List AObj) (t5 : AV) : snap_Last_r1 m ⟨H, [(5, t5)]⟩ =
  buildE (some pl_api_Store) (some zc_api_Store) [] fun t36 =>
  storeE 37 H t5 t36 fun H2 =>
  loadE 37 H2 t5 fun t9001 =>
  tellK H2 (ro H2 (TU [noT (V (.int .i64 0)), noT t9001, noT (V (.int .i64 6))])) := by
  refine (joinW_eq Tryd.prog GG (snap_Last_env m) m 37 (cdR (cdR (cdR snap_Last_c))) snap_Last_h.r.r.r ⟨H, [(5, t5)]⟩ (snap_Last_fin)).trans ?_
  kernel_rfl
theorem snap_Last_b1_eq (m : Nat) (H : List AObj) (t0 t1 t5 t7 : AV) (kc : ASt → RO) (kx : KO (AV × List AObj)) : snap_Last_b1 m ⟨H, [(0, t0), (1, t1), (5, t5), (7, t7)]⟩ kc kx =
  binE none false false .geq t7 (V (.int .i64 0)) fun t16 =>
  condE t16 (
   idxSE 38 H t0 t7 fun t21 =>
   fieldE (some (0, 1)) t21 fun t22 =>
   loadE 1 H t22 fun t23 =>
   binE none false false .leq t23 t1 fun t25 =>
   condE t25 (
    idxSE 38 H t0 t7 fun t28 =>
    fieldE (some (0, 1)) t28 fun t29 =>
    loadE 1 H t29 fun t30 =>
    idxSE 38 H t0 t7 fun t33 =>
    fieldE (some (1, 37)) t33 fun t34 =>
    loadE 37 H t34 fun t35 =>
    storeE 37 H t5 t35 fun H2 =>
    kx .ret ⟨H2, [(4, t30), (5, t5), (6, (V (.int .i64 0)))]⟩) (
    binE none false false .sub t7 (V (.int .i64 1)) fun t18 =>
    backE H.length H [(0, t0), (1, t1), (5, t5), (7, t18)] kc)) (
   kx (.exit 0) ⟨H, [(4, .nil), (5, t5), (6, .nil)]⟩) := by
  refine (bodyW_eq Tryd.prog GG (snap_Last_env m) m 37 (cdL (cdL (cdR (cdL (cdR (cdR snap_Last_c)))))) snap_Last_h.r.r.l.r.c.c [0, 1, 5, 7] [4, 5, 6] ⟨H, [(0, t0), (1, t1), (5, t5), (7, t7)]⟩ kc kx).trans ?_
  kernel_rfl
theorem snap_Last_eq (m : Nat) (t0 t1 : AV) : snap_Last m t0 t1 =
  allocE (some zc_api_Store) ty_api_Store [] fun t5 H1 =>
  tellE (snap_is m (ro H1 t0)) [(ro H1 t0)] fun t9 =>
  unE .not t9 fun t10 =>
  condE t10 (
   buildE (some pl_api_Store) (some zc_api_Store) [] fun t11 =>
   storeE 37 H1 t5 t11 fun H2 =>
   loadE 37 H2 t5 fun t9001 =>
   tellK H2 (ro H2 (TU [noT (V (.int .i64 0)), noT t9001, noT (V (.int .i64 1))]))) (
   lenE false true H1 t0 fun t13 =>
   binE none false false .sub t13 (V (.int .i64 1)) fun t14 =>
   iterC m (snap_Last_b1 m) ⟨H1, [(0, t0), (1, t1), (5, t5), (7, t14)]⟩ (blockX 0 (seqX (fun s => snap_Last_r1 m ⟨s.H, [(5, gt s.T 5)]⟩) (snap_Last_fin)))) := by
  refine (tellX Tryd.prog GG (snap_Last_env m) m 37 snap_Last_c snap_Last_h ⟨[], argsT 0 [t0, t1]⟩ [.tmp 4, .cell 5 37, .tmp 6]).trans ?_
  kernel_rfl
noncomputable def snap_Last_t (m : Nat) : List AV → RO | [t0, t1] => snap_Last m t0 t1 | _ => none
theorem snap_Last_ok (m : Nat) : ∀ args X H', snap_Last_t m args = some (X, H') → ACp Tryd.prog GG 17 args X := by
  intro args X H' h
  unfold snap_Last_t at h
  split at h
  · exact tell_okK MIX (by
    intro f e h
    simp only [snap_Last_env, Prod.mk.injEq, List.mem_cons, List.not_mem_nil, or_false] at h
    obtain ⟨rfl, rfl⟩ := h
    · exact snap_is_ok m) (f := 17) (c := snap_Last_c) Tryd.func17 rfl (by kernel_rfl) _ rfl Tryd.ntmps17 (Nat.le_of_ble_eq_true rfl) snap_Last_h h
  · cases h
noncomputable def snap_Drop_c : Code := (Tryd.f21.body).getD .skip
def snap_Drop_h : Hint := (.two .n (.two (.two .n (.two (.two .n .n) .n)) (.two .n (.two .n .n))))
noncomputable def snap_Drop_env (m : Nat) : Env := [(28, .tell (snap_is_t m)), (30, .tell (snap_from_t m)), (29, .add (slices_Clone_Snap_t m))]
noncomputable abbrev snap_Drop_fin : KO (AV × List AObj) := tellFK Tryd.prog [.tmp 4, .tmp 5]
noncomputable def snap_Drop (m : Nat) (t0 t1 : AV) : RO := exec Tryd.prog GG (snap_Drop_env m) m 22 snap_Drop_c snap_Drop_h ⟨[], argsT 0 [t0, t1]⟩ (snap_Drop_fin)
theorem snap_Drop_eq (m : Nat) (t0 t1 : AV) : snap_Drop m t0 t1 =
  tellE (snap_is m (ro [] t0)) [(ro [] t0)] fun t8 =>
  unE .not t8 fun t9 =>
  condE t9 (
   tellK [] (ro [] (TU [noT (V (.slice none 0 0)), noT (V (.int .i64 1))]))) (
   tellE (snap_from m (ro [] t0) (ro [] t1)) [(ro [] t0), (ro [] t1)] fun t12 =>
   lenE false true [] t0 fun t14 =>
   binE none false false .sub t14 (V (.int .i64 1)) fun t15 =>
   mmE true (V (.int .i64 0)) t15 fun t16 =>
   mmE false t12 t16 fun t17 =>
   sliceE false (some (ty_api_Snap, 38)) [] t0 (some t17) none fun t20 =>
   addE (slices_Clone_Snap_t m [(ro [] t20)] ([] : List AObj).length) [] fun t21 H1 =>
   tellK H1 (ro H1 (TU [noT t21, noT (V (.int .i64 0))]))) := by
  refine (tellX Tryd.prog GG (snap_Drop_env m) m 22 snap_Drop_c snap_Drop_h ⟨[], argsT 0 [t0, t1]⟩ [.tmp 4, .tmp 5]).trans ?_
  kernel_rfl
noncomputable def snap_Drop_t (m : Nat) : List AV → RO | [t0, t1] => snap_Drop m t0 t1 | _ => none
theorem snap_Drop_ok (m : Nat) : ∀ args X H', snap_Drop_t m args = some (X, H') → ACp Tryd.prog GG 21 args X := by
  intro args X H' h
  unfold snap_Drop_t at h
  split at h
  · exact tell_okK MIX (by
    intro f e h
    simp only [snap_Drop_env, Prod.mk.injEq, List.mem_cons, List.not_mem_nil, or_false] at h
    rcases h with ⟨rfl, rfl⟩ | ⟨rfl, rfl⟩ | ⟨rfl, rfl⟩
    · exact snap_is_ok m
    · exact snap_from_ok m
    · exact slices_Clone_Snap_ok m) (f := 21) (c := snap_Drop_c) Tryd.func21 rfl (by kernel_rfl) _ rfl Tryd.ntmps21 (Nat.le_of_ble_eq_true rfl) snap_Drop_h h
  · cases h
noncomputable def snap_Changed_c : Code := (Tryd.f22.body).getD .skip
def snap_Changed_h : Hint := (.two .n (.two .n (.two (.two .n (.two (.two .n .n) .n)) (.two .n (.two (.two .n (.two (.two .n .n) .n)) (.two .n .n))))))
noncomputable def snap_Changed_env (m : Nat) : Env := [(16, .tell (snap_At_t m)), (32, .tell (trunk_Unlike_t m))]
noncomputable abbrev snap_Changed_fin : KO (AV × List AObj) := tellFK Tryd.prog [.tmp 6, .tmp 7]
noncomputable def snap_Changed (m : Nat) (t0 t1 t2 : AV) : RO := exec Tryd.prog GG (snap_Changed_env m) m 36 snap_Changed_c snap_Changed_h ⟨[], argsT 0 [t0, t1, t2]⟩ (snap_Changed_fin)
theorem snap_Changed_eq (m : Nat) (t0 t1 t2 : AV) : snap_Changed m t0 t1 t2 =
  tellE (snap_At m (ro [] t0) (ro [] t1)) [(ro [] t0), (ro [] t1)] fun t14 =>
  extE t14 0 fun t15 =>
  extE t14 1 fun t16 =>
  allocE (some zc_api_Store) ty_api_Store [] fun t8 H1 =>
  storeE 37 H1 t8 t15 fun H2 =>
  binE none false false .neq t16 (V (.int .i64 0)) fun t18 =>
  condE t18 (
   tellK H2 (ro H2 (TU [noT (V (.slice none 0 0)), noT t16]))) (
   tellE (snap_At m (ro H2 t0) (ro H2 t2)) [(ro H2 t0), (ro H2 t2)] fun t23 =>
   extE t23 0 fun t24 =>
   extE t23 1 fun t25 =>
   allocE (some zc_api_Store) ty_api_Store H2 fun t10 H3 =>
   storeE 37 H3 t10 t24 fun H4 =>
   binE none false false .neq t25 (V (.int .i64 0)) fun t27 =>
   condE t27 (
    tellK H4 (ro H4 (TU [noT (V (.slice none 0 0)), noT t25]))) (
    fieldE (some (0, 34)) t8 fun t29 =>
    loadE 34 H4 t29 fun t30 =>
    fieldE (some (0, 34)) t10 fun t31 =>
    loadE 34 H4 t31 fun t32 =>
    tellE (trunk_Unlike m (ro H4 t30) (ro H4 t32)) [(ro H4 t30), (ro H4 t32)] fun t33 =>
    extE t33 0 fun t34 =>
    extE t33 1 fun t35 =>
    tellK H4 (ro H4 (TU [noT t34, noT t35])))) := by
  refine (tellX Tryd.prog GG (snap_Changed_env m) m 36 snap_Changed_c snap_Changed_h ⟨[], argsT 0 [t0, t1, t2]⟩ [.tmp 6, .tmp 7]).trans ?_
  kernel_rfl
noncomputable def snap_Changed_t (m : Nat) : List AV → RO | [t0, t1, t2] => snap_Changed m t0 t1 t2 | _ => none
theorem snap_Changed_ok (m : Nat) : ∀ args X H', snap_Changed_t m args = some (X, H') → ACp Tryd.prog GG 22 args X := by
  intro args X H' h
  unfold snap_Changed_t at h
  split at h
  · exact tell_okK MIX (by
    intro f e h
    simp only [snap_Changed_env, Prod.mk.injEq, List.mem_cons, List.not_mem_nil, or_false] at h
    rcases h with ⟨rfl, rfl⟩ | ⟨rfl, rfl⟩
    · exact snap_At_ok m
    · exact trunk_Unlike_ok m) (f := 22) (c := snap_Changed_c) Tryd.func22 rfl (by kernel_rfl) _ rfl Tryd.ntmps22 (Nat.le_of_ble_eq_true rfl) snap_Changed_h h
  · cases h
noncomputable def plenumref14_Check_c : Code := (Tryd.f10.body).getD .skip
def plenumref14_Check_h : Hint := (.two .n (.two (.two .n (.two (.two .n .n) .n)) (.join [] (.two .n (.one (.lp [] [0, 4] [2, 3] (.two (.two .n (.two .n .n)) (.join [0, 4] (.one (.join [0, 4] (.join [0, 4, 28] .n (.two (.two .n .n) .n)) (.join [0, 4, 94] .n (.two (.two .n .n) .n)))) .n))))) (.two .n .n))))
noncomputable def plenumref14_Check_env (m : Nat) : Env := [(26, .tell (plenumref13_May_t m))]
noncomputable abbrev plenumref14_Check_fin : KO (AV × List AObj) := tellFK Tryd.prog [.tmp 2, .tmp 3]
noncomputable def plenumref14_Check_r7 (m : Nat) (n0 : Nat) (kc : ASt → RO) (kx : KO (AV × List AObj)) (s : ASt) : RO := joinW Tryd.prog GG (plenumref14_Check_env m) m 96 (cdR (cdR (cdL (cdL (cdR (cdL (cdR (cdR plenumref14_Check_c)))))))) plenumref14_Check_h.r.r.l.r.c.c.r.r s (backW n0 [0, 4] [2, 3] kc kx)
noncomputable def plenumref14_Check_r6 (m : Nat) (n0 : Nat) (kc : ASt → RO) (kx : KO (AV × List AObj)) (s : ASt) : RO := joinW Tryd.prog GG (plenumref14_Check_env m) m 96 (cdR (cdR (cdL (cdL (cdR (cdL (cdR (cdR plenumref14_Check_c)))))))) plenumref14_Check_h.r.r.l.r.c.c.r.r s (backW n0 [0, 4] [2, 3] kc kx)
noncomputable def plenumref14_Check_r5 (m : Nat) (n0 : Nat) (kc : ASt → RO) (kx : KO (AV × List AObj)) (s : ASt) : RO := joinW Tryd.prog GG (plenumref14_Check_env m) m 96 (cdR (cdR (cdL (cdL (cdR (cdL (cdL (cdR (cdL (cdR (cdR plenumref14_Check_c))))))))))) plenumref14_Check_h.r.r.l.r.c.c.r.l.c.r.r s (blockX 1 (seqX (fun s => plenumref14_Check_r7 m n0 kc kx ⟨s.H, [(0, gt s.T 0), (4, gt s.T 4)]⟩) (backW n0 [0, 4] [2, 3] kc kx)))
noncomputable def plenumref14_Check_r4 (m : Nat) (n0 : Nat) (kc : ASt → RO) (kx : KO (AV × List AObj)) (s : ASt) : RO := joinW Tryd.prog GG (plenumref14_Check_env m) m 96 (cdR (cdR (cdL (cdL (cdR (cdL (cdR (cdR plenumref14_Check_c)))))))) plenumref14_Check_h.r.r.l.r.c.c.r.r s (backW n0 [0, 4] [2, 3] kc kx)
noncomputable def plenumref14_Check_r3 (m : Nat) (n0 : Nat) (kc : ASt → RO) (kx : KO (AV × List AObj)) (s : ASt) : RO := joinW Tryd.prog GG (plenumref14_Check_env m) m 96 (cdR (cdL (cdL (cdR (cdL (cdL (cdR (cdL (cdR (cdR plenumref14_Check_c)))))))))) plenumref14_Check_h.r.r.l.r.c.c.r.l.c.r s (blockX 1 (seqX (fun s => plenumref14_Check_r6 m n0 kc kx ⟨s.H, [(0, gt s.T 0), (4, gt s.T 4)]⟩) (backW n0 [0, 4] [2, 3] kc kx)))
noncomputable def plenumref14_Check_r2 (m : Nat) (n0 : Nat) (kc : ASt → RO) (kx : KO (AV × List AObj)) (s : ASt) : RO := joinW Tryd.prog GG (plenumref14_Check_env m) m 96 (cdR (cdL (cdL (cdL (cdR (cdL (cdL (cdR (cdL (cdR (cdR plenumref14_Check_c))))))))))) plenumref14_Check_h.r.r.l.r.c.c.r.l.c.l.r s (seqX (fun s => plenumref14_Check_r3 m n0 kc kx ⟨s.H, [(0, gt s.T 0), (4, gt s.T 4)]⟩) (blockX 1 (seqX (fun s => plenumref14_Check_r4 m n0 kc kx ⟨s.H, [(0, gt s.T 0), (4, gt s.T 4)]⟩) (backW n0 [0, 4] [2, 3] kc kx))))
noncomputable def plenumref14_Check_r1 (m : Nat) (s : ASt) : RO := joinW Tryd.prog GG (plenumref14_Check_env m) m 96 (cdR (cdR (cdR plenumref14_Check_c))) plenumref14_Check_h.r.r.r s (plenumref14_Check_fin)
noncomputable def plenumref14_Check_b1 (m : Nat) (s : ASt) (kc : ASt → RO) (kx : KO (AV × List AObj)) : RO := bodyW Tryd.prog GG (plenumref14_Check_env m) m 96 (cdL (cdL (cdR (cdL (cdR (cdR plenumref14_Check_c)))))) plenumref14_Check_h.r.r.l.r.c.c [0, 4] [2, 3] s kc kx
noncomputable def plenumref14_Check (m : Nat) (t0 : AV) : RO := exec Tryd.prog GG (plenumref14_Check_env m) m 96 plenumref14_Check_c plenumref14_Check_h ⟨[], argsT 0 [t0]⟩ (plenumref14_Check_fin)
theorem plenumref14_Check_r7_eq (m : Nat) (n0 : Nat) (kc : ASt → RO) (kx : KO (AV × List AObj)) (H : List AObj) (t0 t4 : AV) : plenumref14_Check_r7 m n0 kc kx ⟨H, [(0, t0), (4, t4)]⟩ =
  binE none false false .add t4 (V (.int .i64 1)) fun t13 =>
  backE n0 H [(0, t0), (4, t13)] kc := by
  refine (joinW_eq Tryd.prog GG (plenumref14_Check_env m) m 96 (cdR (cdR (cdL (cdL (cdR (cdL (cdR (cdR plenumref14_Check_c)))))))) plenumref14_Check_h.r.r.l.r.c.c.r.r ⟨H, [(0, t0), (4, t4)]⟩ (backW n0 [0, 4] [2, 3] kc kx)).trans ?_
  kernel_rfl
theorem plenumref14_Check_r6_eq (m : Nat) (n0 : Nat) (kc : ASt → RO) (kx : KO (AV × List AObj)) (H : List AObj) (t0 t4 : AV) : plenumref14_Check_r6 m n0 kc kx ⟨H, [(0, t0), (4, t4)]⟩ =
  binE none false false .add t4 (V (.int .i64 1)) fun t13 =>
  backE n0 H [(0, t0), (4, t13)] kc := by
  refine (joinW_eq Tryd.prog GG (plenumref14_Check_env m) m 96 (cdR (cdR (cdL (cdL (cdR (cdL (cdR (cdR plenumref14_Check_c)))))))) plenumref14_Check_h.r.r.l.r.c.c.r.r ⟨H, [(0, t0), (4, t4)]⟩ (backW n0 [0, 4] [2, 3] kc kx)).trans ?_
  kernel_rfl
theorem plenumref14_Check_r5_eq (m : Nat) (n0 : Nat) (kc : ASt → RO) (kx : KO (AV × List AObj)) (H : List AObj) (t0 t4 t94 : AV) : plenumref14_Check_r5 m n0 kc kx ⟨H, [(0, t0), (4, t4), (94, t94)]⟩ =
  condE t94 (
   kx .ret ⟨H, [(2, (V (.int .i64 3))), (3, t4)]⟩) (
   plenumref14_Check_r7 m n0 kc kx ⟨H, [(0, t0), (4, t4)]⟩) := by
  refine (joinW_eq Tryd.prog GG (plenumref14_Check_env m) m 96 (cdR (cdR (cdL (cdL (cdR (cdL (cdL (cdR (cdL (cdR (cdR plenumref14_Check_c))))))))))) plenumref14_Check_h.r.r.l.r.c.c.r.l.c.r.r ⟨H, [(0, t0), (4, t4), (94, t94)]⟩ (blockX 1 (seqX (fun s => plenumref14_Check_r7 m n0 kc kx ⟨s.H, [(0, gt s.T 0), (4, gt s.T 4)]⟩) (backW n0 [0, 4] [2, 3] kc kx)))).trans ?_
  kernel_rfl
theorem plenumref14_Check_r4_eq (m : Nat) (n0 : Nat) (kc : ASt → RO) (kx : KO (AV × List AObj)) (H : List AObj) (t0 t4 : AV) : plenumref14_Check_r4 m n0 kc kx ⟨H, [(0, t0), (4, t4)]⟩ =
  binE none false false .add t4 (V (.int .i64 1)) fun t13 =>
  backE n0 H [(0, t0), (4, t13)] kc := by
  refine (joinW_eq Tryd.prog GG (plenumref14_Check_env m) m 96 (cdR (cdR (cdL (cdL (cdR (cdL (cdR (cdR plenumref14_Check_c)))))))) plenumref14_Check_h.r.r.l.r.c.c.r.r ⟨H, [(0, t0), (4, t4)]⟩ (backW n0 [0, 4] [2, 3] kc kx)).trans ?_
  kernel_rfl
theorem plenumref14_Check_r3_eq (m : Nat) (n0 : Nat) (kc : ASt → RO) (kx : KO (AV × List AObj)) (H : List AObj) (t0 t4 : AV) : plenumref14_Check_r3 m n0 kc kx ⟨H, [(0, t0), (4, t4)]⟩ =
  binE none false false .gtr t4 (V (.int .i64 0)) fun t31 =>
  condE t31 (
   binE none false false .sub t4 (V (.int .i64 1)) fun t35 =>
   idxSE 38 H t0 t35 fun t36 =>
   fieldE (some (0, 1)) t36 fun t37 =>
   loadE 1 H t37 fun t38 =>
   idxSE 38 H t0 t4 fun t41 =>
   fieldE (some (0, 1)) t41 fun t42 =>
   loadE 1 H t42 fun t43 =>
   binE none false false .lss t38 t43 fun t44 =>
   condE t44 (
   binE none false false .sub t4 (V (.int .i64 1)) fun t48 =>
   idxSE 38 H t0 t48 fun t49 =>
   fieldE (some (1, 37)) t49 fun t50 =>
   fieldE (some (32, 1)) t50 fun t51 =>
   loadE 1 H t51 fun t52 =>
   idxSE 38 H t0 t4 fun t55 =>
   fieldE (some (1, 37)) t55 fun t56 =>
   fieldE (some (32, 1)) t56 fun t57 =>
   loadE 1 H t57 fun t58 =>
   binE none false false .leq t52 t58 fun t59 =>
   condE t59 (
   binE none false false .sub t4 (V (.int .i64 1)) fun t64 =>
   idxSE 38 H t0 t64 fun t65 =>
   fieldE (some (1, 37)) t65 fun t66 =>
   fieldE (some (33, 1)) t66 fun t67 =>
   loadE 1 H t67 fun t68 =>
   idxSE 38 H t0 t4 fun t71 =>
   fieldE (some (1, 37)) t71 fun t72 =>
   fieldE (some (33, 1)) t72 fun t73 =>
   loadE 1 H t73 fun t74 =>
   binE none false false .eql t68 t74 fun t75 =>
   condE t75 (
   binE none false false .sub t4 (V (.int .i64 1)) fun t80 =>
   idxSE 38 H t0 t80 fun t81 =>
   fieldE (some (1, 37)) t81 fun t82 =>
   fieldE (some (34, 1)) t82 fun t83 =>
   loadE 1 H t83 fun t84 =>
   idxSE 38 H t0 t4 fun t87 =>
   fieldE (some (1, 37)) t87 fun t88 =>
   fieldE (some (34, 1)) t88 fun t89 =>
   loadE 1 H t89 fun t90 =>
   binE none false false .eql t84 t90 fun t91 =>
   unE .not t91 fun t93 =>
   plenumref14_Check_r5 m n0 kc kx ⟨H, [(0, t0), (4, t4), (94, t93)]⟩) (
   plenumref14_Check_r5 m n0 kc kx ⟨H, [(0, t0), (4, t4), (94, (V (.bool true)))]⟩)) (
   plenumref14_Check_r5 m n0 kc kx ⟨H, [(0, t0), (4, t4), (94, (V (.bool true)))]⟩)) (
   plenumref14_Check_r5 m n0 kc kx ⟨H, [(0, t0), (4, t4), (94, (V (.bool true)))]⟩)) (
   plenumref14_Check_r5 m n0 kc kx ⟨H, [(0, t0), (4, t4), (94, (V (.bool false)))]⟩) := by
  refine (joinW_eq Tryd.prog GG (plenumref14_Check_env m) m 96 (cdR (cdL (cdL (cdR (cdL (cdL (cdR (cdL (cdR (cdR plenumref14_Check_c)))))))))) plenumref14_Check_h.r.r.l.r.c.c.r.l.c.r ⟨H, [(0, t0), (4, t4)]⟩ (blockX 1 (seqX (fun s => plenumref14_Check_r6 m n0 kc kx ⟨s.H, [(0, gt s.T 0), (4, gt s.T 4)]⟩) (backW n0 [0, 4] [2, 3] kc kx)))).trans ?_
  kernel_rfl
theorem plenumref14_Check_r2_eq (m : Nat) (n0 : Nat) (kc : ASt → RO) (kx : KO (AV × List AObj)) (H : List AObj) (t0 t4 t28 : AV) : plenumref14_Check_r2 m n0 kc kx ⟨H, [(0, t0), (4, t4), (28, t28)]⟩ =
  condE t28 (
   kx .ret ⟨H, [(2, (V (.int .i64 1))), (3, t4)]⟩) (
   plenumref14_Check_r3 m n0 kc kx ⟨H, [(0, t0), (4, t4)]⟩) := by
  refine (joinW_eq Tryd.prog GG (plenumref14_Check_env m) m 96 (cdR (cdL (cdL (cdL (cdR (cdL (cdL (cdR (cdL (cdR (cdR plenumref14_Check_c))))))))))) plenumref14_Check_h.r.r.l.r.c.c.r.l.c.l.r ⟨H, [(0, t0), (4, t4), (28, t28)]⟩ (seqX (fun s => plenumref14_Check_r3 m n0 kc kx ⟨s.H, [(0, gt s.T 0), (4, gt s.T 4)]⟩) (blockX 1 (seqX (fun s => plenumref14_Check_r4 m n0 kc kx ⟨s.H, [(0, gt s.T 0), (4, gt s.T 4)]⟩) (backW n0 [0, 4] [2, 3] kc kx))))).trans ?_
  kernel_rfl
theorem plenumref14_Check_r1_eq (m : Nat) (H : List AObj) : plenumref14_Check_r1 m ⟨H, []⟩ =
  tellK H (ro H (TU [noT (V (.int .i64 0)), noT (V (.int .i64 0))])) := by
  refine (joinW_eq Tryd.prog GG (plenumref14_Check_env m) m 96 (cdR (cdR (cdR plenumref14_Check_c))) plenumref14_Check_h.r.r.r ⟨H, []⟩ (plenumref14_Check_fin)).trans ?_
  kernel_rfl
theorem plenumref14_Check_b1_eq (m : Nat) (H : List AObj) (t0 t4 : AV) (kc : ASt → RO) (kx : KO (AV × List AObj)) : plenumref14_Check_b1 m ⟨H, [(0, t0), (4, t4)]⟩ kc kx =
  lenE false true H t0 fun t10 =>
  binE none false false .lss t4 t10 fun t11 =>
  condE t11 (
   idxSE 38 H t0 t4 fun t16 =>
   fieldE (some (0, 1)) t16 fun t17 =>
   loadE 1 H t17 fun t18 =>
   binE none false false .lss t18 (V (.int .i64 0)) fun t19 =>
   condE t19 (
    plenumref14_Check_r2 m H.length kc kx ⟨H, [(0, t0), (4, t4), (28, (V (.bool true)))]⟩) (
    idxSE 38 H t0 t4 fun t23 =>
    fieldE (some (1, 37)) t23 fun t24 =>
    loadE 37 H t24 fun t25 =>
    tellE (plenumref13_May m (ro H t25)) [(ro H t25)] fun t26 =>
    unE .not t26 fun t27 =>
    plenumref14_Check_r2 m H.length kc kx ⟨H, [(0, t0), (4, t4), (28, t27)]⟩)) (
   kx (.exit 0) ⟨H, [(2, .nil), (3, .nil)]⟩) := by
  refine (bodyW_eq Tryd.prog GG (plenumref14_Check_env m) m 96 (cdL (cdL (cdR (cdL (cdR (cdR plenumref14_Check_c)))))) plenumref14_Check_h.r.r.l.r.c.c [0, 4] [2, 3] ⟨H, [(0, t0), (4, t4)]⟩ kc kx).trans ?_
  kernel_rfl
theorem plenumref14_Check_eq (m : Nat) (t0 : AV) : plenumref14_Check m t0 =
  lenE false true [] t0 fun t6 =>
  binE none false false .gtr t6 (V (.int .i64 8)) fun t7 =>
  condE t7 (
   tellK [] (ro [] (TU [noT (V (.int .i64 5)), noT (V (.int .i64 8))]))) (
   iterC m (plenumref14_Check_b1 m) ⟨[], [(0, t0), (4, (V (.int .i64 0)))]⟩ (blockX 0 (seqX (fun s => plenumref14_Check_r1 m ⟨s.H, []⟩) (plenumref14_Check_fin)))) := by
  refine (tellX Tryd.prog GG (plenumref14_Check_env m) m 96 plenumref14_Check_c plenumref14_Check_h ⟨[], argsT 0 [t0]⟩ [.tmp 2, .tmp 3]).trans ?_
  kernel_rfl
noncomputable def plenumref14_Check_t (m : Nat) : List AV → RO | [t0] => plenumref14_Check m t0 | _ => none
theorem plenumref14_Check_ok (m : Nat) : ∀ args X H', plenumref14_Check_t m args = some (X, H') → ACp Tryd.prog GG 10 args X := by
  intro args X H' h
  unfold plenumref14_Check_t at h
  split at h
  · exact tell_okK MIX (by
    intro f e h
    simp only [plenumref14_Check_env, Prod.mk.injEq, List.mem_cons, List.not_mem_nil, or_false] at h
    obtain ⟨rfl, rfl⟩ := h
    · exact plenumref13_May_ok m) (f := 10) (c := plenumref14_Check_c) Tryd.func10 rfl (by kernel_rfl) _ rfl Tryd.ntmps10 (Nat.le_of_ble_eq_true rfl) plenumref14_Check_h h
  · cases h
noncomputable def plenumref14_Is_c : Code := (Tryd.f18.body).getD .skip
def plenumref14_Is_h : Hint := (.two .n (.two .n (.two .n .n)))
noncomputable def plenumref14_Is_env (m : Nat) : Env := [(10, .tell (plenumref14_Check_t m))]
noncomputable abbrev plenumref14_Is_fin : KO (AV × List AObj) := tellFK Tryd.prog [.tmp 2]
noncomputable def plenumref14_Is (m : Nat) (t0 : AV) : RO := exec Tryd.prog GG (plenumref14_Is_env m) m 12 plenumref14_Is_c plenumref14_Is_h ⟨[], argsT 0 [t0]⟩ (plenumref14_Is_fin)
theorem plenumref14_Is_eq (m : Nat) (t0 : AV) : plenumref14_Is m t0 =
  tellE (plenumref14_Check m (ro [] t0)) [(ro [] t0)] fun t7 =>
  extE t7 0 fun t8 =>
  extE t7 1 fun t9 =>
  binE none false false .eql t8 (V (.int .i64 0)) fun t11 =>
  tellK [] (ro [] t11) := by
  refine (tellX Tryd.prog GG (plenumref14_Is_env m) m 12 plenumref14_Is_c plenumref14_Is_h ⟨[], argsT 0 [t0]⟩ [.tmp 2]).trans ?_
  kernel_rfl
noncomputable def plenumref14_Is_t (m : Nat) : List AV → RO | [t0] => plenumref14_Is m t0 | _ => none
theorem plenumref14_Is_ok (m : Nat) : ∀ args X H', plenumref14_Is_t m args = some (X, H') → ACp Tryd.prog GG 18 args X := by
  intro args X H' h
  unfold plenumref14_Is_t at h
  split at h
  · exact tell_okK MIX (by
    intro f e h
    simp only [plenumref14_Is_env, Prod.mk.injEq, List.mem_cons, List.not_mem_nil, or_false] at h
    obtain ⟨rfl, rfl⟩ := h
    · exact plenumref14_Check_ok m) (f := 18) (c := plenumref14_Is_c) Tryd.func18 rfl (by kernel_rfl) _ rfl Tryd.ntmps18 (Nat.le_of_ble_eq_true rfl) plenumref14_Is_h h
  · cases h
noncomputable def plenumref14_Keep_c : Code := (Tryd.f14.body).getD .skip
def plenumref14_Keep_h : Hint := (.two .n (.two (.two .n (.two (.two .n .n) .n)) (.join [0, 1, 5] (.two .n (.one (.lp [] [0, 1, 5, 8] [0, 1, 5, 6, 7] (.two (.two .n (.two .n .n)) (.two (.one (.two .n (.two (.two .n .n) .n))) .n))))) (.two .n (.join [1, 5, 9] (.two .n (.one (.lp [(9, ty_api_Snap, 36)] [0, 1, 5, 9, 10] [1, 5, 9] (.two (.two .n (.two .n .n)) (.join [0, 1, 5, 9, 10] (.one (.join [0, 1, 5, 9, 10, 41] .n (.two .n .n))) .n))))) (.two .n (.two (.two .n (.two .n (.two (.two .n .n) .n))) (.two .n .n))))))))
noncomputable def plenumref14_Keep_env (m : Nat) : Env := [(18, .tell (plenumref14_Is_t m)), (10, .tell (plenumref14_Check_t m))]
noncomputable abbrev plenumref14_Keep_fin : KO (AV × List AObj) := tellFK Tryd.prog [.tmp 6, .tmp 7]
noncomputable def plenumref14_Keep_r4 (m : Nat) (n0 : Nat) (kc : ASt → RO) (kx : KO (AV × List AObj)) (s : ASt) : RO := joinW Tryd.prog GG (plenumref14_Keep_env m) m 64 (cdR (cdR (cdL (cdL (cdR (cdL (cdR (cdR (cdR (cdR plenumref14_Keep_c)))))))))) plenumref14_Keep_h.r.r.r.r.l.r.c.c.r.r s (backW n0 [0, 1, 5, 9, 10] [1, 5, 9] kc kx)
noncomputable def plenumref14_Keep_r3 (m : Nat) (n0 : Nat) (kc : ASt → RO) (kx : KO (AV × List AObj)) (s : ASt) : RO := joinW Tryd.prog GG (plenumref14_Keep_env m) m 64 (cdR (cdL (cdL (cdR (cdL (cdL (cdR (cdL (cdR (cdR (cdR (cdR plenumref14_Keep_c)))))))))))) plenumref14_Keep_h.r.r.r.r.l.r.c.c.r.l.c.r s (blockX 3 (seqX (fun s => plenumref14_Keep_r4 m n0 kc kx ⟨s.H, [(0, gt s.T 0), (1, gt s.T 1), (5, gt s.T 5), (9, gt s.T 9), (10, gt s.T 10)]⟩) (backW n0 [0, 1, 5, 9, 10] [1, 5, 9] kc kx)))
noncomputable def plenumref14_Keep_r2 (m : Nat) (s : ASt) : RO := joinW Tryd.prog GG (plenumref14_Keep_env m) m 64 (cdR (cdR (cdR (cdR (cdR plenumref14_Keep_c))))) plenumref14_Keep_h.r.r.r.r.r s (plenumref14_Keep_fin)
noncomputable def plenumref14_Keep_b2 (m : Nat) (s : ASt) (kc : ASt → RO) (kx : KO (AV × List AObj)) : RO := bodyW Tryd.prog GG (plenumref14_Keep_env m) m 64 (cdL (cdL (cdR (cdL (cdR (cdR (cdR (cdR plenumref14_Keep_c)))))))) plenumref14_Keep_h.r.r.r.r.l.r.c.c [0, 1, 5, 9, 10] [1, 5, 9] s kc kx
noncomputable def plenumref14_Keep_r1 (m : Nat) (s : ASt) : RO := joinW Tryd.prog GG (plenumref14_Keep_env m) m 64 (cdR (cdR (cdR plenumref14_Keep_c))) plenumref14_Keep_h.r.r.r s (plenumref14_Keep_fin)
noncomputable def plenumref14_Keep_b1 (m : Nat) (s : ASt) (kc : ASt → RO) (kx : KO (AV × List AObj)) : RO := bodyW Tryd.prog GG (plenumref14_Keep_env m) m 64 (cdL (cdL (cdR (cdL (cdR (cdR plenumref14_Keep_c)))))) plenumref14_Keep_h.r.r.l.r.c.c [0, 1, 5, 8] [0, 1, 5, 6, 7] s kc kx
noncomputable def plenumref14_Keep (m : Nat) (t0 t1 t2 : AV) : RO := exec Tryd.prog GG (plenumref14_Keep_env m) m 64 plenumref14_Keep_c plenumref14_Keep_h ⟨[], argsT 0 [t0, t1, t2]⟩ (plenumref14_Keep_fin)
theorem plenumref14_Keep_r4_eq (m : Nat) (n0 : Nat) (kc : ASt → RO) (kx : KO (AV × List AObj)) (H : List AObj) (t0 t1 t5 t9 t10 : AV) : plenumref14_Keep_r4 m n0 kc kx ⟨H, [(0, t0), (1, t1), (5, t5), (9, t9), (10, t10)]⟩ =
  binE none false false .add t10 (V (.int .i64 1)) fun t34 =>
  backE n0 H [(0, t0), (1, t1), (5, t5), (9, t9), (10, t34)] kc := by
  refine (joinW_eq Tryd.prog GG (plenumref14_Keep_env m) m 64 (cdR (cdR (cdL (cdL (cdR (cdL (cdR (cdR (cdR (cdR plenumref14_Keep_c)))))))))) plenumref14_Keep_h.r.r.r.r.l.r.c.c.r.r ⟨H, [(0, t0), (1, t1), (5, t5), (9, t9), (10, t10)]⟩ (backW n0 [0, 1, 5, 9, 10] [1, 5, 9] kc kx)).trans ?_
  kernel_rfl
theorem plenumref14_Keep_r3_eq (m : Nat) (n0 : Nat) (kc : ASt → RO) (kx : KO (AV × List AObj)) (H : List AObj) (t0 t1 t5 t9 t10 t41 : AV) : plenumref14_Keep_r3 m n0 kc kx ⟨H, [(0, t0), (1, t1), (5, t5), (9, t9), (10, t10), (41, t41)]⟩ =
  condE t41 (
   idxSE 38 H t0 t10 fun t45 =>
   loadE 38 H t45 fun t46 =>
   buildSE (some (ty_api_Snap, 36)) 1 [(0, t46)] fun t47 =>
   appE (some (ty_api_Snap, 36)) H t9 t47 fun t48 H2 =>
   plenumref14_Keep_r4 m n0 kc kx ⟨H2, [(0, t0), (1, t1), (5, t5), (9, t48), (10, t10)]⟩) (
   plenumref14_Keep_r4 m n0 kc kx ⟨H, [(0, t0), (1, t1), (5, t5), (9, t9), (10, t10)]⟩) := by
  refine (joinW_eq Tryd.prog GG (plenumref14_Keep_env m) m 64 (cdR (cdL (cdL (cdR (cdL (cdL (cdR (cdL (cdR (cdR (cdR (cdR plenumref14_Keep_c)))))))))))) plenumref14_Keep_h.r.r.r.r.l.r.c.c.r.l.c.r ⟨H, [(0, t0), (1, t1), (5, t5), (9, t9), (10, t10), (41, t41)]⟩ (blockX 3 (seqX (fun s => plenumref14_Keep_r4 m n0 kc kx ⟨s.H, [(0, gt s.T 0), (1, gt s.T 1), (5, gt s.T 5), (9, gt s.T 9), (10, gt s.T 10)]⟩) (backW n0 [0, 1, 5, 9, 10] [1, 5, 9] kc kx)))).trans ?_
  kernel_rfl
theorem plenumref14_Keep_r2_eq (m : Nat) (H : List AObj) (t1 t5 t9 : AV) : plenumref14_Keep_r2 m ⟨H, [(1, t1), (5, t5), (9, t9)]⟩ =
  loadE 37 H t5 fun t51 =>
  buildE (some pl_api_Snap) (some zc_api_Snap) [(0, t1), (1, t51)] fun t52 =>
  buildSE (some (ty_api_Snap, 36)) 1 [(0, t52)] fun t53 =>
  appE (some (ty_api_Snap, 36)) H t9 t53 fun t54 H2 =>
  tellE (plenumref14_Check m (ro H2 t54)) [(ro H2 t54)] fun t57 =>
  extE t57 0 fun t58 =>
  extE t57 1 fun t59 =>
  binE none false false .neq t58 (V (.int .i64 0)) fun t61 =>
  condE t61 (
   tellK H2 (ro H2 (TU [noT (V (.slice none 0 0)), noT t58]))) (
   tellK H2 (ro H2 (TU [noT t54, noT (V (.int .i64 0))]))) := by
  refine (joinW_eq Tryd.prog GG (plenumref14_Keep_env m) m 64 (cdR (cdR (cdR (cdR (cdR plenumref14_Keep_c))))) plenumref14_Keep_h.r.r.r.r.r ⟨H, [(1, t1), (5, t5), (9, t9)]⟩ (plenumref14_Keep_fin)).trans ?_
  kernel_rfl
theorem plenumref14_Keep_b2_eq (m : Nat) (H : List AObj) (t0 t1 t5 t9 t10 : AV) (kc : ASt → RO) (kx : KO (AV × List AObj)) : plenumref14_Keep_b2 m ⟨H, [(0, t0), (1, t1), (5, t5), (9, t9), (10, t10)]⟩ kc kx =
  lenE false true H t0 fun t31 =>
  binE none false false .lss t10 t31 fun t32 =>
  condE t32 (
   binE none false false .gtr t10 (V (.int .i64 0)) fun t36 =>
   condE t36 (
    plenumref14_Keep_r3 m H.length kc kx ⟨H, [(0, t0), (1, t1), (5, t5), (9, t9), (10, t10), (41, (V (.bool true)))]⟩) (
    lenE false true H t0 fun t39 =>
    binE none false false .lss t39 (V (.int .i64 8)) fun t40 =>
    plenumref14_Keep_r3 m H.length kc kx ⟨H, [(0, t0), (1, t1), (5, t5), (9, t9), (10, t10), (41, t40)]⟩)) (
   kx (.exit 2) ⟨H, [(1, t1), (5, t5), (9, t9)]⟩) := by
  refine (bodyW_eq Tryd.prog GG (plenumref14_Keep_env m) m 64 (cdL (cdL (cdR (cdL (cdR (cdR (cdR (cdR plenumref14_Keep_c)))))))) plenumref14_Keep_h.r.r.r.r.l.r.c.c [0, 1, 5, 9, 10] [1, 5, 9] ⟨H, [(0, t0), (1, t1), (5, t5), (9, t9), (10, t10)]⟩ kc kx).trans ?_
  kernel_rfl
theorem plenumref14_Keep_r1_eq (m : Nat) (H : List AObj) (t0 t1 t5 : AV) : plenumref14_Keep_r1 m ⟨H, [(0, t0), (1, t1), (5, t5)]⟩ =
  rowE (V (.slice none 0 0)) ty_api_Snap 36 H fun t9 H2 =>
  iterC m (plenumref14_Keep_b2 m) ⟨H2, [(0, t0), (1, t1), (5, t5), (9, t9), (10, (V (.int .i64 0)))]⟩ (blockX 2 (seqX (fun s => plenumref14_Keep_r2 m ⟨s.H, [(1, gt s.T 1), (5, gt s.T 5), (9, gt s.T 9)]⟩) (plenumref14_Keep_fin))) := by
  refine (joinW_eq Tryd.prog GG (plenumref14_Keep_env m) m 64 (cdR (cdR (cdR plenumref14_Keep_c))) plenumref14_Keep_h.r.r.r ⟨H, [(0, t0), (1, t1), (5, t5)]⟩ (plenumref14_Keep_fin)).trans ?_
  kernel_rfl
theorem plenumref14_Keep_b1_eq (m : Nat) (H : List AObj) (t0 t1 t5 t8 : AV) (kc : ASt → RO) (kx : KO (AV × List AObj)) : plenumref14_Keep_b1 m ⟨H, [(0, t0), (1, t1), (5, t5), (8, t8)]⟩ kc kx =
  lenE false true H t0 fun t18 =>
  binE none false false .lss t8 t18 fun t19 =>
  condE t19 (
   idxSE 38 H t0 t8 fun t24 =>
   fieldE (some (0, 1)) t24 fun t25 =>
   loadE 1 H t25 fun t26 =>
   binE none false false .geq t26 t1 fun t28 =>
   condE t28 (
    kx .ret ⟨H, [(0, t0), (1, t1), (5, t5), (6, (V (.slice none 0 0))), (7, (V (.int .i64 18)))]⟩) (
    binE none false false .add t8 (V (.int .i64 1)) fun t21 =>
    backE H.length H [(0, t0), (1, t1), (5, t5), (8, t21)] kc)) (
   kx (.exit 0) ⟨H, [(0, t0), (1, t1), (5, t5), (6, .nil), (7, .nil)]⟩) := by
  refine (bodyW_eq Tryd.prog GG (plenumref14_Keep_env m) m 64 (cdL (cdL (cdR (cdL (cdR (cdR plenumref14_Keep_c)))))) plenumref14_Keep_h.r.r.l.r.c.c [0, 1, 5, 8] [0, 1, 5, 6, 7] ⟨H, [(0, t0), (1, t1), (5, t5), (8, t8)]⟩ kc kx).trans ?_
  kernel_rfl
theorem plenumref14_Keep_eq (m : Nat) (t0 t1 t2 : AV) : plenumref14_Keep m t0 t1 t2 =
  boxE ty_api_Store [] t2 fun t5 H1 =>
  tellE (plenumref14_Is m (ro H1 t0)) [(ro H1 t0)] fun t14 =>
  unE .not t14 fun t15 =>
  condE t15 (
   tellK H1 (ro H1 (TU [noT (V (.slice none 0 0)), noT (V (.int .i64 1))]))) (
   iterC m (plenumref14_Keep_b1 m) ⟨H1, [(0, t0), (1, t1), (5, t5), (8, (V (.int .i64 0)))]⟩ (blockX 0 (seqX (fun s => plenumref14_Keep_r1 m ⟨s.H, [(0, gt s.T 0), (1, gt s.T 1), (5, gt s.T 5)]⟩) (plenumref14_Keep_fin)))) := by
  refine (tellX Tryd.prog GG (plenumref14_Keep_env m) m 64 plenumref14_Keep_c plenumref14_Keep_h ⟨[], argsT 0 [t0, t1, t2]⟩ [.tmp 6, .tmp 7]).trans ?_
  kernel_rfl
noncomputable def plenumref14_Keep_t (m : Nat) : List AV → RO | [t0, t1, t2] => plenumref14_Keep m t0 t1 t2 | _ => none
theorem plenumref14_Keep_ok (m : Nat) : ∀ args X H', plenumref14_Keep_t m args = some (X, H') → ACp Tryd.prog GG 14 args X := by
  intro args X H' h
  unfold plenumref14_Keep_t at h
  split at h
  · exact tell_okK MIX (by
    intro f e h
    simp only [plenumref14_Keep_env, Prod.mk.injEq, List.mem_cons, List.not_mem_nil, or_false] at h
    rcases h with ⟨rfl, rfl⟩ | ⟨rfl, rfl⟩
    · exact plenumref14_Is_ok m
    · exact plenumref14_Check_ok m) (f := 14) (c := plenumref14_Keep_c) Tryd.func14 rfl (by kernel_rfl) _ rfl Tryd.ntmps14 (Nat.le_of_ble_eq_true rfl) plenumref14_Keep_h h
  · cases h
noncomputable def plenumref14_At_c : Code := (Tryd.f20.body).getD .skip
def plenumref14_At_h : Hint := (.two .n (.join [] (.two .n (.one (.lp [] [0, 1, 5] [4] (.two (.two .n (.two .n .n)) (.two (.one (.two .n (.two (.two .n .n) .n))) .n))))) (.two .n .n)))
noncomputable def plenumref14_At_env (m : Nat) : Env := []
noncomputable abbrev plenumref14_At_fin : KO (AV × List AObj) := tellFK Tryd.prog [.tmp 4]
noncomputable def plenumref14_At_r1 (m : Nat) (s : ASt) : RO := joinW Tryd.prog GG (plenumref14_At_env m) m 20 (cdR (cdR plenumref14_At_c)) plenumref14_At_h.r.r s (plenumref14_At_fin)
noncomputable def plenumref14_At_b1 (m : Nat) (s : ASt) (kc : ASt → RO) (kx : KO (AV × List AObj)) : RO := bodyW Tryd.prog GG (plenumref14_At_env m) m 20 (cdL (cdL (cdR (cdL (cdR plenumref14_At_c))))) plenumref14_At_h.r.l.r.c.c [0, 1, 5] [4] s kc kx
noncomputable def plenumref14_At (m : Nat) (t0 t1 : AV) : RO := exec Tryd.prog GG (plenumref14_At_env m) m 20 plenumref14_At_c plenumref14_At_h ⟨[], argsT 0 [t0, t1]⟩ (plenumref14_At_fin)
theorem plenumref14_At_r1_eq (m : Nat) (H : List AObj) : plenumref14_At_r1 m ⟨H, []⟩ =
  tellK H (ro H (V (.int .i64 (-1)))) := by
  refine (joinW_eq Tryd.prog GG (plenumref14_At_env m) m 20 (cdR (cdR plenumref14_At_c)) plenumref14_At_h.r.r ⟨H, []⟩ (plenumref14_At_fin)).trans ?_
  kernel_rfl
theorem plenumref14_At_b1_eq (m : Nat) (H : List AObj) (t0 t1 t5 : AV) (kc : ASt → RO) (kx : KO (AV × List AObj)) : plenumref14_At_b1 m ⟨H, [(0, t0), (1, t1), (5, t5)]⟩ kc kx =
  lenE false true H t0 fun t8 =>
  binE none false false .lss t5 t8 fun t9 =>
  condE t9 (
   idxSE 38 H t0 t5 fun t14 =>
   fieldE (some (0, 1)) t14 fun t15 =>
   loadE 1 H t15 fun t16 =>
   binE none false false .eql t16 t1 fun t18 =>
   condE t18 (
    kx .ret ⟨H, [(4, t5)]⟩) (
    binE none false false .add t5 (V (.int .i64 1)) fun t11 =>
    backE H.length H [(0, t0), (1, t1), (5, t11)] kc)) (
   kx (.exit 0) ⟨H, [(4, .nil)]⟩) := by
  refine (bodyW_eq Tryd.prog GG (plenumref14_At_env m) m 20 (cdL (cdL (cdR (cdL (cdR plenumref14_At_c))))) plenumref14_At_h.r.l.r.c.c [0, 1, 5] [4] ⟨H, [(0, t0), (1, t1), (5, t5)]⟩ kc kx).trans ?_
  kernel_rfl
theorem plenumref14_At_eq (m : Nat) (t0 t1 : AV) : plenumref14_At m t0 t1 =
  iterC m (plenumref14_At_b1 m) ⟨[], [(0, t0), (1, t1), (5, (V (.int .i64 0)))]⟩ (blockX 0 (seqX (fun s => plenumref14_At_r1 m ⟨s.H, []⟩) (plenumref14_At_fin))) := by
  refine (tellX Tryd.prog GG (plenumref14_At_env m) m 20 plenumref14_At_c plenumref14_At_h ⟨[], argsT 0 [t0, t1]⟩ [.tmp 4]).trans ?_
  kernel_rfl
noncomputable def plenumref14_At_t (m : Nat) : List AV → RO | [t0, t1] => plenumref14_At m t0 t1 | _ => none
theorem plenumref14_At_ok (m : Nat) : ∀ args X H', plenumref14_At_t m args = some (X, H') → ACp Tryd.prog GG 20 args X := by
  intro args X H' h
  unfold plenumref14_At_t at h
  split at h
  · exact tell_okK MIX (by intro f e h; cases h) (f := 20) (c := plenumref14_At_c) Tryd.func20 rfl (by kernel_rfl) _ rfl Tryd.ntmps20 (Nat.le_of_ble_eq_true rfl) plenumref14_At_h h
  · cases h
noncomputable def plenumref14_Drop_c : Code := (Tryd.f23.body).getD .skip
def plenumref14_Drop_h : Hint := (.two .n (.two .n (.join [5] (.two .n (.one (.lp [(5, ty_api_Snap, 36)] [0, 1, 5, 6] [5] (.two (.two .n (.two .n .n)) (.join [0, 1, 5, 6] (.one (.join [0, 1, 5, 6, 26] .n (.two .n .n))) .n))))) (.two .n .n))))
noncomputable def plenumref14_Drop_env (m : Nat) : Env := []
noncomputable abbrev plenumref14_Drop_fin : KO (AV × List AObj) := tellFK Tryd.prog [.tmp 4]
noncomputable def plenumref14_Drop_r3 (m : Nat) (n0 : Nat) (kc : ASt → RO) (kx : KO (AV × List AObj)) (s : ASt) : RO := joinW Tryd.prog GG (plenumref14_Drop_env m) m 35 (cdR (cdR (cdL (cdL (cdR (cdL (cdR (cdR plenumref14_Drop_c)))))))) plenumref14_Drop_h.r.r.l.r.c.c.r.r s (backW n0 [0, 1, 5, 6] [5] kc kx)
noncomputable def plenumref14_Drop_r2 (m : Nat) (n0 : Nat) (kc : ASt → RO) (kx : KO (AV × List AObj)) (s : ASt) : RO := joinW Tryd.prog GG (plenumref14_Drop_env m) m 35 (cdR (cdL (cdL (cdR (cdL (cdL (cdR (cdL (cdR (cdR plenumref14_Drop_c)))))))))) plenumref14_Drop_h.r.r.l.r.c.c.r.l.c.r s (blockX 1 (seqX (fun s => plenumref14_Drop_r3 m n0 kc kx ⟨s.H, [(0, gt s.T 0), (1, gt s.T 1), (5, gt s.T 5), (6, gt s.T 6)]⟩) (backW n0 [0, 1, 5, 6] [5] kc kx)))
noncomputable def plenumref14_Drop_r1 (m : Nat) (s : ASt) : RO := joinW Tryd.prog GG (plenumref14_Drop_env m) m 35 (cdR (cdR (cdR plenumref14_Drop_c))) plenumref14_Drop_h.r.r.r s (plenumref14_Drop_fin)
noncomputable def plenumref14_Drop_b1 (m : Nat) (s : ASt) (kc : ASt → RO) (kx : KO (AV × List AObj)) : RO := bodyW Tryd.prog GG (plenumref14_Drop_env m) m 35 (cdL (cdL (cdR (cdL (cdR (cdR plenumref14_Drop_c)))))) plenumref14_Drop_h.r.r.l.r.c.c [0, 1, 5, 6] [5] s kc kx
noncomputable def plenumref14_Drop (m : Nat) (t0 t1 : AV) : RO := exec Tryd.prog GG (plenumref14_Drop_env m) m 35 plenumref14_Drop_c plenumref14_Drop_h ⟨[], argsT 0 [t0, t1]⟩ (plenumref14_Drop_fin)
theorem plenumref14_Drop_r3_eq (m : Nat) (n0 : Nat) (kc : ASt → RO) (kx : KO (AV × List AObj)) (H : List AObj) (t0 t1 t5 t6 : AV) : plenumref14_Drop_r3 m n0 kc kx ⟨H, [(0, t0), (1, t1), (5, t5), (6, t6)]⟩ =
  binE none false false .add t6 (V (.int .i64 1)) fun t12 =>
  backE n0 H [(0, t0), (1, t1), (5, t5), (6, t12)] kc := by
  refine (joinW_eq Tryd.prog GG (plenumref14_Drop_env m) m 35 (cdR (cdR (cdL (cdL (cdR (cdL (cdR (cdR plenumref14_Drop_c)))))))) plenumref14_Drop_h.r.r.l.r.c.c.r.r ⟨H, [(0, t0), (1, t1), (5, t5), (6, t6)]⟩ (backW n0 [0, 1, 5, 6] [5] kc kx)).trans ?_
  kernel_rfl
theorem plenumref14_Drop_r2_eq (m : Nat) (n0 : Nat) (kc : ASt → RO) (kx : KO (AV × List AObj)) (H : List AObj) (t0 t1 t5 t6 t26 : AV) : plenumref14_Drop_r2 m n0 kc kx ⟨H, [(0, t0), (1, t1), (5, t5), (6, t6), (26, t26)]⟩ =
  condE t26 (
   idxSE 38 H t0 t6 fun t30 =>
   loadE 38 H t30 fun t31 =>
   buildSE (some (ty_api_Snap, 36)) 1 [(0, t31)] fun t32 =>
   appE (some (ty_api_Snap, 36)) H t5 t32 fun t33 H2 =>
   plenumref14_Drop_r3 m n0 kc kx ⟨H2, [(0, t0), (1, t1), (5, t33), (6, t6)]⟩) (
   plenumref14_Drop_r3 m n0 kc kx ⟨H, [(0, t0), (1, t1), (5, t5), (6, t6)]⟩) := by
  refine (joinW_eq Tryd.prog GG (plenumref14_Drop_env m) m 35 (cdR (cdL (cdL (cdR (cdL (cdL (cdR (cdL (cdR (cdR plenumref14_Drop_c)))))))))) plenumref14_Drop_h.r.r.l.r.c.c.r.l.c.r ⟨H, [(0, t0), (1, t1), (5, t5), (6, t6), (26, t26)]⟩ (blockX 1 (seqX (fun s => plenumref14_Drop_r3 m n0 kc kx ⟨s.H, [(0, gt s.T 0), (1, gt s.T 1), (5, gt s.T 5), (6, gt s.T 6)]⟩) (backW n0 [0, 1, 5, 6] [5] kc kx)))).trans ?_
  kernel_rfl
theorem plenumref14_Drop_r1_eq (m : Nat) (H : List AObj) (t5 : AV) : plenumref14_Drop_r1 m ⟨H, [(5, t5)]⟩ =
  tellK H (ro H t5) := by
  refine (joinW_eq Tryd.prog GG (plenumref14_Drop_env m) m 35 (cdR (cdR (cdR plenumref14_Drop_c))) plenumref14_Drop_h.r.r.r ⟨H, [(5, t5)]⟩ (plenumref14_Drop_fin)).trans ?_
  kernel_rfl
theorem plenumref14_Drop_b1_eq (m : Nat) (H : List AObj) (t0 t1 t5 t6 : AV) (kc : ASt → RO) (kx : KO (AV × List AObj)) : plenumref14_Drop_b1 m ⟨H, [(0, t0), (1, t1), (5, t5), (6, t6)]⟩ kc kx =
  lenE false true H t0 fun t9 =>
  binE none false false .lss t6 t9 fun t10 =>
  condE t10 (
   idxSE 38 H t0 t6 fun t15 =>
   fieldE (some (0, 1)) t15 fun t16 =>
   loadE 1 H t16 fun t17 =>
   binE none false false .geq t17 t1 fun t19 =>
   condE t19 (
    plenumref14_Drop_r2 m H.length kc kx ⟨H, [(0, t0), (1, t1), (5, t5), (6, t6), (26, (V (.bool true)))]⟩) (
    lenE false true H t0 fun t23 =>
    binE none false false .sub t23 (V (.int .i64 1)) fun t24 =>
    binE none false false .eql t6 t24 fun t25 =>
    plenumref14_Drop_r2 m H.length kc kx ⟨H, [(0, t0), (1, t1), (5, t5), (6, t6), (26, t25)]⟩)) (
   kx (.exit 0) ⟨H, [(5, t5)]⟩) := by
  refine (bodyW_eq Tryd.prog GG (plenumref14_Drop_env m) m 35 (cdL (cdL (cdR (cdL (cdR (cdR plenumref14_Drop_c)))))) plenumref14_Drop_h.r.r.l.r.c.c [0, 1, 5, 6] [5] ⟨H, [(0, t0), (1, t1), (5, t5), (6, t6)]⟩ kc kx).trans ?_
  kernel_rfl
theorem plenumref14_Drop_eq (m : Nat) (t0 t1 : AV) : plenumref14_Drop m t0 t1 =
  rowE (V (.slice none 0 0)) ty_api_Snap 36 [] fun t5 H1 =>
  iterC m (plenumref14_Drop_b1 m) ⟨H1, [(0, t0), (1, t1), (5, t5), (6, (V (.int .i64 0)))]⟩ (blockX 0 (seqX (fun s => plenumref14_Drop_r1 m ⟨s.H, [(5, gt s.T 5)]⟩) (plenumref14_Drop_fin))) := by
  refine (tellX Tryd.prog GG (plenumref14_Drop_env m) m 35 plenumref14_Drop_c plenumref14_Drop_h ⟨[], argsT 0 [t0, t1]⟩ [.tmp 4]).trans ?_
  kernel_rfl
noncomputable def plenumref14_Drop_t (m : Nat) : List AV → RO | [t0, t1] => plenumref14_Drop m t0 t1 | _ => none
theorem plenumref14_Drop_ok (m : Nat) : ∀ args X H', plenumref14_Drop_t m args = some (X, H') → ACp Tryd.prog GG 23 args X := by
  intro args X H' h
  unfold plenumref14_Drop_t at h
  split at h
  · exact tell_okK MIX (by intro f e h; cases h) (f := 23) (c := plenumref14_Drop_c) Tryd.func23 rfl (by kernel_rfl) _ rfl Tryd.ntmps23 (Nat.le_of_ble_eq_true rfl) plenumref14_Drop_h h
  · cases h
noncomputable def plenumref14_Same_c : Code := (Tryd.f15.body).getD .skip
def plenumref14_Same_h : Hint := (.two .n (.two (.two .n (.two (.two .n .n) .n)) (.join [] (.two .n (.one (.lp [] [0, 1, 5] [4] (.two (.two .n (.two .n .n)) (.two (.one (.two .n (.two (.two .n .n) .n))) .n))))) (.two .n .n))))
noncomputable def plenumref14_Same_env (m : Nat) : Env := [(19, .tell (plenumref13_Same_t m))]
noncomputable abbrev plenumref14_Same_fin : KO (AV × List AObj) := tellFK Tryd.prog [.tmp 4]
noncomputable def plenumref14_Same_r1 (m : Nat) (s : ASt) : RO := joinW Tryd.prog GG (plenumref14_Same_env m) m 42 (cdR (cdR (cdR plenumref14_Same_c))) plenumref14_Same_h.r.r.r s (plenumref14_Same_fin)
noncomputable def plenumref14_Same_b1 (m : Nat) (s : ASt) (kc : ASt → RO) (kx : KO (AV × List AObj)) : RO := bodyW Tryd.prog GG (plenumref14_Same_env m) m 42 (cdL (cdL (cdR (cdL (cdR (cdR plenumref14_Same_c)))))) plenumref14_Same_h.r.r.l.r.c.c [0, 1, 5] [4] s kc kx
noncomputable def plenumref14_Same (m : Nat) (t0 t1 : AV) : RO := exec Tryd.prog GG (plenumref14_Same_env m) m 42 plenumref14_Same_c plenumref14_Same_h ⟨[], argsT 0 [t0, t1]⟩ (plenumref14_Same_fin)
theorem plenumref14_Same_r1_eq (m : Nat) (H : List AObj) : plenumref14_Same_r1 m ⟨H, []⟩ =
  tellK H (ro H (V (.bool true))) := by
  refine (joinW_eq Tryd.prog GG (plenumref14_Same_env m) m 42 (cdR (cdR (cdR plenumref14_Same_c))) plenumref14_Same_h.r.r.r ⟨H, []⟩ (plenumref14_Same_fin)).trans ?_
  kernel_rfl
theorem plenumref14_Same_b1_eq (m : Nat) (H : List AObj) (t0 t1 t5 : AV) (kc : ASt → RO) (kx : KO (AV × List AObj)) : plenumref14_Same_b1 m ⟨H, [(0, t0), (1, t1), (5, t5)]⟩ kc kx =
  lenE false true H t0 fun t13 =>
  binE none false false .lss t5 t13 fun t14 =>
  condE t14 (
   idxSE 38 H t0 t5 fun t19 =>
   fieldE (some (0, 1)) t19 fun t20 =>
   loadE 1 H t20 fun t21 =>
   idxSE 38 H t1 t5 fun t24 =>
   fieldE (some (0, 1)) t24 fun t25 =>
   loadE 1 H t25 fun t26 =>
   binE none false false .neq t21 t26 fun t27 =>
   condE t27 (
    kx .ret ⟨H, [(4, (V (.bool false)))]⟩) (
    idxSE 38 H t0 t5 fun t31 =>
    fieldE (some (1, 37)) t31 fun t32 =>
    loadE 37 H t32 fun t33 =>
    idxSE 38 H t1 t5 fun t36 =>
    fieldE (some (1, 37)) t36 fun t37 =>
    loadE 37 H t37 fun t38 =>
    tellE (plenumref13_Same m (ro H t33) (ro H t38)) [(ro H t33), (ro H t38)] fun t39 =>
    unE .not t39 fun t40 =>
    condE t40 (
    kx .ret ⟨H, [(4, (V (.bool false)))]⟩) (
    binE none false false .add t5 (V (.int .i64 1)) fun t16 =>
    backE H.length H [(0, t0), (1, t1), (5, t16)] kc))) (
   kx (.exit 0) ⟨H, [(4, .nil)]⟩) := by
  refine (bodyW_eq Tryd.prog GG (plenumref14_Same_env m) m 42 (cdL (cdL (cdR (cdL (cdR (cdR plenumref14_Same_c)))))) plenumref14_Same_h.r.r.l.r.c.c [0, 1, 5] [4] ⟨H, [(0, t0), (1, t1), (5, t5)]⟩ kc kx).trans ?_
  kernel_rfl
theorem plenumref14_Same_eq (m : Nat) (t0 t1 : AV) : plenumref14_Same m t0 t1 =
  lenE false true [] t0 fun t7 =>
  lenE false true [] t1 fun t9 =>
  binE none false false .neq t7 t9 fun t10 =>
  condE t10 (
   tellK [] (ro [] (V (.bool false)))) (
   iterC m (plenumref14_Same_b1 m) ⟨[], [(0, t0), (1, t1), (5, (V (.int .i64 0)))]⟩ (blockX 0 (seqX (fun s => plenumref14_Same_r1 m ⟨s.H, []⟩) (plenumref14_Same_fin)))) := by
  refine (tellX Tryd.prog GG (plenumref14_Same_env m) m 42 plenumref14_Same_c plenumref14_Same_h ⟨[], argsT 0 [t0, t1]⟩ [.tmp 4]).trans ?_
  kernel_rfl
noncomputable def plenumref14_Same_t (m : Nat) : List AV → RO | [t0, t1] => plenumref14_Same m t0 t1 | _ => none
theorem plenumref14_Same_ok (m : Nat) : ∀ args X H', plenumref14_Same_t m args = some (X, H') → ACp Tryd.prog GG 15 args X := by
  intro args X H' h
  unfold plenumref14_Same_t at h
  split at h
  · exact tell_okK MIX (by
    intro f e h
    simp only [plenumref14_Same_env, Prod.mk.injEq, List.mem_cons, List.not_mem_nil, or_false] at h
    obtain ⟨rfl, rfl⟩ := h
    · exact plenumref13_Same_ok m) (f := 15) (c := plenumref14_Same_c) Tryd.func15 rfl (by kernel_rfl) _ rfl Tryd.ntmps15 (Nat.le_of_ble_eq_true rfl) plenumref14_Same_h h
  · cases h
noncomputable def plenumlaw14_Few_c : Code := (Tryd.f8.body).getD .skip
def plenumlaw14_Few_h : Hint := (.two .n (.join [0] (.two .n (.two .n .n)) (.two .n (.join [3] (.two .n (.one (.lp [(3, ty_api_Snap, 36)] [0, 3, 4] [3] (.two (.two .n (.two .n .n)) (.two (.one .n) .n))))) (.two .n .n)))))
noncomputable def plenumlaw14_Few_env (m : Nat) : Env := [(12, .tell (plenumlaw13_Few_t m))]
noncomputable abbrev plenumlaw14_Few_fin : KO (AV × List AObj) := tellFK Tryd.prog [.tmp 2]
noncomputable def plenumlaw14_Few_r2 (m : Nat) (s : ASt) : RO := joinW Tryd.prog GG (plenumlaw14_Few_env m) m 32 (cdR (cdR (cdR (cdR plenumlaw14_Few_c)))) plenumlaw14_Few_h.r.r.r.r s (plenumlaw14_Few_fin)
noncomputable def plenumlaw14_Few_b1 (m : Nat) (s : ASt) (kc : ASt → RO) (kx : KO (AV × List AObj)) : RO := bodyW Tryd.prog GG (plenumlaw14_Few_env m) m 32 (cdL (cdL (cdR (cdL (cdR (cdR (cdR plenumlaw14_Few_c))))))) plenumlaw14_Few_h.r.r.r.l.r.c.c [0, 3, 4] [3] s kc kx
noncomputable def plenumlaw14_Few_r1 (m : Nat) (s : ASt) : RO := joinW Tryd.prog GG (plenumlaw14_Few_env m) m 32 (cdR (cdR plenumlaw14_Few_c)) plenumlaw14_Few_h.r.r s (plenumlaw14_Few_fin)
noncomputable def plenumlaw14_Few (m : Nat) (t0 : AV) : RO := exec Tryd.prog GG (plenumlaw14_Few_env m) m 32 plenumlaw14_Few_c plenumlaw14_Few_h ⟨[], argsT 0 [t0]⟩ (plenumlaw14_Few_fin)
theorem plenumlaw14_Few_r2_eq (m : Nat) (H : List AObj) (t3 : AV) : plenumlaw14_Few_r2 m ⟨H, [(3, t3)]⟩ =
  tellK H (ro H t3) := by
  refine (joinW_eq Tryd.prog GG (plenumlaw14_Few_env m) m 32 (cdR (cdR (cdR (cdR plenumlaw14_Few_c)))) plenumlaw14_Few_h.r.r.r.r ⟨H, [(3, t3)]⟩ (plenumlaw14_Few_fin)).trans ?_
  kernel_rfl
theorem plenumlaw14_Few_b1_eq (m : Nat) (H : List AObj) (t0 t3 t4 : AV) (kc : ASt → RO) (kx : KO (AV × List AObj)) : plenumlaw14_Few_b1 m ⟨H, [(0, t0), (3, t3), (4, t4)]⟩ kc kx =
  lenE false true H t0 fun t12 =>
  binE none false false .lss t4 t12 fun t13 =>
  condE t13 (
   idxSE 38 H t0 t4 fun t19 =>
   fieldE (some (0, 1)) t19 fun t20 =>
   loadE 1 H t20 fun t21 =>
   idxSE 38 H t0 t4 fun t24 =>
   fieldE (some (1, 37)) t24 fun t25 =>
   loadE 37 H t25 fun t26 =>
   tellE (plenumlaw13_Few m (ro H t26)) [(ro H t26)] fun t27 =>
   buildE (some pl_api_Snap) (some zc_api_Snap) [(0, t21), (1, t27)] fun t28 =>
   buildSE (some (ty_api_Snap, 36)) 1 [(0, t28)] fun t29 =>
   appE (some (ty_api_Snap, 36)) H t3 t29 fun t30 H2 =>
   binE none false false .add t4 (V (.int .i64 1)) fun t15 =>
   backE H.length H2 [(0, t0), (3, t30), (4, t15)] kc) (
   kx (.exit 0) ⟨H, [(3, t3)]⟩) := by
  refine (bodyW_eq Tryd.prog GG (plenumlaw14_Few_env m) m 32 (cdL (cdL (cdR (cdL (cdR (cdR (cdR plenumlaw14_Few_c))))))) plenumlaw14_Few_h.r.r.r.l.r.c.c [0, 3, 4] [3] ⟨H, [(0, t0), (3, t3), (4, t4)]⟩ kc kx).trans ?_
  kernel_rfl
theorem plenumlaw14_Few_r1_eq (m : Nat) (H : List AObj) (t0 : AV) : plenumlaw14_Few_r1 m ⟨H, [(0, t0)]⟩ =
  rowE (V (.slice none 0 0)) ty_api_Snap 36 H fun t3 H2 =>
  iterC m (plenumlaw14_Few_b1 m) ⟨H2, [(0, t0), (3, t3), (4, (V (.int .i64 0)))]⟩ (blockX 0 (seqX (fun s => plenumlaw14_Few_r2 m ⟨s.H, [(3, gt s.T 3)]⟩) (plenumlaw14_Few_fin))) := by
  refine (joinW_eq Tryd.prog GG (plenumlaw14_Few_env m) m 32 (cdR (cdR plenumlaw14_Few_c)) plenumlaw14_Few_h.r.r ⟨H, [(0, t0)]⟩ (plenumlaw14_Few_fin)).trans ?_
  kernel_rfl
theorem plenumlaw14_Few_eq (m : Nat) (t0 : AV) : plenumlaw14_Few m t0 =
  lenE false true [] t0 fun t6 =>
  binE none false false .gtr t6 (V (.int .i64 10)) fun t7 =>
  condE t7 (
   sliceE false (some (ty_api_Snap, 38)) [] t0 none (some (V (.int .i64 10))) fun t9 =>
   plenumlaw14_Few_r1 m ⟨[], [(0, t9)]⟩) (
   plenumlaw14_Few_r1 m ⟨[], [(0, t0)]⟩) := by
  refine (tellX Tryd.prog GG (plenumlaw14_Few_env m) m 32 plenumlaw14_Few_c plenumlaw14_Few_h ⟨[], argsT 0 [t0]⟩ [.tmp 2]).trans ?_
  kernel_rfl
noncomputable def plenumlaw14_Few_t (m : Nat) : List AV → RO | [t0] => plenumlaw14_Few m t0 | _ => none
theorem plenumlaw14_Few_ok (m : Nat) : ∀ args X H', plenumlaw14_Few_t m args = some (X, H') → ACp Tryd.prog GG 8 args X := by
  intro args X H' h
  unfold plenumlaw14_Few_t at h
  split at h
  · exact tell_okK MIX (by
    intro f e h
    simp only [plenumlaw14_Few_env, Prod.mk.injEq, List.mem_cons, List.not_mem_nil, or_false] at h
    obtain ⟨rfl, rfl⟩ := h
    · exact plenumlaw13_Few_ok m) (f := 8) (c := plenumlaw14_Few_c) Tryd.func8 rfl (by kernel_rfl) _ rfl Tryd.ntmps8 (Nat.le_of_ble_eq_true rfl) plenumlaw14_Few_h h
  · cases h
end Go.Proofs.YtopifabnobplcaaDoor

namespace Go.Proofs.YtopifabnobplcaaDoor
open Go.RowKit
set_option linter.unusedVariables false
set_option maxRecDepth 100000
noncomputable def plenumlaw14_awake_c : Code := (Tryd.f11.body).getD .skip
def plenumlaw14_awake_h : Hint := (.two .n (.two .n (.two .n (.two .n (.two .n (.two .n (.two .n .n)))))))
noncomputable def plenumlaw14_awake_env (m : Nat) : Env := [(13, .tell (snap_Keep_t m)), (17, .tell (snap_Last_t m)), (21, .tell (snap_Drop_t m)), (19, .tell (plenumref13_Same_t m))]
noncomputable abbrev plenumlaw14_awake_fin : KO (AV × List AObj) := tellFK Tryd.prog [.tmp 0]
noncomputable def plenumlaw14_awake (m : Nat) : RO := exec Tryd.prog GG (plenumlaw14_awake_env m) m 69 plenumlaw14_awake_c plenumlaw14_awake_h ⟨[], argsT 0 []⟩ (plenumlaw14_awake_fin)
theorem plenumlaw14_awake_eq (m : Nat) : plenumlaw14_awake m =
  buildE (some pl_api_Store) (some zc_api_Store) [(2, (V (.int .i64 9))), (3, (V (.int .i64 9)))] fun t11 =>
  allocE (some zc_api_Store) ty_api_Store [] fun t1 H1 =>
  storeE 37 H1 t1 t11 fun H2 =>
  loadE 37 H2 t1 fun t13 =>
  tellE (snap_Keep m (ro H2 (V (.slice none 0 0))) (V (.int .i64 5)) (ro H2 t13)) [(ro H2 (V (.slice none 0 0))), (V (.int .i64 5)), (ro H2 t13)] fun t14 =>
  extE t14 0 fun t15 =>
  extE t14 1 fun t16 =>
  loadE 37 H2 t1 fun t19 =>
  tellE (snap_Keep m (ro H2 t15) (V (.int .i64 5)) (ro H2 t19)) [(ro H2 t15), (V (.int .i64 5)), (ro H2 t19)] fun t20 =>
  extE t20 0 fun t21 =>
  extE t20 1 fun t22 =>
  tellE (snap_Last m (ro H2 t15) (V (.int .i64 9))) [(ro H2 t15), (V (.int .i64 9))] fun t25 =>
  extE t25 0 fun t26 =>
  extE t25 1 fun t27 =>
  extE t25 2 fun t28 =>
  allocE (some zc_api_Store) ty_api_Store H2 fun t7 H3 =>
  storeE 37 H3 t7 t27 fun H4 =>
  tellE (snap_Drop m (ro H4 t15) (V (.int .i64 9))) [(ro H4 t15), (V (.int .i64 9))] fun t31 =>
  extE t31 0 fun t32 =>
  extE t31 1 fun t33 =>
  lenE false true H4 t15 fun t35 =>
  binE none false false .eql t35 (V (.int .i64 1)) fun t36 =>
  condE t36 (
   binE none false false .eql t16 (V (.int .i64 0)) fun t39 =>
   condE t39 (
   binE none false false .eql t22 (V (.int .i64 18)) fun t43 =>
   condE t43 (
   binE none false false .eql t26 (V (.int .i64 5)) fun t47 =>
   condE t47 (
   loadE 37 H4 t7 fun t50 =>
   loadE 37 H4 t1 fun t51 =>
   tellE (plenumref13_Same m (ro H4 t50) (ro H4 t51)) [(ro H4 t50), (ro H4 t51)] fun t52 =>
   condE t52 (
   binE none false false .eql t28 (V (.int .i64 0)) fun t56 =>
   condE t56 (
   lenE false true H4 t32 fun t60 =>
   binE none false false .eql t60 (V (.int .i64 1)) fun t61 =>
   condE t61 (
   binE none false false .eql t33 (V (.int .i64 0)) fun t65 =>
   pickE t65 (V (.bool true)) (V (.bool false)) fun t68 =>
  tellK H4 (ro H4 t68)) (
   tellK H4 (ro H4 (V (.bool false))))) (
   tellK H4 (ro H4 (V (.bool false))))) (
   tellK H4 (ro H4 (V (.bool false))))) (
   tellK H4 (ro H4 (V (.bool false))))) (
   tellK H4 (ro H4 (V (.bool false))))) (
   tellK H4 (ro H4 (V (.bool false))))) (
   tellK H4 (ro H4 (V (.bool false)))) := by
  refine (tellX Tryd.prog GG (plenumlaw14_awake_env m) m 69 plenumlaw14_awake_c plenumlaw14_awake_h ⟨[], argsT 0 []⟩ [.tmp 0]).trans ?_
  kernel_rfl
noncomputable def plenumlaw14_awake_t (m : Nat) : List AV → RO | [] => plenumlaw14_awake m | _ => none
theorem plenumlaw14_awake_ok (m : Nat) : ∀ args X H', plenumlaw14_awake_t m args = some (X, H') → ACp Tryd.prog GG 11 args X := by
  intro args X H' h
  unfold plenumlaw14_awake_t at h
  split at h
  · exact tell_okK MIX (by
    intro f e h
    simp only [plenumlaw14_awake_env, Prod.mk.injEq, List.mem_cons, List.not_mem_nil, or_false] at h
    rcases h with ⟨rfl, rfl⟩ | ⟨rfl, rfl⟩ | ⟨rfl, rfl⟩ | ⟨rfl, rfl⟩
    · exact snap_Keep_ok m
    · exact snap_Last_ok m
    · exact snap_Drop_ok m
    · exact plenumref13_Same_ok m) (f := 11) (c := plenumlaw14_awake_c) Tryd.func11 rfl (by kernel_rfl) _ rfl Tryd.ntmps11 (Nat.le_of_ble_eq_true rfl) plenumlaw14_awake_h h
  · cases h
noncomputable def plenumlaw14_SnapChecks_c : Code := (Tryd.f3.body).getD .skip
def plenumlaw14_SnapChecks_h : Hint := (.two .n (.two .n (.two .n (.two .n (.two .n .n)))))
noncomputable def plenumlaw14_SnapChecks_env (m : Nat) : Env := [(8, .tell (plenumlaw14_Few_t m)), (9, .tell (snap_Check_t m)), (10, .tell (plenumref14_Check_t m)), (11, .tell (plenumlaw14_awake_t m))]
noncomputable abbrev plenumlaw14_SnapChecks_fin : KO (AV × List AObj) := tellFK Tryd.prog [.tmp 2]
noncomputable def plenumlaw14_SnapChecks (m : Nat) (t0 : AV) : RO := exec Tryd.prog GG (plenumlaw14_SnapChecks_env m) m 30 plenumlaw14_SnapChecks_c plenumlaw14_SnapChecks_h ⟨[], argsT 0 [t0]⟩ (plenumlaw14_SnapChecks_fin)
theorem plenumlaw14_SnapChecks_eq (m : Nat) (t0 : AV) : plenumlaw14_SnapChecks m t0 =
  tellE (plenumlaw14_Few m (ro [] t0)) [(ro [] t0)] fun t8 =>
  tellE (snap_Check m (ro [] t8)) [(ro [] t8)] fun t11 =>
  extE t11 0 fun t12 =>
  extE t11 1 fun t13 =>
  tellE (plenumref14_Check m (ro [] t8)) [(ro [] t8)] fun t16 =>
  extE t16 0 fun t17 =>
  extE t16 1 fun t18 =>
  binE none false false .eql t12 t17 fun t21 =>
  condE t21 (
   binE none false false .eql t13 t18 fun t25 =>
   condE t25 (
   tellE (plenumlaw14_awake m) [] fun t28 =>
   tellK [] (ro [] t28)) (
   tellK [] (ro [] (V (.bool false))))) (
   tellK [] (ro [] (V (.bool false)))) := by
  refine (tellX Tryd.prog GG (plenumlaw14_SnapChecks_env m) m 30 plenumlaw14_SnapChecks_c plenumlaw14_SnapChecks_h ⟨[], argsT 0 [t0]⟩ [.tmp 2]).trans ?_
  kernel_rfl
noncomputable def plenumlaw14_SnapChecks_t (m : Nat) : List AV → RO | [t0] => plenumlaw14_SnapChecks m t0 | _ => none
theorem plenumlaw14_SnapChecks_ok (m : Nat) : ∀ args X H', plenumlaw14_SnapChecks_t m args = some (X, H') → ACp Tryd.prog GG 3 args X := by
  intro args X H' h
  unfold plenumlaw14_SnapChecks_t at h
  split at h
  · exact tell_okK MIX (by
    intro f e h
    simp only [plenumlaw14_SnapChecks_env, Prod.mk.injEq, List.mem_cons, List.not_mem_nil, or_false] at h
    rcases h with ⟨rfl, rfl⟩ | ⟨rfl, rfl⟩ | ⟨rfl, rfl⟩ | ⟨rfl, rfl⟩
    · exact plenumlaw14_Few_ok m
    · exact snap_Check_ok m
    · exact plenumref14_Check_ok m
    · exact plenumlaw14_awake_ok m) (f := 3) (c := plenumlaw14_SnapChecks_c) Tryd.func3 rfl (by kernel_rfl) _ rfl Tryd.ntmps3 (Nat.le_of_ble_eq_true rfl) plenumlaw14_SnapChecks_h h
  · cases h
end Go.Proofs.YtopifabnobplcaaDoor

namespace Go.Proofs.YtopifabnobplcaaDoor
open Go.RowKit
set_option maxRecDepth 100000
theorem key_uniq {l : List Item} (h : SortedK l) {y z : Item} (hy : y ∈ l) (hz : z ∈ l) (e : y.key = z.key) : y = z := by
  obtain ⟨i, hi, rfl⟩ := List.mem_iff_getElem.1 hy
  obtain ⟨j, hj, rfl⟩ := List.mem_iff_getElem.1 hz
  rcases Nat.lt_trichotomy i j with h1 | h1 | h1
  · have := sorted_lt h h1 hj; rw [e, less_irrefl] at this; cases this
  · subst h1; rfl
  · have := sorted_lt h h1 hi; rw [e, less_irrefl] at this; cases this
theorem getK_mem {l : List Item} (hlf : leafB l = true) (k : Bytes) (y : Item) : getK l k = some y ↔ y ∈ l ∧ y.key = k := by
  have hs := ((leafB_iff l).1 hlf).2.2
  constructor
  · intro h
    cases ht : thereK l k with
    | false => rw [getK_none ht] at h; cases h
    | true =>
      rw [getK_some hlf ht] at h
      obtain rfl := Option.some.inj h
      rw [there_at (there_lt ht)] at ht
      exact ⟨List.getElem_mem _, by simpa using ht⟩
  · rintro ⟨hy, rfl⟩
    have ht : thereK l y.key = true := by
      cases ht : thereK l y.key with
      | true => rfl
      | false =>
        have := atK_sorted hs y.key
        rw [ht, if_neg (by simp)] at this
        unfold atK at this
        rw [List.findIdx?_eq_none_iff] at this
        have := this y hy
        simp at this
    rw [getK_some hlf ht]
    congr 1
    refine key_uniq hs (List.getElem_mem _) hy ?_
    have h2 := ht
    rw [there_at (there_lt ht)] at h2
    simpa using h2
theorem mem_withK {l : List Item} {x y : Item} : y ∈ withK l x ↔ (y ∈ l ∧ less y.key x.key = true) ∨ y = x ∨ (y ∈ l ∧ less x.key y.key = true) := by
  simp [withK]
theorem withK_len {l : List Item} (h : SortedK l) (x : Item) : (withK l x).length = if thereK l x.key then l.length else l.length + 1 := by
  rw [withK_sorted h]
  have := posK_le l x.key
  cases ht : thereK l x.key with
  | false => simp; omega
  | true => have := there_lt ht; simp; omega
theorem withoutK_len {l : List Item} (h : SortedK l) (k : Bytes) (ht : thereK l k = true) : (withoutK l k).length + 1 = l.length := by
  rw [withoutK_sorted h k ht]
  have := there_lt ht
  simp; omega
theorem withK_leaf {l : List Item} {x : Item} (hlf : leafB l = true) (hx : itemB x = true) (hl : (withK l x).length ≤ 64) : leafB (withK l x) = true := by
  obtain ⟨_, hit, hs⟩ := (leafB_iff l).1 hlf
  refine (leafB_iff _).2 ⟨hl, ?_, ?_⟩
  · intro y hy
    rcases mem_withK.1 hy with ⟨h, _⟩ | rfl | ⟨h, _⟩
    · exact hit y h
    · exact hx
    · exact hit y h
  · unfold SortedK withK
    rw [List.pairwise_append, List.pairwise_append]
    refine ⟨⟨List.Pairwise.filter _ hs, List.pairwise_singleton _ _, ?_⟩, List.Pairwise.filter _ hs, ?_⟩
    · intro a ha b hb
      simp at ha hb
      subst hb; exact ha.2
    · intro a ha b hb
      simp at ha hb
      rcases ha with ha | rfl
      · exact less_trans _ _ _ ha.2 hb.2
      · exact hb.2
theorem withoutK_leaf {l : List Item} (k : Bytes) (hlf : leafB l = true) : leafB (withoutK l k) = true := by
  obtain ⟨hl, hit, hs⟩ := (leafB_iff l).1 hlf
  refine (leafB_iff _).2 ⟨Nat.le_trans (List.length_filter_le _ _) hl, fun x hx => hit x (List.mem_filter.1 hx).1, List.Pairwise.filter _ hs⟩
theorem get_ext {l r : List Item} {k : Bytes} (hl : leafB l = true) (hr : leafB r = true) (h : ∀ y, y.key = k → (y ∈ l ↔ y ∈ r)) : getK l k = getK r k := by
  apply Option.ext
  intro y
  rw [getK_mem hl, getK_mem hr]
  constructor
  · rintro ⟨h1, h2⟩; exact ⟨(h y h2).1 h1, h2⟩
  · rintro ⟨h1, h2⟩; exact ⟨(h y h2).2 h1, h2⟩
theorem put_kept {l : List Item} {x : Item} (h : (putK l x).2 = 0) : (putK l x).1 = withK l x ∧ leafB l = true ∧ itemB x = true ∧ leafB (withK l x) = true ∧ (withK l x).length ≤ 64 ∧ getK (withK l x) x.key = some x ∧ ∀ k, k ≠ x.key → getK (withK l x) k = getK l k := by
  unfold putK at h ⊢
  cases hlf : leafB l with
  | false => rw [hlf] at h; simp at h
  | true =>
    cases hx : itemB x with
    | false => rw [hlf, hx] at h; simp at h
    | true =>
      rw [hlf, hx] at h
      have hl64 := ((leafB_iff l).1 hlf).1
      have hs := ((leafB_iff l).1 hlf).2.2
      cases hc : (!thereK l x.key && l.length == 64) with
      | true => rw [hc] at h; simp at h
      | false =>
        have hlen : (withK l x).length ≤ 64 := by
          rw [withK_len hs]
          cases ht : thereK l x.key with
          | true => simpa using hl64
          | false => rw [ht] at hc; simp at hc; simp; omega
        have hwl := withK_leaf hlf hx hlen
        refine ⟨by simp, rfl, rfl, hwl, hlen, (getK_mem hwl _ _).2 ⟨mem_withK.2 (.inr (.inl rfl)), rfl⟩, fun k hk => get_ext hwl hlf fun y hy => ?_⟩
        rw [mem_withK]
        constructor
        · rintro (⟨h, _⟩ | rfl | ⟨h, _⟩)
          · exact h
          · exact absurd hy.symm hk
          · exact h
        · intro hyl
          cases h1 : less y.key x.key with
          | true => exact .inl ⟨hyl, rfl⟩
          | false =>
            cases h2 : less x.key y.key with
            | true => exact .inr (.inr ⟨hyl, rfl⟩)
            | false => exact absurd ((less_tri _ _ h1 h2).symm.trans hy) (fun h => hk h.symm)
theorem del_kept {l : List Item} {q : Bytes} (h : (delK l q).2 = 0) : (delK l q).1 = withoutK l q ∧ leafB l = true ∧ leafB (withoutK l q) = true ∧ (withoutK l q).length + 1 = l.length ∧ getK (withoutK l q) q = none ∧ ∀ k, k ≠ q → getK (withoutK l q) k = getK l k := by
  unfold delK at h ⊢
  cases hlf : leafB l with
  | false => rw [hlf] at h; simp at h
  | true =>
    rw [hlf] at h
    have hs := ((leafB_iff l).1 hlf).2.2
    cases ht : thereK l q with
    | false => rw [ht] at h; simp at h
    | true =>
      have hwl := withoutK_leaf q hlf
      refine ⟨by simp, rfl, hwl, withoutK_len hs q ht, ?_, fun k hk => get_ext hwl hlf fun y hy => ?_⟩
      · cases hg : getK (withoutK l q) q with
        | none => rfl
        | some y =>
          obtain ⟨h1, h2⟩ := (getK_mem hwl _ _).1 hg
          have := (List.mem_filter.1 h1).2
          simp [h2] at this
      · unfold withoutK
        rw [List.mem_filter]
        constructor
        · exact fun h => h.1
        · intro h1; refine ⟨h1, ?_⟩; rw [hy]; simpa using hk
end Go.Proofs.YtopifabnobplcaaDoor

namespace Go.Proofs.YtopifabnobplcaaDoor
open Go.RowKit
set_option linter.unusedVariables false
set_option linter.unusedSimpArgs false
set_option maxRecDepth 20000
def rfitB (b ver : Int) (x : Item) : Bool := keyB x.key && fitB b ver x
theorem fits_r (b : Int) (l : List Item) (ver : Int) : fitsB b l ver = (l.all (rfitB b ver) && leafB l && decide (0 ≤ ver) && decide (ver ≤ 2147483647)) := by
  cases hl : leafB l with
  | false => simp [fitsB, hl]
  | true =>
    have hk : ∀ x ∈ l, keyB x.key = true := fun x hx => item_key (((leafB_iff l).1 hl).2.1 x hx)
    have : l.all (rfitB b ver) = l.all (fitB b ver) := by
      rw [Bool.eq_iff_iff]
      simp only [List.all_eq_true, rfitB, Bool.and_eq_true]
      exact ⟨fun h x hx => (h x hx).2, fun h x hx => ⟨hk x hx, h x hx⟩⟩
    rw [fitsB, hl, this]
    cases l.all (fitB b ver) <;> simp
theorem fits_rno {b : Int} {l : List Item} {ver : Int} {k : Nat} {h : k < l.length} (h1 : rfitB b ver l[k] = false) : fitsB b l ver = false := by
  have : l.all (rfitB b ver) = false := List.all_eq_false.2 ⟨l[k], List.getElem_mem h, by simp [h1]⟩
  simp [fits_r, this]
theorem bucketK_yes {k : Bytes} (h : keyB k = true) : bucketK k = ((k.getD 0 0).toNat : Int) % 16 := by rw [bucketK, h]; try rfl
theorem natInt (k : Nat) : ((k : Int)).toNat = k := Int.toNat_natCast k
section
variable {R : Type} {t : Tr} {i : Nat} {K1 : AV → Option R}
theorem u_tl (h : i < 16) : nthE (tC t) i K1 = K1 (lA (t.leaf i)) := by
  unfold nthE tC
  rw [List.getElem?_append_left (by rw [leC_len]; exact h)]
  simp [leC, List.getElem?_map, List.getElem?_range h]
theorem u_tv (h : 16 ≤ i) (h2 : i < 32) : nthE (tC t) i K1 = K1 (nA (t.ver (i - 16))) := by
  unfold nthE tC
  rw [List.getElem?_append_right (by rw [leC_len]; exact h), leC_len]
  simp [veC, List.getElem?_map, List.getElem?_range (show i - 16 < 16 by omega)]
end
theorem getD0 {k : Bytes} (h : k ≠ []) : k.getD 0 0 = k.getD 0 0 := _root_.id rfl
theorem rfits_s (m : Nat) (b : Int) (l : List Item) (ver : Int) (hm : l.length < m) (hl : l.length ≤ 1000000) (hq : ∀ x ∈ l, x.key.length ≤ maxLen) : plenumref10_Fits m (nA b) (lA l) (nA ver) = some (bA (fitsB b l ver), []) := by
  have hl' : l.length ≤ 34359738368 := by omega
  rw [plenumref10_Fits_eq]
  refine iter_ind (ι := {k : Nat // k ≤ l.length ∧ (l.take k).all (rfitB b ver) = true}) (fun k => ⟨[], [(0, nA b), (1, lA l), (2, nA ver), (7, nA k.1)]⟩) (fun k => l.length - k.1) (fun _ => some (bA (fitsB b l ver), [])) ?_ ⟨0, Nat.zero_le _, rfl⟩ (by dsimp only; omega)
  rintro ⟨k, hk, hall⟩ kc hkc
  dsimp only at hkc ⊢
  rw [plenumref10_Fits_b1_eq]
  by_cases hlt : k < l.length
  · have hlt' : (k : Int) < (l.length : Int) := by omega
    have hmem := List.getElem_mem hlt
    have step : kc ⟨[], [(0, nA b), (1, lA l), (2, nA ver), (7, nA ((k : Int) + 1))]⟩ = some (bA (fitsB b l ver), []) ∨ rfitB b ver l[k] = false := by
      cases hr : rfitB b ver l[k] with
      | false => exact .inr rfl
      | true => exact .inl (hkc ⟨k + 1, by omega, by rw [List.take_succ_eq_append_getElem hlt, List.all_append, hall]; simp [hr]⟩ (by dsimp only; omega))
    rw [lA_def] at step
    simp (config := {maxSteps := 4000000, implicitDefEqProofs := false}) (disch := omega) only [go_sem, ↓reduceIte, Nat.reduceAdd, Nat.reduceSub, Nat.reduceMul, Nat.reduceLeDiff, Nat.reduceLT, Int.reduceEq, Int.reduceNe, Int.reduceLT, Int.reduceLE, Int.reduceAdd, Int.reduceSub, Int.reduceMul, Int.reduceNeg, Nat.zero_add, Nat.add_zero, Nat.mul_one, Int.toNat_natCast, Int.natCast_zero, Int.cast_ofNat_Int, or_false, false_or, or_true, true_or, Int.reduceToNat, Nat.sub_zero, Int.natCast_nonneg, Int.toNat_zero, Bool.true_and, Bool.and_true, Bool.false_and, Bool.and_false, Bool.true_or, Bool.or_true, Bool.false_or, Bool.or_false, Bool.not_true, Bool.not_false, Bool.not_not, true_and, and_true, false_and, and_false, not_true_eq_false, not_false_eq_true, eq_self, decide_true, decide_false, ne_eq, implies_true, forall_const, true_implies, false_implies, Bool.true_eq_false, Bool.false_eq_true, reduceCtorEq, List.map_cons, List.map_nil, List.all_cons, List.all_nil, List.length_cons, List.length_nil, List.length_map, List.length_append, List.nil_append, List.cons_append, List.set_cons_zero, List.set_cons_succ, List.set_nil, List.drop_zero, List.drop_succ_cons, List.drop_nil, List.take_zero, List.take_succ_cons, List.take_nil, Option.map_some, Option.map_none, Option.isSome_some, Nat.reduceEqDiff, Nat.reduceBEq, Nat.reduceGT, List.all_append, List.all_map, Function.comp_def, decide_eq_true_eq, Bool.and_eq_true, beq_self_eq_true, or_self, and_self, ite_true, ite_false, Nat.le_refl, Bool.not_eq_true, decide_not, Bool.not_eq_true', decide_eq_false_iff_not, Bool.not_eq_false, Bool.or_eq_true, if_true, if_false, ite_self, lA_def, natInt, u_nthM, fl_it, hlt', plenumref08_Is_e m _ (hq _ hmem), w_i64]
    cases hky : keyB l[k].key with
    | false =>
      simp (config := {maxSteps := 4000000, implicitDefEqProofs := false}) only [go_sem, ↓reduceIte, Nat.reduceAdd, Nat.reduceSub, Nat.reduceMul, Nat.reduceLeDiff, Nat.reduceLT, Int.reduceEq, Int.reduceNe, Int.reduceLT, Int.reduceLE, Int.reduceAdd, Int.reduceSub, Int.reduceMul, Int.reduceNeg, Nat.zero_add, Nat.add_zero, Nat.mul_one, Int.toNat_natCast, Int.natCast_zero, Int.cast_ofNat_Int, or_false, false_or, or_true, true_or, Int.reduceToNat, Nat.sub_zero, Int.natCast_nonneg, Int.toNat_zero, Bool.true_and, Bool.and_true, Bool.false_and, Bool.and_false, Bool.true_or, Bool.or_true, Bool.false_or, Bool.or_false, Bool.not_true, Bool.not_false, Bool.not_not, true_and, and_true, false_and, and_false, not_true_eq_false, not_false_eq_true, eq_self, decide_true, decide_false, ne_eq, implies_true, forall_const, true_implies, false_implies, Bool.true_eq_false, Bool.false_eq_true, reduceCtorEq, List.map_cons, List.map_nil, List.all_cons, List.all_nil, List.length_cons, List.length_nil, List.length_map, List.length_append, List.nil_append, List.cons_append, List.set_cons_zero, List.set_cons_succ, List.set_nil, List.drop_zero, List.drop_succ_cons, List.drop_nil, List.take_zero, List.take_succ_cons, List.take_nil, Option.map_some, Option.map_none, Option.isSome_some, Nat.reduceEqDiff, Nat.reduceBEq, Nat.reduceGT, List.all_append, List.all_map, Function.comp_def, decide_eq_true_eq, Bool.and_eq_true, beq_self_eq_true, or_self, and_self, ite_true, ite_false, Nat.le_refl, Bool.not_eq_true, decide_not, Bool.not_eq_true', decide_eq_false_iff_not, Bool.not_eq_false, Bool.or_eq_true, if_true, if_false, ite_self]
      rw [fits_rno (k := k) (h := hlt) (by rw [rfitB, hky]; rfl)]; try rfl
    | true =>
      have hp : (0 : Int) < (l[k].key.length : Int) := by have := key_pos hky; omega
      have hb : (l[k].key.getD 0 0).toNat < 256 := UInt8.toNat_lt _
      simp (config := {maxSteps := 4000000, implicitDefEqProofs := false}) (disch := omega) only [go_sem, ↓reduceIte, Nat.reduceAdd, Nat.reduceSub, Nat.reduceMul, Nat.reduceLeDiff, Nat.reduceLT, Int.reduceEq, Int.reduceNe, Int.reduceLT, Int.reduceLE, Int.reduceAdd, Int.reduceSub, Int.reduceMul, Int.reduceNeg, Nat.zero_add, Nat.add_zero, Nat.mul_one, Int.toNat_natCast, Int.natCast_zero, Int.cast_ofNat_Int, or_false, false_or, or_true, true_or, Int.reduceToNat, Nat.sub_zero, Int.natCast_nonneg, Int.toNat_zero, Bool.true_and, Bool.and_true, Bool.false_and, Bool.and_false, Bool.true_or, Bool.or_true, Bool.false_or, Bool.or_false, Bool.not_true, Bool.not_false, Bool.not_not, true_and, and_true, false_and, and_false, not_true_eq_false, not_false_eq_true, eq_self, decide_true, decide_false, ne_eq, implies_true, forall_const, true_implies, false_implies, Bool.true_eq_false, Bool.false_eq_true, reduceCtorEq, List.map_cons, List.map_nil, List.all_cons, List.all_nil, List.length_cons, List.length_nil, List.length_map, List.length_append, List.nil_append, List.cons_append, List.set_cons_zero, List.set_cons_succ, List.set_nil, List.drop_zero, List.drop_succ_cons, List.drop_nil, List.take_zero, List.take_succ_cons, List.take_nil, Option.map_some, Option.map_none, Option.isSome_some, Nat.reduceEqDiff, Nat.reduceBEq, Nat.reduceGT, List.all_append, List.all_map, Function.comp_def, decide_eq_true_eq, Bool.and_eq_true, beq_self_eq_true, or_self, and_self, ite_true, ite_false, Nat.le_refl, Bool.not_eq_true, decide_not, Bool.not_eq_true', decide_eq_false_iff_not, Bool.not_eq_false, Bool.or_eq_true, if_true, if_false, ite_self, hp, w_i64, Int.tmod_eq_emod_of_nonneg]
      split
      · rename_i h
        rw [fits_rno (k := k) (h := hlt) (by rw [rfitB, hky, fitB, bucketK_yes hky]; simp only [List.getD_eq_getElem?_getD] at h ⊢; simp [h])]; try rfl
      · rename_i h
        split
        · rename_i h2
          rw [fits_rno (k := k) (h := hlt) (by rw [rfitB, fitB]; simp [h2])]; try rfl
        · rename_i h2
          rcases step with step | step
          · exact step
          · exfalso
            rw [rfitB, hky, fitB, bucketK_yes hky] at step
            simp only [Bool.true_and, Bool.and_eq_false_iff, decide_eq_false_iff_not] at step
            rcases step with q | q
            · exact h (by omega)
            · omega
  · have hlt' : ¬ (k : Int) < (l.length : Int) := by omega
    simp (config := {maxSteps := 4000000, implicitDefEqProofs := false}) (disch := omega) only [go_sem, ↓reduceIte, Nat.reduceAdd, Nat.reduceSub, Nat.reduceMul, Nat.reduceLeDiff, Nat.reduceLT, Int.reduceEq, Int.reduceNe, Int.reduceLT, Int.reduceLE, Int.reduceAdd, Int.reduceSub, Int.reduceMul, Int.reduceNeg, Nat.zero_add, Nat.add_zero, Nat.mul_one, Int.toNat_natCast, Int.natCast_zero, Int.cast_ofNat_Int, or_false, false_or, or_true, true_or, Int.reduceToNat, Nat.sub_zero, Int.natCast_nonneg, Int.toNat_zero, Bool.true_and, Bool.and_true, Bool.false_and, Bool.and_false, Bool.true_or, Bool.or_true, Bool.false_or, Bool.or_false, Bool.not_true, Bool.not_false, Bool.not_not, true_and, and_true, false_and, and_false, not_true_eq_false, not_false_eq_true, eq_self, decide_true, decide_false, ne_eq, implies_true, forall_const, true_implies, false_implies, Bool.true_eq_false, Bool.false_eq_true, reduceCtorEq, List.map_cons, List.map_nil, List.all_cons, List.all_nil, List.length_cons, List.length_nil, List.length_map, List.length_append, List.nil_append, List.cons_append, List.set_cons_zero, List.set_cons_succ, List.set_nil, List.drop_zero, List.drop_succ_cons, List.drop_nil, List.take_zero, List.take_succ_cons, List.take_nil, Option.map_some, Option.map_none, Option.isSome_some, Nat.reduceEqDiff, Nat.reduceBEq, Nat.reduceGT, List.all_append, List.all_map, Function.comp_def, decide_eq_true_eq, Bool.and_eq_true, beq_self_eq_true, or_self, and_self, ite_true, ite_false, Nat.le_refl, Bool.not_eq_true, decide_not, Bool.not_eq_true', decide_eq_false_iff_not, Bool.not_eq_false, Bool.or_eq_true, if_true, if_false, ite_self, lA_def, hlt']
    have hall : l.all (rfitB b ver) = true := by rwa [List.take_of_length_le (by omega)] at hall
    show plenumref10_Fits_r1 m _ = _
    rw [plenumref10_Fits_r1_eq]
    rw [fits_r, hall]
    have hI := plenumref09_Is_e m l ⟨hl', hq⟩
    rw [lA_def] at hI
    simp (config := {maxSteps := 4000000, implicitDefEqProofs := false}) (disch := omega) only [go_sem, ↓reduceIte, Nat.reduceAdd, Nat.reduceSub, Nat.reduceMul, Nat.reduceLeDiff, Nat.reduceLT, Int.reduceEq, Int.reduceNe, Int.reduceLT, Int.reduceLE, Int.reduceAdd, Int.reduceSub, Int.reduceMul, Int.reduceNeg, Nat.zero_add, Nat.add_zero, Nat.mul_one, Int.toNat_natCast, Int.natCast_zero, Int.cast_ofNat_Int, or_false, false_or, or_true, true_or, Int.reduceToNat, Nat.sub_zero, Int.natCast_nonneg, Int.toNat_zero, Bool.true_and, Bool.and_true, Bool.false_and, Bool.and_false, Bool.true_or, Bool.or_true, Bool.false_or, Bool.or_false, Bool.not_true, Bool.not_false, Bool.not_not, true_and, and_true, false_and, and_false, not_true_eq_false, not_false_eq_true, eq_self, decide_true, decide_false, ne_eq, implies_true, forall_const, true_implies, false_implies, Bool.true_eq_false, Bool.false_eq_true, reduceCtorEq, List.map_cons, List.map_nil, List.all_cons, List.all_nil, List.length_cons, List.length_nil, List.length_map, List.length_append, List.nil_append, List.cons_append, List.set_cons_zero, List.set_cons_succ, List.set_nil, List.drop_zero, List.drop_succ_cons, List.drop_nil, List.take_zero, List.take_succ_cons, List.take_nil, Option.map_some, Option.map_none, Option.isSome_some, Nat.reduceEqDiff, Nat.reduceBEq, Nat.reduceGT, List.all_append, List.all_map, Function.comp_def, decide_eq_true_eq, Bool.and_eq_true, beq_self_eq_true, or_self, and_self, ite_true, ite_false, Nat.le_refl, Bool.not_eq_true, decide_not, Bool.not_eq_true', decide_eq_false_iff_not, Bool.not_eq_false, Bool.or_eq_true, if_true, if_false, ite_self, hI]
    cases leafB l <;> by_cases h0 : 0 ≤ ver <;> simp [h0]
theorem Tr.Ok.key {t : Tr} (h : t.Ok) (i : Nat) : ∀ x ∈ t.leaf i, x.key.length ≤ maxLen := fun x hx => ((h i).2.1 x hx).1
theorem rmay10_s (m : Nat) (t : Tr) (hm : 1000000 < m) (h : t.Ok) : plenumref10_May m (tA t) = some (bA (mayT t), []) := by
  rw [plenumref10_May_eq]
  simp (config := {maxSteps := 4000000, implicitDefEqProofs := false}) (disch := omega) only [go_sem, ↓reduceIte, Nat.reduceAdd, Nat.reduceSub, Nat.reduceMul, Nat.reduceLeDiff, Nat.reduceLT, Int.reduceEq, Int.reduceNe, Int.reduceLT, Int.reduceLE, Int.reduceAdd, Int.reduceSub, Int.reduceMul, Int.reduceNeg, Nat.zero_add, Nat.add_zero, Nat.mul_one, Int.toNat_natCast, Int.natCast_zero, Int.cast_ofNat_Int, or_false, false_or, or_true, true_or, Int.reduceToNat, Nat.sub_zero, Int.natCast_nonneg, Int.toNat_zero, Bool.true_and, Bool.and_true, Bool.false_and, Bool.and_false, Bool.true_or, Bool.or_true, Bool.false_or, Bool.or_false, Bool.not_true, Bool.not_false, Bool.not_not, true_and, and_true, false_and, and_false, not_true_eq_false, not_false_eq_true, eq_self, decide_true, decide_false, ne_eq, implies_true, forall_const, true_implies, false_implies, Bool.true_eq_false, Bool.false_eq_true, reduceCtorEq, List.map_cons, List.map_nil, List.all_cons, List.all_nil, List.length_cons, List.length_nil, List.length_map, List.length_append, List.nil_append, List.cons_append, List.set_cons_zero, List.set_cons_succ, List.set_nil, List.drop_zero, List.drop_succ_cons, List.drop_nil, List.take_zero, List.take_succ_cons, List.take_nil, Option.map_some, Option.map_none, Option.isSome_some, Nat.reduceEqDiff, Nat.reduceBEq, Nat.reduceGT, List.all_append, List.all_map, Function.comp_def, decide_eq_true_eq, Bool.and_eq_true, beq_self_eq_true, or_self, and_self, ite_true, ite_false, Nat.le_refl, Bool.not_eq_true, decide_not, Bool.not_eq_true', decide_eq_false_iff_not, Bool.not_eq_false, Bool.or_eq_true, if_true, if_false, ite_self, tA_def, tC_sure]
  refine iter_ind (ι := {k : Nat // k ≤ 16 ∧ (List.range k).all (fun i => fitsB i (t.leaf i) (t.ver i)) = true}) (fun k => ⟨[⟨1, ty_api_Trunk, 0, tC t⟩], [(1, OP 0 0), (3, nA k.1)]⟩) (fun k => 16 - k.1) (fun _ => some (bA (mayT t), [])) ?_ ⟨0, Nat.zero_le _, rfl⟩ (by dsimp only; omega)
  rintro ⟨k, hk, hall⟩ kc hkc
  dsimp only at hkc ⊢
  rw [plenumref10_May_b1_eq]
  by_cases hlt : k < 16
  · have hlt' : (k : Int) < 16 := by omega
    have hf := rfits_s m k (t.leaf k) (t.ver k) (by have := h.len k; omega) (h.len k) (h.key k)
    have hs : kc ⟨[⟨1, ty_api_Trunk, 0, tC t⟩], [(1, OP 0 0), (3, nA ((k : Int) + 1))]⟩ = some (bA (mayT t), []) ∨ fitsB k (t.leaf k) (t.ver k) = false := by
      cases hr : fitsB k (t.leaf k) (t.ver k) with
      | false => exact .inr rfl
      | true => exact .inl (hkc ⟨k + 1, by omega, by rw [List.range_succ, List.all_append, hall]; simp [hr]⟩ (by dsimp only; omega))
    rw [lA_def] at hf
    simp (config := {maxSteps := 4000000, implicitDefEqProofs := false}) (disch := omega) only [go_sem, ↓reduceIte, Nat.reduceAdd, Nat.reduceSub, Nat.reduceMul, Nat.reduceLeDiff, Nat.reduceLT, Int.reduceEq, Int.reduceNe, Int.reduceLT, Int.reduceLE, Int.reduceAdd, Int.reduceSub, Int.reduceMul, Int.reduceNeg, Nat.zero_add, Nat.add_zero, Nat.mul_one, Int.toNat_natCast, Int.natCast_zero, Int.cast_ofNat_Int, or_false, false_or, or_true, true_or, Int.reduceToNat, Nat.sub_zero, Int.natCast_nonneg, Int.toNat_zero, Bool.true_and, Bool.and_true, Bool.false_and, Bool.and_false, Bool.true_or, Bool.or_true, Bool.false_or, Bool.or_false, Bool.not_true, Bool.not_false, Bool.not_not, true_and, and_true, false_and, and_false, not_true_eq_false, not_false_eq_true, eq_self, decide_true, decide_false, ne_eq, implies_true, forall_const, true_implies, false_implies, Bool.true_eq_false, Bool.false_eq_true, reduceCtorEq, List.map_cons, List.map_nil, List.all_cons, List.all_nil, List.length_cons, List.length_nil, List.length_map, List.length_append, List.nil_append, List.cons_append, List.set_cons_zero, List.set_cons_succ, List.set_nil, List.drop_zero, List.drop_succ_cons, List.drop_nil, List.take_zero, List.take_succ_cons, List.take_nil, Option.map_some, Option.map_none, Option.isSome_some, Nat.reduceEqDiff, Nat.reduceBEq, Nat.reduceGT, List.all_append, List.all_map, Function.comp_def, decide_eq_true_eq, Bool.and_eq_true, beq_self_eq_true, or_self, and_self, ite_true, ite_false, Nat.le_refl, Bool.not_eq_true, decide_not, Bool.not_eq_true', decide_eq_false_iff_not, Bool.not_eq_false, Bool.or_eq_true, if_true, if_false, ite_self, hlt', natInt, u_tl, u_tv, add16, w_i64, hf, lA_def]
    cases hr : fitsB k (t.leaf k) (t.ver k) with
    | false =>
      simp (config := {maxSteps := 4000000, implicitDefEqProofs := false}) only [go_sem, ↓reduceIte, Nat.reduceAdd, Nat.reduceSub, Nat.reduceMul, Nat.reduceLeDiff, Nat.reduceLT, Int.reduceEq, Int.reduceNe, Int.reduceLT, Int.reduceLE, Int.reduceAdd, Int.reduceSub, Int.reduceMul, Int.reduceNeg, Nat.zero_add, Nat.add_zero, Nat.mul_one, Int.toNat_natCast, Int.natCast_zero, Int.cast_ofNat_Int, or_false, false_or, or_true, true_or, Int.reduceToNat, Nat.sub_zero, Int.natCast_nonneg, Int.toNat_zero, Bool.true_and, Bool.and_true, Bool.false_and, Bool.and_false, Bool.true_or, Bool.or_true, Bool.false_or, Bool.or_false, Bool.not_true, Bool.not_false, Bool.not_not, true_and, and_true, false_and, and_false, not_true_eq_false, not_false_eq_true, eq_self, decide_true, decide_false, ne_eq, implies_true, forall_const, true_implies, false_implies, Bool.true_eq_false, Bool.false_eq_true, reduceCtorEq, List.map_cons, List.map_nil, List.all_cons, List.all_nil, List.length_cons, List.length_nil, List.length_map, List.length_append, List.nil_append, List.cons_append, List.set_cons_zero, List.set_cons_succ, List.set_nil, List.drop_zero, List.drop_succ_cons, List.drop_nil, List.take_zero, List.take_succ_cons, List.take_nil, Option.map_some, Option.map_none, Option.isSome_some, Nat.reduceEqDiff, Nat.reduceBEq, Nat.reduceGT, List.all_append, List.all_map, Function.comp_def, decide_eq_true_eq, Bool.and_eq_true, beq_self_eq_true, or_self, and_self, ite_true, ite_false, Nat.le_refl, Bool.not_eq_true, decide_not, Bool.not_eq_true', decide_eq_false_iff_not, Bool.not_eq_false, Bool.or_eq_true, if_true, if_false, ite_self, hr]
      rw [show mayT t = false from List.all_eq_false.2 ⟨k, List.mem_range.2 hlt, by simp [hr]⟩]; try rfl
    | true =>
      rw [hr] at hs
      simp (config := {maxSteps := 4000000, implicitDefEqProofs := false}) only [go_sem, ↓reduceIte, Nat.reduceAdd, Nat.reduceSub, Nat.reduceMul, Nat.reduceLeDiff, Nat.reduceLT, Int.reduceEq, Int.reduceNe, Int.reduceLT, Int.reduceLE, Int.reduceAdd, Int.reduceSub, Int.reduceMul, Int.reduceNeg, Nat.zero_add, Nat.add_zero, Nat.mul_one, Int.toNat_natCast, Int.natCast_zero, Int.cast_ofNat_Int, or_false, false_or, or_true, true_or, Int.reduceToNat, Nat.sub_zero, Int.natCast_nonneg, Int.toNat_zero, Bool.true_and, Bool.and_true, Bool.false_and, Bool.and_false, Bool.true_or, Bool.or_true, Bool.false_or, Bool.or_false, Bool.not_true, Bool.not_false, Bool.not_not, true_and, and_true, false_and, and_false, not_true_eq_false, not_false_eq_true, eq_self, decide_true, decide_false, ne_eq, implies_true, forall_const, true_implies, false_implies, Bool.true_eq_false, Bool.false_eq_true, reduceCtorEq, List.map_cons, List.map_nil, List.all_cons, List.all_nil, List.length_cons, List.length_nil, List.length_map, List.length_append, List.nil_append, List.cons_append, List.set_cons_zero, List.set_cons_succ, List.set_nil, List.drop_zero, List.drop_succ_cons, List.drop_nil, List.take_zero, List.take_succ_cons, List.take_nil, Option.map_some, Option.map_none, Option.isSome_some, Nat.reduceEqDiff, Nat.reduceBEq, Nat.reduceGT, List.all_append, List.all_map, Function.comp_def, decide_eq_true_eq, Bool.and_eq_true, beq_self_eq_true, or_self, and_self, ite_true, ite_false, Nat.le_refl, Bool.not_eq_true, decide_not, Bool.not_eq_true', decide_eq_false_iff_not, Bool.not_eq_false, Bool.or_eq_true, if_true, if_false, ite_self, hr, tC_ltA]
      rcases hs with hs | hs
      · exact hs
      · cases hs
  · have hlt' : ¬ (k : Int) < 16 := by omega
    simp (config := {maxSteps := 4000000, implicitDefEqProofs := false}) (disch := omega) only [go_sem, ↓reduceIte, Nat.reduceAdd, Nat.reduceSub, Nat.reduceMul, Nat.reduceLeDiff, Nat.reduceLT, Int.reduceEq, Int.reduceNe, Int.reduceLT, Int.reduceLE, Int.reduceAdd, Int.reduceSub, Int.reduceMul, Int.reduceNeg, Nat.zero_add, Nat.add_zero, Nat.mul_one, Int.toNat_natCast, Int.natCast_zero, Int.cast_ofNat_Int, or_false, false_or, or_true, true_or, Int.reduceToNat, Nat.sub_zero, Int.natCast_nonneg, Int.toNat_zero, Bool.true_and, Bool.and_true, Bool.false_and, Bool.and_false, Bool.true_or, Bool.or_true, Bool.false_or, Bool.or_false, Bool.not_true, Bool.not_false, Bool.not_not, true_and, and_true, false_and, and_false, not_true_eq_false, not_false_eq_true, eq_self, decide_true, decide_false, ne_eq, implies_true, forall_const, true_implies, false_implies, Bool.true_eq_false, Bool.false_eq_true, reduceCtorEq, List.map_cons, List.map_nil, List.all_cons, List.all_nil, List.length_cons, List.length_nil, List.length_map, List.length_append, List.nil_append, List.cons_append, List.set_cons_zero, List.set_cons_succ, List.set_nil, List.drop_zero, List.drop_succ_cons, List.drop_nil, List.take_zero, List.take_succ_cons, List.take_nil, Option.map_some, Option.map_none, Option.isSome_some, Nat.reduceEqDiff, Nat.reduceBEq, Nat.reduceGT, List.all_append, List.all_map, Function.comp_def, decide_eq_true_eq, Bool.and_eq_true, beq_self_eq_true, or_self, and_self, ite_true, ite_false, Nat.le_refl, Bool.not_eq_true, decide_not, Bool.not_eq_true', decide_eq_false_iff_not, Bool.not_eq_false, Bool.or_eq_true, if_true, if_false, ite_self, hlt']
    have : k = 16 := by omega
    subst this
    show some (bA true, []) = some (bA (mayT t), [])
    rw [show mayT t = true from hall]
theorem fits_key {t : Tr} (h : mayT t = true) {b : Nat} (hb : b < 16) {y : Item} (hy : y ∈ t.leaf b) : itemB y = true ∧ bucketK y.key = b ∧ y.ver ≤ t.ver b := by
  have h1 := List.all_eq_true.1 h b (List.mem_range.2 hb)
  rw [fits_r] at h1
  simp only [Bool.and_eq_true] at h1
  have h2 := List.all_eq_true.1 h1.1.1.1 y hy
  have h3 := ((leafB_iff _).1 h1.1.1.2).2.1 y hy
  simp only [rfitB, fitB, Bool.and_eq_true, decide_eq_true_eq] at h2
  exact ⟨h3, h2.2.1, h2.2.2⟩
theorem fits_leaf {t : Tr} (h : mayT t = true) {b : Nat} (hb : b < 16) : leafB (t.leaf b) = true := by
  have h1 := List.all_eq_true.1 h b (List.mem_range.2 hb)
  rw [fits_r] at h1
  simp only [Bool.and_eq_true] at h1
  exact h1.1.1.2
theorem getT_mem {t : Tr} (h : mayT t = true) {k : Bytes} {y : Item} : getT t k = some y ↔ ∃ b, b < 16 ∧ y ∈ t.leaf b ∧ y.key = k := by
  unfold getT
  rw [h, Bool.and_true]
  constructor
  · intro q
    split at q
    · rename_i hk
      obtain ⟨h1, h2⟩ := (getK_mem (fits_leaf h (bk_lt hk)) k y).1 q
      exact ⟨bk k, bk_lt hk, h1, h2⟩
    · cases q
  · rintro ⟨b, hb, h1, rfl⟩
    obtain ⟨h2, h3, _⟩ := fits_key h hb h1
    have hk := itemB_key h2
    rw [if_pos hk]
    have : bk y.key = b := by unfold bk; rw [h3]; try rfl
    rw [this]
    exact (getK_mem (fits_leaf h hb) _ y).2 ⟨h1, rfl⟩
theorem getK_at {l : List Item} (h : leafB l = true) (k : Bytes) : (getK l k = none ∧ placeI (atK l k) = -1) ∨ ∃ y, getK l k = some y ∧ l[posK l k]? = some y ∧ placeI (atK l k) = (posK l k : Nat) := by
  have hs := ((leafB_iff l).1 h).2.2
  rw [atK_sorted hs]
  cases ht : thereK l k with
  | false => exact .inl ⟨getK_none ht, rfl⟩
  | true =>
    right
    have : (l[posK l k]?).isSome = true := by
      unfold thereK at ht
      cases e : l[posK l k]? with
      | none => rw [e] at ht; cases ht
      | some y => rfl
    obtain ⟨y, hy⟩ := Option.isSome_iff_exists.1 this
    exact ⟨y, by unfold getK; rw [h, ht]; exact hy, hy, rfl⟩
theorem place_no {t : Tr} (h : mayT t = true) {k : Bytes} {b : Nat} (hb : b < 16) (hn : getT t k = none ∨ b ≠ bk k) : placeI (atK (t.leaf b) k) = -1 := by
  rcases getK_at (fits_leaf h hb) k with ⟨_, q⟩ | ⟨y, q, _, _⟩
  · exact q
  · obtain ⟨h1, h2⟩ := (getK_mem (fits_leaf h hb) k y).1 q
    rcases hn with hn | hn
    · have := (getT_mem h).2 ⟨b, hb, h1, h2⟩
      rw [hn] at this; cases this
    · exfalso
      obtain ⟨_, h3, _⟩ := fits_key h hb h1
      rw [h2] at h3
      exact hn (by unfold bk; rw [h3]; rfl)
theorem tC_all1 {t : Tr} {n : Nat} {H : List AObj} : ((tC t).all fun x => lt1 n (ro1 H x)) = true := tC_all (fun _ => rfl) fun _ => rfl
theorem fl_all5 {l : List Item} : (l.all fun x => decide ((cellsOf (flA Item.cells x)).length = 5)) = true := List.all_eq_true.2 fun _ _ => rfl
theorem fl_allA {l : List Item} {n : Nat} : (l.all fun x => ltA n (flA Item.cells x)) = true := List.all_eq_true.2 fun _ _ => rfl
theorem fl_lt {x : Item} {n : Nat} : ltA n (flA Item.cells x) = true := _root_.id rfl
theorem bucketK_nat {k : Bytes} (h : keyB k = true) : bucketK k = (bk k : Nat) := by have := bucketK_in h; unfold bk; omega
theorem putK_full {l : List Item} {x : Item} (hl : leafB l = true) (hx : itemB x = true) (hn : getK l x.key = none) (h : l.length = 64) : putK l x = ([], 5) := by
  have ht : thereK l x.key = false := by
    cases ht : thereK l x.key with
    | false => rfl
    | true => rw [getK_some hl ht] at hn; cases hn
  simp [putK, hl, hx, ht, h]
theorem putK_fits {l : List Item} {x : Item} (hl : leafB l = true) (hx : itemB x = true) (h : getK l x.key ≠ none ∨ l.length ≠ 64) : putK l x = (withK l x, 0) := by
  cases ht : thereK l x.key with
  | true => simp [putK, hl, hx, ht]
  | false =>
    have : l.length ≠ 64 := by
      rcases h with h | h
      · exact absurd (getK_none ht) h
      · exact h
    simp [putK, hl, hx, ht, this]
theorem delK_yes {l : List Item} {k : Bytes} {y : Item} (hl : leafB l = true) (h : getK l k = some y) : delK l k = (withoutK l k, 0) := by
  cases ht : thereK l k with
  | true => simp [delK, hl, ht]
  | false => rw [getK_none ht] at h; cases h
def sameT (a b : Tr) : Bool := (List.range 16).all fun i => decide (a.ver i = b.ver i) && decide (a.leaf i = b.leaf i)
theorem sameT_iff {a b : Tr} : sameT a b = true ↔ a.Eq16 b := by
  unfold sameT
  rw [List.all_eq_true]
  constructor
  · intro h i hi
    have := h i (List.mem_range.2 hi)
    simp only [Bool.and_eq_true, decide_eq_true_eq] at this
    exact ⟨this.2, this.1⟩
  · intro h i hi
    have := h i (List.mem_range.1 hi)
    simp only [Bool.and_eq_true, decide_eq_true_eq]
    exact ⟨this.2, this.1⟩
theorem sameT_no {a b : Tr} {i : Nat} (hi : i < 16) (h : ¬ (a.ver i = b.ver i ∧ a.leaf i = b.leaf i)) : sameT a b = false := by
  cases e : sameT a b with
  | false => rfl
  | true =>
    have := sameT_iff.1 e i hi
    exact absurd ⟨this.2, this.1⟩ h
theorem rsame_s (m : Nat) (a b : Tr) (hm : 16 < m) (ha : ∀ i, (a.leaf i).length ≤ 34359738368) (hb : ∀ i, (b.leaf i).length ≤ 34359738368) : plenumref10_Same m (tA a) (tA b) = some (bA (sameT a b), []) := by
  rw [plenumref10_Same_eq]
  simp (config := {maxSteps := 4000000, implicitDefEqProofs := false}) (disch := omega) only [go_sem, ↓reduceIte, Nat.reduceAdd, Nat.reduceSub, Nat.reduceMul, Nat.reduceLeDiff, Nat.reduceLT, Int.reduceEq, Int.reduceNe, Int.reduceLT, Int.reduceLE, Int.reduceAdd, Int.reduceSub, Int.reduceMul, Int.reduceNeg, Nat.zero_add, Nat.add_zero, Nat.mul_one, Int.toNat_natCast, Int.natCast_zero, Int.cast_ofNat_Int, or_false, false_or, or_true, true_or, Int.reduceToNat, Nat.sub_zero, Int.natCast_nonneg, Int.toNat_zero, Bool.true_and, Bool.and_true, Bool.false_and, Bool.and_false, Bool.true_or, Bool.or_true, Bool.false_or, Bool.or_false, Bool.not_true, Bool.not_false, Bool.not_not, true_and, and_true, false_and, and_false, not_true_eq_false, not_false_eq_true, eq_self, decide_true, decide_false, ne_eq, implies_true, forall_const, true_implies, false_implies, Bool.true_eq_false, Bool.false_eq_true, reduceCtorEq, List.map_cons, List.map_nil, List.all_cons, List.all_nil, List.length_cons, List.length_nil, List.length_map, List.length_append, List.nil_append, List.cons_append, List.set_cons_zero, List.set_cons_succ, List.set_nil, List.drop_zero, List.drop_succ_cons, List.drop_nil, List.take_zero, List.take_succ_cons, List.take_nil, Option.map_some, Option.map_none, Option.isSome_some, Nat.reduceEqDiff, Nat.reduceBEq, Nat.reduceGT, List.all_append, List.all_map, Function.comp_def, decide_eq_true_eq, Bool.and_eq_true, beq_self_eq_true, or_self, and_self, ite_true, ite_false, Nat.le_refl, Bool.not_eq_true, decide_not, Bool.not_eq_true', decide_eq_false_iff_not, Bool.not_eq_false, Bool.or_eq_true, if_true, if_false, ite_self, tC_len, tC_sure, tC_ltA, tC_lt1, tC_ro, tC_take, tC_all1, zC_len, zC_ltA, zC_lt1, zC_sure, zC_ro, zC_take, set_tl, set_tv, sc_tt, sc_zt, sc_tz, sc_zz, add16, tA_def, lA_def, natInt, u_tl, u_tv]
  refine iter_ind (ι := {k : Nat // k ≤ 16 ∧ (List.range k).all (fun i => decide (a.ver i = b.ver i) && decide (a.leaf i = b.leaf i)) = true}) (fun k => ⟨[⟨1, ty_api_Trunk, 0, tC a⟩, ⟨1, ty_api_Trunk, 0, tC b⟩], [(2, OP 0 0), (3, OP 1 0), (5, nA k.1)]⟩) (fun k => 16 - k.1) (fun _ => some (bA (sameT a b), [])) ?_ ⟨0, Nat.zero_le _, rfl⟩ (by dsimp only; omega)
  rintro ⟨k, hk, hall⟩ kc hkc
  dsimp only at hkc ⊢
  rw [plenumref10_Same_b1_eq]
  by_cases hlt : k < 16
  · have hlt' : (k : Int) < 16 := by omega
    have hS := plenumref09_Same_e m (a.leaf k) (b.leaf k) ⟨ha k, hb k⟩
    rw [lA_def, lA_def] at hS
    by_cases hv : a.ver k = b.ver k
    · by_cases hl : a.leaf k = b.leaf k
      · have step := hkc ⟨k + 1, by omega, by rw [List.range_succ, List.all_append, hall]; simp [hv, hl]⟩ (by dsimp only; omega)
        simp only [hl] at hS
        simp (config := {maxSteps := 4000000, implicitDefEqProofs := false}) (disch := omega) only [go_sem, ↓reduceIte, Nat.reduceAdd, Nat.reduceSub, Nat.reduceMul, Nat.reduceLeDiff, Nat.reduceLT, Int.reduceEq, Int.reduceNe, Int.reduceLT, Int.reduceLE, Int.reduceAdd, Int.reduceSub, Int.reduceMul, Int.reduceNeg, Nat.zero_add, Nat.add_zero, Nat.mul_one, Int.toNat_natCast, Int.natCast_zero, Int.cast_ofNat_Int, or_false, false_or, or_true, true_or, Int.reduceToNat, Nat.sub_zero, Int.natCast_nonneg, Int.toNat_zero, Bool.true_and, Bool.and_true, Bool.false_and, Bool.and_false, Bool.true_or, Bool.or_true, Bool.false_or, Bool.or_false, Bool.not_true, Bool.not_false, Bool.not_not, true_and, and_true, false_and, and_false, not_true_eq_false, not_false_eq_true, eq_self, decide_true, decide_false, ne_eq, implies_true, forall_const, true_implies, false_implies, Bool.true_eq_false, Bool.false_eq_true, reduceCtorEq, List.map_cons, List.map_nil, List.all_cons, List.all_nil, List.length_cons, List.length_nil, List.length_map, List.length_append, List.nil_append, List.cons_append, List.set_cons_zero, List.set_cons_succ, List.set_nil, List.drop_zero, List.drop_succ_cons, List.drop_nil, List.take_zero, List.take_succ_cons, List.take_nil, Option.map_some, Option.map_none, Option.isSome_some, Nat.reduceEqDiff, Nat.reduceBEq, Nat.reduceGT, List.all_append, List.all_map, Function.comp_def, decide_eq_true_eq, Bool.and_eq_true, beq_self_eq_true, or_self, and_self, ite_true, ite_false, Nat.le_refl, Bool.not_eq_true, decide_not, Bool.not_eq_true', decide_eq_false_iff_not, Bool.not_eq_false, Bool.or_eq_true, if_true, if_false, ite_self, tC_len, tC_sure, tC_ltA, tC_lt1, tC_ro, tC_take, tC_all1, zC_len, zC_ltA, zC_lt1, zC_sure, zC_ro, zC_take, set_tl, set_tv, sc_tt, sc_zt, sc_tz, sc_zz, add16, tA_def, lA_def, natInt, u_tl, u_tv, hlt', hS, hv, hl, w_i64]
        exact step
      · simp only [hl] at hS
        simp (config := {maxSteps := 4000000, implicitDefEqProofs := false}) (disch := omega) only [go_sem, ↓reduceIte, Nat.reduceAdd, Nat.reduceSub, Nat.reduceMul, Nat.reduceLeDiff, Nat.reduceLT, Int.reduceEq, Int.reduceNe, Int.reduceLT, Int.reduceLE, Int.reduceAdd, Int.reduceSub, Int.reduceMul, Int.reduceNeg, Nat.zero_add, Nat.add_zero, Nat.mul_one, Int.toNat_natCast, Int.natCast_zero, Int.cast_ofNat_Int, or_false, false_or, or_true, true_or, Int.reduceToNat, Nat.sub_zero, Int.natCast_nonneg, Int.toNat_zero, Bool.true_and, Bool.and_true, Bool.false_and, Bool.and_false, Bool.true_or, Bool.or_true, Bool.false_or, Bool.or_false, Bool.not_true, Bool.not_false, Bool.not_not, true_and, and_true, false_and, and_false, not_true_eq_false, not_false_eq_true, eq_self, decide_true, decide_false, ne_eq, implies_true, forall_const, true_implies, false_implies, Bool.true_eq_false, Bool.false_eq_true, reduceCtorEq, List.map_cons, List.map_nil, List.all_cons, List.all_nil, List.length_cons, List.length_nil, List.length_map, List.length_append, List.nil_append, List.cons_append, List.set_cons_zero, List.set_cons_succ, List.set_nil, List.drop_zero, List.drop_succ_cons, List.drop_nil, List.take_zero, List.take_succ_cons, List.take_nil, Option.map_some, Option.map_none, Option.isSome_some, Nat.reduceEqDiff, Nat.reduceBEq, Nat.reduceGT, List.all_append, List.all_map, Function.comp_def, decide_eq_true_eq, Bool.and_eq_true, beq_self_eq_true, or_self, and_self, ite_true, ite_false, Nat.le_refl, Bool.not_eq_true, decide_not, Bool.not_eq_true', decide_eq_false_iff_not, Bool.not_eq_false, Bool.or_eq_true, if_true, if_false, ite_self, tC_len, tC_sure, tC_ltA, tC_lt1, tC_ro, tC_take, tC_all1, zC_len, zC_ltA, zC_lt1, zC_sure, zC_ro, zC_take, set_tl, set_tv, sc_tt, sc_zt, sc_tz, sc_zz, add16, tA_def, lA_def, natInt, u_tl, u_tv, hlt', hS, hv, hl, w_i64]
        rw [sameT_no hlt fun q => hl q.2]
        try rfl
    · simp (config := {maxSteps := 4000000, implicitDefEqProofs := false}) (disch := omega) only [go_sem, ↓reduceIte, Nat.reduceAdd, Nat.reduceSub, Nat.reduceMul, Nat.reduceLeDiff, Nat.reduceLT, Int.reduceEq, Int.reduceNe, Int.reduceLT, Int.reduceLE, Int.reduceAdd, Int.reduceSub, Int.reduceMul, Int.reduceNeg, Nat.zero_add, Nat.add_zero, Nat.mul_one, Int.toNat_natCast, Int.natCast_zero, Int.cast_ofNat_Int, or_false, false_or, or_true, true_or, Int.reduceToNat, Nat.sub_zero, Int.natCast_nonneg, Int.toNat_zero, Bool.true_and, Bool.and_true, Bool.false_and, Bool.and_false, Bool.true_or, Bool.or_true, Bool.false_or, Bool.or_false, Bool.not_true, Bool.not_false, Bool.not_not, true_and, and_true, false_and, and_false, not_true_eq_false, not_false_eq_true, eq_self, decide_true, decide_false, ne_eq, implies_true, forall_const, true_implies, false_implies, Bool.true_eq_false, Bool.false_eq_true, reduceCtorEq, List.map_cons, List.map_nil, List.all_cons, List.all_nil, List.length_cons, List.length_nil, List.length_map, List.length_append, List.nil_append, List.cons_append, List.set_cons_zero, List.set_cons_succ, List.set_nil, List.drop_zero, List.drop_succ_cons, List.drop_nil, List.take_zero, List.take_succ_cons, List.take_nil, Option.map_some, Option.map_none, Option.isSome_some, Nat.reduceEqDiff, Nat.reduceBEq, Nat.reduceGT, List.all_append, List.all_map, Function.comp_def, decide_eq_true_eq, Bool.and_eq_true, beq_self_eq_true, or_self, and_self, ite_true, ite_false, Nat.le_refl, Bool.not_eq_true, decide_not, Bool.not_eq_true', decide_eq_false_iff_not, Bool.not_eq_false, Bool.or_eq_true, if_true, if_false, ite_self, tC_len, tC_sure, tC_ltA, tC_lt1, tC_ro, tC_take, tC_all1, zC_len, zC_ltA, zC_lt1, zC_sure, zC_ro, zC_take, set_tl, set_tv, sc_tt, sc_zt, sc_tz, sc_zz, add16, tA_def, lA_def, natInt, u_tl, u_tv, hlt', hv]
      rw [sameT_no hlt fun q => hv q.1]
      try rfl
  · have hlt' : ¬ (k : Int) < 16 := by omega
    have : k = 16 := by omega
    subst this
    simp (config := {maxSteps := 4000000, implicitDefEqProofs := false}) (disch := omega) only [go_sem, ↓reduceIte, Nat.reduceAdd, Nat.reduceSub, Nat.reduceMul, Nat.reduceLeDiff, Nat.reduceLT, Int.reduceEq, Int.reduceNe, Int.reduceLT, Int.reduceLE, Int.reduceAdd, Int.reduceSub, Int.reduceMul, Int.reduceNeg, Nat.zero_add, Nat.add_zero, Nat.mul_one, Int.toNat_natCast, Int.natCast_zero, Int.cast_ofNat_Int, or_false, false_or, or_true, true_or, Int.reduceToNat, Nat.sub_zero, Int.natCast_nonneg, Int.toNat_zero, Bool.true_and, Bool.and_true, Bool.false_and, Bool.and_false, Bool.true_or, Bool.or_true, Bool.false_or, Bool.or_false, Bool.not_true, Bool.not_false, Bool.not_not, true_and, and_true, false_and, and_false, not_true_eq_false, not_false_eq_true, eq_self, decide_true, decide_false, ne_eq, implies_true, forall_const, true_implies, false_implies, Bool.true_eq_false, Bool.false_eq_true, reduceCtorEq, List.map_cons, List.map_nil, List.all_cons, List.all_nil, List.length_cons, List.length_nil, List.length_map, List.length_append, List.nil_append, List.cons_append, List.set_cons_zero, List.set_cons_succ, List.set_nil, List.drop_zero, List.drop_succ_cons, List.drop_nil, List.take_zero, List.take_succ_cons, List.take_nil, Option.map_some, Option.map_none, Option.isSome_some, Nat.reduceEqDiff, Nat.reduceBEq, Nat.reduceGT, List.all_append, List.all_map, Function.comp_def, decide_eq_true_eq, Bool.and_eq_true, beq_self_eq_true, or_self, and_self, ite_true, ite_false, Nat.le_refl, Bool.not_eq_true, decide_not, Bool.not_eq_true', decide_eq_false_iff_not, Bool.not_eq_false, Bool.or_eq_true, if_true, if_false, ite_self, hlt']
    rw [show sameT a b = true from hall]
    rfl
def allTo (t : Tr) (k : Nat) : List Item := (List.range k).flatMap t.leaf
theorem allTo_succ (t : Tr) (k : Nat) : allTo t (k + 1) = allTo t k ++ t.leaf k := by simp [allTo, List.range_succ]
theorem allTo_len (t : Tr) : ∀ k, (allTo t k).length = sumTo (fun i => (t.leaf i).length) k
  | 0 => rfl
  | k + 1 => by rw [allTo_succ, List.length_append, allTo_len t k]; try rfl
theorem allTo_le (t : Tr) (h : t.Ok) : ∀ k, (allTo t k).length ≤ k * 1000000
  | 0 => Nat.zero_le _
  | k + 1 => by have := allTo_le t h k; have := h.len k; rw [allTo_succ, List.length_append]; omega
theorem lA_app (a b : List Item) : (a ++ b).map (flA Item.cells) = a.map (flA Item.cells) ++ b.map (flA Item.cells) := List.map_append
theorem rall_s (m : Nat) (t : Tr) (hm : 16 < m) (h : t.Ok) : plenumref10_All m (tA t) = some (lA (allTo t 16), []) := by
  rw [plenumref10_All_eq]
  simp (config := {maxSteps := 4000000, implicitDefEqProofs := false}) (disch := omega) only [go_sem, ↓reduceIte, Nat.reduceAdd, Nat.reduceSub, Nat.reduceMul, Nat.reduceLeDiff, Nat.reduceLT, Int.reduceEq, Int.reduceNe, Int.reduceLT, Int.reduceLE, Int.reduceAdd, Int.reduceSub, Int.reduceMul, Int.reduceNeg, Nat.zero_add, Nat.add_zero, Nat.mul_one, Int.toNat_natCast, Int.natCast_zero, Int.cast_ofNat_Int, or_false, false_or, or_true, true_or, Int.reduceToNat, Nat.sub_zero, Int.natCast_nonneg, Int.toNat_zero, Bool.true_and, Bool.and_true, Bool.false_and, Bool.and_false, Bool.true_or, Bool.or_true, Bool.false_or, Bool.or_false, Bool.not_true, Bool.not_false, Bool.not_not, true_and, and_true, false_and, and_false, not_true_eq_false, not_false_eq_true, eq_self, decide_true, decide_false, ne_eq, implies_true, forall_const, true_implies, false_implies, Bool.true_eq_false, Bool.false_eq_true, reduceCtorEq, List.map_cons, List.map_nil, List.all_cons, List.all_nil, List.length_cons, List.length_nil, List.length_map, List.length_append, List.nil_append, List.cons_append, List.set_cons_zero, List.set_cons_succ, List.set_nil, List.drop_zero, List.drop_succ_cons, List.drop_nil, List.take_zero, List.take_succ_cons, List.take_nil, Option.map_some, Option.map_none, Option.isSome_some, Nat.reduceEqDiff, Nat.reduceBEq, Nat.reduceGT, List.all_append, List.all_map, Function.comp_def, decide_eq_true_eq, Bool.and_eq_true, beq_self_eq_true, or_self, and_self, ite_true, ite_false, Nat.le_refl, Bool.not_eq_true, decide_not, Bool.not_eq_true', decide_eq_false_iff_not, Bool.not_eq_false, Bool.or_eq_true, if_true, if_false, ite_self, tC_len, tC_sure, tC_ltA, tC_lt1, tC_ro, tC_take, tC_all1, zC_len, zC_ltA, zC_lt1, zC_sure, zC_ro, zC_take, set_tl, set_tv, sc_tt, sc_zt, sc_tz, sc_zz, add16, tA_def, lA_def, natInt, u_tl, u_tv]
  refine iter_ind (ι := {k : Nat // k ≤ 16}) (fun k => ⟨[⟨1, ty_api_Trunk, 0, tC t⟩, ⟨2, ty_api_Item, 5, (allTo t k).map (flA Item.cells)⟩], [(1, OP 0 0), (3, OW 1 (allTo t k.1).length), (4, nA k.1)]⟩) (fun k => 16 - k.1) (fun _ => some (lA (allTo t 16), [])) ?_ ⟨0, Nat.zero_le _⟩ (by dsimp only; omega)
  rintro ⟨k, hk⟩ kc hkc
  dsimp only at hkc ⊢
  rw [plenumref10_All_b1_eq]
  by_cases hlt : k < 16
  · have hlt' : (k : Int) < 16 := by omega
    have step := hkc ⟨k + 1, by omega⟩ (by dsimp only; omega)
    dsimp only at step
    rw [allTo_succ, lA_app, List.length_append] at step
    have hle := allTo_le t h k
    have hle2 := h.len k
    have hle3 : (allTo t k).length + (t.leaf k).length ≤ 34359738368 := by omega
    simp (config := {maxSteps := 4000000, implicitDefEqProofs := false}) (disch := omega) only [go_sem, ↓reduceIte, Nat.reduceAdd, Nat.reduceSub, Nat.reduceMul, Nat.reduceLeDiff, Nat.reduceLT, Int.reduceEq, Int.reduceNe, Int.reduceLT, Int.reduceLE, Int.reduceAdd, Int.reduceSub, Int.reduceMul, Int.reduceNeg, Nat.zero_add, Nat.add_zero, Nat.mul_one, Int.toNat_natCast, Int.natCast_zero, Int.cast_ofNat_Int, or_false, false_or, or_true, true_or, Int.reduceToNat, Nat.sub_zero, Int.natCast_nonneg, Int.toNat_zero, Bool.true_and, Bool.and_true, Bool.false_and, Bool.and_false, Bool.true_or, Bool.or_true, Bool.false_or, Bool.or_false, Bool.not_true, Bool.not_false, Bool.not_not, true_and, and_true, false_and, and_false, not_true_eq_false, not_false_eq_true, eq_self, decide_true, decide_false, ne_eq, implies_true, forall_const, true_implies, false_implies, Bool.true_eq_false, Bool.false_eq_true, reduceCtorEq, List.map_cons, List.map_nil, List.all_cons, List.all_nil, List.length_cons, List.length_nil, List.length_map, List.length_append, List.nil_append, List.cons_append, List.set_cons_zero, List.set_cons_succ, List.set_nil, List.drop_zero, List.drop_succ_cons, List.drop_nil, List.take_zero, List.take_succ_cons, List.take_nil, Option.map_some, Option.map_none, Option.isSome_some, Nat.reduceEqDiff, Nat.reduceBEq, Nat.reduceGT, List.all_append, List.all_map, Function.comp_def, decide_eq_true_eq, Bool.and_eq_true, beq_self_eq_true, or_self, and_self, ite_true, ite_false, Nat.le_refl, Bool.not_eq_true, decide_not, Bool.not_eq_true', decide_eq_false_iff_not, Bool.not_eq_false, Bool.or_eq_true, if_true, if_false, ite_self, tC_len, tC_sure, tC_ltA, tC_lt1, tC_ro, tC_take, tC_all1, zC_len, zC_ltA, zC_lt1, zC_sure, zC_ro, zC_take, set_tl, set_tv, sc_tt, sc_zt, sc_tz, sc_zz, add16, tA_def, lA_def, natInt, u_tl, u_tv, hlt', hle3, w_i64, fl_all5, fl_allA]
    exact step
  · have hlt' : ¬ (k : Int) < 16 := by omega
    have : k = 16 := by omega
    subst this
    simp (config := {maxSteps := 4000000, implicitDefEqProofs := false}) (disch := omega) only [go_sem, ↓reduceIte, Nat.reduceAdd, Nat.reduceSub, Nat.reduceMul, Nat.reduceLeDiff, Nat.reduceLT, Int.reduceEq, Int.reduceNe, Int.reduceLT, Int.reduceLE, Int.reduceAdd, Int.reduceSub, Int.reduceMul, Int.reduceNeg, Nat.zero_add, Nat.add_zero, Nat.mul_one, Int.toNat_natCast, Int.natCast_zero, Int.cast_ofNat_Int, or_false, false_or, or_true, true_or, Int.reduceToNat, Nat.sub_zero, Int.natCast_nonneg, Int.toNat_zero, Bool.true_and, Bool.and_true, Bool.false_and, Bool.and_false, Bool.true_or, Bool.or_true, Bool.false_or, Bool.or_false, Bool.not_true, Bool.not_false, Bool.not_not, true_and, and_true, false_and, and_false, not_true_eq_false, not_false_eq_true, eq_self, decide_true, decide_false, ne_eq, implies_true, forall_const, true_implies, false_implies, Bool.true_eq_false, Bool.false_eq_true, reduceCtorEq, List.map_cons, List.map_nil, List.all_cons, List.all_nil, List.length_cons, List.length_nil, List.length_map, List.length_append, List.nil_append, List.cons_append, List.set_cons_zero, List.set_cons_succ, List.set_nil, List.drop_zero, List.drop_succ_cons, List.drop_nil, List.take_zero, List.take_succ_cons, List.take_nil, Option.map_some, Option.map_none, Option.isSome_some, Nat.reduceEqDiff, Nat.reduceBEq, Nat.reduceGT, List.all_append, List.all_map, Function.comp_def, decide_eq_true_eq, Bool.and_eq_true, beq_self_eq_true, or_self, and_self, ite_true, ite_false, Nat.le_refl, Bool.not_eq_true, decide_not, Bool.not_eq_true', decide_eq_false_iff_not, Bool.not_eq_false, Bool.or_eq_true, if_true, if_false, ite_self, hlt']
    show plenumref10_All_r1 m _ = _
    rw [plenumref10_All_r1_eq, lA_def]
    simp (config := {maxSteps := 4000000, implicitDefEqProofs := false}) (disch := omega) only [go_sem, ↓reduceIte, Nat.reduceAdd, Nat.reduceSub, Nat.reduceMul, Nat.reduceLeDiff, Nat.reduceLT, Int.reduceEq, Int.reduceNe, Int.reduceLT, Int.reduceLE, Int.reduceAdd, Int.reduceSub, Int.reduceMul, Int.reduceNeg, Nat.zero_add, Nat.add_zero, Nat.mul_one, Int.toNat_natCast, Int.natCast_zero, Int.cast_ofNat_Int, or_false, false_or, or_true, true_or, Int.reduceToNat, Nat.sub_zero, Int.natCast_nonneg, Int.toNat_zero, Bool.true_and, Bool.and_true, Bool.false_and, Bool.and_false, Bool.true_or, Bool.or_true, Bool.false_or, Bool.or_false, Bool.not_true, Bool.not_false, Bool.not_not, true_and, and_true, false_and, and_false, not_true_eq_false, not_false_eq_true, eq_self, decide_true, decide_false, ne_eq, implies_true, forall_const, true_implies, false_implies, Bool.true_eq_false, Bool.false_eq_true, reduceCtorEq, List.map_cons, List.map_nil, List.all_cons, List.all_nil, List.length_cons, List.length_nil, List.length_map, List.length_append, List.nil_append, List.cons_append, List.set_cons_zero, List.set_cons_succ, List.set_nil, List.drop_zero, List.drop_succ_cons, List.drop_nil, List.take_zero, List.take_succ_cons, List.take_nil, Option.map_some, Option.map_none, Option.isSome_some, Nat.reduceEqDiff, Nat.reduceBEq, Nat.reduceGT, List.all_append, List.all_map, Function.comp_def, decide_eq_true_eq, Bool.and_eq_true, beq_self_eq_true, or_self, and_self, ite_true, ite_false, Nat.le_refl, Bool.not_eq_true, decide_not, Bool.not_eq_true', decide_eq_false_iff_not, Bool.not_eq_false, Bool.or_eq_true, if_true, if_false, ite_self, tC_len, tC_sure, tC_ltA, tC_lt1, tC_ro, tC_take, tC_all1, zC_len, zC_ltA, zC_lt1, zC_sure, zC_ro, zC_take, set_tl, set_tv, sc_tt, sc_zt, sc_tz, sc_zz, add16, tA_def, lA_def, natInt, u_tl, u_tv, fl_allA]
end Go.Proofs.YtopifabnobplcaaDoor
