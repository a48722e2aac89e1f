/-
  Texts laid together, part 4 of 5: laws of a walk over data, contracts of functions, each whole by itself.
-/
import Derived.Test.YtlhnkljpidgjgaaDoorMgc
import Derived.WalkKit
import Derived.KernelRfl
import Derived.Laws.Bits64
import Derived.Laws.Bits64b
import Derived.Laws.Bits128
namespace Go.Proofs.YtlhnkljpidgjgaaDoor
open Go.RowKit
set_option linter.unusedVariables false
set_option maxRecDepth 100000
def ty_int : TypeId := 3
noncomputable def math_bits_OnesCount64_c : Code := (Tryd.f26.body).getD .skip
def math_bits_OnesCount64_h : Hint := (.two .n (.two .n (.two .n (.two .n (.two .n (.two .n (.two .n (.two .n .n))))))))
noncomputable def math_bits_OnesCount64_env (m : Nat) : Env := []
noncomputable abbrev math_bits_OnesCount64_fin : KO (AV × List AObj) := tellFK Tryd.prog [.tmp 2]
noncomputable def math_bits_OnesCount64 (m : Nat) (t0 : AV) : RO := exec Tryd.prog GG (math_bits_OnesCount64_env m) m 35 math_bits_OnesCount64_c math_bits_OnesCount64_h ⟨[], argsT 0 [t0]⟩ (math_bits_OnesCount64_fin)
theorem math_bits_OnesCount64_eq (m : Nat) (t0 : AV) : math_bits_OnesCount64 m t0 =
  binE none false .shr t0 (V (.int .u64 1)) fun t4 =>
  binE none false .and t4 (V (.int .u64 6148914691236517205)) fun t5 =>
  binE none false .and t0 (V (.int .u64 6148914691236517205)) fun t7 =>
  binE none false .add t5 t7 fun t8 =>
  binE none false .shr t8 (V (.int .u64 2)) fun t10 =>
  binE none false .and t10 (V (.int .u64 3689348814741910323)) fun t11 =>
  binE none false .and t8 (V (.int .u64 3689348814741910323)) fun t13 =>
  binE none false .add t11 t13 fun t14 =>
  binE none false .shr t14 (V (.int .u64 4)) fun t16 =>
  binE none false .add t16 t14 fun t18 =>
  binE none false .and t18 (V (.int .u64 1085102592571150095)) fun t19 =>
  binE none false .shr t19 (V (.int .u64 8)) fun t22 =>
  binE none false .add t19 t22 fun t23 =>
  binE none false .shr t23 (V (.int .u64 16)) fun t26 =>
  binE none false .add t23 t26 fun t27 =>
  binE none false .shr t27 (V (.int .u64 32)) fun t30 =>
  binE none false .add t27 t30 fun t31 =>
  convE false (some .i64) true t31 fun t33 =>
  binE none false .and t33 (V (.int .i64 127)) fun t34 =>
  tellK [] (ro [] t34) := by
  refine (tellX Tryd.prog GG (math_bits_OnesCount64_env m) m 35 math_bits_OnesCount64_c math_bits_OnesCount64_h ⟨[], argsT 0 [t0]⟩ [.tmp 2]).trans ?_
  kernel_rfl
noncomputable def math_bits_OnesCount64_t (m : Nat) : List AV → RO | [t0] => math_bits_OnesCount64 m t0 | _ => none
theorem math_bits_OnesCount64_ok (m : Nat) : ∀ args X H', math_bits_OnesCount64_t m args = some (X, H') → ACp Tryd.prog GG 26 args X := by
  intro args X H' h
  unfold math_bits_OnesCount64_t at h
  split at h
  · exact tell_okK MIX (by intro f e h; cases h) (f := 26) (c := math_bits_OnesCount64_c) Tryd.func26 rfl (by kernel_rfl) _ rfl Tryd.ntmps26 (Nat.le_of_ble_eq_true rfl) math_bits_OnesCount64_h h
  · cases h
noncomputable def quorum_bit_c : Code := (Tryd.f27.body).getD .skip
def quorum_bit_h : Hint := (.two .n (.two (.two .n (.two (.two .n .n) .n)) (.two .n .n)))
noncomputable def quorum_bit_env (m : Nat) : Env := []
noncomputable abbrev quorum_bit_fin : KO (AV × List AObj) := tellFK Tryd.prog [.tmp 2]
noncomputable def quorum_bit (m : Nat) (t0 : AV) : RO := exec Tryd.prog GG (quorum_bit_env m) m 12 quorum_bit_c quorum_bit_h ⟨[], argsT 0 [t0]⟩ (quorum_bit_fin)
theorem quorum_bit_eq (m : Nat) (t0 : AV) : quorum_bit m t0 =
  binE none false .lss t0 (V (.int .i64 0)) fun t4 =>
  condE t4 (
   tellK [] (ro [] (V (.int .u64 0)))) (
   binE none false .gtr t0 (V (.int .i64 63)) fun t7 =>
   condE t7 (
   tellK [] (ro [] (V (.int .u64 0)))) (
   convE false (some .u64) true t0 fun t10 =>
   binE none false .shl (V (.int .u64 1)) t10 fun t11 =>
   tellK [] (ro [] t11))) := by
  refine (tellX Tryd.prog GG (quorum_bit_env m) m 12 quorum_bit_c quorum_bit_h ⟨[], argsT 0 [t0]⟩ [.tmp 2]).trans ?_
  kernel_rfl
noncomputable def quorum_bit_t (m : Nat) : List AV → RO | [t0] => quorum_bit m t0 | _ => none
theorem quorum_bit_ok (m : Nat) : ∀ args X H', quorum_bit_t m args = some (X, H') → ACp Tryd.prog GG 27 args X := by
  intro args X H' h
  unfold quorum_bit_t at h
  split at h
  · exact tell_okK MIX (by intro f e h; cases h) (f := 27) (c := quorum_bit_c) Tryd.func27 rfl (by kernel_rfl) _ rfl Tryd.ntmps27 (Nat.le_of_ble_eq_true rfl) quorum_bit_h h
  · cases h
noncomputable def quorum_With_c : Code := (Tryd.f22.body).getD .skip
def quorum_With_h : Hint := (.two .n (.two .n .n))
noncomputable def quorum_With_env (m : Nat) : Env := [(27, .tell (quorum_bit_t m))]
noncomputable abbrev quorum_With_fin : KO (AV × List AObj) := tellFK Tryd.prog [.tmp 4]
noncomputable def quorum_With (m : Nat) (t0 t1 : AV) : RO := exec Tryd.prog GG (quorum_With_env m) m 9 quorum_With_c quorum_With_h ⟨[], argsT 0 [t0, t1]⟩ (quorum_With_fin)
theorem quorum_With_eq (m : Nat) (t0 t1 : AV) : quorum_With m t0 t1 =
  tellE (quorum_bit m (ro [] t1)) [(ro [] t1)] fun t7 =>
  binE none false .or t0 t7 fun t8 =>
  tellK [] (ro [] t8) := by
  refine (tellX Tryd.prog GG (quorum_With_env m) m 9 quorum_With_c quorum_With_h ⟨[], argsT 0 [t0, t1]⟩ [.tmp 4]).trans ?_
  kernel_rfl
noncomputable def quorum_With_t (m : Nat) : List AV → RO | [t0, t1] => quorum_With m t0 t1 | _ => none
theorem quorum_With_ok (m : Nat) : ∀ args X H', quorum_With_t m args = some (X, H') → ACp Tryd.prog GG 22 args X := by
  intro args X H' h
  unfold quorum_With_t at h
  split at h
  · exact tell_okK MIX (by
    intro f e h
    simp only [quorum_With_env, Prod.mk.injEq, List.mem_cons, List.not_mem_nil, or_false] at h
    obtain ⟨rfl, rfl⟩ := h
    · exact quorum_bit_ok m) (f := 22) (c := quorum_With_c) Tryd.func22 rfl (by kernel_rfl) _ rfl Tryd.ntmps22 (Nat.le_of_ble_eq_true rfl) quorum_With_h h
  · cases h
noncomputable def quorum_Count_c : Code := (Tryd.f15.body).getD .skip
def quorum_Count_h : Hint := (.two .n (.two .n .n))
noncomputable def quorum_Count_env (m : Nat) : Env := [(26, .tell (math_bits_OnesCount64_t m))]
noncomputable abbrev quorum_Count_fin : KO (AV × List AObj) := tellFK Tryd.prog [.tmp 2]
noncomputable def quorum_Count (m : Nat) (t0 : AV) : RO := exec Tryd.prog GG (quorum_Count_env m) m 5 quorum_Count_c quorum_Count_h ⟨[], argsT 0 [t0]⟩ (quorum_Count_fin)
theorem quorum_Count_eq (m : Nat) (t0 : AV) : quorum_Count m t0 =
  tellE (math_bits_OnesCount64 m (ro [] t0)) [(ro [] t0)] fun t4 =>
  tellK [] (ro [] t4) := by
  refine (tellX Tryd.prog GG (quorum_Count_env m) m 5 quorum_Count_c quorum_Count_h ⟨[], argsT 0 [t0]⟩ [.tmp 2]).trans ?_
  kernel_rfl
noncomputable def quorum_Count_t (m : Nat) : List AV → RO | [t0] => quorum_Count m t0 | _ => none
theorem quorum_Count_ok (m : Nat) : ∀ args X H', quorum_Count_t m args = some (X, H') → ACp Tryd.prog GG 15 args X := by
  intro args X H' h
  unfold quorum_Count_t at h
  split at h
  · exact tell_okK MIX (by
    intro f e h
    simp only [quorum_Count_env, Prod.mk.injEq, List.mem_cons, List.not_mem_nil, or_false] at h
    obtain ⟨rfl, rfl⟩ := h
    · exact math_bits_OnesCount64_ok m) (f := 15) (c := quorum_Count_c) Tryd.func15 rfl (by kernel_rfl) _ rfl Tryd.ntmps15 (Nat.le_of_ble_eq_true rfl) quorum_Count_h h
  · cases h
noncomputable def quorum_All_c : Code := (Tryd.f16.body).getD .skip
def quorum_All_h : Hint := (.two .n (.two (.one (.two .n (.two (.two .n .n) (.two .n (.two (.two .n .n) .n))))) (.two .n .n)))
noncomputable def quorum_All_env (m : Nat) : Env := [(27, .tell (quorum_bit_t m))]
noncomputable abbrev quorum_All_fin : KO (AV × List AObj) := tellFK Tryd.prog [.tmp 2]
noncomputable def quorum_All (m : Nat) (t0 : AV) : RO := exec Tryd.prog GG (quorum_All_env m) m 12 quorum_All_c quorum_All_h ⟨[], argsT 0 [t0]⟩ (quorum_All_fin)
theorem quorum_All_eq (m : Nat) (t0 : AV) : quorum_All m t0 =
  binE none false .lss t0 (V (.int .i64 1)) fun t5 =>
  condE t5 (
   tellK [] (ro [] (V (.int .u64 0)))) (
   binE none false .gtr t0 (V (.int .i64 63)) fun t8 =>
   condE t8 (
    tellK [] (ro [] (V (.int .u64 18446744073709551615)))) (
    tellE (quorum_bit m (ro [] t0)) [(ro [] t0)] fun t10 =>
    binE none false .sub t10 (V (.int .u64 1)) fun t11 =>
    tellK [] (ro [] t11))) := by
  refine (tellX Tryd.prog GG (quorum_All_env m) m 12 quorum_All_c quorum_All_h ⟨[], argsT 0 [t0]⟩ [.tmp 2]).trans ?_
  kernel_rfl
noncomputable def quorum_All_t (m : Nat) : List AV → RO | [t0] => quorum_All m t0 | _ => none
theorem quorum_All_ok (m : Nat) : ∀ args X H', quorum_All_t m args = some (X, H') → ACp Tryd.prog GG 16 args X := by
  intro args X H' h
  unfold quorum_All_t at h
  split at h
  · exact tell_okK MIX (by
    intro f e h
    simp only [quorum_All_env, Prod.mk.injEq, List.mem_cons, List.not_mem_nil, or_false] at h
    obtain ⟨rfl, rfl⟩ := h
    · exact quorum_bit_ok m) (f := 16) (c := quorum_All_c) Tryd.func16 rfl (by kernel_rfl) _ rfl Tryd.ntmps16 (Nat.le_of_ble_eq_true rfl) quorum_All_h h
  · cases h
noncomputable def quorum_Faults_c : Code := (Tryd.f8.body).getD .skip
def quorum_Faults_h : Hint := (.two .n (.two (.two .n (.two (.two .n .n) .n)) (.two .n .n)))
noncomputable def quorum_Faults_env (m : Nat) : Env := []
noncomputable abbrev quorum_Faults_fin : KO (AV × List AObj) := tellFK Tryd.prog [.tmp 2, .tmp 3]
noncomputable def quorum_Faults (m : Nat) (t0 : AV) : RO := exec Tryd.prog GG (quorum_Faults_env m) m 17 quorum_Faults_c quorum_Faults_h ⟨[], argsT 0 [t0]⟩ (quorum_Faults_fin)
theorem quorum_Faults_eq (m : Nat) (t0 : AV) : quorum_Faults m t0 =
  binE none false .rem t0 (V (.int .i64 3)) fun t5 =>
  binE none false .neq t5 (V (.int .i64 1)) fun t6 =>
  condE t6 (
   tellK [] (ro [] (TU [noT (V (.int .i64 0)), noT (V (.int .i64 1))]))) (
   binE none false .lss t0 (V (.int .i64 4)) fun t9 =>
   condE t9 (
   tellK [] (ro [] (TU [noT (V (.int .i64 0)), noT (V (.int .i64 1))]))) (
   binE none false .gtr t0 (V (.int .i64 16)) fun t13 =>
   condE t13 (
   tellK [] (ro [] (TU [noT (V (.int .i64 0)), noT (V (.int .i64 1))]))) (
   binE none false .quo t0 (V (.int .i64 3)) fun t16 =>
   tellK [] (ro [] (TU [noT t16, noT (V (.int .i64 0))]))))) := by
  refine (tellX Tryd.prog GG (quorum_Faults_env m) m 17 quorum_Faults_c quorum_Faults_h ⟨[], argsT 0 [t0]⟩ [.tmp 2, .tmp 3]).trans ?_
  kernel_rfl
noncomputable def quorum_Faults_t (m : Nat) : List AV → RO | [t0] => quorum_Faults m t0 | _ => none
theorem quorum_Faults_ok (m : Nat) : ∀ args X H', quorum_Faults_t m args = some (X, H') → ACp Tryd.prog GG 8 args X := by
  intro args X H' h
  unfold quorum_Faults_t at h
  split at h
  · exact tell_okK MIX (by intro f e h; cases h) (f := 8) (c := quorum_Faults_c) Tryd.func8 rfl (by kernel_rfl) _ rfl Tryd.ntmps8 (Nat.le_of_ble_eq_true rfl) quorum_Faults_h h
  · cases h
noncomputable def quorum_Strong_c : Code := (Tryd.f10.body).getD .skip
def quorum_Strong_h : Hint := (.two .n (.two .n (.two (.two .n (.two (.two .n .n) .n)) (.two .n .n))))
noncomputable def quorum_Strong_env (m : Nat) : Env := [(8, .tell (quorum_Faults_t m))]
noncomputable abbrev quorum_Strong_fin : KO (AV × List AObj) := tellFK Tryd.prog [.tmp 2]
noncomputable def quorum_Strong (m : Nat) (t0 : AV) : RO := exec Tryd.prog GG (quorum_Strong_env m) m 15 quorum_Strong_c quorum_Strong_h ⟨[], argsT 0 [t0]⟩ (quorum_Strong_fin)
theorem quorum_Strong_eq (m : Nat) (t0 : AV) : quorum_Strong m t0 =
  tellE (quorum_Faults m (ro [] t0)) [(ro [] t0)] fun t7 =>
  extE t7 0 fun t8 =>
  extE t7 1 fun t9 =>
  binE none false .neq t9 (V (.int .i64 0)) fun t11 =>
  condE t11 (
   tellK [] (ro [] (V (.int .i64 0)))) (
   binE none false .mul (V (.int .i64 2)) t8 fun t13 =>
   binE none false .add t13 (V (.int .i64 1)) fun t14 =>
   tellK [] (ro [] t14)) := by
  refine (tellX Tryd.prog GG (quorum_Strong_env m) m 15 quorum_Strong_c quorum_Strong_h ⟨[], argsT 0 [t0]⟩ [.tmp 2]).trans ?_
  kernel_rfl
noncomputable def quorum_Strong_t (m : Nat) : List AV → RO | [t0] => quorum_Strong m t0 | _ => none
theorem quorum_Strong_ok (m : Nat) : ∀ args X H', quorum_Strong_t m args = some (X, H') → ACp Tryd.prog GG 10 args X := by
  intro args X H' h
  unfold quorum_Strong_t at h
  split at h
  · exact tell_okK MIX (by
    intro f e h
    simp only [quorum_Strong_env, Prod.mk.injEq, List.mem_cons, List.not_mem_nil, or_false] at h
    obtain ⟨rfl, rfl⟩ := h
    · exact quorum_Faults_ok m) (f := 10) (c := quorum_Strong_c) Tryd.func10 rfl (by kernel_rfl) _ rfl Tryd.ntmps10 (Nat.le_of_ble_eq_true rfl) quorum_Strong_h h
  · cases h
noncomputable def quorum_enough_c : Code := (Tryd.f25.body).getD .skip
def quorum_enough_h : Hint := (.two .n (.two .n .n))
noncomputable def quorum_enough_env (m : Nat) : Env := [(16, .tell (quorum_All_t m)), (15, .tell (quorum_Count_t m))]
noncomputable abbrev quorum_enough_fin : KO (AV × List AObj) := tellFK Tryd.prog [.tmp 6]
noncomputable def quorum_enough (m : Nat) (t0 t1 t2 : AV) : RO := exec Tryd.prog GG (quorum_enough_env m) m 18 quorum_enough_c quorum_enough_h ⟨[], argsT 0 [t0, t1, t2]⟩ (quorum_enough_fin)
theorem quorum_enough_eq (m : Nat) (t0 t1 t2 : AV) : quorum_enough m t0 t1 t2 =
  binE none false .gtr t2 (V (.int .i64 0)) fun t8 =>
  condE t8 (
   tellE (quorum_All m (ro [] t1)) [(ro [] t1)] fun t12 =>
   binE none false .and t0 t12 fun t13 =>
   tellE (quorum_Count m (ro [] t13)) [(ro [] t13)] fun t14 =>
   binE none false .geq t14 t2 fun t16 =>
   tellK [] (ro [] t16)) (
   tellK [] (ro [] (V (.bool false)))) := by
  refine (tellX Tryd.prog GG (quorum_enough_env m) m 18 quorum_enough_c quorum_enough_h ⟨[], argsT 0 [t0, t1, t2]⟩ [.tmp 6]).trans ?_
  kernel_rfl
noncomputable def quorum_enough_t (m : Nat) : List AV → RO | [t0, t1, t2] => quorum_enough m t0 t1 t2 | _ => none
theorem quorum_enough_ok (m : Nat) : ∀ args X H', quorum_enough_t m args = some (X, H') → ACp Tryd.prog GG 25 args X := by
  intro args X H' h
  unfold quorum_enough_t at h
  split at h
  · exact tell_okK MIX (by
    intro f e h
    simp only [quorum_enough_env, Prod.mk.injEq, List.mem_cons, List.not_mem_nil, or_false] at h
    rcases h with ⟨rfl, rfl⟩ | ⟨rfl, rfl⟩
    · exact quorum_All_ok m
    · exact quorum_Count_ok m) (f := 25) (c := quorum_enough_c) Tryd.func25 rfl (by kernel_rfl) _ rfl Tryd.ntmps25 (Nat.le_of_ble_eq_true rfl) quorum_enough_h h
  · cases h
noncomputable def quorum_IsStrong_c : Code := (Tryd.f13.body).getD .skip
def quorum_IsStrong_h : Hint := (.two .n (.two .n .n))
noncomputable def quorum_IsStrong_env (m : Nat) : Env := [(10, .tell (quorum_Strong_t m)), (25, .tell (quorum_enough_t m))]
noncomputable abbrev quorum_IsStrong_fin : KO (AV × List AObj) := tellFK Tryd.prog [.tmp 4]
noncomputable def quorum_IsStrong (m : Nat) (t0 t1 : AV) : RO := exec Tryd.prog GG (quorum_IsStrong_env m) m 10 quorum_IsStrong_c quorum_IsStrong_h ⟨[], argsT 0 [t0, t1]⟩ (quorum_IsStrong_fin)
theorem quorum_IsStrong_eq (m : Nat) (t0 t1 : AV) : quorum_IsStrong m t0 t1 =
  tellE (quorum_Strong m (ro [] t1)) [(ro [] t1)] fun t8 =>
  tellE (quorum_enough m (ro [] t0) (ro [] t1) (ro [] t8)) [(ro [] t0), (ro [] t1), (ro [] t8)] fun t9 =>
  tellK [] (ro [] t9) := by
  refine (tellX Tryd.prog GG (quorum_IsStrong_env m) m 10 quorum_IsStrong_c quorum_IsStrong_h ⟨[], argsT 0 [t0, t1]⟩ [.tmp 4]).trans ?_
  kernel_rfl
noncomputable def quorum_IsStrong_t (m : Nat) : List AV → RO | [t0, t1] => quorum_IsStrong m t0 t1 | _ => none
theorem quorum_IsStrong_ok (m : Nat) : ∀ args X H', quorum_IsStrong_t m args = some (X, H') → ACp Tryd.prog GG 13 args X := by
  intro args X H' h
  unfold quorum_IsStrong_t at h
  split at h
  · exact tell_okK MIX (by
    intro f e h
    simp only [quorum_IsStrong_env, Prod.mk.injEq, List.mem_cons, List.not_mem_nil, or_false] at h
    rcases h with ⟨rfl, rfl⟩ | ⟨rfl, rfl⟩
    · exact quorum_Strong_ok m
    · exact quorum_enough_ok m) (f := 13) (c := quorum_IsStrong_c) Tryd.func13 rfl (by kernel_rfl) _ rfl Tryd.ntmps13 (Nat.le_of_ble_eq_true rfl) quorum_IsStrong_h h
  · cases h
noncomputable def plenumref05_Faults_c : Code := (Tryd.f9.body).getD .skip
def plenumref05_Faults_h : Hint := (.two .n (.join [] (.two .n (.one (.lp [] [0, 3] [2] (.two (.two .n (.two .n .n)) (.two (.one (.two .n (.two (.two .n .n) .n))) .n))))) (.two .n .n)))
noncomputable def plenumref05_Faults_env (m : Nat) : Env := []
noncomputable abbrev plenumref05_Faults_fin : KO (AV × List AObj) := tellFK Tryd.prog [.tmp 2]
noncomputable def plenumref05_Faults_r1 (m : Nat) (s : ASt) : RO := joinW Tryd.prog GG (plenumref05_Faults_env m) m 14 (cdR (cdR plenumref05_Faults_c)) plenumref05_Faults_h.r.r s (plenumref05_Faults_fin)
noncomputable def plenumref05_Faults_b1 (m : Nat) (s : ASt) (kc : ASt → RO) (kx : KO (AV × List AObj)) : RO := bodyW Tryd.prog GG (plenumref05_Faults_env m) m 14 (cdL (cdL (cdR (cdL (cdR plenumref05_Faults_c))))) plenumref05_Faults_h.r.l.r.c.c [0, 3] [2] s kc kx
noncomputable def plenumref05_Faults (m : Nat) (t0 : AV) : RO := exec Tryd.prog GG (plenumref05_Faults_env m) m 14 plenumref05_Faults_c plenumref05_Faults_h ⟨[], argsT 0 [t0]⟩ (plenumref05_Faults_fin)
theorem plenumref05_Faults_r1_eq (m : Nat) (H : List AObj) : plenumref05_Faults_r1 m ⟨H, []⟩ =
  tellK H (ro H (V (.int .i64 0))) := by
  refine (joinW_eq Tryd.prog GG (plenumref05_Faults_env m) m 14 (cdR (cdR plenumref05_Faults_c)) plenumref05_Faults_h.r.r ⟨H, []⟩ (plenumref05_Faults_fin)).trans ?_
  kernel_rfl
theorem plenumref05_Faults_b1_eq (m : Nat) (H : List AObj) (t0 t3 : AV) (kc : ASt → RO) (kx : KO (AV × List AObj)) : plenumref05_Faults_b1 m ⟨H, [(0, t0), (3, t3)]⟩ kc kx =
  binE none false .leq t3 (V (.int .i64 5)) fun t5 =>
  condE t5 (
   binE none false .mul (V (.int .i64 3)) t3 fun t10 =>
   binE none false .add t10 (V (.int .i64 1)) fun t11 =>
   binE none false .eql t0 t11 fun t12 =>
   condE t12 (
    kx .ret ⟨H, [(2, t3)]⟩) (
    binE none false .add t3 (V (.int .i64 1)) fun t7 =>
    backE H.length H [(0, t0), (3, t7)] kc)) (
   kx (.exit 0) ⟨H, [(2, .nil)]⟩) := by
  refine (bodyW_eq Tryd.prog GG (plenumref05_Faults_env m) m 14 (cdL (cdL (cdR (cdL (cdR plenumref05_Faults_c))))) plenumref05_Faults_h.r.l.r.c.c [0, 3] [2] ⟨H, [(0, t0), (3, t3)]⟩ kc kx).trans ?_
  kernel_rfl
theorem plenumref05_Faults_eq (m : Nat) (t0 : AV) : plenumref05_Faults m t0 =
  iterC m (plenumref05_Faults_b1 m) ⟨[], [(0, t0), (3, (V (.int .i64 1)))]⟩ (blockK 0 (seqK (fun s => plenumref05_Faults_r1 m ⟨s.H, []⟩) (plenumref05_Faults_fin))) := by
  refine (tellX Tryd.prog GG (plenumref05_Faults_env m) m 14 plenumref05_Faults_c plenumref05_Faults_h ⟨[], argsT 0 [t0]⟩ [.tmp 2]).trans ?_
  kernel_rfl
noncomputable def plenumref05_Faults_t (m : Nat) : List AV → RO | [t0] => plenumref05_Faults m t0 | _ => none
theorem plenumref05_Faults_ok (m : Nat) : ∀ args X H', plenumref05_Faults_t m args = some (X, H') → ACp Tryd.prog GG 9 args X := by
  intro args X H' h
  unfold plenumref05_Faults_t at h
  split at h
  · exact tell_okK MIX (by intro f e h; cases h) (f := 9) (c := plenumref05_Faults_c) Tryd.func9 rfl (by kernel_rfl) _ rfl Tryd.ntmps9 (Nat.le_of_ble_eq_true rfl) plenumref05_Faults_h h
  · cases h
noncomputable def quorum_Replicas_c : Code := (Tryd.f7.body).getD .skip
def quorum_Replicas_h : Hint := (.two .n (.join [0] (.two .n (.two (.two .n .n) .n)) (.two .n .n)))
noncomputable def quorum_Replicas_env (m : Nat) : Env := []
noncomputable abbrev quorum_Replicas_fin : KO (AV × List AObj) := tellFK Tryd.prog [.tmp 2, .tmp 3]
noncomputable def quorum_Replicas_r1 (m : Nat) (s : ASt) : RO := joinW Tryd.prog GG (quorum_Replicas_env m) m 13 (cdR (cdR quorum_Replicas_c)) quorum_Replicas_h.r.r s (quorum_Replicas_fin)
noncomputable def quorum_Replicas (m : Nat) (t0 : AV) : RO := exec Tryd.prog GG (quorum_Replicas_env m) m 13 quorum_Replicas_c quorum_Replicas_h ⟨[], argsT 0 [t0]⟩ (quorum_Replicas_fin)
theorem quorum_Replicas_r1_eq (m : Nat) (H : List AObj) (t0 : AV) : quorum_Replicas_r1 m ⟨H, [(0, t0)]⟩ =
  binE none false .mul (V (.int .i64 3)) t0 fun t11 =>
  binE none false .add t11 (V (.int .i64 1)) fun t12 =>
  tellK H (ro H (TU [noT t12, noT (V (.int .i64 0))])) := by
  refine (joinW_eq Tryd.prog GG (quorum_Replicas_env m) m 13 (cdR (cdR quorum_Replicas_c)) quorum_Replicas_h.r.r ⟨H, [(0, t0)]⟩ (quorum_Replicas_fin)).trans ?_
  kernel_rfl
theorem quorum_Replicas_eq (m : Nat) (t0 : AV) : quorum_Replicas m t0 =
  binE none false .lss t0 (V (.int .i64 1)) fun t5 =>
  condE t5 (
   tellK [] (ro [] (TU [noT (V (.int .i64 0)), noT (V (.int .i64 1))]))) (
   binE none false .gtr t0 (V (.int .i64 5)) fun t8 =>
   condE t8 (
   tellK [] (ro [] (TU [noT (V (.int .i64 0)), noT (V (.int .i64 1))]))) (
   quorum_Replicas_r1 m ⟨[], [(0, t0)]⟩)) := by
  refine (tellX Tryd.prog GG (quorum_Replicas_env m) m 13 quorum_Replicas_c quorum_Replicas_h ⟨[], argsT 0 [t0]⟩ [.tmp 2, .tmp 3]).trans ?_
  kernel_rfl
noncomputable def quorum_Replicas_t (m : Nat) : List AV → RO | [t0] => quorum_Replicas m t0 | _ => none
theorem quorum_Replicas_ok (m : Nat) : ∀ args X H', quorum_Replicas_t m args = some (X, H') → ACp Tryd.prog GG 7 args X := by
  intro args X H' h
  unfold quorum_Replicas_t at h
  split at h
  · exact tell_okK MIX (by intro f e h; cases h) (f := 7) (c := quorum_Replicas_c) Tryd.func7 rfl (by kernel_rfl) _ rfl Tryd.ntmps7 (Nat.le_of_ble_eq_true rfl) quorum_Replicas_h h
  · cases h
noncomputable def quorum_Weak_c : Code := (Tryd.f11.body).getD .skip
def quorum_Weak_h : Hint := (.two .n (.two .n (.two (.two .n (.two (.two .n .n) .n)) (.two .n .n))))
noncomputable def quorum_Weak_env (m : Nat) : Env := [(8, .tell (quorum_Faults_t m))]
noncomputable abbrev quorum_Weak_fin : KO (AV × List AObj) := tellFK Tryd.prog [.tmp 2]
noncomputable def quorum_Weak (m : Nat) (t0 : AV) : RO := exec Tryd.prog GG (quorum_Weak_env m) m 14 quorum_Weak_c quorum_Weak_h ⟨[], argsT 0 [t0]⟩ (quorum_Weak_fin)
theorem quorum_Weak_eq (m : Nat) (t0 : AV) : quorum_Weak m t0 =
  tellE (quorum_Faults m (ro [] t0)) [(ro [] t0)] fun t7 =>
  extE t7 0 fun t8 =>
  extE t7 1 fun t9 =>
  binE none false .neq t9 (V (.int .i64 0)) fun t11 =>
  condE t11 (
   tellK [] (ro [] (V (.int .i64 0)))) (
   binE none false .add t8 (V (.int .i64 1)) fun t13 =>
   tellK [] (ro [] t13)) := by
  refine (tellX Tryd.prog GG (quorum_Weak_env m) m 14 quorum_Weak_c quorum_Weak_h ⟨[], argsT 0 [t0]⟩ [.tmp 2]).trans ?_
  kernel_rfl
noncomputable def quorum_Weak_t (m : Nat) : List AV → RO | [t0] => quorum_Weak m t0 | _ => none
theorem quorum_Weak_ok (m : Nat) : ∀ args X H', quorum_Weak_t m args = some (X, H') → ACp Tryd.prog GG 11 args X := by
  intro args X H' h
  unfold quorum_Weak_t at h
  split at h
  · exact tell_okK MIX (by
    intro f e h
    simp only [quorum_Weak_env, Prod.mk.injEq, List.mem_cons, List.not_mem_nil, or_false] at h
    obtain ⟨rfl, rfl⟩ := h
    · exact quorum_Faults_ok m) (f := 11) (c := quorum_Weak_c) Tryd.func11 rfl (by kernel_rfl) _ rfl Tryd.ntmps11 (Nat.le_of_ble_eq_true rfl) quorum_Weak_h h
  · cases h
noncomputable def quorum_IsWeak_c : Code := (Tryd.f14.body).getD .skip
def quorum_IsWeak_h : Hint := (.two .n (.two .n .n))
noncomputable def quorum_IsWeak_env (m : Nat) : Env := [(11, .tell (quorum_Weak_t m)), (25, .tell (quorum_enough_t m))]
noncomputable abbrev quorum_IsWeak_fin : KO (AV × List AObj) := tellFK Tryd.prog [.tmp 4]
noncomputable def quorum_IsWeak (m : Nat) (t0 t1 : AV) : RO := exec Tryd.prog GG (quorum_IsWeak_env m) m 10 quorum_IsWeak_c quorum_IsWeak_h ⟨[], argsT 0 [t0, t1]⟩ (quorum_IsWeak_fin)
theorem quorum_IsWeak_eq (m : Nat) (t0 t1 : AV) : quorum_IsWeak m t0 t1 =
  tellE (quorum_Weak m (ro [] t1)) [(ro [] t1)] fun t8 =>
  tellE (quorum_enough m (ro [] t0) (ro [] t1) (ro [] t8)) [(ro [] t0), (ro [] t1), (ro [] t8)] fun t9 =>
  tellK [] (ro [] t9) := by
  refine (tellX Tryd.prog GG (quorum_IsWeak_env m) m 10 quorum_IsWeak_c quorum_IsWeak_h ⟨[], argsT 0 [t0, t1]⟩ [.tmp 4]).trans ?_
  kernel_rfl
noncomputable def quorum_IsWeak_t (m : Nat) : List AV → RO | [t0, t1] => quorum_IsWeak m t0 t1 | _ => none
theorem quorum_IsWeak_ok (m : Nat) : ∀ args X H', quorum_IsWeak_t m args = some (X, H') → ACp Tryd.prog GG 14 args X := by
  intro args X H' h
  unfold quorum_IsWeak_t at h
  split at h
  · exact tell_okK MIX (by
    intro f e h
    simp only [quorum_IsWeak_env, Prod.mk.injEq, List.mem_cons, List.not_mem_nil, or_false] at h
    rcases h with ⟨rfl, rfl⟩ | ⟨rfl, rfl⟩
    · exact quorum_Weak_ok m
    · exact quorum_enough_ok m) (f := 14) (c := quorum_IsWeak_c) Tryd.func14 rfl (by kernel_rfl) _ rfl Tryd.ntmps14 (Nat.le_of_ble_eq_true rfl) quorum_IsWeak_h h
  · cases h
noncomputable def quorum_Has_c : Code := (Tryd.f21.body).getD .skip
def quorum_Has_h : Hint := (.two .n (.two .n .n))
noncomputable def quorum_Has_env (m : Nat) : Env := [(27, .tell (quorum_bit_t m))]
noncomputable abbrev quorum_Has_fin : KO (AV × List AObj) := tellFK Tryd.prog [.tmp 4]
noncomputable def quorum_Has (m : Nat) (t0 t1 : AV) : RO := exec Tryd.prog GG (quorum_Has_env m) m 10 quorum_Has_c quorum_Has_h ⟨[], argsT 0 [t0, t1]⟩ (quorum_Has_fin)
theorem quorum_Has_eq (m : Nat) (t0 t1 : AV) : quorum_Has m t0 t1 =
  tellE (quorum_bit m (ro [] t1)) [(ro [] t1)] fun t7 =>
  binE none false .and t0 t7 fun t8 =>
  binE none false .neq t8 (V (.int .u64 0)) fun t9 =>
  tellK [] (ro [] t9) := by
  refine (tellX Tryd.prog GG (quorum_Has_env m) m 10 quorum_Has_c quorum_Has_h ⟨[], argsT 0 [t0, t1]⟩ [.tmp 4]).trans ?_
  kernel_rfl
noncomputable def quorum_Has_t (m : Nat) : List AV → RO | [t0, t1] => quorum_Has m t0 t1 | _ => none
theorem quorum_Has_ok (m : Nat) : ∀ args X H', quorum_Has_t m args = some (X, H') → ACp Tryd.prog GG 21 args X := by
  intro args X H' h
  unfold quorum_Has_t at h
  split at h
  · exact tell_okK MIX (by
    intro f e h
    simp only [quorum_Has_env, Prod.mk.injEq, List.mem_cons, List.not_mem_nil, or_false] at h
    obtain ⟨rfl, rfl⟩ := h
    · exact quorum_bit_ok m) (f := 21) (c := quorum_Has_c) Tryd.func21 rfl (by kernel_rfl) _ rfl Tryd.ntmps21 (Nat.le_of_ble_eq_true rfl) quorum_Has_h h
  · cases h
noncomputable def quorum_Without_c : Code := (Tryd.f23.body).getD .skip
def quorum_Without_h : Hint := (.two .n (.two .n .n))
noncomputable def quorum_Without_env (m : Nat) : Env := [(27, .tell (quorum_bit_t m))]
noncomputable abbrev quorum_Without_fin : KO (AV × List AObj) := tellFK Tryd.prog [.tmp 4]
noncomputable def quorum_Without (m : Nat) (t0 t1 : AV) : RO := exec Tryd.prog GG (quorum_Without_env m) m 9 quorum_Without_c quorum_Without_h ⟨[], argsT 0 [t0, t1]⟩ (quorum_Without_fin)
theorem quorum_Without_eq (m : Nat) (t0 t1 : AV) : quorum_Without m t0 t1 =
  tellE (quorum_bit m (ro [] t1)) [(ro [] t1)] fun t7 =>
  binE none false .andNot t0 t7 fun t8 =>
  tellK [] (ro [] t8) := by
  refine (tellX Tryd.prog GG (quorum_Without_env m) m 9 quorum_Without_c quorum_Without_h ⟨[], argsT 0 [t0, t1]⟩ [.tmp 4]).trans ?_
  kernel_rfl
noncomputable def quorum_Without_t (m : Nat) : List AV → RO | [t0, t1] => quorum_Without m t0 t1 | _ => none
theorem quorum_Without_ok (m : Nat) : ∀ args X H', quorum_Without_t m args = some (X, H') → ACp Tryd.prog GG 23 args X := by
  intro args X H' h
  unfold quorum_Without_t at h
  split at h
  · exact tell_okK MIX (by
    intro f e h
    simp only [quorum_Without_env, Prod.mk.injEq, List.mem_cons, List.not_mem_nil, or_false] at h
    obtain ⟨rfl, rfl⟩ := h
    · exact quorum_bit_ok m) (f := 23) (c := quorum_Without_c) Tryd.func23 rfl (by kernel_rfl) _ rfl Tryd.ntmps23 (Nat.le_of_ble_eq_true rfl) quorum_Without_h h
  · cases h
noncomputable def quorum_Of_c : Code := (Tryd.f17.body).getD .skip
def quorum_Of_h : Hint := (.two .n (.two .n (.join [3] (.two .n (.one (.lp [] [3, 6, 7, 8] [3] (.two .n (.two (.two .n .n) (.two (.one (.two .n .n)) .n)))))) (.two .n .n))))
noncomputable def quorum_Of_env (m : Nat) : Env := [(22, .tell (quorum_With_t m))]
noncomputable abbrev quorum_Of_fin : KO (AV × List AObj) := tellFK Tryd.prog [.tmp 2]
noncomputable def quorum_Of_r1 (m : Nat) (s : ASt) : RO := joinW Tryd.prog GG (quorum_Of_env m) m 17 (cdR (cdR (cdR quorum_Of_c))) quorum_Of_h.r.r.r s (quorum_Of_fin)
noncomputable def quorum_Of_b1 (m : Nat) (s : ASt) (kc : ASt → RO) (kx : KO (AV × List AObj)) : RO := bodyW Tryd.prog GG (quorum_Of_env m) m 17 (cdL (cdL (cdR (cdL (cdR (cdR quorum_Of_c)))))) quorum_Of_h.r.r.l.r.c.c [3, 6, 7, 8] [3] s kc kx
noncomputable def quorum_Of (m : Nat) (t0 : AV) : RO := exec Tryd.prog GG (quorum_Of_env m) m 17 quorum_Of_c quorum_Of_h ⟨[], argsT 0 [t0]⟩ (quorum_Of_fin)
theorem quorum_Of_r1_eq (m : Nat) (H : List AObj) (t3 : AV) : quorum_Of_r1 m ⟨H, [(3, t3)]⟩ =
  tellK H (ro H t3) := by
  refine (joinW_eq Tryd.prog GG (quorum_Of_env m) m 17 (cdR (cdR (cdR quorum_Of_c))) quorum_Of_h.r.r.r ⟨H, [(3, t3)]⟩ (quorum_Of_fin)).trans ?_
  kernel_rfl
theorem quorum_Of_b1_eq (m : Nat) (H : List AObj) (t3 t6 t7 t8 : AV) (kc : ASt → RO) (kx : KO (AV × List AObj)) : quorum_Of_b1 m ⟨H, [(3, t3), (6, t6), (7, t7), (8, t8)]⟩ kc kx =
  binE none false .lss t8 t7 fun t9 =>
  condE t9 (
   idxSE 1 H t6 t8 fun t10 =>
   loadE 1 H t10 fun t11 =>
   tellE (quorum_With m (ro H t3) (ro H t11)) [(ro H t3), (ro H t11)] fun t14 =>
   binE none false .add t8 (V (.int .i64 1)) fun t15 =>
   backE H.length H [(3, t14), (6, t6), (7, t7), (8, t15)] kc) (
   kx (.exit 0) ⟨H, [(3, t3)]⟩) := by
  refine (bodyW_eq Tryd.prog GG (quorum_Of_env m) m 17 (cdL (cdL (cdR (cdL (cdR (cdR quorum_Of_c)))))) quorum_Of_h.r.r.l.r.c.c [3, 6, 7, 8] [3] ⟨H, [(3, t3), (6, t6), (7, t7), (8, t8)]⟩ kc kx).trans ?_
  kernel_rfl
theorem quorum_Of_eq (m : Nat) (t0 : AV) : quorum_Of m t0 =
  lenE false true [] t0 fun t7 =>
  iterC m (quorum_Of_b1 m) ⟨[], [(3, (V (.int .u64 0))), (6, t0), (7, t7), (8, (V (.int .i64 0)))]⟩ (blockK 0 (seqK (fun s => quorum_Of_r1 m ⟨s.H, [(3, gt s.T 3)]⟩) (quorum_Of_fin))) := by
  refine (tellX Tryd.prog GG (quorum_Of_env m) m 17 quorum_Of_c quorum_Of_h ⟨[], argsT 0 [t0]⟩ [.tmp 2]).trans ?_
  kernel_rfl
noncomputable def quorum_Of_t (m : Nat) : List AV → RO | [t0] => quorum_Of m t0 | _ => none
theorem quorum_Of_ok (m : Nat) : ∀ args X H', quorum_Of_t m args = some (X, H') → ACp Tryd.prog GG 17 args X := by
  intro args X H' h
  unfold quorum_Of_t at h
  split at h
  · exact tell_okK MIX (by
    intro f e h
    simp only [quorum_Of_env, Prod.mk.injEq, List.mem_cons, List.not_mem_nil, or_false] at h
    obtain ⟨rfl, rfl⟩ := h
    · exact quorum_With_ok m) (f := 17) (c := quorum_Of_c) Tryd.func17 rfl (by kernel_rfl) _ rfl Tryd.ntmps17 (Nat.le_of_ble_eq_true rfl) quorum_Of_h h
  · cases h
noncomputable def quorum_Primary_c : Code := (Tryd.f24.body).getD .skip
def quorum_Primary_h : Hint := (.two .n (.two (.two .n (.two (.two .n .n) .n)) (.two .n (.two (.two .n (.two .n .n)) (.two .n .n)))))
noncomputable def quorum_Primary_env (m : Nat) : Env := []
noncomputable abbrev quorum_Primary_fin : KO (AV × List AObj) := tellFK Tryd.prog [.tmp 4]
noncomputable def quorum_Primary (m : Nat) (t0 t1 : AV) : RO := exec Tryd.prog GG (quorum_Primary_env m) m 17 quorum_Primary_c quorum_Primary_h ⟨[], argsT 0 [t0, t1]⟩ (quorum_Primary_fin)
theorem quorum_Primary_eq (m : Nat) (t0 t1 : AV) : quorum_Primary m t0 t1 =
  binE none false .lss t1 (V (.int .i64 1)) fun t7 =>
  condE t7 (
   tellK [] (ro [] (V (.int .i64 0)))) (
   binE none false .rem t0 t1 fun t10 =>
   binE none false .lss t10 (V (.int .i64 0)) fun t12 =>
   condE t12 (
    binE none false .add t10 t1 fun t15 =>
    tellK [] (ro [] t15)) (
    tellK [] (ro [] t10))) := by
  refine (tellX Tryd.prog GG (quorum_Primary_env m) m 17 quorum_Primary_c quorum_Primary_h ⟨[], argsT 0 [t0, t1]⟩ [.tmp 4]).trans ?_
  kernel_rfl
noncomputable def quorum_Primary_t (m : Nat) : List AV → RO | [t0, t1] => quorum_Primary m t0 t1 | _ => none
theorem quorum_Primary_ok (m : Nat) : ∀ args X H', quorum_Primary_t m args = some (X, H') → ACp Tryd.prog GG 24 args X := by
  intro args X H' h
  unfold quorum_Primary_t at h
  split at h
  · exact tell_okK MIX (by intro f e h; cases h) (f := 24) (c := quorum_Primary_c) Tryd.func24 rfl (by kernel_rfl) _ rfl Tryd.ntmps24 (Nat.le_of_ble_eq_true rfl) quorum_Primary_h h
  · cases h
noncomputable def plenumref05_Has_c : Code := (Tryd.f18.body).getD .skip
def plenumref05_Has_h : Hint := (.two .n (.join [0, 1] (.two .n (.two (.two .n .n) .n)) (.two .n (.join [5] (.two .n (.one (.lp [] [1, 5, 6] [5] (.two (.two .n (.two .n .n)) (.two (.one .n) .n))))) (.two .n .n)))))
noncomputable def plenumref05_Has_env (m : Nat) : Env := []
noncomputable abbrev plenumref05_Has_fin : KO (AV × List AObj) := tellFK Tryd.prog [.tmp 4]
noncomputable def plenumref05_Has_r2 (m : Nat) (s : ASt) : RO := joinW Tryd.prog GG (plenumref05_Has_env m) m 24 (cdR (cdR (cdR (cdR plenumref05_Has_c)))) plenumref05_Has_h.r.r.r.r s (plenumref05_Has_fin)
noncomputable def plenumref05_Has_b1 (m : Nat) (s : ASt) (kc : ASt → RO) (kx : KO (AV × List AObj)) : RO := bodyW Tryd.prog GG (plenumref05_Has_env m) m 24 (cdL (cdL (cdR (cdL (cdR (cdR (cdR plenumref05_Has_c))))))) plenumref05_Has_h.r.r.r.l.r.c.c [1, 5, 6] [5] s kc kx
noncomputable def plenumref05_Has_r1 (m : Nat) (s : ASt) : RO := joinW Tryd.prog GG (plenumref05_Has_env m) m 24 (cdR (cdR plenumref05_Has_c)) plenumref05_Has_h.r.r s (plenumref05_Has_fin)
noncomputable def plenumref05_Has (m : Nat) (t0 t1 : AV) : RO := exec Tryd.prog GG (plenumref05_Has_env m) m 24 plenumref05_Has_c plenumref05_Has_h ⟨[], argsT 0 [t0, t1]⟩ (plenumref05_Has_fin)
theorem plenumref05_Has_r2_eq (m : Nat) (H : List AObj) (t5 : AV) : plenumref05_Has_r2 m ⟨H, [(5, t5)]⟩ =
  binE none false .rem t5 (V (.int .u64 2)) fun t22 =>
  binE none false .eql t22 (V (.int .u64 1)) fun t23 =>
  tellK H (ro H t23) := by
  refine (joinW_eq Tryd.prog GG (plenumref05_Has_env m) m 24 (cdR (cdR (cdR (cdR plenumref05_Has_c)))) plenumref05_Has_h.r.r.r.r ⟨H, [(5, t5)]⟩ (plenumref05_Has_fin)).trans ?_
  kernel_rfl
theorem plenumref05_Has_b1_eq (m : Nat) (H : List AObj) (t1 t5 t6 : AV) (kc : ASt → RO) (kx : KO (AV × List AObj)) : plenumref05_Has_b1 m ⟨H, [(1, t1), (5, t5), (6, t6)]⟩ kc kx =
  binE none false .lss t6 t1 fun t16 =>
  condE t16 (
   binE none false .quo t5 (V (.int .u64 2)) fun t20 =>
   binE none false .add t6 (V (.int .i64 1)) fun t18 =>
   backE H.length H [(1, t1), (5, t20), (6, t18)] kc) (
   kx (.exit 0) ⟨H, [(5, t5)]⟩) := by
  refine (bodyW_eq Tryd.prog GG (plenumref05_Has_env m) m 24 (cdL (cdL (cdR (cdL (cdR (cdR (cdR plenumref05_Has_c))))))) plenumref05_Has_h.r.r.r.l.r.c.c [1, 5, 6] [5] ⟨H, [(1, t1), (5, t5), (6, t6)]⟩ kc kx).trans ?_
  kernel_rfl
theorem plenumref05_Has_r1_eq (m : Nat) (H : List AObj) (t0 t1 : AV) : plenumref05_Has_r1 m ⟨H, [(0, t0), (1, t1)]⟩ =
  iterC m (plenumref05_Has_b1 m) ⟨H, [(1, t1), (5, t0), (6, (V (.int .i64 0)))]⟩ (blockK 0 (seqK (fun s => plenumref05_Has_r2 m ⟨s.H, [(5, gt s.T 5)]⟩) (plenumref05_Has_fin))) := by
  refine (joinW_eq Tryd.prog GG (plenumref05_Has_env m) m 24 (cdR (cdR plenumref05_Has_c)) plenumref05_Has_h.r.r ⟨H, [(0, t0), (1, t1)]⟩ (plenumref05_Has_fin)).trans ?_
  kernel_rfl
theorem plenumref05_Has_eq (m : Nat) (t0 t1 : AV) : plenumref05_Has m t0 t1 =
  binE none false .lss t1 (V (.int .i64 0)) fun t8 =>
  condE t8 (
   tellK [] (ro [] (V (.bool false)))) (
   binE none false .gtr t1 (V (.int .i64 63)) fun t11 =>
   condE t11 (
   tellK [] (ro [] (V (.bool false)))) (
   plenumref05_Has_r1 m ⟨[], [(0, t0), (1, t1)]⟩)) := by
  refine (tellX Tryd.prog GG (plenumref05_Has_env m) m 24 plenumref05_Has_c plenumref05_Has_h ⟨[], argsT 0 [t0, t1]⟩ [.tmp 4]).trans ?_
  kernel_rfl
noncomputable def plenumref05_Has_t (m : Nat) : List AV → RO | [t0, t1] => plenumref05_Has m t0 t1 | _ => none
theorem plenumref05_Has_ok (m : Nat) : ∀ args X H', plenumref05_Has_t m args = some (X, H') → ACp Tryd.prog GG 18 args X := by
  intro args X H' h
  unfold plenumref05_Has_t at h
  split at h
  · exact tell_okK MIX (by intro f e h; cases h) (f := 18) (c := plenumref05_Has_c) Tryd.func18 rfl (by kernel_rfl) _ rfl Tryd.ntmps18 (Nat.le_of_ble_eq_true rfl) plenumref05_Has_h h
  · cases h
noncomputable def plenumref05_List_c : Code := (Tryd.f20.body).getD .skip
def plenumref05_List_h : Hint := (.two .n (.two .n (.join [3] (.two .n (.one (.lp [(3, ty_int, 1)] [0, 3, 4] [3] (.two (.two .n (.two .n .n)) (.two (.one (.two .n (.two .n .n))) .n))))) (.two .n .n))))
noncomputable def plenumref05_List_env (m : Nat) : Env := [(18, .tell (plenumref05_Has_t m))]
noncomputable abbrev plenumref05_List_fin : KO (AV × List AObj) := tellFK Tryd.prog [.tmp 2]
noncomputable def plenumref05_List_r1 (m : Nat) (s : ASt) : RO := joinW Tryd.prog GG (plenumref05_List_env m) m 17 (cdR (cdR (cdR plenumref05_List_c))) plenumref05_List_h.r.r.r s (plenumref05_List_fin)
noncomputable def plenumref05_List_b1 (m : Nat) (s : ASt) (kc : ASt → RO) (kx : KO (AV × List AObj)) : RO := bodyW Tryd.prog GG (plenumref05_List_env m) m 17 (cdL (cdL (cdR (cdL (cdR (cdR plenumref05_List_c)))))) plenumref05_List_h.r.r.l.r.c.c [0, 3, 4] [3] s kc kx
noncomputable def plenumref05_List (m : Nat) (t0 : AV) : RO := exec Tryd.prog GG (plenumref05_List_env m) m 17 plenumref05_List_c plenumref05_List_h ⟨[], argsT 0 [t0]⟩ (plenumref05_List_fin)
theorem plenumref05_List_r1_eq (m : Nat) (H : List AObj) (t3 : AV) : plenumref05_List_r1 m ⟨H, [(3, t3)]⟩ =
  tellK H (ro H t3) := by
  refine (joinW_eq Tryd.prog GG (plenumref05_List_env m) m 17 (cdR (cdR (cdR plenumref05_List_c))) plenumref05_List_h.r.r.r ⟨H, [(3, t3)]⟩ (plenumref05_List_fin)).trans ?_
  kernel_rfl
theorem plenumref05_List_b1_eq (m : Nat) (H : List AObj) (t0 t3 t4 : AV) (kc : ASt → RO) (kx : KO (AV × List AObj)) : plenumref05_List_b1 m ⟨H, [(0, t0), (3, t3), (4, t4)]⟩ kc kx =
  binE none false .lss t4 (V (.int .i64 64)) fun t6 =>
  condE t6 (
   tellE (plenumref05_Has m (ro H t0) (ro H t4)) [(ro H t0), (ro H t4)] fun t11 =>
   condE t11 (
    buildSE (some (ty_int, 1)) 1 [(0, t4)] fun t14 =>
    appE (some (ty_int, 1)) H t3 t14 fun t15 H2 =>
    binE none false .add t4 (V (.int .i64 1)) fun t8 =>
    backE H.length H2 [(0, t0), (3, t15), (4, t8)] kc) (
    binE none false .add t4 (V (.int .i64 1)) fun t8 =>
    backE H.length H [(0, t0), (3, t3), (4, t8)] kc)) (
   kx (.exit 0) ⟨H, [(3, t3)]⟩) := by
  refine (bodyW_eq Tryd.prog GG (plenumref05_List_env m) m 17 (cdL (cdL (cdR (cdL (cdR (cdR plenumref05_List_c)))))) plenumref05_List_h.r.r.l.r.c.c [0, 3, 4] [3] ⟨H, [(0, t0), (3, t3), (4, t4)]⟩ kc kx).trans ?_
  kernel_rfl
theorem plenumref05_List_eq (m : Nat) (t0 : AV) : plenumref05_List m t0 =
  rowE (V (.slice none 0 0)) ty_int 1 [] fun t3 H1 =>
  iterC m (plenumref05_List_b1 m) ⟨H1, [(0, t0), (3, t3), (4, (V (.int .i64 0)))]⟩ (blockK 0 (seqK (fun s => plenumref05_List_r1 m ⟨s.H, [(3, gt s.T 3)]⟩) (plenumref05_List_fin))) := by
  refine (tellX Tryd.prog GG (plenumref05_List_env m) m 17 plenumref05_List_c plenumref05_List_h ⟨[], argsT 0 [t0]⟩ [.tmp 2]).trans ?_
  kernel_rfl
noncomputable def plenumref05_List_t (m : Nat) : List AV → RO | [t0] => plenumref05_List m t0 | _ => none
theorem plenumref05_List_ok (m : Nat) : ∀ args X H', plenumref05_List_t m args = some (X, H') → ACp Tryd.prog GG 20 args X := by
  intro args X H' h
  unfold plenumref05_List_t at h
  split at h
  · exact tell_okK MIX (by
    intro f e h
    simp only [plenumref05_List_env, Prod.mk.injEq, List.mem_cons, List.not_mem_nil, or_false] at h
    obtain ⟨rfl, rfl⟩ := h
    · exact plenumref05_Has_ok m) (f := 20) (c := plenumref05_List_c) Tryd.func20 rfl (by kernel_rfl) _ rfl Tryd.ntmps20 (Nat.le_of_ble_eq_true rfl) plenumref05_List_h h
  · cases h
end Go.Proofs.YtlhnkljpidgjgaaDoor

namespace Go.Proofs.YtlhnkljpidgjgaaDoor
set_option linter.unusedVariables false
set_option linter.unusedSimpArgs false
def setL (s : Nat) : List Nat := (List.range 64).filter s.testBit
def cntS (s : Nat) : Nat := (setL s).length
def bv : List Nat → Nat
  | [] => 0
  | b :: r => 2 ^ 8 * bv r + b
theorem and_cons {h b m c : Nat} (hb : b < 2 ^ 8) (hc : c < 2 ^ 8) : (2 ^ 8 * h + b) &&& (2 ^ 8 * m + c) = 2 ^ 8 * (h &&& m) + (b &&& c) := by
  have hbc : b &&& c < 2 ^ 8 := Nat.lt_of_le_of_lt Nat.and_le_left hb
  refine Nat.eq_of_testBit_eq fun j => ?_
  rw [Nat.testBit_and, Nat.testBit_two_pow_mul_add _ hb, Nat.testBit_two_pow_mul_add _ hc, Nat.testBit_two_pow_mul_add _ hbc]
  split
  · rw [Nat.testBit_and]
  · rw [Nat.testBit_and]
theorem shr_and_cons {h b m c k : Nat} (hk : k ≤ 8) (hb : b < 2 ^ 8) (hc : c < 2 ^ (8 - k)) : (2 ^ 8 * h + b) / 2 ^ k &&& (2 ^ 8 * m + c) = 2 ^ 8 * (h / 2 ^ k &&& m) + (b / 2 ^ k &&& c) := by
  have hc8 : c < 2 ^ 8 := Nat.lt_of_lt_of_le hc (Nat.pow_le_pow_right (by decide) (by omega))
  have hbc : b / 2 ^ k &&& c < 2 ^ 8 := Nat.lt_of_le_of_lt Nat.and_le_right hc8
  refine Nat.eq_of_testBit_eq fun j => ?_
  rw [Nat.testBit_and, Nat.testBit_div_two_pow, Nat.testBit_two_pow_mul_add _ hb, Nat.testBit_two_pow_mul_add _ hc8, Nat.testBit_two_pow_mul_add _ hbc]
  by_cases hj : j < 8
  · rw [if_pos hj, if_pos hj, Nat.testBit_and, Nat.testBit_div_two_pow]
    by_cases hjk : j + k < 8
    · rw [if_pos hjk]
    · have : c.testBit j = false := Nat.testBit_lt_two_pow (Nat.lt_of_lt_of_le hc (Nat.pow_le_pow_right (by decide) (by omega)))
      rw [this, Bool.and_false, Bool.and_false]
  · rw [if_neg hj, if_neg hj, if_neg (by omega), Nat.testBit_and, Nat.testBit_div_two_pow]
    congr 2
    omega
def msk (c w : Nat) : Nat := bv (List.replicate w c)
def oc1 (w x : Nat) : Nat := (x / 2 ^ 1 &&& msk 85 w) + (x &&& msk 85 w)
def oc2 (w x : Nat) : Nat := (x / 2 ^ 2 &&& msk 51 w) + (x &&& msk 51 w)
def oc3 (w x : Nat) : Nat := (x / 2 ^ 4 + x) &&& msk 15 w
def f1 (b : Nat) : Nat := (b / 2 ^ 1 &&& 85) + (b &&& 85)
def f2 (b : Nat) : Nat := (b / 2 ^ 2 &&& 51) + (b &&& 51)
def f3 (b : Nat) : Nat := (b / 16 + b) &&& 15
theorem msk_cons (c w : Nat) : msk c (w + 1) = 2 ^ 8 * msk c w + c := rfl
theorem oc1_bv : ∀ (l : List Nat), (∀ b ∈ l, b < 2 ^ 8) → oc1 l.length (bv l) = bv (l.map f1)
  | [], _ => rfl
  | b :: r, h => by
    have ih := oc1_bv r fun x hx => h x (List.mem_cons_of_mem _ hx)
    have hb := h b (List.mem_cons_self ..)
    simp only [List.map_cons, bv, List.length_cons]
    rw [← ih]
    unfold oc1
    rw [msk_cons, shr_and_cons (by decide) hb (by decide), and_cons hb (by decide)]
    unfold f1
    omega
theorem oc2_bv : ∀ (l : List Nat), (∀ b ∈ l, b < 2 ^ 8) → oc2 l.length (bv l) = bv (l.map f2)
  | [], _ => rfl
  | b :: r, h => by
    have ih := oc2_bv r fun x hx => h x (List.mem_cons_of_mem _ hx)
    have hb := h b (List.mem_cons_self ..)
    simp only [List.map_cons, bv, List.length_cons]
    rw [← ih]
    unfold oc2
    rw [msk_cons, shr_and_cons (by decide) hb (by decide), and_cons hb (by decide)]
    unfold f2
    omega
def q4 (b : Nat) : Bool := decide (b % 16 ≤ 4) && decide (b / 16 ≤ 4)
theorem and15 (x : Nat) : x &&& 15 = x % 16 := Nat.and_two_pow_sub_one_eq_mod x 4
theorem oc3_bv : ∀ (l : List Nat), (∀ b ∈ l, q4 b = true) → oc3 l.length (bv l) = bv (l.map f3)
  | [], _ => rfl
  | b :: r, h => by
    have ih := oc3_bv r fun x hx => h x (List.mem_cons_of_mem _ hx)
    have hb := h b (List.mem_cons_self ..)
    unfold q4 at hb
    simp only [Bool.and_eq_true, decide_eq_true_eq] at hb
    have hr : bv r % 16 ≤ 4 := by
      cases r with
      | nil => exact Nat.zero_le _
      | cons c r' =>
        have hc := h c (List.mem_cons_of_mem _ (List.mem_cons_self ..))
        unfold q4 at hc
        simp only [Bool.and_eq_true, decide_eq_true_eq] at hc
        simp only [bv]
        omega
    simp only [List.map_cons, bv, List.length_cons]
    rw [← ih]
    unfold oc3
    rw [msk_cons]
    have e : (2 ^ 8 * bv r + b) / 2 ^ 4 + (2 ^ 8 * bv r + b) = 2 ^ 8 * (bv r / 2 ^ 4 + bv r) + (16 * (bv r % 16) + b / 16 + b) := by omega
    rw [e, and_cons (by omega) (by decide)]
    unfold f3
    rw [and15, and15]
    omega
def p8 (b : Nat) : Nat := ((List.range 8).filter b.testBit).length
theorem f_all : ∀ b, b < 256 → f1 b < 256 ∧ f2 (f1 b) < 256 ∧ q4 (f2 (f1 b)) = true ∧ f3 (f2 (f1 b)) = p8 b ∧ p8 b ≤ 8 := by decide +kernel
theorem range_add (n : Nat) : ∀ k, List.range (n + k) = List.range n ++ (List.range k).map (n + ·)
  | 0 => by simp
  | k + 1 => by rw [← Nat.add_assoc, List.range_succ, range_add n k, List.range_succ, List.map_append, ← List.append_assoc]; rfl
theorem cnt_bv : ∀ (l : List Nat), (∀ b ∈ l, b < 2 ^ 8) → ((List.range (8 * l.length)).filter (bv l).testBit).length = (l.map p8).sum
  | [], _ => rfl
  | b :: r, h => by
    have ih := cnt_bv r fun x hx => h x (List.mem_cons_of_mem _ hx)
    have hb := h b (List.mem_cons_self ..)
    simp only [List.length_cons, List.map_cons, List.sum_cons, bv]
    rw [show 8 * (r.length + 1) = 8 + 8 * r.length by omega, range_add, List.filter_append, List.length_append, List.filter_map, List.length_map]
    congr 1
    · unfold p8
      congr 1
      refine List.filter_congr fun i hi => ?_
      rw [Nat.testBit_two_pow_mul_add _ hb, if_pos (List.mem_range.1 hi)]
    · rw [← ih]
      congr 1
      refine List.filter_congr fun i hi => ?_
      show (2 ^ 8 * bv r + b).testBit (8 + i) = _
      rw [Nat.testBit_two_pow_mul_add _ hb, if_neg (by omega)]
      congr 1; omega
theorem as_bytes (s : Nat) (h : s < 2 ^ 64) : ∃ b0 b1 b2 b3 b4 b5 b6 b7 : Nat, s = bv [b0, b1, b2, b3, b4, b5, b6, b7] ∧ ∀ b ∈ [b0, b1, b2, b3, b4, b5, b6, b7], b < 2 ^ 8 := by
  refine ⟨s % 256, s / 256 % 256, s / 65536 % 256, s / 16777216 % 256, s / 4294967296 % 256, s / 1099511627776 % 256, s / 281474976710656 % 256, s / 72057594037927936 % 256, ?_, ?_⟩
  · simp only [bv]; omega
  · intro b hb
    simp only [List.mem_cons, List.not_mem_nil, or_false] at hb
    omega
theorem msk85 : msk 85 8 = 6148914691236517205 := by decide
theorem msk51 : msk 51 8 = 3689348814741910323 := by decide
theorem msk15 : msk 15 8 = 1085102592571150095 := by decide
theorem oc_sum (s : Nat) (h : s < 2 ^ 64) : ∃ c0 c1 c2 c3 c4 c5 c6 c7 : Nat, oc3 8 (oc2 8 (oc1 8 s)) = bv [c0, c1, c2, c3, c4, c5, c6, c7] ∧ (c0 ≤ 8 ∧ c1 ≤ 8 ∧ c2 ≤ 8 ∧ c3 ≤ 8 ∧ c4 ≤ 8 ∧ c5 ≤ 8 ∧ c6 ≤ 8 ∧ c7 ≤ 8) ∧ cntS s = c0 + c1 + c2 + c3 + c4 + c5 + c6 + c7 ∧ oc1 8 s < 2 ^ 64 ∧ oc2 8 (oc1 8 s) < 2 ^ 64 := by
  obtain ⟨b0, b1, b2, b3, b4, b5, b6, b7, rfl, hb⟩ := as_bytes s h
  have hlt : ∀ l : List Nat, l.length = 8 → (∀ b ∈ l, b < 256) → bv l < 2 ^ 64 := by
    intro l hl hb
    match l, hl with
    | [a0, a1, a2, a3, a4, a5, a6, a7], _ =>
      have h0 := hb a0 (by simp); have h1 := hb a1 (by simp); have h2 := hb a2 (by simp); have h3 := hb a3 (by simp)
      have h4 := hb a4 (by simp); have h5 := hb a5 (by simp); have h6 := hb a6 (by simp); have h7 := hb a7 (by simp)
      simp only [bv]; omega
  generalize hl : [b0, b1, b2, b3, b4, b5, b6, b7] = l at *
  have hlen : l.length = 8 := by rw [← hl]; rfl
  have e1 := oc1_bv l hb
  have hb1 : ∀ b ∈ l.map f1, b < 2 ^ 8 := fun b h => by
    obtain ⟨x, hx, rfl⟩ := List.mem_map.1 h
    exact (f_all x (hb x hx)).1
  have e2 := oc2_bv (l.map f1) hb1
  have hb2 : ∀ b ∈ (l.map f1).map f2, b < 2 ^ 8 := fun b h => by
    rw [List.map_map] at h
    obtain ⟨x, hx, rfl⟩ := List.mem_map.1 h
    exact (f_all x (hb x hx)).2.1
  have e3 := oc3_bv ((l.map f1).map f2) fun b h => by
    rw [List.map_map] at h
    obtain ⟨x, hx, rfl⟩ := List.mem_map.1 h
    exact (f_all x (hb x hx)).2.2.1
  have hc := cnt_bv l hb
  rw [hlen] at e1 hc
  rw [List.length_map, hlen] at e2
  rw [List.length_map, List.length_map, hlen] at e3
  have hp : ((l.map f1).map f2).map f3 = l.map p8 := by
    rw [List.map_map, List.map_map]
    exact List.map_congr_left fun x hx => (f_all x (hb x hx)).2.2.2.1
  rw [hp] at e3
  rw [e1, e2, e3]
  have h8 : ∀ x ∈ l, p8 x ≤ 8 := fun x hx => (f_all x (hb x hx)).2.2.2.2
  have l1 := hlt (l.map f1) (by simp [hlen]) hb1
  have l2 := hlt ((l.map f1).map f2) (by simp [hlen]) hb2
  refine ⟨p8 b0, p8 b1, p8 b2, p8 b3, p8 b4, p8 b5, p8 b6, p8 b7, by rw [← hl]; rfl, ?_, ?_, l1, l2⟩
  · subst hl
    exact ⟨h8 _ (by simp), h8 _ (by simp), h8 _ (by simp), h8 _ (by simp), h8 _ (by simp), h8 _ (by simp), h8 _ (by simp), h8 _ (by simp)⟩
  · show ((List.range (8 * 8)).filter (bv l).testBit).length = _
    rw [hc, ← hl]
    simp only [List.map_cons, List.map_nil, List.sum_cons, List.sum_nil]
    omega
theorem dv {a h m : Nat} (ha : a < m) : (a + m * h) / m = h := by
  rw [Nat.add_mul_div_left _ _ (by omega), Nat.div_eq_of_lt ha, Nat.zero_add]
theorem ln1 (c0 c1 c2 c3 c4 c5 c6 c7 : Nat) : (c0 + 256 * (c1 + 256 * (c2 + 256 * (c3 + 256 * (c4 + 256 * (c5 + 256 * (c6 + 256 * c7))))))) + (c1 + 256 * (c2 + 256 * (c3 + 256 * (c4 + 256 * (c5 + 256 * (c6 + 256 * c7)))))) =
    (c0 + c1 + 256 * (c1 + c2)) + 65536 * ((c2 + c3) + 256 * (c3 + c4 + 256 * (c4 + c5 + 256 * (c5 + c6 + 256 * (c6 + c7 + 256 * c7))))) := by omega
theorem ln2 (c0 c1 c2 c3 c4 c5 c6 c7 : Nat) : ((c0 + c1 + 256 * (c1 + c2)) + 65536 * ((c2 + c3) + 256 * (c3 + c4 + 256 * (c4 + c5 + 256 * (c5 + c6 + 256 * (c6 + c7 + 256 * c7)))))) + ((c2 + c3) + 256 * (c3 + c4 + 256 * (c4 + c5 + 256 * (c5 + c6 + 256 * (c6 + c7 + 256 * c7))))) =
    ((c0 + c1 + c2 + c3) + 256 * ((c1 + c2 + c3 + c4) + 256 * ((c2 + c3 + c4 + c5) + 256 * (c3 + c4 + c5 + c6)))) + 4294967296 * ((c4 + c5 + c6 + c7) + 256 * ((c5 + c6 + c7) + 256 * ((c6 + c7) + 256 * c7))) := by omega
theorem ln3 (c0 c1 c2 c3 c4 c5 c6 c7 : Nat) : (((c0 + c1 + c2 + c3) + 256 * ((c1 + c2 + c3 + c4) + 256 * ((c2 + c3 + c4 + c5) + 256 * (c3 + c4 + c5 + c6)))) + 4294967296 * ((c4 + c5 + c6 + c7) + 256 * ((c5 + c6 + c7) + 256 * ((c6 + c7) + 256 * c7)))) + ((c4 + c5 + c6 + c7) + 256 * ((c5 + c6 + c7) + 256 * ((c6 + c7) + 256 * c7))) =
    (c0 + c1 + c2 + c3 + c4 + c5 + c6 + c7) + 128 * (2 * ((c1 + c2 + c3 + c4 + c5 + c6 + c7) + 256 * ((c2 + c3 + c4 + c5 + c6 + c7) + 256 * (c3 + c4 + c5 + c6 + c7)) + 16777216 * ((c4 + c5 + c6 + c7) + 256 * ((c5 + c6 + c7) + 256 * ((c6 + c7) + 256 * c7))))) := by omega
theorem bv8 (c0 c1 c2 c3 c4 c5 c6 c7 : Nat) : bv [c0, c1, c2, c3, c4, c5, c6, c7] = c0 + 256 * (c1 + 256 * (c2 + 256 * (c3 + 256 * (c4 + 256 * (c5 + 256 * (c6 + 256 * c7)))))) := by
  simp only [bv]; omega
theorem oc_all (s : Nat) (h : s < 2 ^ 64) : ∃ x y z, oc3 8 (oc2 8 (oc1 8 s)) = x ∧ x < 2 ^ 60 ∧ x + x / 256 = y ∧ y < 2 ^ 61 ∧ y + y / 65536 = z ∧ z < 2 ^ 62 ∧ z + z / 4294967296 < 2 ^ 63 ∧ (z + z / 4294967296) % 128 = cntS s ∧ cntS s ≤ 64 := by
  obtain ⟨c0, c1, c2, c3, c4, c5, c6, c7, e, ⟨h0, h1, h2, h3, h4, h5, h6, h7⟩, hc, _, _⟩ := oc_sum s h
  have a1 := dv (a := c0) (m := 256) (h := c1 + 256 * (c2 + 256 * (c3 + 256 * (c4 + 256 * (c5 + 256 * (c6 + 256 * c7)))))) (by omega)
  have a2 := dv (a := c0 + c1 + 256 * (c1 + c2)) (m := 65536) (h := (c2 + c3) + 256 * (c3 + c4 + 256 * (c4 + c5 + 256 * (c5 + c6 + 256 * (c6 + c7 + 256 * c7))))) (by omega)
  have a3 := dv (a := (c0 + c1 + c2 + c3) + 256 * ((c1 + c2 + c3 + c4) + 256 * ((c2 + c3 + c4 + c5) + 256 * (c3 + c4 + c5 + c6)))) (m := 4294967296) (h := (c4 + c5 + c6 + c7) + 256 * ((c5 + c6 + c7) + 256 * ((c6 + c7) + 256 * c7))) (by omega)
  refine ⟨_, _, _, e.trans (bv8 ..), ?_, (congrArg _ a1).trans (ln1 ..), ?_, (congrArg _ a2).trans (ln2 ..), ?_, ?_, ?_, ?_⟩
  · clear a1 a2 a3 hc; omega
  · clear a1 a2 a3 hc; omega
  · clear a1 a2 a3 hc; omega
  · rw [a3]; clear a1 a2 a3 hc; omega
  · rw [a3, ln3, hc, Nat.add_mul_mod_self_left]
    exact Nat.mod_eq_of_lt (by clear a1 a2 a3 hc; omega)
  · clear a1 a2 a3; omega
end Go.Proofs.YtlhnkljpidgjgaaDoor

namespace Go.Proofs.YtlhnkljpidgjgaaDoor
open Go.RowKit
set_option linter.unusedVariables false
set_option linter.unusedSimpArgs false
set_option maxRecDepth 20000
theorem wrap_u64n (a : Nat) (h : a < 2 ^ 64) : IntKind.u64.wrap (a : Int) = (a : Int) := by
  rw [IntKind.wrap_u64]; omega
theorem fdiv_nat (a n : Nat) : (a : Int).fdiv (2 ^ n) = ((a / 2 ^ n : Nat) : Int) := by
  have e : (2 : Int) ^ n = ((2 ^ n : Nat) : Int) := by norm_cast
  rw [e, Int.fdiv_eq_ediv_of_nonneg _ (Int.natCast_nonneg _), Int.natCast_ediv]
section
variable {R : Type} {K : AV → Option R} {k : IntKind}
theorem q_shr {a n : Nat} {b : Int} (hb : b = (n : Int)) (hn : n ≤ 64) : binE none false .shr (qA a) (V (.int k b)) K = K (qA (a / 2 ^ n)) := by
  subst hb
  rw [u_shr, show min (n : Int).toNat IntKind.u64.bits = n by show min (n : Int).toNat 64 = n; rw [Int.toNat_natCast]; omega, fdiv_nat, show decide (0 ≤ (n : Int)) = true by simp]
  rfl
theorem q_and {a b : Nat} {c : Int} (hc : c = (b : Int)) (ha : a < 2 ^ 64) (hb : b < 2 ^ 64) : binE none false .and (qA a) (V (.int .u64 c)) K = K (qA (a &&& b)) := by
  subst hc
  rw [u_and, bits_and_u64_nat a b ha hb]
theorem q_or {a b : Nat} (ha : a < 2 ^ 64) (hb : b < 2 ^ 64) : binE none false .or (qA a) (qA b) K = K (qA (a ||| b)) := by
  rw [u_or, bits_or_u64_nat a b ha hb]
theorem q_add {a b : Nat} (h : a + b < 2 ^ 64) : binE none false .add (qA a) (qA b) K = K (qA (a + b)) := by
  rw [u_add, show ((a : Int) + (b : Int)) = ((a + b : Nat) : Int) by omega, wrap_u64n _ h]
end
theorem q_tell {R : Type} {K : AV → Option R} {X d : AV} {H' : List AObj} (h : ltT 0 d = true) : tellE (some (X, H')) [d] K = K X := by
  rw [u_tell, show List.all [d] (ltT 0) = true by simp [h]]; rfl
theorem dlt {a n m : Nat} (h : a < m) : a / n < m := Nat.lt_of_le_of_lt (Nat.div_le_self ..) h
theorem ones_s (m s : Nat) (h : s < 2 ^ 64) : math_bits_OnesCount64 m (qA s) = some (nA (cntS s), []) := by
  obtain ⟨x, y, z, e1, hx, e2, hy, e3, hz, hw, hm, hc⟩ := oc_all s h
  obtain ⟨_, _, _, _, _, _, _, _, _, _, _, l1, l2⟩ := oc_sum s h
  have b85 : msk 85 8 < 2 ^ 64 := by rw [msk85]; decide
  have b51 : msk 51 8 < 2 ^ 64 := by rw [msk51]; decide
  have b15 : msk 15 8 < 2 ^ 64 := by rw [msk15]; decide
  have c85 : (6148914691236517205 : Int) = ((msk 85 8 : Nat) : Int) := by rw [msk85]; rfl
  have c51 : (3689348814741910323 : Int) = ((msk 51 8 : Nat) : Int) := by rw [msk51]; rfl
  have c15 : (1085102592571150095 : Int) = ((msk 15 8 : Nat) : Int) := by rw [msk15]; rfl
  have l3 : oc2 8 (oc1 8 s) < 2 ^ 63 := by
    unfold oc2
    have a1 : oc1 8 s / 2 ^ 2 &&& msk 51 8 ≤ msk 51 8 := Nat.and_le_right
    have a2 : oc1 8 s &&& msk 51 8 ≤ msk 51 8 := Nat.and_le_right
    rw [msk51] at a1 a2 ⊢
    omega
  have l4 : oc2 8 (oc1 8 s) / 2 ^ 4 + oc2 8 (oc1 8 s) < 2 ^ 64 := by omega
  rw [math_bits_OnesCount64_eq]
  rw [q_shr (a := s) (b := 1) (n := 1) rfl (by decide), q_and c85 (dlt h) b85, q_and c85 h b85, q_add (a := s / 2 ^ 1 &&& msk 85 8) (b := s &&& msk 85 8) l1]
  rw [show (s / 2 ^ 1 &&& msk 85 8) + (s &&& msk 85 8) = oc1 8 s from rfl]
  rw [q_shr (b := 2) (n := 2) rfl (by decide), q_and c51 (dlt l1) b51, q_and c51 l1 b51, q_add (a := oc1 8 s / 2 ^ 2 &&& msk 51 8) (b := oc1 8 s &&& msk 51 8) l2]
  rw [show (oc1 8 s / 2 ^ 2 &&& msk 51 8) + (oc1 8 s &&& msk 51 8) = oc2 8 (oc1 8 s) from rfl]
  rw [q_shr (b := 4) (n := 4) rfl (by decide), q_add l4, q_and c15 l4 b15]
  rw [show (oc2 8 (oc1 8 s) / 2 ^ 4 + oc2 8 (oc1 8 s)) &&& msk 15 8 = x from e1]
  rw [q_shr (b := 8) (n := 8) rfl (by decide), q_add (by rw [show 2 ^ 8 = 256 from rfl, e2]; omega), show x + x / 2 ^ 8 = y from e2]
  rw [q_shr (b := 16) (n := 16) rfl (by decide), q_add (by rw [show 2 ^ 16 = 65536 from rfl, e3]; omega), show y + y / 2 ^ 16 = z from e3]
  rw [q_shr (b := 32) (n := 32) rfl (by decide), q_add (by rw [show 2 ^ 32 = 4294967296 from rfl]; omega), show z + z / 2 ^ 32 = z + z / 4294967296 from rfl]
  rw [u_iconv, w_i64 (by omega) (by omega), u_and, i64_and127, show (((z + z / 4294967296 : Nat) : Int) % 128) = (cntS s : Int) by omega]
  rfl
def qb (i : Int) : Nat := if 0 ≤ i ∧ i ≤ 63 then 2 ^ i.toNat else 0
theorem qb_lt (i : Int) : qb i < 2 ^ 64 := by
  unfold qb
  split
  · exact Nat.pow_lt_pow_right (by decide) (by omega)
  · decide
theorem bit_s (m : Nat) (i : Int) : quorum_bit m (nA i) = some (qA (qb i), []) := by
  rw [quorum_bit_eq]
  by_cases h0 : i < 0
  · rw [u_lss, show decide (i < 0) = true by simpa using h0, u_condT]
    unfold qb
    rw [if_neg (by omega)]
    rfl
  · rw [u_lss, show decide (i < 0) = false by simpa using h0, u_condF]
    by_cases h9 : 63 < i
    · rw [u_gtr, show decide (63 < i) = true by simpa using h9, u_condT]
      unfold qb
      rw [if_neg (by omega)]
      rfl
    · rw [u_gtr, show decide (63 < i) = false by simpa using h9, u_condF, u_iconv, w_u64 (by omega) (by omega)]
      obtain ⟨n, rfl⟩ : ∃ n : Nat, i = n := ⟨i.toNat, by omega⟩
      have e : qb n = 2 ^ n := by unfold qb; rw [if_pos (by omega)]; simp
      have hlt := qb_lt n
      rw [e] at hlt
      rw [u_shl, show min (n : Int).toNat IntKind.u64.bits = n by show min (n : Int).toNat 64 = n; rw [Int.toNat_natCast]; omega, show decide (0 ≤ (n : Int)) = true by simp, e]
      rw [show ((1 : Int) * 2 ^ n) = ((2 ^ n : Nat) : Int) by rw [Int.one_mul]; norm_cast, wrap_u64n _ hlt]
      rfl
theorem with_s (m s : Nat) (i : Int) (h : s < 2 ^ 64) : quorum_With m (qA s) (nA i) = some (qA (s ||| qb i), []) := by
  have hb := bit_s m i
  rw [quorum_With_eq]
  rw [show (ro [] (nA i)) = nA i from rfl, hb, q_tell rfl]
  rw [q_or h (qb_lt i)]
  rfl
theorem count_s (m s : Nat) (h : s < 2 ^ 64) : quorum_Count m (qA s) = some (nA (cntS s), []) := by
  have hb := ones_s m s h
  rw [quorum_Count_eq]
  rw [show (ro [] (qA s)) = qA s from rfl, hb, q_tell rfl]
  rfl
theorem bitw {s : Nat} {i : Int} {j : Nat} (hj : j < 64) : (s ||| qb i).testBit j = (s.testBit j || decide (i = j)) := by
  rw [Nat.testBit_or]
  congr 1
  unfold qb
  split
  · rw [Nat.testBit_two_pow]
    rw [Bool.eq_iff_iff]; simp; omega
  · rw [Nat.zero_testBit, eq_comm, decide_eq_false_iff_not]; omega
end Go.Proofs.YtlhnkljpidgjgaaDoor

namespace Go.Proofs.YtlhnkljpidgjgaaDoor
open Go.RowKit
set_option linter.unusedVariables false
set_option linter.unusedSimpArgs false
set_option maxRecDepth 20000
def allN (n : Int) : Nat := if n < 1 then 0 else if 63 < n then 2 ^ 64 - 1 else 2 ^ n.toNat - 1
theorem allN_lt (n : Int) : allN n < 2 ^ 64 := by
  unfold allN
  split
  · decide
  · split
    · decide
    · have : 2 ^ n.toNat < 2 ^ 64 := Nat.pow_lt_pow_right (by decide) (by omega)
      omega
theorem allN_bit {n : Int} {j : Nat} (hj : j < 64) : (allN n).testBit j = decide ((j : Int) < n) := by
  unfold allN
  split
  · rw [Nat.zero_testBit, eq_comm, decide_eq_false_iff_not]; omega
  · split
    · rw [Nat.testBit_two_pow_sub_one, decide_eq_decide]; omega
    · rw [Nat.testBit_two_pow_sub_one, decide_eq_decide]; omega
theorem q_sub1 {R : Type} {K : AV → Option R} {a : Nat} (h : 1 ≤ a) (ha : a < 2 ^ 64) : binE none false .sub (qA a) (V (.int .u64 1)) K = K (qA (a - 1)) := by
  rw [u_sub, show ((a : Int) - 1) = ((a - 1 : Nat) : Int) by omega, wrap_u64n _ (by omega)]
theorem all_s (m : Nat) (n : Int) : quorum_All m (nA n) = some (qA (allN n), []) := by
  have hb := bit_s m n
  rw [quorum_All_eq, show (ro [] (nA n)) = nA n from rfl, hb]
  unfold allN
  by_cases h0 : n < 1
  · rw [u_lss, show decide (n < 1) = true by simpa using h0, u_condT, if_pos h0]
    rfl
  · rw [u_lss, show decide (n < 1) = false by simpa using h0, u_condF, if_neg h0]
    by_cases h9 : 63 < n
    · rw [u_gtr, show decide (63 < n) = true by simpa using h9, u_condT, if_pos h9]
      rfl
    · have hp : 1 ≤ qb n := by unfold qb; rw [if_pos (by omega)]; exact Nat.one_le_two_pow
      rw [u_gtr, show decide (63 < n) = false by simpa using h9, u_condF, if_neg h9, q_tell rfl, q_sub1 hp (qb_lt n)]
      unfold qb
      rw [if_pos (by omega)]
      rfl
def okN (n : Int) : Bool := decide (n.tmod 3 = 1) && !decide (n < 4) && !decide (16 < n)
theorem okN_iff {n : Int} : okN n = true ↔ n = 4 ∨ n = 7 ∨ n = 10 ∨ n = 13 ∨ n = 16 := by
  unfold okN
  simp only [Bool.and_eq_true, decide_eq_true_eq, Bool.not_eq_true', decide_eq_false_iff_not]
  constructor
  · rintro ⟨⟨h1, h2⟩, h3⟩
    rw [Int.tmod_eq_emod_of_nonneg (by omega)] at h1
    omega
  · rintro (rfl | rfl | rfl | rfl | rfl) <;> decide
def fN (n : Int) : Nat := if okN n then (n / 3).toNat else 0
theorem fN_le (n : Int) : fN n ≤ 5 := by
  unfold fN
  split
  · rename_i h; have := okN_iff.1 h; omega
  · decide
theorem faults_s (m : Nat) (n : Int) : quorum_Faults m (nA n) = some (TU [nA (fN n), nA (if okN n then 0 else 1)], []) := by
  rw [quorum_Faults_eq]
  unfold fN okN
  by_cases h1 : n.tmod 3 = 1
  · by_cases h2 : n < 4
    · simp (config := {maxSteps := 4000000, implicitDefEqProofs := false}) only [go_sem, ↓reduceIte, Nat.reduceAdd, Nat.reduceSub, Nat.reduceMul, Nat.reduceLeDiff, Nat.reduceLT, Int.reduceEq, Int.reduceNe, Int.reduceLT, Int.reduceLE, Int.reduceAdd, Int.reduceSub, Int.reduceMul, Int.reduceNeg, Nat.zero_add, Nat.add_zero, Nat.mul_one, Int.toNat_natCast, Int.natCast_zero, Int.cast_ofNat_Int, or_false, false_or, or_true, true_or, Int.reduceToNat, Nat.sub_zero, Int.natCast_nonneg, Int.toNat_zero, Bool.true_and, Bool.and_true, Bool.false_and, Bool.and_false, Bool.true_or, Bool.or_true, Bool.false_or, Bool.or_false, Bool.not_true, Bool.not_false, Bool.not_not, true_and, and_true, false_and, and_false, not_true_eq_false, not_false_eq_true, eq_self, decide_true, decide_false, ne_eq, implies_true, forall_const, true_implies, false_implies, Bool.true_eq_false, Bool.false_eq_true, reduceCtorEq, List.map_cons, List.map_nil, List.all_cons, List.all_nil, List.length_cons, List.length_nil, List.length_map, List.length_append, List.nil_append, List.cons_append, List.set_cons_zero, List.set_cons_succ, List.set_nil, List.drop_zero, List.drop_succ_cons, List.drop_nil, List.take_zero, List.take_succ_cons, List.take_nil, Option.map_some, Option.map_none, Option.isSome_some, Nat.reduceEqDiff, Nat.reduceBEq, Nat.reduceGT, List.all_append, List.all_map, Function.comp_def, decide_eq_true_eq, Bool.and_eq_true, beq_self_eq_true, or_self, and_self, ite_true, ite_false, Nat.le_refl, Bool.not_eq_true, decide_not, Bool.not_eq_true', decide_eq_false_iff_not, Bool.not_eq_false, Bool.or_eq_true, if_true, if_false, ite_self, h1, h2]
    · by_cases h3 : 16 < n
      · simp (config := {maxSteps := 4000000, implicitDefEqProofs := false}) only [go_sem, ↓reduceIte, Nat.reduceAdd, Nat.reduceSub, Nat.reduceMul, Nat.reduceLeDiff, Nat.reduceLT, Int.reduceEq, Int.reduceNe, Int.reduceLT, Int.reduceLE, Int.reduceAdd, Int.reduceSub, Int.reduceMul, Int.reduceNeg, Nat.zero_add, Nat.add_zero, Nat.mul_one, Int.toNat_natCast, Int.natCast_zero, Int.cast_ofNat_Int, or_false, false_or, or_true, true_or, Int.reduceToNat, Nat.sub_zero, Int.natCast_nonneg, Int.toNat_zero, Bool.true_and, Bool.and_true, Bool.false_and, Bool.and_false, Bool.true_or, Bool.or_true, Bool.false_or, Bool.or_false, Bool.not_true, Bool.not_false, Bool.not_not, true_and, and_true, false_and, and_false, not_true_eq_false, not_false_eq_true, eq_self, decide_true, decide_false, ne_eq, implies_true, forall_const, true_implies, false_implies, Bool.true_eq_false, Bool.false_eq_true, reduceCtorEq, List.map_cons, List.map_nil, List.all_cons, List.all_nil, List.length_cons, List.length_nil, List.length_map, List.length_append, List.nil_append, List.cons_append, List.set_cons_zero, List.set_cons_succ, List.set_nil, List.drop_zero, List.drop_succ_cons, List.drop_nil, List.take_zero, List.take_succ_cons, List.take_nil, Option.map_some, Option.map_none, Option.isSome_some, Nat.reduceEqDiff, Nat.reduceBEq, Nat.reduceGT, List.all_append, List.all_map, Function.comp_def, decide_eq_true_eq, Bool.and_eq_true, beq_self_eq_true, or_self, and_self, ite_true, ite_false, Nat.le_refl, Bool.not_eq_true, decide_not, Bool.not_eq_true', decide_eq_false_iff_not, Bool.not_eq_false, Bool.or_eq_true, if_true, if_false, ite_self, h1, h2, h3]
      · have e : n.tdiv 3 = ((n / 3).toNat : Int) := by rw [Int.tdiv_eq_ediv_of_nonneg (by omega)]; omega
        have e2 : IntKind.i64.wrap (n.tdiv 3) = ((n / 3).toNat : Int) := by rw [w_i64 (by omega) (by omega), e]
        simp (config := {maxSteps := 4000000, implicitDefEqProofs := false}) only [go_sem, ↓reduceIte, Nat.reduceAdd, Nat.reduceSub, Nat.reduceMul, Nat.reduceLeDiff, Nat.reduceLT, Int.reduceEq, Int.reduceNe, Int.reduceLT, Int.reduceLE, Int.reduceAdd, Int.reduceSub, Int.reduceMul, Int.reduceNeg, Nat.zero_add, Nat.add_zero, Nat.mul_one, Int.toNat_natCast, Int.natCast_zero, Int.cast_ofNat_Int, or_false, false_or, or_true, true_or, Int.reduceToNat, Nat.sub_zero, Int.natCast_nonneg, Int.toNat_zero, Bool.true_and, Bool.and_true, Bool.false_and, Bool.and_false, Bool.true_or, Bool.or_true, Bool.false_or, Bool.or_false, Bool.not_true, Bool.not_false, Bool.not_not, true_and, and_true, false_and, and_false, not_true_eq_false, not_false_eq_true, eq_self, decide_true, decide_false, ne_eq, implies_true, forall_const, true_implies, false_implies, Bool.true_eq_false, Bool.false_eq_true, reduceCtorEq, List.map_cons, List.map_nil, List.all_cons, List.all_nil, List.length_cons, List.length_nil, List.length_map, List.length_append, List.nil_append, List.cons_append, List.set_cons_zero, List.set_cons_succ, List.set_nil, List.drop_zero, List.drop_succ_cons, List.drop_nil, List.take_zero, List.take_succ_cons, List.take_nil, Option.map_some, Option.map_none, Option.isSome_some, Nat.reduceEqDiff, Nat.reduceBEq, Nat.reduceGT, List.all_append, List.all_map, Function.comp_def, decide_eq_true_eq, Bool.and_eq_true, beq_self_eq_true, or_self, and_self, ite_true, ite_false, Nat.le_refl, Bool.not_eq_true, decide_not, Bool.not_eq_true', decide_eq_false_iff_not, Bool.not_eq_false, Bool.or_eq_true, if_true, if_false, ite_self, h1, h2, h3, e2]
  · simp (config := {maxSteps := 4000000, implicitDefEqProofs := false}) only [go_sem, ↓reduceIte, Nat.reduceAdd, Nat.reduceSub, Nat.reduceMul, Nat.reduceLeDiff, Nat.reduceLT, Int.reduceEq, Int.reduceNe, Int.reduceLT, Int.reduceLE, Int.reduceAdd, Int.reduceSub, Int.reduceMul, Int.reduceNeg, Nat.zero_add, Nat.add_zero, Nat.mul_one, Int.toNat_natCast, Int.natCast_zero, Int.cast_ofNat_Int, or_false, false_or, or_true, true_or, Int.reduceToNat, Nat.sub_zero, Int.natCast_nonneg, Int.toNat_zero, Bool.true_and, Bool.and_true, Bool.false_and, Bool.and_false, Bool.true_or, Bool.or_true, Bool.false_or, Bool.or_false, Bool.not_true, Bool.not_false, Bool.not_not, true_and, and_true, false_and, and_false, not_true_eq_false, not_false_eq_true, eq_self, decide_true, decide_false, ne_eq, implies_true, forall_const, true_implies, false_implies, Bool.true_eq_false, Bool.false_eq_true, reduceCtorEq, List.map_cons, List.map_nil, List.all_cons, List.all_nil, List.length_cons, List.length_nil, List.length_map, List.length_append, List.nil_append, List.cons_append, List.set_cons_zero, List.set_cons_succ, List.set_nil, List.drop_zero, List.drop_succ_cons, List.drop_nil, List.take_zero, List.take_succ_cons, List.take_nil, Option.map_some, Option.map_none, Option.isSome_some, Nat.reduceEqDiff, Nat.reduceBEq, Nat.reduceGT, List.all_append, List.all_map, Function.comp_def, decide_eq_true_eq, Bool.and_eq_true, beq_self_eq_true, or_self, and_self, ite_true, ite_false, Nat.le_refl, Bool.not_eq_true, decide_not, Bool.not_eq_true', decide_eq_false_iff_not, Bool.not_eq_false, Bool.or_eq_true, if_true, if_false, ite_self, h1]
theorem strong_s (m : Nat) (n : Int) : quorum_Strong m (nA n) = some (nA (if okN n then 2 * (fN n : Int) + 1 else 0), []) := by
  have h := faults_s m n
  have hl := fN_le n
  rw [quorum_Strong_eq]
  have e1 : IntKind.i64.wrap (2 * (fN n : Int)) = 2 * (fN n : Int) := w_i64 (by omega) (by omega)
  have e2 : IntKind.i64.wrap (2 * (fN n : Int) + 1) = 2 * (fN n : Int) + 1 := w_i64 (by omega) (by omega)
  cases ho : okN n with
  | true => rw [ho] at h; simp (config := {maxSteps := 4000000, implicitDefEqProofs := false}) only [go_sem, ↓reduceIte, Nat.reduceAdd, Nat.reduceSub, Nat.reduceMul, Nat.reduceLeDiff, Nat.reduceLT, Int.reduceEq, Int.reduceNe, Int.reduceLT, Int.reduceLE, Int.reduceAdd, Int.reduceSub, Int.reduceMul, Int.reduceNeg, Nat.zero_add, Nat.add_zero, Nat.mul_one, Int.toNat_natCast, Int.natCast_zero, Int.cast_ofNat_Int, or_false, false_or, or_true, true_or, Int.reduceToNat, Nat.sub_zero, Int.natCast_nonneg, Int.toNat_zero, Bool.true_and, Bool.and_true, Bool.false_and, Bool.and_false, Bool.true_or, Bool.or_true, Bool.false_or, Bool.or_false, Bool.not_true, Bool.not_false, Bool.not_not, true_and, and_true, false_and, and_false, not_true_eq_false, not_false_eq_true, eq_self, decide_true, decide_false, ne_eq, implies_true, forall_const, true_implies, false_implies, Bool.true_eq_false, Bool.false_eq_true, reduceCtorEq, List.map_cons, List.map_nil, List.all_cons, List.all_nil, List.length_cons, List.length_nil, List.length_map, List.length_append, List.nil_append, List.cons_append, List.set_cons_zero, List.set_cons_succ, List.set_nil, List.drop_zero, List.drop_succ_cons, List.drop_nil, List.take_zero, List.take_succ_cons, List.take_nil, Option.map_some, Option.map_none, Option.isSome_some, Nat.reduceEqDiff, Nat.reduceBEq, Nat.reduceGT, List.all_append, List.all_map, Function.comp_def, decide_eq_true_eq, Bool.and_eq_true, beq_self_eq_true, or_self, and_self, ite_true, ite_false, Nat.le_refl, Bool.not_eq_true, decide_not, Bool.not_eq_true', decide_eq_false_iff_not, Bool.not_eq_false, Bool.or_eq_true, if_true, if_false, ite_self, h, ho, e1, e2]
  | false => rw [ho] at h; simp (config := {maxSteps := 4000000, implicitDefEqProofs := false}) only [go_sem, ↓reduceIte, Nat.reduceAdd, Nat.reduceSub, Nat.reduceMul, Nat.reduceLeDiff, Nat.reduceLT, Int.reduceEq, Int.reduceNe, Int.reduceLT, Int.reduceLE, Int.reduceAdd, Int.reduceSub, Int.reduceMul, Int.reduceNeg, Nat.zero_add, Nat.add_zero, Nat.mul_one, Int.toNat_natCast, Int.natCast_zero, Int.cast_ofNat_Int, or_false, false_or, or_true, true_or, Int.reduceToNat, Nat.sub_zero, Int.natCast_nonneg, Int.toNat_zero, Bool.true_and, Bool.and_true, Bool.false_and, Bool.and_false, Bool.true_or, Bool.or_true, Bool.false_or, Bool.or_false, Bool.not_true, Bool.not_false, Bool.not_not, true_and, and_true, false_and, and_false, not_true_eq_false, not_false_eq_true, eq_self, decide_true, decide_false, ne_eq, implies_true, forall_const, true_implies, false_implies, Bool.true_eq_false, Bool.false_eq_true, reduceCtorEq, List.map_cons, List.map_nil, List.all_cons, List.all_nil, List.length_cons, List.length_nil, List.length_map, List.length_append, List.nil_append, List.cons_append, List.set_cons_zero, List.set_cons_succ, List.set_nil, List.drop_zero, List.drop_succ_cons, List.drop_nil, List.take_zero, List.take_succ_cons, List.take_nil, Option.map_some, Option.map_none, Option.isSome_some, Nat.reduceEqDiff, Nat.reduceBEq, Nat.reduceGT, List.all_append, List.all_map, Function.comp_def, decide_eq_true_eq, Bool.and_eq_true, beq_self_eq_true, or_self, and_self, ite_true, ite_false, Nat.le_refl, Bool.not_eq_true, decide_not, Bool.not_eq_true', decide_eq_false_iff_not, Bool.not_eq_false, Bool.or_eq_true, if_true, if_false, ite_self, h, ho]
theorem enough_s (m s : Nat) (n k : Int) (h : s < 2 ^ 64) : quorum_enough m (qA s) (nA n) (nA k) = some (bA (decide (0 < k) && decide (k ≤ (cntS (s &&& allN n) : Int))), []) := by
  have hlt := allN_lt n
  have ha := all_s m n
  have hc := count_s m (s &&& allN n) (Nat.lt_of_le_of_lt Nat.and_le_left h)
  have hb := bits_and_u64_nat s (allN n) h hlt
  rw [quorum_enough_eq]
  by_cases h0 : 0 < k
  · simp (config := {maxSteps := 4000000, implicitDefEqProofs := false}) only [go_sem, ↓reduceIte, Nat.reduceAdd, Nat.reduceSub, Nat.reduceMul, Nat.reduceLeDiff, Nat.reduceLT, Int.reduceEq, Int.reduceNe, Int.reduceLT, Int.reduceLE, Int.reduceAdd, Int.reduceSub, Int.reduceMul, Int.reduceNeg, Nat.zero_add, Nat.add_zero, Nat.mul_one, Int.toNat_natCast, Int.natCast_zero, Int.cast_ofNat_Int, or_false, false_or, or_true, true_or, Int.reduceToNat, Nat.sub_zero, Int.natCast_nonneg, Int.toNat_zero, Bool.true_and, Bool.and_true, Bool.false_and, Bool.and_false, Bool.true_or, Bool.or_true, Bool.false_or, Bool.or_false, Bool.not_true, Bool.not_false, Bool.not_not, true_and, and_true, false_and, and_false, not_true_eq_false, not_false_eq_true, eq_self, decide_true, decide_false, ne_eq, implies_true, forall_const, true_implies, false_implies, Bool.true_eq_false, Bool.false_eq_true, reduceCtorEq, List.map_cons, List.map_nil, List.all_cons, List.all_nil, List.length_cons, List.length_nil, List.length_map, List.length_append, List.nil_append, List.cons_append, List.set_cons_zero, List.set_cons_succ, List.set_nil, List.drop_zero, List.drop_succ_cons, List.drop_nil, List.take_zero, List.take_succ_cons, List.take_nil, Option.map_some, Option.map_none, Option.isSome_some, Nat.reduceEqDiff, Nat.reduceBEq, Nat.reduceGT, List.all_append, List.all_map, Function.comp_def, decide_eq_true_eq, Bool.and_eq_true, beq_self_eq_true, or_self, and_self, ite_true, ite_false, Nat.le_refl, Bool.not_eq_true, decide_not, Bool.not_eq_true', decide_eq_false_iff_not, Bool.not_eq_false, Bool.or_eq_true, if_true, if_false, ite_self, h0, ha, hc, hb]
  · simp (config := {maxSteps := 4000000, implicitDefEqProofs := false}) only [go_sem, ↓reduceIte, Nat.reduceAdd, Nat.reduceSub, Nat.reduceMul, Nat.reduceLeDiff, Nat.reduceLT, Int.reduceEq, Int.reduceNe, Int.reduceLT, Int.reduceLE, Int.reduceAdd, Int.reduceSub, Int.reduceMul, Int.reduceNeg, Nat.zero_add, Nat.add_zero, Nat.mul_one, Int.toNat_natCast, Int.natCast_zero, Int.cast_ofNat_Int, or_false, false_or, or_true, true_or, Int.reduceToNat, Nat.sub_zero, Int.natCast_nonneg, Int.toNat_zero, Bool.true_and, Bool.and_true, Bool.false_and, Bool.and_false, Bool.true_or, Bool.or_true, Bool.false_or, Bool.or_false, Bool.not_true, Bool.not_false, Bool.not_not, true_and, and_true, false_and, and_false, not_true_eq_false, not_false_eq_true, eq_self, decide_true, decide_false, ne_eq, implies_true, forall_const, true_implies, false_implies, Bool.true_eq_false, Bool.false_eq_true, reduceCtorEq, List.map_cons, List.map_nil, List.all_cons, List.all_nil, List.length_cons, List.length_nil, List.length_map, List.length_append, List.nil_append, List.cons_append, List.set_cons_zero, List.set_cons_succ, List.set_nil, List.drop_zero, List.drop_succ_cons, List.drop_nil, List.take_zero, List.take_succ_cons, List.take_nil, Option.map_some, Option.map_none, Option.isSome_some, Nat.reduceEqDiff, Nat.reduceBEq, Nat.reduceGT, List.all_append, List.all_map, Function.comp_def, decide_eq_true_eq, Bool.and_eq_true, beq_self_eq_true, or_self, and_self, ite_true, ite_false, Nat.le_refl, Bool.not_eq_true, decide_not, Bool.not_eq_true', decide_eq_false_iff_not, Bool.not_eq_false, Bool.or_eq_true, if_true, if_false, ite_self, h0]
theorem isStrong_s (m s : Nat) (n : Int) (h : s < 2 ^ 64) : quorum_IsStrong m (qA s) (nA n) = some (bA (okN n && decide (2 * (fN n : Int) + 1 ≤ (cntS (s &&& allN n) : Int))), []) := by
  have h1 := strong_s m n
  have h2 := enough_s m s n (if okN n then 2 * (fN n : Int) + 1 else 0) h
  rw [quorum_IsStrong_eq]
  cases ho : okN n with
  | true =>
    simp only [ho, if_true] at h1 h2
    have h0 : (0 : Int) < 2 * (fN n : Int) + 1 := by omega
    simp (config := {maxSteps := 4000000, implicitDefEqProofs := false}) only [go_sem, ↓reduceIte, Nat.reduceAdd, Nat.reduceSub, Nat.reduceMul, Nat.reduceLeDiff, Nat.reduceLT, Int.reduceEq, Int.reduceNe, Int.reduceLT, Int.reduceLE, Int.reduceAdd, Int.reduceSub, Int.reduceMul, Int.reduceNeg, Nat.zero_add, Nat.add_zero, Nat.mul_one, Int.toNat_natCast, Int.natCast_zero, Int.cast_ofNat_Int, or_false, false_or, or_true, true_or, Int.reduceToNat, Nat.sub_zero, Int.natCast_nonneg, Int.toNat_zero, Bool.true_and, Bool.and_true, Bool.false_and, Bool.and_false, Bool.true_or, Bool.or_true, Bool.false_or, Bool.or_false, Bool.not_true, Bool.not_false, Bool.not_not, true_and, and_true, false_and, and_false, not_true_eq_false, not_false_eq_true, eq_self, decide_true, decide_false, ne_eq, implies_true, forall_const, true_implies, false_implies, Bool.true_eq_false, Bool.false_eq_true, reduceCtorEq, List.map_cons, List.map_nil, List.all_cons, List.all_nil, List.length_cons, List.length_nil, List.length_map, List.length_append, List.nil_append, List.cons_append, List.set_cons_zero, List.set_cons_succ, List.set_nil, List.drop_zero, List.drop_succ_cons, List.drop_nil, List.take_zero, List.take_succ_cons, List.take_nil, Option.map_some, Option.map_none, Option.isSome_some, Nat.reduceEqDiff, Nat.reduceBEq, Nat.reduceGT, List.all_append, List.all_map, Function.comp_def, decide_eq_true_eq, Bool.and_eq_true, beq_self_eq_true, or_self, and_self, ite_true, ite_false, Nat.le_refl, Bool.not_eq_true, decide_not, Bool.not_eq_true', decide_eq_false_iff_not, Bool.not_eq_false, Bool.or_eq_true, if_true, if_false, ite_self, h1, h2, h0]
  | false =>
    simp only [ho, Bool.false_eq_true, if_false] at h1 h2
    simp (config := {maxSteps := 4000000, implicitDefEqProofs := false}) only [go_sem, ↓reduceIte, Nat.reduceAdd, Nat.reduceSub, Nat.reduceMul, Nat.reduceLeDiff, Nat.reduceLT, Int.reduceEq, Int.reduceNe, Int.reduceLT, Int.reduceLE, Int.reduceAdd, Int.reduceSub, Int.reduceMul, Int.reduceNeg, Nat.zero_add, Nat.add_zero, Nat.mul_one, Int.toNat_natCast, Int.natCast_zero, Int.cast_ofNat_Int, or_false, false_or, or_true, true_or, Int.reduceToNat, Nat.sub_zero, Int.natCast_nonneg, Int.toNat_zero, Bool.true_and, Bool.and_true, Bool.false_and, Bool.and_false, Bool.true_or, Bool.or_true, Bool.false_or, Bool.or_false, Bool.not_true, Bool.not_false, Bool.not_not, true_and, and_true, false_and, and_false, not_true_eq_false, not_false_eq_true, eq_self, decide_true, decide_false, ne_eq, implies_true, forall_const, true_implies, false_implies, Bool.true_eq_false, Bool.false_eq_true, reduceCtorEq, List.map_cons, List.map_nil, List.all_cons, List.all_nil, List.length_cons, List.length_nil, List.length_map, List.length_append, List.nil_append, List.cons_append, List.set_cons_zero, List.set_cons_succ, List.set_nil, List.drop_zero, List.drop_succ_cons, List.drop_nil, List.take_zero, List.take_succ_cons, List.take_nil, Option.map_some, Option.map_none, Option.isSome_some, Nat.reduceEqDiff, Nat.reduceBEq, Nat.reduceGT, List.all_append, List.all_map, Function.comp_def, decide_eq_true_eq, Bool.and_eq_true, beq_self_eq_true, or_self, and_self, ite_true, ite_false, Nat.le_refl, Bool.not_eq_true, decide_not, Bool.not_eq_true', decide_eq_false_iff_not, Bool.not_eq_false, Bool.or_eq_true, if_true, if_false, ite_self, h1, h2]
end Go.Proofs.YtlhnkljpidgjgaaDoor

namespace Go.Proofs.YtlhnkljpidgjgaaDoor
open Go.RowKit
set_option linter.unusedVariables false
set_option linter.unusedSimpArgs false
set_option maxRecDepth 20000
theorem replicas_s (m : Nat) (f : Int) (h : -9223372036854775808 ≤ f ∧ f < 9223372036854775808) : quorum_Replicas m (nA f) = some (TU [nA (if 1 ≤ f ∧ f ≤ 5 then 3 * f + 1 else 0), nA (if 1 ≤ f ∧ f ≤ 5 then 0 else 1)], []) := by
  rw [quorum_Replicas_eq]
  by_cases h1 : f < 1
  · have h2 : ¬ (1 ≤ f ∧ f ≤ 5) := by omega
    simp (config := {maxSteps := 4000000, implicitDefEqProofs := false}) only [go_sem, ↓reduceIte, Nat.reduceAdd, Nat.reduceSub, Nat.reduceMul, Nat.reduceLeDiff, Nat.reduceLT, Int.reduceEq, Int.reduceNe, Int.reduceLT, Int.reduceLE, Int.reduceAdd, Int.reduceSub, Int.reduceMul, Int.reduceNeg, Nat.zero_add, Nat.add_zero, Nat.mul_one, Int.toNat_natCast, Int.natCast_zero, Int.cast_ofNat_Int, or_false, false_or, or_true, true_or, Int.reduceToNat, Nat.sub_zero, Int.natCast_nonneg, Int.toNat_zero, Bool.true_and, Bool.and_true, Bool.false_and, Bool.and_false, Bool.true_or, Bool.or_true, Bool.false_or, Bool.or_false, Bool.not_true, Bool.not_false, Bool.not_not, true_and, and_true, false_and, and_false, not_true_eq_false, not_false_eq_true, eq_self, decide_true, decide_false, ne_eq, implies_true, forall_const, true_implies, false_implies, Bool.true_eq_false, Bool.false_eq_true, reduceCtorEq, List.map_cons, List.map_nil, List.all_cons, List.all_nil, List.length_cons, List.length_nil, List.length_map, List.length_append, List.nil_append, List.cons_append, List.set_cons_zero, List.set_cons_succ, List.set_nil, List.drop_zero, List.drop_succ_cons, List.drop_nil, List.take_zero, List.take_succ_cons, List.take_nil, Option.map_some, Option.map_none, Option.isSome_some, Nat.reduceEqDiff, Nat.reduceBEq, Nat.reduceGT, List.all_append, List.all_map, Function.comp_def, decide_eq_true_eq, Bool.and_eq_true, beq_self_eq_true, or_self, and_self, ite_true, ite_false, Nat.le_refl, Bool.not_eq_true, decide_not, Bool.not_eq_true', decide_eq_false_iff_not, Bool.not_eq_false, Bool.or_eq_true, if_true, if_false, ite_self, h1, h2, quorum_Replicas_r1_eq]
  · by_cases h2 : 5 < f
    · have h3 : ¬ (1 ≤ f ∧ f ≤ 5) := by omega
      simp (config := {maxSteps := 4000000, implicitDefEqProofs := false}) only [go_sem, ↓reduceIte, Nat.reduceAdd, Nat.reduceSub, Nat.reduceMul, Nat.reduceLeDiff, Nat.reduceLT, Int.reduceEq, Int.reduceNe, Int.reduceLT, Int.reduceLE, Int.reduceAdd, Int.reduceSub, Int.reduceMul, Int.reduceNeg, Nat.zero_add, Nat.add_zero, Nat.mul_one, Int.toNat_natCast, Int.natCast_zero, Int.cast_ofNat_Int, or_false, false_or, or_true, true_or, Int.reduceToNat, Nat.sub_zero, Int.natCast_nonneg, Int.toNat_zero, Bool.true_and, Bool.and_true, Bool.false_and, Bool.and_false, Bool.true_or, Bool.or_true, Bool.false_or, Bool.or_false, Bool.not_true, Bool.not_false, Bool.not_not, true_and, and_true, false_and, and_false, not_true_eq_false, not_false_eq_true, eq_self, decide_true, decide_false, ne_eq, implies_true, forall_const, true_implies, false_implies, Bool.true_eq_false, Bool.false_eq_true, reduceCtorEq, List.map_cons, List.map_nil, List.all_cons, List.all_nil, List.length_cons, List.length_nil, List.length_map, List.length_append, List.nil_append, List.cons_append, List.set_cons_zero, List.set_cons_succ, List.set_nil, List.drop_zero, List.drop_succ_cons, List.drop_nil, List.take_zero, List.take_succ_cons, List.take_nil, Option.map_some, Option.map_none, Option.isSome_some, Nat.reduceEqDiff, Nat.reduceBEq, Nat.reduceGT, List.all_append, List.all_map, Function.comp_def, decide_eq_true_eq, Bool.and_eq_true, beq_self_eq_true, or_self, and_self, ite_true, ite_false, Nat.le_refl, Bool.not_eq_true, decide_not, Bool.not_eq_true', decide_eq_false_iff_not, Bool.not_eq_false, Bool.or_eq_true, if_true, if_false, ite_self, h1, h2, h3, quorum_Replicas_r1_eq]
    · have h3 : 1 ≤ f ∧ f ≤ 5 := by omega
      have e1 : IntKind.i64.wrap (3 * f) = 3 * f := w_i64 (by omega) (by omega)
      have e2 : IntKind.i64.wrap (3 * f + 1) = 3 * f + 1 := w_i64 (by omega) (by omega)
      rw [if_pos h3, if_pos h3]
      simp (config := {maxSteps := 4000000, implicitDefEqProofs := false}) only [go_sem, ↓reduceIte, Nat.reduceAdd, Nat.reduceSub, Nat.reduceMul, Nat.reduceLeDiff, Nat.reduceLT, Int.reduceEq, Int.reduceNe, Int.reduceLT, Int.reduceLE, Int.reduceAdd, Int.reduceSub, Int.reduceMul, Int.reduceNeg, Nat.zero_add, Nat.add_zero, Nat.mul_one, Int.toNat_natCast, Int.natCast_zero, Int.cast_ofNat_Int, or_false, false_or, or_true, true_or, Int.reduceToNat, Nat.sub_zero, Int.natCast_nonneg, Int.toNat_zero, Bool.true_and, Bool.and_true, Bool.false_and, Bool.and_false, Bool.true_or, Bool.or_true, Bool.false_or, Bool.or_false, Bool.not_true, Bool.not_false, Bool.not_not, true_and, and_true, false_and, and_false, not_true_eq_false, not_false_eq_true, eq_self, decide_true, decide_false, ne_eq, implies_true, forall_const, true_implies, false_implies, Bool.true_eq_false, Bool.false_eq_true, reduceCtorEq, List.map_cons, List.map_nil, List.all_cons, List.all_nil, List.length_cons, List.length_nil, List.length_map, List.length_append, List.nil_append, List.cons_append, List.set_cons_zero, List.set_cons_succ, List.set_nil, List.drop_zero, List.drop_succ_cons, List.drop_nil, List.take_zero, List.take_succ_cons, List.take_nil, Option.map_some, Option.map_none, Option.isSome_some, Nat.reduceEqDiff, Nat.reduceBEq, Nat.reduceGT, List.all_append, List.all_map, Function.comp_def, decide_eq_true_eq, Bool.and_eq_true, beq_self_eq_true, or_self, and_self, ite_true, ite_false, Nat.le_refl, Bool.not_eq_true, decide_not, Bool.not_eq_true', decide_eq_false_iff_not, Bool.not_eq_false, Bool.or_eq_true, if_true, if_false, ite_self, h1, h2, e1, e2, quorum_Replicas_r1_eq]
theorem weak_s (m : Nat) (n : Int) : quorum_Weak m (nA n) = some (nA (if okN n then (fN n : Int) + 1 else 0), []) := by
  have h := faults_s m n
  have hl := fN_le n
  rw [quorum_Weak_eq]
  have e2 : IntKind.i64.wrap ((fN n : Int) + 1) = (fN n : Int) + 1 := w_i64 (by omega) (by omega)
  cases ho : okN n with
  | true => rw [ho] at h; simp (config := {maxSteps := 4000000, implicitDefEqProofs := false}) only [go_sem, ↓reduceIte, Nat.reduceAdd, Nat.reduceSub, Nat.reduceMul, Nat.reduceLeDiff, Nat.reduceLT, Int.reduceEq, Int.reduceNe, Int.reduceLT, Int.reduceLE, Int.reduceAdd, Int.reduceSub, Int.reduceMul, Int.reduceNeg, Nat.zero_add, Nat.add_zero, Nat.mul_one, Int.toNat_natCast, Int.natCast_zero, Int.cast_ofNat_Int, or_false, false_or, or_true, true_or, Int.reduceToNat, Nat.sub_zero, Int.natCast_nonneg, Int.toNat_zero, Bool.true_and, Bool.and_true, Bool.false_and, Bool.and_false, Bool.true_or, Bool.or_true, Bool.false_or, Bool.or_false, Bool.not_true, Bool.not_false, Bool.not_not, true_and, and_true, false_and, and_false, not_true_eq_false, not_false_eq_true, eq_self, decide_true, decide_false, ne_eq, implies_true, forall_const, true_implies, false_implies, Bool.true_eq_false, Bool.false_eq_true, reduceCtorEq, List.map_cons, List.map_nil, List.all_cons, List.all_nil, List.length_cons, List.length_nil, List.length_map, List.length_append, List.nil_append, List.cons_append, List.set_cons_zero, List.set_cons_succ, List.set_nil, List.drop_zero, List.drop_succ_cons, List.drop_nil, List.take_zero, List.take_succ_cons, List.take_nil, Option.map_some, Option.map_none, Option.isSome_some, Nat.reduceEqDiff, Nat.reduceBEq, Nat.reduceGT, List.all_append, List.all_map, Function.comp_def, decide_eq_true_eq, Bool.and_eq_true, beq_self_eq_true, or_self, and_self, ite_true, ite_false, Nat.le_refl, Bool.not_eq_true, decide_not, Bool.not_eq_true', decide_eq_false_iff_not, Bool.not_eq_false, Bool.or_eq_true, if_true, if_false, ite_self, h, ho, e2]
  | false => rw [ho] at h; simp (config := {maxSteps := 4000000, implicitDefEqProofs := false}) only [go_sem, ↓reduceIte, Nat.reduceAdd, Nat.reduceSub, Nat.reduceMul, Nat.reduceLeDiff, Nat.reduceLT, Int.reduceEq, Int.reduceNe, Int.reduceLT, Int.reduceLE, Int.reduceAdd, Int.reduceSub, Int.reduceMul, Int.reduceNeg, Nat.zero_add, Nat.add_zero, Nat.mul_one, Int.toNat_natCast, Int.natCast_zero, Int.cast_ofNat_Int, or_false, false_or, or_true, true_or, Int.reduceToNat, Nat.sub_zero, Int.natCast_nonneg, Int.toNat_zero, Bool.true_and, Bool.and_true, Bool.false_and, Bool.and_false, Bool.true_or, Bool.or_true, Bool.false_or, Bool.or_false, Bool.not_true, Bool.not_false, Bool.not_not, true_and, and_true, false_and, and_false, not_true_eq_false, not_false_eq_true, eq_self, decide_true, decide_false, ne_eq, implies_true, forall_const, true_implies, false_implies, Bool.true_eq_false, Bool.false_eq_true, reduceCtorEq, List.map_cons, List.map_nil, List.all_cons, List.all_nil, List.length_cons, List.length_nil, List.length_map, List.length_append, List.nil_append, List.cons_append, List.set_cons_zero, List.set_cons_succ, List.set_nil, List.drop_zero, List.drop_succ_cons, List.drop_nil, List.take_zero, List.take_succ_cons, List.take_nil, Option.map_some, Option.map_none, Option.isSome_some, Nat.reduceEqDiff, Nat.reduceBEq, Nat.reduceGT, List.all_append, List.all_map, Function.comp_def, decide_eq_true_eq, Bool.and_eq_true, beq_self_eq_true, or_self, and_self, ite_true, ite_false, Nat.le_refl, Bool.not_eq_true, decide_not, Bool.not_eq_true', decide_eq_false_iff_not, Bool.not_eq_false, Bool.or_eq_true, if_true, if_false, ite_self, h, ho]
theorem isWeak_s (m s : Nat) (n : Int) (h : s < 2 ^ 64) : quorum_IsWeak m (qA s) (nA n) = some (bA (okN n && decide ((fN n : Int) + 1 ≤ (cntS (s &&& allN n) : Int))), []) := by
  have h1 := weak_s m n
  have h2 := enough_s m s n (if okN n then (fN n : Int) + 1 else 0) h
  rw [quorum_IsWeak_eq]
  cases ho : okN n with
  | true =>
    simp only [ho, if_true] at h1 h2
    have h0 : (0 : Int) < (fN n : Int) + 1 := by omega
    simp (config := {maxSteps := 4000000, implicitDefEqProofs := false}) only [go_sem, ↓reduceIte, Nat.reduceAdd, Nat.reduceSub, Nat.reduceMul, Nat.reduceLeDiff, Nat.reduceLT, Int.reduceEq, Int.reduceNe, Int.reduceLT, Int.reduceLE, Int.reduceAdd, Int.reduceSub, Int.reduceMul, Int.reduceNeg, Nat.zero_add, Nat.add_zero, Nat.mul_one, Int.toNat_natCast, Int.natCast_zero, Int.cast_ofNat_Int, or_false, false_or, or_true, true_or, Int.reduceToNat, Nat.sub_zero, Int.natCast_nonneg, Int.toNat_zero, Bool.true_and, Bool.and_true, Bool.false_and, Bool.and_false, Bool.true_or, Bool.or_true, Bool.false_or, Bool.or_false, Bool.not_true, Bool.not_false, Bool.not_not, true_and, and_true, false_and, and_false, not_true_eq_false, not_false_eq_true, eq_self, decide_true, decide_false, ne_eq, implies_true, forall_const, true_implies, false_implies, Bool.true_eq_false, Bool.false_eq_true, reduceCtorEq, List.map_cons, List.map_nil, List.all_cons, List.all_nil, List.length_cons, List.length_nil, List.length_map, List.length_append, List.nil_append, List.cons_append, List.set_cons_zero, List.set_cons_succ, List.set_nil, List.drop_zero, List.drop_succ_cons, List.drop_nil, List.take_zero, List.take_succ_cons, List.take_nil, Option.map_some, Option.map_none, Option.isSome_some, Nat.reduceEqDiff, Nat.reduceBEq, Nat.reduceGT, List.all_append, List.all_map, Function.comp_def, decide_eq_true_eq, Bool.and_eq_true, beq_self_eq_true, or_self, and_self, ite_true, ite_false, Nat.le_refl, Bool.not_eq_true, decide_not, Bool.not_eq_true', decide_eq_false_iff_not, Bool.not_eq_false, Bool.or_eq_true, if_true, if_false, ite_self, h1, h2, h0]
  | false =>
    simp only [ho, Bool.false_eq_true, if_false] at h1 h2
    simp (config := {maxSteps := 4000000, implicitDefEqProofs := false}) only [go_sem, ↓reduceIte, Nat.reduceAdd, Nat.reduceSub, Nat.reduceMul, Nat.reduceLeDiff, Nat.reduceLT, Int.reduceEq, Int.reduceNe, Int.reduceLT, Int.reduceLE, Int.reduceAdd, Int.reduceSub, Int.reduceMul, Int.reduceNeg, Nat.zero_add, Nat.add_zero, Nat.mul_one, Int.toNat_natCast, Int.natCast_zero, Int.cast_ofNat_Int, or_false, false_or, or_true, true_or, Int.reduceToNat, Nat.sub_zero, Int.natCast_nonneg, Int.toNat_zero, Bool.true_and, Bool.and_true, Bool.false_and, Bool.and_false, Bool.true_or, Bool.or_true, Bool.false_or, Bool.or_false, Bool.not_true, Bool.not_false, Bool.not_not, true_and, and_true, false_and, and_false, not_true_eq_false, not_false_eq_true, eq_self, decide_true, decide_false, ne_eq, implies_true, forall_const, true_implies, false_implies, Bool.true_eq_false, Bool.false_eq_true, reduceCtorEq, List.map_cons, List.map_nil, List.all_cons, List.all_nil, List.length_cons, List.length_nil, List.length_map, List.length_append, List.nil_append, List.cons_append, List.set_cons_zero, List.set_cons_succ, List.set_nil, List.drop_zero, List.drop_succ_cons, List.drop_nil, List.take_zero, List.take_succ_cons, List.take_nil, Option.map_some, Option.map_none, Option.isSome_some, Nat.reduceEqDiff, Nat.reduceBEq, Nat.reduceGT, List.all_append, List.all_map, Function.comp_def, decide_eq_true_eq, Bool.and_eq_true, beq_self_eq_true, or_self, and_self, ite_true, ite_false, Nat.le_refl, Bool.not_eq_true, decide_not, Bool.not_eq_true', decide_eq_false_iff_not, Bool.not_eq_false, Bool.or_eq_true, if_true, if_false, ite_self, h1, h2]
theorem has_s (m s : Nat) (n : Int) (h : s < 2 ^ 64) : quorum_Has m (qA s) (nA n) = some (bA (!decide ((s &&& qb n : Nat) = 0)), []) := by
  have hb := bit_s m n
  have ha := bits_and_u64_nat s (qb n) h (qb_lt n)
  have e : decide (((s &&& qb n : Nat) : Int) = 0) = decide ((s &&& qb n : Nat) = 0) := by rw [decide_eq_decide]; omega
  rw [quorum_Has_eq]
  simp (config := {maxSteps := 4000000, implicitDefEqProofs := false}) only [go_sem, ↓reduceIte, Nat.reduceAdd, Nat.reduceSub, Nat.reduceMul, Nat.reduceLeDiff, Nat.reduceLT, Int.reduceEq, Int.reduceNe, Int.reduceLT, Int.reduceLE, Int.reduceAdd, Int.reduceSub, Int.reduceMul, Int.reduceNeg, Nat.zero_add, Nat.add_zero, Nat.mul_one, Int.toNat_natCast, Int.natCast_zero, Int.cast_ofNat_Int, or_false, false_or, or_true, true_or, Int.reduceToNat, Nat.sub_zero, Int.natCast_nonneg, Int.toNat_zero, Bool.true_and, Bool.and_true, Bool.false_and, Bool.and_false, Bool.true_or, Bool.or_true, Bool.false_or, Bool.or_false, Bool.not_true, Bool.not_false, Bool.not_not, true_and, and_true, false_and, and_false, not_true_eq_false, not_false_eq_true, eq_self, decide_true, decide_false, ne_eq, implies_true, forall_const, true_implies, false_implies, Bool.true_eq_false, Bool.false_eq_true, reduceCtorEq, List.map_cons, List.map_nil, List.all_cons, List.all_nil, List.length_cons, List.length_nil, List.length_map, List.length_append, List.nil_append, List.cons_append, List.set_cons_zero, List.set_cons_succ, List.set_nil, List.drop_zero, List.drop_succ_cons, List.drop_nil, List.take_zero, List.take_succ_cons, List.take_nil, Option.map_some, Option.map_none, Option.isSome_some, Nat.reduceEqDiff, Nat.reduceBEq, Nat.reduceGT, List.all_append, List.all_map, Function.comp_def, decide_eq_true_eq, Bool.and_eq_true, beq_self_eq_true, or_self, and_self, ite_true, ite_false, Nat.le_refl, Bool.not_eq_true, decide_not, Bool.not_eq_true', decide_eq_false_iff_not, Bool.not_eq_false, Bool.or_eq_true, if_true, if_false, ite_self, hb, ha, e]
theorem without_s (m s : Nat) (n : Int) (h : s < 2 ^ 64) : quorum_Without m (qA s) (nA n) = some (qA (s &&& (18446744073709551615 - qb n)), []) := by
  have hb := bit_s m n
  have ha := u64_andNot_nat s (qb n) h (qb_lt n)
  rw [quorum_Without_eq]
  simp (config := {maxSteps := 4000000, implicitDefEqProofs := false}) only [go_sem, ↓reduceIte, Nat.reduceAdd, Nat.reduceSub, Nat.reduceMul, Nat.reduceLeDiff, Nat.reduceLT, Int.reduceEq, Int.reduceNe, Int.reduceLT, Int.reduceLE, Int.reduceAdd, Int.reduceSub, Int.reduceMul, Int.reduceNeg, Nat.zero_add, Nat.add_zero, Nat.mul_one, Int.toNat_natCast, Int.natCast_zero, Int.cast_ofNat_Int, or_false, false_or, or_true, true_or, Int.reduceToNat, Nat.sub_zero, Int.natCast_nonneg, Int.toNat_zero, Bool.true_and, Bool.and_true, Bool.false_and, Bool.and_false, Bool.true_or, Bool.or_true, Bool.false_or, Bool.or_false, Bool.not_true, Bool.not_false, Bool.not_not, true_and, and_true, false_and, and_false, not_true_eq_false, not_false_eq_true, eq_self, decide_true, decide_false, ne_eq, implies_true, forall_const, true_implies, false_implies, Bool.true_eq_false, Bool.false_eq_true, reduceCtorEq, List.map_cons, List.map_nil, List.all_cons, List.all_nil, List.length_cons, List.length_nil, List.length_map, List.length_append, List.nil_append, List.cons_append, List.set_cons_zero, List.set_cons_succ, List.set_nil, List.drop_zero, List.drop_succ_cons, List.drop_nil, List.take_zero, List.take_succ_cons, List.take_nil, Option.map_some, Option.map_none, Option.isSome_some, Nat.reduceEqDiff, Nat.reduceBEq, Nat.reduceGT, List.all_append, List.all_map, Function.comp_def, decide_eq_true_eq, Bool.and_eq_true, beq_self_eq_true, or_self, and_self, ite_true, ite_false, Nat.le_refl, Bool.not_eq_true, decide_not, Bool.not_eq_true', decide_eq_false_iff_not, Bool.not_eq_false, Bool.or_eq_true, if_true, if_false, ite_self, hb, ha]
theorem primary_s (m : Nat) (v n : Int) (hv : -9223372036854775808 ≤ v ∧ v < 9223372036854775808) (hn : n < 9223372036854775808) : quorum_Primary m (nA v) (nA n) = some (nA (if n < 1 then 0 else v % n), []) := by
  rw [quorum_Primary_eq]
  by_cases h1 : n < 1
  · simp (config := {maxSteps := 4000000, implicitDefEqProofs := false}) only [go_sem, ↓reduceIte, Nat.reduceAdd, Nat.reduceSub, Nat.reduceMul, Nat.reduceLeDiff, Nat.reduceLT, Int.reduceEq, Int.reduceNe, Int.reduceLT, Int.reduceLE, Int.reduceAdd, Int.reduceSub, Int.reduceMul, Int.reduceNeg, Nat.zero_add, Nat.add_zero, Nat.mul_one, Int.toNat_natCast, Int.natCast_zero, Int.cast_ofNat_Int, or_false, false_or, or_true, true_or, Int.reduceToNat, Nat.sub_zero, Int.natCast_nonneg, Int.toNat_zero, Bool.true_and, Bool.and_true, Bool.false_and, Bool.and_false, Bool.true_or, Bool.or_true, Bool.false_or, Bool.or_false, Bool.not_true, Bool.not_false, Bool.not_not, true_and, and_true, false_and, and_false, not_true_eq_false, not_false_eq_true, eq_self, decide_true, decide_false, ne_eq, implies_true, forall_const, true_implies, false_implies, Bool.true_eq_false, Bool.false_eq_true, reduceCtorEq, List.map_cons, List.map_nil, List.all_cons, List.all_nil, List.length_cons, List.length_nil, List.length_map, List.length_append, List.nil_append, List.cons_append, List.set_cons_zero, List.set_cons_succ, List.set_nil, List.drop_zero, List.drop_succ_cons, List.drop_nil, List.take_zero, List.take_succ_cons, List.take_nil, Option.map_some, Option.map_none, Option.isSome_some, Nat.reduceEqDiff, Nat.reduceBEq, Nat.reduceGT, List.all_append, List.all_map, Function.comp_def, decide_eq_true_eq, Bool.and_eq_true, beq_self_eq_true, or_self, and_self, ite_true, ite_false, Nat.le_refl, Bool.not_eq_true, decide_not, Bool.not_eq_true', decide_eq_false_iff_not, Bool.not_eq_false, Bool.or_eq_true, if_true, if_false, ite_self, h1]
  · have h0 : ¬ n = 0 := by omega
    have hm : v.tmod n = if v.tmod n < 0 then v % n - n else v % n := by
      have e1 := Int.emod_nonneg v h0
      have e2 := Int.emod_lt_of_pos v (show 0 < n by omega)
      by_cases hp : 0 ≤ v
      · rw [Int.tmod_eq_emod_of_nonneg hp, if_neg (by omega)]
      · have e3 := Int.tmod_eq_emod (a := v) (b := n)
        have e4 : v.tmod n = if n ∣ v then v % n else v % n - n := by
          rw [e3]
          by_cases hd : n ∣ v
          · rw [if_pos (.inr hd), if_pos hd]; omega
          · rw [if_neg (by simp [hd, hp]), if_neg hd]
            have : (n.natAbs : Int) = n := by omega
            omega
        by_cases hd : n ∣ v
        · have : v % n = 0 := Int.emod_eq_zero_of_dvd hd
          rw [if_pos hd] at e4
          rw [e4, if_neg (by omega)]
        · rw [if_neg hd] at e4
          rw [e4, if_pos (by omega)]
    by_cases h2 : v.tmod n < 0
    · rw [if_pos h2] at hm
      have e : IntKind.i64.wrap (v.tmod n + n) = v % n := by
        rw [hm] at h2 ⊢
        have e1 := Int.emod_nonneg v h0
        have e2 := Int.emod_lt_of_pos v (show 0 < n by omega)
        rw [show v % n - n + n = v % n by omega]
        exact w_i64 (by omega) (by omega)
      simp (config := {maxSteps := 4000000, implicitDefEqProofs := false}) only [go_sem, ↓reduceIte, Nat.reduceAdd, Nat.reduceSub, Nat.reduceMul, Nat.reduceLeDiff, Nat.reduceLT, Int.reduceEq, Int.reduceNe, Int.reduceLT, Int.reduceLE, Int.reduceAdd, Int.reduceSub, Int.reduceMul, Int.reduceNeg, Nat.zero_add, Nat.add_zero, Nat.mul_one, Int.toNat_natCast, Int.natCast_zero, Int.cast_ofNat_Int, or_false, false_or, or_true, true_or, Int.reduceToNat, Nat.sub_zero, Int.natCast_nonneg, Int.toNat_zero, Bool.true_and, Bool.and_true, Bool.false_and, Bool.and_false, Bool.true_or, Bool.or_true, Bool.false_or, Bool.or_false, Bool.not_true, Bool.not_false, Bool.not_not, true_and, and_true, false_and, and_false, not_true_eq_false, not_false_eq_true, eq_self, decide_true, decide_false, ne_eq, implies_true, forall_const, true_implies, false_implies, Bool.true_eq_false, Bool.false_eq_true, reduceCtorEq, List.map_cons, List.map_nil, List.all_cons, List.all_nil, List.length_cons, List.length_nil, List.length_map, List.length_append, List.nil_append, List.cons_append, List.set_cons_zero, List.set_cons_succ, List.set_nil, List.drop_zero, List.drop_succ_cons, List.drop_nil, List.take_zero, List.take_succ_cons, List.take_nil, Option.map_some, Option.map_none, Option.isSome_some, Nat.reduceEqDiff, Nat.reduceBEq, Nat.reduceGT, List.all_append, List.all_map, Function.comp_def, decide_eq_true_eq, Bool.and_eq_true, beq_self_eq_true, or_self, and_self, ite_true, ite_false, Nat.le_refl, Bool.not_eq_true, decide_not, Bool.not_eq_true', decide_eq_false_iff_not, Bool.not_eq_false, Bool.or_eq_true, if_true, if_false, ite_self, h1, h0, h2, e]
    · rw [if_neg h2] at hm
      rw [if_neg h1]
      simp (config := {maxSteps := 4000000, implicitDefEqProofs := false}) only [go_sem, ↓reduceIte, Nat.reduceAdd, Nat.reduceSub, Nat.reduceMul, Nat.reduceLeDiff, Nat.reduceLT, Int.reduceEq, Int.reduceNe, Int.reduceLT, Int.reduceLE, Int.reduceAdd, Int.reduceSub, Int.reduceMul, Int.reduceNeg, Nat.zero_add, Nat.add_zero, Nat.mul_one, Int.toNat_natCast, Int.natCast_zero, Int.cast_ofNat_Int, or_false, false_or, or_true, true_or, Int.reduceToNat, Nat.sub_zero, Int.natCast_nonneg, Int.toNat_zero, Bool.true_and, Bool.and_true, Bool.false_and, Bool.and_false, Bool.true_or, Bool.or_true, Bool.false_or, Bool.or_false, Bool.not_true, Bool.not_false, Bool.not_not, true_and, and_true, false_and, and_false, not_true_eq_false, not_false_eq_true, eq_self, decide_true, decide_false, ne_eq, implies_true, forall_const, true_implies, false_implies, Bool.true_eq_false, Bool.false_eq_true, reduceCtorEq, List.map_cons, List.map_nil, List.all_cons, List.all_nil, List.length_cons, List.length_nil, List.length_map, List.length_append, List.nil_append, List.cons_append, List.set_cons_zero, List.set_cons_succ, List.set_nil, List.drop_zero, List.drop_succ_cons, List.drop_nil, List.take_zero, List.take_succ_cons, List.take_nil, Option.map_some, Option.map_none, Option.isSome_some, Nat.reduceEqDiff, Nat.reduceBEq, Nat.reduceGT, List.all_append, List.all_map, Function.comp_def, decide_eq_true_eq, Bool.and_eq_true, beq_self_eq_true, or_self, and_self, ite_true, ite_false, Nat.le_refl, Bool.not_eq_true, decide_not, Bool.not_eq_true', decide_eq_false_iff_not, Bool.not_eq_false, Bool.or_eq_true, if_true, if_false, ite_self, h1, h0, h2]
      rw [hm]
theorem of_s (m : Nat) (l : List Int) (hl : l.length < 34359738369) (hm : l.length < m) : quorum_Of m (SL (l.map nA)) = some (qA (l.foldl (fun s i => s ||| qb i) 0), []) := by
  rw [quorum_Of_eq]
  simp (config := {maxSteps := 4000000, implicitDefEqProofs := false}) only [go_sem, ↓reduceIte, Nat.reduceAdd, Nat.reduceSub, Nat.reduceMul, Nat.reduceLeDiff, Nat.reduceLT, Int.reduceEq, Int.reduceNe, Int.reduceLT, Int.reduceLE, Int.reduceAdd, Int.reduceSub, Int.reduceMul, Int.reduceNeg, Nat.zero_add, Nat.add_zero, Nat.mul_one, Int.toNat_natCast, Int.natCast_zero, Int.cast_ofNat_Int, or_false, false_or, or_true, true_or, Int.reduceToNat, Nat.sub_zero, Int.natCast_nonneg, Int.toNat_zero, Bool.true_and, Bool.and_true, Bool.false_and, Bool.and_false, Bool.true_or, Bool.or_true, Bool.false_or, Bool.or_false, Bool.not_true, Bool.not_false, Bool.not_not, true_and, and_true, false_and, and_false, not_true_eq_false, not_false_eq_true, eq_self, decide_true, decide_false, ne_eq, implies_true, forall_const, true_implies, false_implies, Bool.true_eq_false, Bool.false_eq_true, reduceCtorEq, List.map_cons, List.map_nil, List.all_cons, List.all_nil, List.length_cons, List.length_nil, List.length_map, List.length_append, List.nil_append, List.cons_append, List.set_cons_zero, List.set_cons_succ, List.set_nil, List.drop_zero, List.drop_succ_cons, List.drop_nil, List.take_zero, List.take_succ_cons, List.take_nil, Option.map_some, Option.map_none, Option.isSome_some, Nat.reduceEqDiff, Nat.reduceBEq, Nat.reduceGT, List.all_append, List.all_map, Function.comp_def, decide_eq_true_eq, Bool.and_eq_true, beq_self_eq_true, or_self, and_self, ite_true, ite_false, Nat.le_refl, Bool.not_eq_true, decide_not, Bool.not_eq_true', decide_eq_false_iff_not, Bool.not_eq_false, Bool.or_eq_true, if_true, if_false, ite_self]
  have hlt : ∀ k : List Int, k.foldl (fun s i => s ||| qb i) 0 < 2 ^ 64 := by
    have : ∀ (k : List Int) (s : Nat), s < 2 ^ 64 → k.foldl (fun s i => s ||| qb i) s < 2 ^ 64 := by
      intro k
      induction k with
      | nil => intro s h; exact h
      | cons a k ih => intro s h; exact ih _ (Nat.or_lt_two_pow h (qb_lt a))
    exact fun k => this k 0 (by decide)
  refine iter_ind (ι := {k : Nat // k ≤ l.length}) (fun k => ⟨[], [(3, qA ((l.take k.1).foldl (fun s i => s ||| qb i) 0)), (6, SL (l.map nA)), (7, nA l.length), (8, nA k.1)]⟩) (fun k => l.length - k.1) (fun _ => some (qA (l.foldl (fun s i => s ||| qb i) 0), [])) ?_ ⟨0, Nat.zero_le _⟩ (by dsimp only; omega)
  rintro ⟨k, hk⟩ kc hkc
  dsimp only at hkc ⊢
  rw [quorum_Of_b1_eq]
  by_cases hlt2 : k < l.length
  · have hlt' : (k : Int) < (l.length : Int) := by omega
    have hw := with_s m ((l.take k).foldl (fun s i => s ||| qb i) 0) l[k] (hlt _)
    have hs := hkc ⟨k + 1, by omega⟩ (by dsimp only; omega)
    dsimp only at hs
    rw [List.take_succ_eq_append_getElem hlt2, List.foldl_append] at hs
    simp (config := {maxSteps := 4000000, implicitDefEqProofs := false}) (disch := omega) only [go_sem, ↓reduceIte, Nat.reduceAdd, Nat.reduceSub, Nat.reduceMul, Nat.reduceLeDiff, Nat.reduceLT, Int.reduceEq, Int.reduceNe, Int.reduceLT, Int.reduceLE, Int.reduceAdd, Int.reduceSub, Int.reduceMul, Int.reduceNeg, Nat.zero_add, Nat.add_zero, Nat.mul_one, Int.toNat_natCast, Int.natCast_zero, Int.cast_ofNat_Int, or_false, false_or, or_true, true_or, Int.reduceToNat, Nat.sub_zero, Int.natCast_nonneg, Int.toNat_zero, Bool.true_and, Bool.and_true, Bool.false_and, Bool.and_false, Bool.true_or, Bool.or_true, Bool.false_or, Bool.or_false, Bool.not_true, Bool.not_false, Bool.not_not, true_and, and_true, false_and, and_false, not_true_eq_false, not_false_eq_true, eq_self, decide_true, decide_false, ne_eq, implies_true, forall_const, true_implies, false_implies, Bool.true_eq_false, Bool.false_eq_true, reduceCtorEq, List.map_cons, List.map_nil, List.all_cons, List.all_nil, List.length_cons, List.length_nil, List.length_map, List.length_append, List.nil_append, List.cons_append, List.set_cons_zero, List.set_cons_succ, List.set_nil, List.drop_zero, List.drop_succ_cons, List.drop_nil, List.take_zero, List.take_succ_cons, List.take_nil, Option.map_some, Option.map_none, Option.isSome_some, Nat.reduceEqDiff, Nat.reduceBEq, Nat.reduceGT, List.all_append, List.all_map, Function.comp_def, decide_eq_true_eq, Bool.and_eq_true, beq_self_eq_true, or_self, and_self, ite_true, ite_false, Nat.le_refl, Bool.not_eq_true, decide_not, Bool.not_eq_true', decide_eq_false_iff_not, Bool.not_eq_false, Bool.or_eq_true, if_true, if_false, ite_self, hlt', u_nthM, hw, w_i64]
    exact hs
  · have hlt' : ¬ (k : Int) < (l.length : Int) := by omega
    simp (config := {maxSteps := 4000000, implicitDefEqProofs := false}) only [go_sem, ↓reduceIte, Nat.reduceAdd, Nat.reduceSub, Nat.reduceMul, Nat.reduceLeDiff, Nat.reduceLT, Int.reduceEq, Int.reduceNe, Int.reduceLT, Int.reduceLE, Int.reduceAdd, Int.reduceSub, Int.reduceMul, Int.reduceNeg, Nat.zero_add, Nat.add_zero, Nat.mul_one, Int.toNat_natCast, Int.natCast_zero, Int.cast_ofNat_Int, or_false, false_or, or_true, true_or, Int.reduceToNat, Nat.sub_zero, Int.natCast_nonneg, Int.toNat_zero, Bool.true_and, Bool.and_true, Bool.false_and, Bool.and_false, Bool.true_or, Bool.or_true, Bool.false_or, Bool.or_false, Bool.not_true, Bool.not_false, Bool.not_not, true_and, and_true, false_and, and_false, not_true_eq_false, not_false_eq_true, eq_self, decide_true, decide_false, ne_eq, implies_true, forall_const, true_implies, false_implies, Bool.true_eq_false, Bool.false_eq_true, reduceCtorEq, List.map_cons, List.map_nil, List.all_cons, List.all_nil, List.length_cons, List.length_nil, List.length_map, List.length_append, List.nil_append, List.cons_append, List.set_cons_zero, List.set_cons_succ, List.set_nil, List.drop_zero, List.drop_succ_cons, List.drop_nil, List.take_zero, List.take_succ_cons, List.take_nil, Option.map_some, Option.map_none, Option.isSome_some, Nat.reduceEqDiff, Nat.reduceBEq, Nat.reduceGT, List.all_append, List.all_map, Function.comp_def, decide_eq_true_eq, Bool.and_eq_true, beq_self_eq_true, or_self, and_self, ite_true, ite_false, Nat.le_refl, Bool.not_eq_true, decide_not, Bool.not_eq_true', decide_eq_false_iff_not, Bool.not_eq_false, Bool.or_eq_true, if_true, if_false, ite_self, hlt']
    rw [quorum_Of_r1_eq, List.take_of_length_le (by omega)]
    simp (config := {maxSteps := 4000000, implicitDefEqProofs := false}) only [go_sem, ↓reduceIte, Nat.reduceAdd, Nat.reduceSub, Nat.reduceMul, Nat.reduceLeDiff, Nat.reduceLT, Int.reduceEq, Int.reduceNe, Int.reduceLT, Int.reduceLE, Int.reduceAdd, Int.reduceSub, Int.reduceMul, Int.reduceNeg, Nat.zero_add, Nat.add_zero, Nat.mul_one, Int.toNat_natCast, Int.natCast_zero, Int.cast_ofNat_Int, or_false, false_or, or_true, true_or, Int.reduceToNat, Nat.sub_zero, Int.natCast_nonneg, Int.toNat_zero, Bool.true_and, Bool.and_true, Bool.false_and, Bool.and_false, Bool.true_or, Bool.or_true, Bool.false_or, Bool.or_false, Bool.not_true, Bool.not_false, Bool.not_not, true_and, and_true, false_and, and_false, not_true_eq_false, not_false_eq_true, eq_self, decide_true, decide_false, ne_eq, implies_true, forall_const, true_implies, false_implies, Bool.true_eq_false, Bool.false_eq_true, reduceCtorEq, List.map_cons, List.map_nil, List.all_cons, List.all_nil, List.length_cons, List.length_nil, List.length_map, List.length_append, List.nil_append, List.cons_append, List.set_cons_zero, List.set_cons_succ, List.set_nil, List.drop_zero, List.drop_succ_cons, List.drop_nil, List.take_zero, List.take_succ_cons, List.take_nil, Option.map_some, Option.map_none, Option.isSome_some, Nat.reduceEqDiff, Nat.reduceBEq, Nat.reduceGT, List.all_append, List.all_map, Function.comp_def, decide_eq_true_eq, Bool.and_eq_true, beq_self_eq_true, or_self, and_self, ite_true, ite_false, Nat.le_refl, Bool.not_eq_true, decide_not, Bool.not_eq_true', decide_eq_false_iff_not, Bool.not_eq_false, Bool.or_eq_true, if_true, if_false, ite_self]
def hasN (s : Nat) (n : Int) : Bool := decide (0 ≤ n) && decide (n ≤ 63) && s.testBit n.toNat
theorem rhas_s (m s : Nat) (n : Int) (h : s < 2 ^ 64) (hm : 64 < m) : plenumref05_Has m (qA s) (nA n) = some (bA (hasN s n), []) := by
  rw [plenumref05_Has_eq]
  unfold hasN
  by_cases h1 : n < 0
  · simp (config := {maxSteps := 4000000, implicitDefEqProofs := false}) only [go_sem, ↓reduceIte, Nat.reduceAdd, Nat.reduceSub, Nat.reduceMul, Nat.reduceLeDiff, Nat.reduceLT, Int.reduceEq, Int.reduceNe, Int.reduceLT, Int.reduceLE, Int.reduceAdd, Int.reduceSub, Int.reduceMul, Int.reduceNeg, Nat.zero_add, Nat.add_zero, Nat.mul_one, Int.toNat_natCast, Int.natCast_zero, Int.cast_ofNat_Int, or_false, false_or, or_true, true_or, Int.reduceToNat, Nat.sub_zero, Int.natCast_nonneg, Int.toNat_zero, Bool.true_and, Bool.and_true, Bool.false_and, Bool.and_false, Bool.true_or, Bool.or_true, Bool.false_or, Bool.or_false, Bool.not_true, Bool.not_false, Bool.not_not, true_and, and_true, false_and, and_false, not_true_eq_false, not_false_eq_true, eq_self, decide_true, decide_false, ne_eq, implies_true, forall_const, true_implies, false_implies, Bool.true_eq_false, Bool.false_eq_true, reduceCtorEq, List.map_cons, List.map_nil, List.all_cons, List.all_nil, List.length_cons, List.length_nil, List.length_map, List.length_append, List.nil_append, List.cons_append, List.set_cons_zero, List.set_cons_succ, List.set_nil, List.drop_zero, List.drop_succ_cons, List.drop_nil, List.take_zero, List.take_succ_cons, List.take_nil, Option.map_some, Option.map_none, Option.isSome_some, Nat.reduceEqDiff, Nat.reduceBEq, Nat.reduceGT, List.all_append, List.all_map, Function.comp_def, decide_eq_true_eq, Bool.and_eq_true, beq_self_eq_true, or_self, and_self, ite_true, ite_false, Nat.le_refl, Bool.not_eq_true, decide_not, Bool.not_eq_true', decide_eq_false_iff_not, Bool.not_eq_false, Bool.or_eq_true, if_true, if_false, ite_self, h1, plenumref05_Has_r1_eq]
    simp [show ¬ 0 ≤ n by omega]
  · by_cases h2 : 63 < n
    · simp (config := {maxSteps := 4000000, implicitDefEqProofs := false}) only [go_sem, ↓reduceIte, Nat.reduceAdd, Nat.reduceSub, Nat.reduceMul, Nat.reduceLeDiff, Nat.reduceLT, Int.reduceEq, Int.reduceNe, Int.reduceLT, Int.reduceLE, Int.reduceAdd, Int.reduceSub, Int.reduceMul, Int.reduceNeg, Nat.zero_add, Nat.add_zero, Nat.mul_one, Int.toNat_natCast, Int.natCast_zero, Int.cast_ofNat_Int, or_false, false_or, or_true, true_or, Int.reduceToNat, Nat.sub_zero, Int.natCast_nonneg, Int.toNat_zero, Bool.true_and, Bool.and_true, Bool.false_and, Bool.and_false, Bool.true_or, Bool.or_true, Bool.false_or, Bool.or_false, Bool.not_true, Bool.not_false, Bool.not_not, true_and, and_true, false_and, and_false, not_true_eq_false, not_false_eq_true, eq_self, decide_true, decide_false, ne_eq, implies_true, forall_const, true_implies, false_implies, Bool.true_eq_false, Bool.false_eq_true, reduceCtorEq, List.map_cons, List.map_nil, List.all_cons, List.all_nil, List.length_cons, List.length_nil, List.length_map, List.length_append, List.nil_append, List.cons_append, List.set_cons_zero, List.set_cons_succ, List.set_nil, List.drop_zero, List.drop_succ_cons, List.drop_nil, List.take_zero, List.take_succ_cons, List.take_nil, Option.map_some, Option.map_none, Option.isSome_some, Nat.reduceEqDiff, Nat.reduceBEq, Nat.reduceGT, List.all_append, List.all_map, Function.comp_def, decide_eq_true_eq, Bool.and_eq_true, beq_self_eq_true, or_self, and_self, ite_true, ite_false, Nat.le_refl, Bool.not_eq_true, decide_not, Bool.not_eq_true', decide_eq_false_iff_not, Bool.not_eq_false, Bool.or_eq_true, if_true, if_false, ite_self, h1, h2, plenumref05_Has_r1_eq]
      simp [show ¬ n ≤ 63 by omega]
    · simp (config := {maxSteps := 4000000, implicitDefEqProofs := false}) only [go_sem, ↓reduceIte, Nat.reduceAdd, Nat.reduceSub, Nat.reduceMul, Nat.reduceLeDiff, Nat.reduceLT, Int.reduceEq, Int.reduceNe, Int.reduceLT, Int.reduceLE, Int.reduceAdd, Int.reduceSub, Int.reduceMul, Int.reduceNeg, Nat.zero_add, Nat.add_zero, Nat.mul_one, Int.toNat_natCast, Int.natCast_zero, Int.cast_ofNat_Int, or_false, false_or, or_true, true_or, Int.reduceToNat, Nat.sub_zero, Int.natCast_nonneg, Int.toNat_zero, Bool.true_and, Bool.and_true, Bool.false_and, Bool.and_false, Bool.true_or, Bool.or_true, Bool.false_or, Bool.or_false, Bool.not_true, Bool.not_false, Bool.not_not, true_and, and_true, false_and, and_false, not_true_eq_false, not_false_eq_true, eq_self, decide_true, decide_false, ne_eq, implies_true, forall_const, true_implies, false_implies, Bool.true_eq_false, Bool.false_eq_true, reduceCtorEq, List.map_cons, List.map_nil, List.all_cons, List.all_nil, List.length_cons, List.length_nil, List.length_map, List.length_append, List.nil_append, List.cons_append, List.set_cons_zero, List.set_cons_succ, List.set_nil, List.drop_zero, List.drop_succ_cons, List.drop_nil, List.take_zero, List.take_succ_cons, List.take_nil, Option.map_some, Option.map_none, Option.isSome_some, Nat.reduceEqDiff, Nat.reduceBEq, Nat.reduceGT, List.all_append, List.all_map, Function.comp_def, decide_eq_true_eq, Bool.and_eq_true, beq_self_eq_true, or_self, and_self, ite_true, ite_false, Nat.le_refl, Bool.not_eq_true, decide_not, Bool.not_eq_true', decide_eq_false_iff_not, Bool.not_eq_false, Bool.or_eq_true, if_true, if_false, ite_self, h1, h2, plenumref05_Has_r1_eq]
      rw [show decide (0 ≤ n) = true by simp; omega, show decide (n ≤ 63) = true by simp; omega]
      obtain ⟨q, rfl⟩ : ∃ q : Nat, n = q := ⟨n.toNat, by omega⟩
      rw [Int.toNat_natCast]
      rw [show qA s = qA (s / 2 ^ 0) by simp]
      refine iter_ind (ι := {k : Nat // k ≤ q}) (fun k => ⟨[], [(1, nA q), (5, qA (s / 2 ^ k.1)), (6, nA k.1)]⟩) (fun k => q - k.1) (fun _ => some (bA (s.testBit q), [])) ?_ ⟨0, Nat.zero_le _⟩ (by dsimp only; omega)
      rintro ⟨k, hk⟩ kc hkc
      dsimp only at hkc ⊢
      rw [plenumref05_Has_b1_eq]
      have hd := Nat.div_le_self s (2 ^ k)
      by_cases hlt : k < q
      · have hlt' : (k : Int) < (q : Int) := by omega
        have hs := hkc ⟨k + 1, by omega⟩ (by dsimp only; omega)
        dsimp only at hs
        have e : IntKind.u64.wrap (((s / 2 ^ k : Nat) : Int).tdiv 2) = ((s / 2 ^ (k + 1) : Nat) : Int) := by
          rw [Int.tdiv_eq_ediv_of_nonneg (Int.natCast_nonneg _), Nat.pow_succ, ← Nat.div_div_eq_div_mul, IntKind.wrap_u64]
          generalize s / 2 ^ k = a at *
          omega
        simp (config := {maxSteps := 4000000, implicitDefEqProofs := false}) (disch := omega) only [go_sem, ↓reduceIte, Nat.reduceAdd, Nat.reduceSub, Nat.reduceMul, Nat.reduceLeDiff, Nat.reduceLT, Int.reduceEq, Int.reduceNe, Int.reduceLT, Int.reduceLE, Int.reduceAdd, Int.reduceSub, Int.reduceMul, Int.reduceNeg, Nat.zero_add, Nat.add_zero, Nat.mul_one, Int.toNat_natCast, Int.natCast_zero, Int.cast_ofNat_Int, or_false, false_or, or_true, true_or, Int.reduceToNat, Nat.sub_zero, Int.natCast_nonneg, Int.toNat_zero, Bool.true_and, Bool.and_true, Bool.false_and, Bool.and_false, Bool.true_or, Bool.or_true, Bool.false_or, Bool.or_false, Bool.not_true, Bool.not_false, Bool.not_not, true_and, and_true, false_and, and_false, not_true_eq_false, not_false_eq_true, eq_self, decide_true, decide_false, ne_eq, implies_true, forall_const, true_implies, false_implies, Bool.true_eq_false, Bool.false_eq_true, reduceCtorEq, List.map_cons, List.map_nil, List.all_cons, List.all_nil, List.length_cons, List.length_nil, List.length_map, List.length_append, List.nil_append, List.cons_append, List.set_cons_zero, List.set_cons_succ, List.set_nil, List.drop_zero, List.drop_succ_cons, List.drop_nil, List.take_zero, List.take_succ_cons, List.take_nil, Option.map_some, Option.map_none, Option.isSome_some, Nat.reduceEqDiff, Nat.reduceBEq, Nat.reduceGT, List.all_append, List.all_map, Function.comp_def, decide_eq_true_eq, Bool.and_eq_true, beq_self_eq_true, or_self, and_self, ite_true, ite_false, Nat.le_refl, Bool.not_eq_true, decide_not, Bool.not_eq_true', decide_eq_false_iff_not, Bool.not_eq_false, Bool.or_eq_true, if_true, if_false, ite_self, hlt', e, w_i64]
        exact hs
      · have hlt' : ¬ (k : Int) < (q : Int) := by omega
        have : k = q := by omega
        subst this
        simp (config := {maxSteps := 4000000, implicitDefEqProofs := false}) only [go_sem, ↓reduceIte, Nat.reduceAdd, Nat.reduceSub, Nat.reduceMul, Nat.reduceLeDiff, Nat.reduceLT, Int.reduceEq, Int.reduceNe, Int.reduceLT, Int.reduceLE, Int.reduceAdd, Int.reduceSub, Int.reduceMul, Int.reduceNeg, Nat.zero_add, Nat.add_zero, Nat.mul_one, Int.toNat_natCast, Int.natCast_zero, Int.cast_ofNat_Int, or_false, false_or, or_true, true_or, Int.reduceToNat, Nat.sub_zero, Int.natCast_nonneg, Int.toNat_zero, Bool.true_and, Bool.and_true, Bool.false_and, Bool.and_false, Bool.true_or, Bool.or_true, Bool.false_or, Bool.or_false, Bool.not_true, Bool.not_false, Bool.not_not, true_and, and_true, false_and, and_false, not_true_eq_false, not_false_eq_true, eq_self, decide_true, decide_false, ne_eq, implies_true, forall_const, true_implies, false_implies, Bool.true_eq_false, Bool.false_eq_true, reduceCtorEq, List.map_cons, List.map_nil, List.all_cons, List.all_nil, List.length_cons, List.length_nil, List.length_map, List.length_append, List.nil_append, List.cons_append, List.set_cons_zero, List.set_cons_succ, List.set_nil, List.drop_zero, List.drop_succ_cons, List.drop_nil, List.take_zero, List.take_succ_cons, List.take_nil, Option.map_some, Option.map_none, Option.isSome_some, Nat.reduceEqDiff, Nat.reduceBEq, Nat.reduceGT, List.all_append, List.all_map, Function.comp_def, decide_eq_true_eq, Bool.and_eq_true, beq_self_eq_true, or_self, and_self, ite_true, ite_false, Nat.le_refl, Bool.not_eq_true, decide_not, Bool.not_eq_true', decide_eq_false_iff_not, Bool.not_eq_false, Bool.or_eq_true, if_true, if_false, ite_self, hlt']
        rw [plenumref05_Has_r2_eq]
        have e : ((s / 2 ^ k : Nat) : Int).tmod 2 = ((s / 2 ^ k % 2 : Nat) : Int) := by
          rw [Int.tmod_eq_emod_of_nonneg (Int.natCast_nonneg _)]; rfl
        have e2 : decide (((s / 2 ^ k % 2 : Nat) : Int) = 1) = decide (s / 2 ^ k % 2 = 1) := by rw [decide_eq_decide]; omega
        rw [Nat.testBit_eq_decide_div_mod_eq]
        simp (config := {maxSteps := 4000000, implicitDefEqProofs := false}) only [go_sem, ↓reduceIte, Nat.reduceAdd, Nat.reduceSub, Nat.reduceMul, Nat.reduceLeDiff, Nat.reduceLT, Int.reduceEq, Int.reduceNe, Int.reduceLT, Int.reduceLE, Int.reduceAdd, Int.reduceSub, Int.reduceMul, Int.reduceNeg, Nat.zero_add, Nat.add_zero, Nat.mul_one, Int.toNat_natCast, Int.natCast_zero, Int.cast_ofNat_Int, or_false, false_or, or_true, true_or, Int.reduceToNat, Nat.sub_zero, Int.natCast_nonneg, Int.toNat_zero, Bool.true_and, Bool.and_true, Bool.false_and, Bool.and_false, Bool.true_or, Bool.or_true, Bool.false_or, Bool.or_false, Bool.not_true, Bool.not_false, Bool.not_not, true_and, and_true, false_and, and_false, not_true_eq_false, not_false_eq_true, eq_self, decide_true, decide_false, ne_eq, implies_true, forall_const, true_implies, false_implies, Bool.true_eq_false, Bool.false_eq_true, reduceCtorEq, List.map_cons, List.map_nil, List.all_cons, List.all_nil, List.length_cons, List.length_nil, List.length_map, List.length_append, List.nil_append, List.cons_append, List.set_cons_zero, List.set_cons_succ, List.set_nil, List.drop_zero, List.drop_succ_cons, List.drop_nil, List.take_zero, List.take_succ_cons, List.take_nil, Option.map_some, Option.map_none, Option.isSome_some, Nat.reduceEqDiff, Nat.reduceBEq, Nat.reduceGT, List.all_append, List.all_map, Function.comp_def, decide_eq_true_eq, Bool.and_eq_true, beq_self_eq_true, or_self, and_self, ite_true, ite_false, Nat.le_refl, Bool.not_eq_true, decide_not, Bool.not_eq_true', decide_eq_false_iff_not, Bool.not_eq_false, Bool.or_eq_true, if_true, if_false, ite_self, e, e2]
theorem bl_append {s : Nat} : ∀ (n i j : Nat), bl s i (n + j) = bl s i n ++ bl s (i + n) j
  | 0, i, j => by simp [bl]
  | n + 1, i, j => by
    rw [show n + 1 + j = (n + j) + 1 by omega]
    simp only [bl]
    rw [bl_append n (i + 1) j, show i + 1 + n = i + (n + 1) by omega]
    split <;> rfl
theorem rlist_s (m s : Nat) (h : s < 2 ^ 64) (hm : 64 < m) : plenumref05_List m (qA s) = some (SL ((numsL s).map fun i : Nat => nA (i : Int)), []) := by
  rw [plenumref05_List_eq]
  simp (config := {maxSteps := 4000000, implicitDefEqProofs := false}) only [go_sem, ↓reduceIte, Nat.reduceAdd, Nat.reduceSub, Nat.reduceMul, Nat.reduceLeDiff, Nat.reduceLT, Int.reduceEq, Int.reduceNe, Int.reduceLT, Int.reduceLE, Int.reduceAdd, Int.reduceSub, Int.reduceMul, Int.reduceNeg, Nat.zero_add, Nat.add_zero, Nat.mul_one, Int.toNat_natCast, Int.natCast_zero, Int.cast_ofNat_Int, or_false, false_or, or_true, true_or, Int.reduceToNat, Nat.sub_zero, Int.natCast_nonneg, Int.toNat_zero, Bool.true_and, Bool.and_true, Bool.false_and, Bool.and_false, Bool.true_or, Bool.or_true, Bool.false_or, Bool.or_false, Bool.not_true, Bool.not_false, Bool.not_not, true_and, and_true, false_and, and_false, not_true_eq_false, not_false_eq_true, eq_self, decide_true, decide_false, ne_eq, implies_true, forall_const, true_implies, false_implies, Bool.true_eq_false, Bool.false_eq_true, reduceCtorEq, List.map_cons, List.map_nil, List.all_cons, List.all_nil, List.length_cons, List.length_nil, List.length_map, List.length_append, List.nil_append, List.cons_append, List.set_cons_zero, List.set_cons_succ, List.set_nil, List.drop_zero, List.drop_succ_cons, List.drop_nil, List.take_zero, List.take_succ_cons, List.take_nil, Option.map_some, Option.map_none, Option.isSome_some, Nat.reduceEqDiff, Nat.reduceBEq, Nat.reduceGT, List.all_append, List.all_map, Function.comp_def, decide_eq_true_eq, Bool.and_eq_true, beq_self_eq_true, or_self, and_self, ite_true, ite_false, Nat.le_refl, Bool.not_eq_true, decide_not, Bool.not_eq_true', decide_eq_false_iff_not, Bool.not_eq_false, Bool.or_eq_true, if_true, if_false, ite_self]
  refine iter_ind (ι := {k : Nat // k ≤ 64}) (fun k => ⟨[⟨2, ty_int, 1, (bl s 0 k.1).map fun i : Nat => nA (i : Int)⟩], [(0, qA s), (3, OW 0 (bl s 0 k.1).length), (4, nA k.1)]⟩) (fun k => 64 - k.1) (fun _ => some (SL ((numsL s).map fun i : Nat => nA (i : Int)), [])) ?_ ⟨0, Nat.zero_le _⟩ (by dsimp only; omega)
  rintro ⟨k, hk⟩ kc hkc
  dsimp only at hkc ⊢
  rw [plenumref05_List_b1_eq]
  by_cases hlt : k < 64
  · have hlt' : (k : Int) < 64 := by omega
    have hh := rhas_s m s k h hm
    have hs := hkc ⟨k + 1, by omega⟩ (by dsimp only; omega)
    dsimp only at hs
    have hb : hasN s (k : Int) = s.testBit k := by
      unfold hasN
      rw [show decide (0 ≤ (k : Int)) = true by simp, show decide ((k : Int) ≤ 63) = true by simp; omega, Int.toNat_natCast]
      rfl
    have e := bl_append (s := s) k 0 1
    have hl := bl_len (s := s) k 0
    rw [Nat.zero_add] at e
    cases ht : s.testBit k with
    | true =>
      rw [hb, ht] at hh
      have e1 : bl s k 1 = [k] := by simp [bl, ht]
      rw [e, e1, List.map_append, List.length_append] at hs
      have e3 : (bl s 0 k).length ≤ 34359738367 := by omega
      simp (config := {maxSteps := 4000000, implicitDefEqProofs := false}) (disch := omega) only [go_sem, ↓reduceIte, Nat.reduceAdd, Nat.reduceSub, Nat.reduceMul, Nat.reduceLeDiff, Nat.reduceLT, Int.reduceEq, Int.reduceNe, Int.reduceLT, Int.reduceLE, Int.reduceAdd, Int.reduceSub, Int.reduceMul, Int.reduceNeg, Nat.zero_add, Nat.add_zero, Nat.mul_one, Int.toNat_natCast, Int.natCast_zero, Int.cast_ofNat_Int, or_false, false_or, or_true, true_or, Int.reduceToNat, Nat.sub_zero, Int.natCast_nonneg, Int.toNat_zero, Bool.true_and, Bool.and_true, Bool.false_and, Bool.and_false, Bool.true_or, Bool.or_true, Bool.false_or, Bool.or_false, Bool.not_true, Bool.not_false, Bool.not_not, true_and, and_true, false_and, and_false, not_true_eq_false, not_false_eq_true, eq_self, decide_true, decide_false, ne_eq, implies_true, forall_const, true_implies, false_implies, Bool.true_eq_false, Bool.false_eq_true, reduceCtorEq, List.map_cons, List.map_nil, List.all_cons, List.all_nil, List.length_cons, List.length_nil, List.length_map, List.length_append, List.nil_append, List.cons_append, List.set_cons_zero, List.set_cons_succ, List.set_nil, List.drop_zero, List.drop_succ_cons, List.drop_nil, List.take_zero, List.take_succ_cons, List.take_nil, Option.map_some, Option.map_none, Option.isSome_some, Nat.reduceEqDiff, Nat.reduceBEq, Nat.reduceGT, List.all_append, List.all_map, Function.comp_def, decide_eq_true_eq, Bool.and_eq_true, beq_self_eq_true, or_self, and_self, ite_true, ite_false, Nat.le_refl, Bool.not_eq_true, decide_not, Bool.not_eq_true', decide_eq_false_iff_not, Bool.not_eq_false, Bool.or_eq_true, if_true, if_false, ite_self, hlt', hh, w_i64]
      simpa [e3, whenE_t] using hs
    | false =>
      rw [hb, ht] at hh
      have e1 : bl s k 1 = [] := by simp [bl, ht]
      rw [e, e1, List.append_nil] at hs
      simp (config := {maxSteps := 4000000, implicitDefEqProofs := false}) (disch := omega) only [go_sem, ↓reduceIte, Nat.reduceAdd, Nat.reduceSub, Nat.reduceMul, Nat.reduceLeDiff, Nat.reduceLT, Int.reduceEq, Int.reduceNe, Int.reduceLT, Int.reduceLE, Int.reduceAdd, Int.reduceSub, Int.reduceMul, Int.reduceNeg, Nat.zero_add, Nat.add_zero, Nat.mul_one, Int.toNat_natCast, Int.natCast_zero, Int.cast_ofNat_Int, or_false, false_or, or_true, true_or, Int.reduceToNat, Nat.sub_zero, Int.natCast_nonneg, Int.toNat_zero, Bool.true_and, Bool.and_true, Bool.false_and, Bool.and_false, Bool.true_or, Bool.or_true, Bool.false_or, Bool.or_false, Bool.not_true, Bool.not_false, Bool.not_not, true_and, and_true, false_and, and_false, not_true_eq_false, not_false_eq_true, eq_self, decide_true, decide_false, ne_eq, implies_true, forall_const, true_implies, false_implies, Bool.true_eq_false, Bool.false_eq_true, reduceCtorEq, List.map_cons, List.map_nil, List.all_cons, List.all_nil, List.length_cons, List.length_nil, List.length_map, List.length_append, List.nil_append, List.cons_append, List.set_cons_zero, List.set_cons_succ, List.set_nil, List.drop_zero, List.drop_succ_cons, List.drop_nil, List.take_zero, List.take_succ_cons, List.take_nil, Option.map_some, Option.map_none, Option.isSome_some, Nat.reduceEqDiff, Nat.reduceBEq, Nat.reduceGT, List.all_append, List.all_map, Function.comp_def, decide_eq_true_eq, Bool.and_eq_true, beq_self_eq_true, or_self, and_self, ite_true, ite_false, Nat.le_refl, Bool.not_eq_true, decide_not, Bool.not_eq_true', decide_eq_false_iff_not, Bool.not_eq_false, Bool.or_eq_true, if_true, if_false, ite_self, hlt', hh, w_i64]
      exact hs
  · have hlt' : ¬ (k : Int) < 64 := by omega
    have : k = 64 := by omega
    subst this
    simp (config := {maxSteps := 4000000, implicitDefEqProofs := false}) only [go_sem, ↓reduceIte, Nat.reduceAdd, Nat.reduceSub, Nat.reduceMul, Nat.reduceLeDiff, Nat.reduceLT, Int.reduceEq, Int.reduceNe, Int.reduceLT, Int.reduceLE, Int.reduceAdd, Int.reduceSub, Int.reduceMul, Int.reduceNeg, Nat.zero_add, Nat.add_zero, Nat.mul_one, Int.toNat_natCast, Int.natCast_zero, Int.cast_ofNat_Int, or_false, false_or, or_true, true_or, Int.reduceToNat, Nat.sub_zero, Int.natCast_nonneg, Int.toNat_zero, Bool.true_and, Bool.and_true, Bool.false_and, Bool.and_false, Bool.true_or, Bool.or_true, Bool.false_or, Bool.or_false, Bool.not_true, Bool.not_false, Bool.not_not, true_and, and_true, false_and, and_false, not_true_eq_false, not_false_eq_true, eq_self, decide_true, decide_false, ne_eq, implies_true, forall_const, true_implies, false_implies, Bool.true_eq_false, Bool.false_eq_true, reduceCtorEq, List.map_cons, List.map_nil, List.all_cons, List.all_nil, List.length_cons, List.length_nil, List.length_map, List.length_append, List.nil_append, List.cons_append, List.set_cons_zero, List.set_cons_succ, List.set_nil, List.drop_zero, List.drop_succ_cons, List.drop_nil, List.take_zero, List.take_succ_cons, List.take_nil, Option.map_some, Option.map_none, Option.isSome_some, Nat.reduceEqDiff, Nat.reduceBEq, Nat.reduceGT, List.all_append, List.all_map, Function.comp_def, decide_eq_true_eq, Bool.and_eq_true, beq_self_eq_true, or_self, and_self, ite_true, ite_false, Nat.le_refl, Bool.not_eq_true, decide_not, Bool.not_eq_true', decide_eq_false_iff_not, Bool.not_eq_false, Bool.or_eq_true, if_true, if_false, ite_self, hlt']
    rw [plenumref05_List_r1_eq]
    simp (config := {maxSteps := 4000000, implicitDefEqProofs := false}) only [go_sem, ↓reduceIte, Nat.reduceAdd, Nat.reduceSub, Nat.reduceMul, Nat.reduceLeDiff, Nat.reduceLT, Int.reduceEq, Int.reduceNe, Int.reduceLT, Int.reduceLE, Int.reduceAdd, Int.reduceSub, Int.reduceMul, Int.reduceNeg, Nat.zero_add, Nat.add_zero, Nat.mul_one, Int.toNat_natCast, Int.natCast_zero, Int.cast_ofNat_Int, or_false, false_or, or_true, true_or, Int.reduceToNat, Nat.sub_zero, Int.natCast_nonneg, Int.toNat_zero, Bool.true_and, Bool.and_true, Bool.false_and, Bool.and_false, Bool.true_or, Bool.or_true, Bool.false_or, Bool.or_false, Bool.not_true, Bool.not_false, Bool.not_not, true_and, and_true, false_and, and_false, not_true_eq_false, not_false_eq_true, eq_self, decide_true, decide_false, ne_eq, implies_true, forall_const, true_implies, false_implies, Bool.true_eq_false, Bool.false_eq_true, reduceCtorEq, List.map_cons, List.map_nil, List.all_cons, List.all_nil, List.length_cons, List.length_nil, List.length_map, List.length_append, List.nil_append, List.cons_append, List.set_cons_zero, List.set_cons_succ, List.set_nil, List.drop_zero, List.drop_succ_cons, List.drop_nil, List.take_zero, List.take_succ_cons, List.take_nil, Option.map_some, Option.map_none, Option.isSome_some, Nat.reduceEqDiff, Nat.reduceBEq, Nat.reduceGT, List.all_append, List.all_map, Function.comp_def, decide_eq_true_eq, Bool.and_eq_true, beq_self_eq_true, or_self, and_self, ite_true, ite_false, Nat.le_refl, Bool.not_eq_true, decide_not, Bool.not_eq_true', decide_eq_false_iff_not, Bool.not_eq_false, Bool.or_eq_true, if_true, if_false, ite_self]
    rfl
end Go.Proofs.YtlhnkljpidgjgaaDoor

namespace Go.Proofs.YtlhnkljpidgjgaaDoor
open Go.RowKit
set_option linter.unusedVariables false
set_option maxRecDepth 100000
def ty_plenumlaw05_Three : TypeId := 31
noncomputable def plenumlaw05_awake_c : Code := (Tryd.f12.body).getD .skip
def plenumlaw05_awake_h : Hint := (.two .n (.two .n (.two .n (.two .n (.two .n .n)))))
noncomputable def plenumlaw05_awake_env (m : Nat) : Env := [(7, .tell (quorum_Replicas_t m)), (8, .tell (quorum_Faults_t m)), (19, .tell (quorum_List_t m)), (10, .tell (quorum_Strong_t m)), (11, .tell (quorum_Weak_t m)), (15, .tell (quorum_Count_t m)), (13, .tell (quorum_IsStrong_t m)), (24, .tell (quorum_Primary_t m))]
noncomputable abbrev plenumlaw05_awake_fin : KO (AV × List AObj) := tellFK Tryd.prog [.tmp 0]
noncomputable def plenumlaw05_awake (m : Nat) : RO := exec Tryd.prog GG (plenumlaw05_awake_env m) m 59 plenumlaw05_awake_c plenumlaw05_awake_h ⟨[], argsT 0 []⟩ (plenumlaw05_awake_fin)
theorem plenumlaw05_awake_eq (m : Nat) : plenumlaw05_awake m =
  tellE (quorum_Replicas m (V (.int .i64 1))) [(V (.int .i64 1))] fun t7 =>
  extE t7 0 fun t8 =>
  extE t7 1 fun t9 =>
  tellE (quorum_Faults m (V (.int .i64 5))) [(V (.int .i64 5))] fun t11 =>
  extE t11 0 fun t12 =>
  extE t11 1 fun t13 =>
  tellE (quorum_List_t m [(V (.int .u64 11))]) [(V (.int .u64 11))] fun t14 =>
  binE none false .eql t8 (V (.int .i64 4)) fun t16 =>
  condE t16 (
   binE none false .eql t9 (V (.int .i64 0)) fun t19 =>
   condE t19 (
   binE none false .eql t13 (V (.int .i64 1)) fun t23 =>
   condE t23 (
   tellE (quorum_Strong m (V (.int .i64 4))) [(V (.int .i64 4))] fun t26 =>
   binE none false .eql t26 (V (.int .i64 3)) fun t27 =>
   condE t27 (
   tellE (quorum_Weak m (V (.int .i64 4))) [(V (.int .i64 4))] fun t30 =>
   binE none false .eql t30 (V (.int .i64 2)) fun t31 =>
   condE t31 (
   lenE false true [] t14 fun t35 =>
   binE none false .eql t35 (V (.int .i64 3)) fun t36 =>
   condE t36 (
   idxSE 1 [] t14 (V (.int .i64 2)) fun t40 =>
   loadE 1 [] t40 fun t41 =>
   binE none false .eql t41 (V (.int .i64 3)) fun t42 =>
   condE t42 (
   tellE (quorum_Count m (V (.int .u64 11))) [(V (.int .u64 11))] fun t45 =>
   binE none false .eql t45 (V (.int .i64 3)) fun t46 =>
   condE t46 (
   tellE (quorum_IsStrong m (V (.int .u64 11)) (V (.int .i64 4))) [(V (.int .u64 11)), (V (.int .i64 4))] fun t49 =>
   condE t49 (
   tellE (quorum_Primary m (V (.int .i64 9)) (V (.int .i64 4))) [(V (.int .i64 9)), (V (.int .i64 4))] fun t52 =>
   binE none false .eql t52 (V (.int .i64 1)) fun t53 =>
   condE t53 (
   tellE (quorum_Primary m (V (.int .i64 (-1))) (V (.int .i64 4))) [(V (.int .i64 (-1))), (V (.int .i64 4))] fun t56 =>
   binE none false .eql t56 (V (.int .i64 3)) fun t57 =>
   tellK [] (ro [] t57)) (
   tellK [] (ro [] (V (.bool false))))) (
   tellK [] (ro [] (V (.bool false))))) (
   tellK [] (ro [] (V (.bool false))))) (
   tellK [] (ro [] (V (.bool false))))) (
   tellK [] (ro [] (V (.bool false))))) (
   tellK [] (ro [] (V (.bool false))))) (
   tellK [] (ro [] (V (.bool false))))) (
   tellK [] (ro [] (V (.bool false))))) (
   tellK [] (ro [] (V (.bool false))))) (
   tellK [] (ro [] (V (.bool false)))) := by
  refine (tellX Tryd.prog GG (plenumlaw05_awake_env m) m 59 plenumlaw05_awake_c plenumlaw05_awake_h ⟨[], argsT 0 []⟩ [.tmp 0]).trans ?_
  kernel_rfl
noncomputable def plenumlaw05_awake_t (m : Nat) : List AV → RO | [] => plenumlaw05_awake m | _ => none
theorem plenumlaw05_awake_ok (m : Nat) : ∀ args X H', plenumlaw05_awake_t m args = some (X, H') → ACp Tryd.prog GG 12 args X := by
  intro args X H' h
  unfold plenumlaw05_awake_t at h
  split at h
  · exact tell_okK MIX (by
    intro f e h
    simp only [plenumlaw05_awake_env, Prod.mk.injEq, List.mem_cons, List.not_mem_nil, or_false] at h
    rcases h with ⟨rfl, rfl⟩ | ⟨rfl, rfl⟩ | ⟨rfl, rfl⟩ | ⟨rfl, rfl⟩ | ⟨rfl, rfl⟩ | ⟨rfl, rfl⟩ | ⟨rfl, rfl⟩ | ⟨rfl, rfl⟩
    · exact quorum_Replicas_ok m
    · exact quorum_Faults_ok m
    · exact quorum_List_ok m
    · exact quorum_Strong_ok m
    · exact quorum_Weak_ok m
    · exact quorum_Count_ok m
    · exact quorum_IsStrong_ok m
    · exact quorum_Primary_ok m) (f := 12) (c := plenumlaw05_awake_c) Tryd.func12 rfl (by kernel_rfl) _ rfl Tryd.ntmps12 (Nat.le_of_ble_eq_true rfl) plenumlaw05_awake_h h
  · cases h
noncomputable def plenumlaw05_QuorumSizes_c : Code := (Tryd.f3.body).getD .skip
def plenumlaw05_QuorumSizes_h : Hint := (.two .n (.two .n (.two .n (.join [1, 7, 8] (.join [0, 1, 5, 6, 7, 8, 25] .n (.two (.join [1, 7, 8, 31] .n (.two (.two .n .n) .n)) (.join [1, 7, 8, 40] .n (.two (.two .n .n) .n)))) (.two .n (.two (.two .n (.two (.two .n .n) .n)) (.two .n .n)))))))
noncomputable def plenumlaw05_QuorumSizes_env (m : Nat) : Env := [(7, .tell (quorum_Replicas_t m)), (8, .tell (quorum_Faults_t m)), (9, .tell (plenumref05_Faults_t m)), (10, .tell (quorum_Strong_t m)), (11, .tell (quorum_Weak_t m)), (12, .tell (plenumlaw05_awake_t m))]
noncomputable abbrev plenumlaw05_QuorumSizes_fin : KO (AV × List AObj) := tellFK Tryd.prog [.tmp 4]
noncomputable def plenumlaw05_QuorumSizes_r4 (m : Nat) (s : ASt) : RO := joinW Tryd.prog GG (plenumlaw05_QuorumSizes_env m) m 91 (cdR (cdR (cdR (cdR plenumlaw05_QuorumSizes_c)))) plenumlaw05_QuorumSizes_h.r.r.r.r s (plenumlaw05_QuorumSizes_fin)
noncomputable def plenumlaw05_QuorumSizes_r3 (m : Nat) (s : ASt) : RO := joinW Tryd.prog GG (plenumlaw05_QuorumSizes_env m) m 91 (cdR (cdR (cdR (cdL (cdR (cdR (cdR plenumlaw05_QuorumSizes_c))))))) plenumlaw05_QuorumSizes_h.r.r.r.l.r.r.r s (seqK (fun s => plenumlaw05_QuorumSizes_r4 m ⟨s.H, [(1, gt s.T 1), (7, gt s.T 7), (8, gt s.T 8)]⟩) (plenumlaw05_QuorumSizes_fin))
noncomputable def plenumlaw05_QuorumSizes_r2 (m : Nat) (s : ASt) : RO := joinW Tryd.prog GG (plenumlaw05_QuorumSizes_env m) m 91 (cdR (cdL (cdR (cdL (cdR (cdR (cdR plenumlaw05_QuorumSizes_c))))))) plenumlaw05_QuorumSizes_h.r.r.r.l.r.l.r s (seqK (fun s => plenumlaw05_QuorumSizes_r4 m ⟨s.H, [(1, gt s.T 1), (7, gt s.T 7), (8, gt s.T 8)]⟩) (plenumlaw05_QuorumSizes_fin))
noncomputable def plenumlaw05_QuorumSizes_r1 (m : Nat) (s : ASt) : RO := joinW Tryd.prog GG (plenumlaw05_QuorumSizes_env m) m 91 (cdR (cdL (cdR (cdR (cdR plenumlaw05_QuorumSizes_c))))) plenumlaw05_QuorumSizes_h.r.r.r.l.r s (seqK (fun s => plenumlaw05_QuorumSizes_r4 m ⟨s.H, [(1, gt s.T 1), (7, gt s.T 7), (8, gt s.T 8)]⟩) (plenumlaw05_QuorumSizes_fin))
noncomputable def plenumlaw05_QuorumSizes (m : Nat) (t0 t1 : AV) : RO := exec Tryd.prog GG (plenumlaw05_QuorumSizes_env m) m 91 plenumlaw05_QuorumSizes_c plenumlaw05_QuorumSizes_h ⟨[], argsT 0 [t0, t1]⟩ (plenumlaw05_QuorumSizes_fin)
theorem plenumlaw05_QuorumSizes_r4_eq (m : Nat) (H : List AObj) (t1 t7 t8 : AV) : plenumlaw05_QuorumSizes_r4 m ⟨H, [(1, t1), (7, t7), (8, t8)]⟩ =
  tellE (plenumref05_Faults m (ro H t1)) [(ro H t1)] fun t42 =>
  binE none false .eql t42 (V (.int .i64 0)) fun t44 =>
  condE t44 (
   binE none false .eql t7 (V (.int .i64 0)) fun t46 =>
   condE t46 (
    binE none false .eql t8 (V (.int .i64 1)) fun t49 =>
    condE t49 (
    tellE (quorum_Strong m (ro H t1)) [(ro H t1)] fun t53 =>
    binE none false .eql t53 (V (.int .i64 0)) fun t54 =>
    condE t54 (
    tellE (quorum_Weak m (ro H t1)) [(ro H t1)] fun t58 =>
    binE none false .eql t58 (V (.int .i64 0)) fun t59 =>
    condE t59 (
    tellE (plenumlaw05_awake m) [] fun t62 =>
    tellK H (ro H t62)) (
    tellK H (ro H (V (.bool false))))) (
    tellK H (ro H (V (.bool false))))) (
    tellK H (ro H (V (.bool false))))) (
    tellK H (ro H (V (.bool false))))) (
   binE none false .eql t7 t42 fun t66 =>
   condE t66 (
    binE none false .eql t8 (V (.int .i64 0)) fun t69 =>
    condE t69 (
    tellE (quorum_Strong m (ro H t1)) [(ro H t1)] fun t73 =>
    binE none false .mul (V (.int .i64 2)) t42 fun t75 =>
    binE none false .add t75 (V (.int .i64 1)) fun t76 =>
    binE none false .eql t73 t76 fun t77 =>
    condE t77 (
    tellE (quorum_Weak m (ro H t1)) [(ro H t1)] fun t81 =>
    binE none false .add t42 (V (.int .i64 1)) fun t83 =>
    binE none false .eql t81 t83 fun t84 =>
    pickE t84 (V (.bool true)) (V (.bool false)) fun t87 =>
   condE t87 (
    tellE (plenumlaw05_awake m) [] fun t89 =>
    tellK H (ro H t89)) (
    tellK H (ro H (V (.bool false))))) (
    tellK H (ro H (V (.bool false))))) (
    tellK H (ro H (V (.bool false))))) (
    tellK H (ro H (V (.bool false))))) := by
  refine (joinW_eq Tryd.prog GG (plenumlaw05_QuorumSizes_env m) m 91 (cdR (cdR (cdR (cdR plenumlaw05_QuorumSizes_c)))) plenumlaw05_QuorumSizes_h.r.r.r.r ⟨H, [(1, t1), (7, t7), (8, t8)]⟩ (plenumlaw05_QuorumSizes_fin)).trans ?_
  kernel_rfl
theorem plenumlaw05_QuorumSizes_r3_eq (m : Nat) (H : List AObj) (t1 t7 t8 t40 : AV) : plenumlaw05_QuorumSizes_r3 m ⟨H, [(1, t1), (7, t7), (8, t8), (40, t40)]⟩ =
  condE t40 (
   tellK H (ro H (V (.bool false)))) (
   plenumlaw05_QuorumSizes_r4 m ⟨H, [(1, t1), (7, t7), (8, t8)]⟩) := by
  refine (joinW_eq Tryd.prog GG (plenumlaw05_QuorumSizes_env m) m 91 (cdR (cdR (cdR (cdL (cdR (cdR (cdR plenumlaw05_QuorumSizes_c))))))) plenumlaw05_QuorumSizes_h.r.r.r.l.r.r.r ⟨H, [(1, t1), (7, t7), (8, t8), (40, t40)]⟩ (seqK (fun s => plenumlaw05_QuorumSizes_r4 m ⟨s.H, [(1, gt s.T 1), (7, gt s.T 7), (8, gt s.T 8)]⟩) (plenumlaw05_QuorumSizes_fin))).trans ?_
  kernel_rfl
theorem plenumlaw05_QuorumSizes_r2_eq (m : Nat) (H : List AObj) (t1 t7 t8 t31 : AV) : plenumlaw05_QuorumSizes_r2 m ⟨H, [(1, t1), (7, t7), (8, t8), (31, t31)]⟩ =
  condE t31 (
   tellK H (ro H (V (.bool false)))) (
   plenumlaw05_QuorumSizes_r4 m ⟨H, [(1, t1), (7, t7), (8, t8)]⟩) := by
  refine (joinW_eq Tryd.prog GG (plenumlaw05_QuorumSizes_env m) m 91 (cdR (cdL (cdR (cdL (cdR (cdR (cdR plenumlaw05_QuorumSizes_c))))))) plenumlaw05_QuorumSizes_h.r.r.r.l.r.l.r ⟨H, [(1, t1), (7, t7), (8, t8), (31, t31)]⟩ (seqK (fun s => plenumlaw05_QuorumSizes_r4 m ⟨s.H, [(1, gt s.T 1), (7, gt s.T 7), (8, gt s.T 8)]⟩) (plenumlaw05_QuorumSizes_fin))).trans ?_
  kernel_rfl
theorem plenumlaw05_QuorumSizes_r1_eq (m : Nat) (H : List AObj) (t0 t1 t5 t6 t7 t8 t25 : AV) : plenumlaw05_QuorumSizes_r1 m ⟨H, [(0, t0), (1, t1), (5, t5), (6, t6), (7, t7), (8, t8), (25, t25)]⟩ =
  condE t25 (
   binE none false .neq t5 (V (.int .i64 0)) fun t27 =>
   condE t27 (
    plenumlaw05_QuorumSizes_r2 m ⟨H, [(1, t1), (7, t7), (8, t8), (31, (V (.bool true)))]⟩) (
    binE none false .neq t6 (V (.int .i64 1)) fun t30 =>
    plenumlaw05_QuorumSizes_r2 m ⟨H, [(1, t1), (7, t7), (8, t8), (31, t30)]⟩)) (
   binE none false .mul (V (.int .i64 3)) t0 fun t34 =>
   binE none false .add t34 (V (.int .i64 1)) fun t35 =>
   binE none false .neq t5 t35 fun t36 =>
   condE t36 (
    plenumlaw05_QuorumSizes_r3 m ⟨H, [(1, t1), (7, t7), (8, t8), (40, (V (.bool true)))]⟩) (
    binE none false .neq t6 (V (.int .i64 0)) fun t39 =>
    plenumlaw05_QuorumSizes_r3 m ⟨H, [(1, t1), (7, t7), (8, t8), (40, t39)]⟩)) := by
  refine (joinW_eq Tryd.prog GG (plenumlaw05_QuorumSizes_env m) m 91 (cdR (cdL (cdR (cdR (cdR plenumlaw05_QuorumSizes_c))))) plenumlaw05_QuorumSizes_h.r.r.r.l.r ⟨H, [(0, t0), (1, t1), (5, t5), (6, t6), (7, t7), (8, t8), (25, t25)]⟩ (seqK (fun s => plenumlaw05_QuorumSizes_r4 m ⟨s.H, [(1, gt s.T 1), (7, gt s.T 7), (8, gt s.T 8)]⟩) (plenumlaw05_QuorumSizes_fin))).trans ?_
  kernel_rfl
theorem plenumlaw05_QuorumSizes_eq (m : Nat) (t0 t1 : AV) : plenumlaw05_QuorumSizes m t0 t1 =
  tellE (quorum_Replicas m (ro [] t0)) [(ro [] t0)] fun t12 =>
  extE t12 0 fun t13 =>
  extE t12 1 fun t14 =>
  tellE (quorum_Faults m (ro [] t1)) [(ro [] t1)] fun t17 =>
  extE t17 0 fun t18 =>
  extE t17 1 fun t19 =>
  binE none false .lss t0 (V (.int .i64 1)) fun t21 =>
  condE t21 (
   plenumlaw05_QuorumSizes_r1 m ⟨[], [(0, t0), (1, t1), (5, t13), (6, t14), (7, t18), (8, t19), (25, (V (.bool true)))]⟩) (
   binE none false .gtr t0 (V (.int .i64 5)) fun t24 =>
   plenumlaw05_QuorumSizes_r1 m ⟨[], [(0, t0), (1, t1), (5, t13), (6, t14), (7, t18), (8, t19), (25, t24)]⟩) := by
  refine (tellX Tryd.prog GG (plenumlaw05_QuorumSizes_env m) m 91 plenumlaw05_QuorumSizes_c plenumlaw05_QuorumSizes_h ⟨[], argsT 0 [t0, t1]⟩ [.tmp 4]).trans ?_
  kernel_rfl
noncomputable def plenumlaw05_QuorumSizes_t (m : Nat) : List AV → RO | [t0, t1] => plenumlaw05_QuorumSizes m t0 t1 | _ => none
theorem plenumlaw05_QuorumSizes_ok (m : Nat) : ∀ args X H', plenumlaw05_QuorumSizes_t m args = some (X, H') → ACp Tryd.prog GG 3 args X := by
  intro args X H' h
  unfold plenumlaw05_QuorumSizes_t at h
  split at h
  · exact tell_okK MIX (by
    intro f e h
    simp only [plenumlaw05_QuorumSizes_env, Prod.mk.injEq, List.mem_cons, List.not_mem_nil, or_false] at h
    rcases h with ⟨rfl, rfl⟩ | ⟨rfl, rfl⟩ | ⟨rfl, rfl⟩ | ⟨rfl, rfl⟩ | ⟨rfl, rfl⟩ | ⟨rfl, rfl⟩
    · exact quorum_Replicas_ok m
    · exact quorum_Faults_ok m
    · exact plenumref05_Faults_ok m
    · exact quorum_Strong_ok m
    · exact quorum_Weak_ok m
    · exact plenumlaw05_awake_ok m) (f := 3) (c := plenumlaw05_QuorumSizes_c) Tryd.func3 rfl (by kernel_rfl) _ rfl Tryd.ntmps3 (Nat.le_of_ble_eq_true rfl) plenumlaw05_QuorumSizes_h h
  · cases h
noncomputable def plenumlaw05_QuorumMeets_c : Code := (Tryd.f4.body).getD .skip
def plenumlaw05_QuorumMeets_h : Hint := (.two .n (.two .n (.two .n (.two (.two .n (.two (.two .n .n) .n)) (.join [3, 4, 5, 6, 7] (.join [3, 4, 5, 6, 7, 49] .n (.two (.two .n .n) .n)) (.join [3, 5, 6, 7] (.join [3, 5, 6, 7, 65] .n (.two (.two .n .n) .n)) (.join [3, 5, 6, 7] (.join [3, 5, 6, 7, 82] .n (.two (.two .n .n) .n)) (.two .n .n))))))))
noncomputable def plenumlaw05_QuorumMeets_env (m : Nat) : Env := [(8, .tell (quorum_Faults_t m)), (13, .tell (quorum_IsStrong_t m)), (14, .tell (quorum_IsWeak_t m)), (12, .tell (plenumlaw05_awake_t m)), (15, .tell (quorum_Count_t m)), (16, .tell (quorum_All_t m))]
noncomputable abbrev plenumlaw05_QuorumMeets_fin : KO (AV × List AObj) := tellFK Tryd.prog [.tmp 2]
noncomputable def plenumlaw05_QuorumMeets_r6 (m : Nat) (s : ASt) : RO := joinW Tryd.prog GG (plenumlaw05_QuorumMeets_env m) m 106 (cdR (cdR (cdR (cdR (cdR (cdR (cdR plenumlaw05_QuorumMeets_c))))))) plenumlaw05_QuorumMeets_h.r.r.r.r.r.r.r s (plenumlaw05_QuorumMeets_fin)
noncomputable def plenumlaw05_QuorumMeets_r5 (m : Nat) (s : ASt) : RO := joinW Tryd.prog GG (plenumlaw05_QuorumMeets_env m) m 106 (cdR (cdL (cdR (cdR (cdR (cdR (cdR (cdR plenumlaw05_QuorumMeets_c)))))))) plenumlaw05_QuorumMeets_h.r.r.r.r.r.r.l.r s (seqK (fun s => plenumlaw05_QuorumMeets_r6 m ⟨s.H, [(3, gt s.T 3), (5, gt s.T 5), (6, gt s.T 6), (7, gt s.T 7)]⟩) (plenumlaw05_QuorumMeets_fin))
noncomputable def plenumlaw05_QuorumMeets_r4 (m : Nat) (s : ASt) : RO := joinW Tryd.prog GG (plenumlaw05_QuorumMeets_env m) m 106 (cdR (cdR (cdR (cdR (cdR (cdR plenumlaw05_QuorumMeets_c)))))) plenumlaw05_QuorumMeets_h.r.r.r.r.r.r s (plenumlaw05_QuorumMeets_fin)
noncomputable def plenumlaw05_QuorumMeets_r3 (m : Nat) (s : ASt) : RO := joinW Tryd.prog GG (plenumlaw05_QuorumMeets_env m) m 106 (cdR (cdL (cdR (cdR (cdR (cdR (cdR plenumlaw05_QuorumMeets_c))))))) plenumlaw05_QuorumMeets_h.r.r.r.r.r.l.r s (seqK (fun s => plenumlaw05_QuorumMeets_r4 m ⟨s.H, [(3, gt s.T 3), (5, gt s.T 5), (6, gt s.T 6), (7, gt s.T 7)]⟩) (plenumlaw05_QuorumMeets_fin))
noncomputable def plenumlaw05_QuorumMeets_r2 (m : Nat) (s : ASt) : RO := joinW Tryd.prog GG (plenumlaw05_QuorumMeets_env m) m 106 (cdR (cdR (cdR (cdR (cdR plenumlaw05_QuorumMeets_c))))) plenumlaw05_QuorumMeets_h.r.r.r.r.r s (plenumlaw05_QuorumMeets_fin)
noncomputable def plenumlaw05_QuorumMeets_r1 (m : Nat) (s : ASt) : RO := joinW Tryd.prog GG (plenumlaw05_QuorumMeets_env m) m 106 (cdR (cdL (cdR (cdR (cdR (cdR plenumlaw05_QuorumMeets_c)))))) plenumlaw05_QuorumMeets_h.r.r.r.r.l.r s (seqK (fun s => plenumlaw05_QuorumMeets_r2 m ⟨s.H, [(3, gt s.T 3), (4, gt s.T 4), (5, gt s.T 5), (6, gt s.T 6), (7, gt s.T 7)]⟩) (plenumlaw05_QuorumMeets_fin))
noncomputable def plenumlaw05_QuorumMeets (m : Nat) (t0 : AV) : RO := exec Tryd.prog GG (plenumlaw05_QuorumMeets_env m) m 106 plenumlaw05_QuorumMeets_c plenumlaw05_QuorumMeets_h ⟨[], argsT 0 [t0]⟩ (plenumlaw05_QuorumMeets_fin)
theorem plenumlaw05_QuorumMeets_r6_eq (m : Nat) (H : List AObj) (t3 t5 t6 t7 : AV) : plenumlaw05_QuorumMeets_r6 m ⟨H, [(3, t3), (5, t5), (6, t6), (7, t7)]⟩ =
  tellE (quorum_IsWeak m (ro H t3) (ro H t6)) [(ro H t3), (ro H t6)] fun t85 =>
  unE .not t85 fun t86 =>
  condE t86 (
   tellE (plenumlaw05_awake m) [] fun t104 =>
   tellK H (ro H t104)) (
   tellE (quorum_Count m (ro H t5)) [(ro H t5)] fun t89 =>
   binE none false .gtr t89 t7 fun t91 =>
   condE t91 (
   tellE (plenumlaw05_awake m) [] fun t104 =>
   tellK H (ro H t104)) (
   tellE (quorum_All m (ro H t6)) [(ro H t6)] fun t96 =>
   binE none false .and t3 t96 fun t97 =>
   binE none false .andNot t97 t5 fun t99 =>
   tellE (quorum_Count m (ro H t99)) [(ro H t99)] fun t100 =>
   binE none false .gtr t100 (V (.int .i64 0)) fun t101 =>
   condE t101 (
   tellE (plenumlaw05_awake m) [] fun t104 =>
   tellK H (ro H t104)) (
   tellK H (ro H (V (.bool false)))))) := by
  refine (joinW_eq Tryd.prog GG (plenumlaw05_QuorumMeets_env m) m 106 (cdR (cdR (cdR (cdR (cdR (cdR (cdR plenumlaw05_QuorumMeets_c))))))) plenumlaw05_QuorumMeets_h.r.r.r.r.r.r.r ⟨H, [(3, t3), (5, t5), (6, t6), (7, t7)]⟩ (plenumlaw05_QuorumMeets_fin)).trans ?_
  kernel_rfl
theorem plenumlaw05_QuorumMeets_r5_eq (m : Nat) (H : List AObj) (t3 t5 t6 t7 t82 : AV) : plenumlaw05_QuorumMeets_r5 m ⟨H, [(3, t3), (5, t5), (6, t6), (7, t7), (82, t82)]⟩ =
  condE t82 (
   tellK H (ro H (V (.bool false)))) (
   plenumlaw05_QuorumMeets_r6 m ⟨H, [(3, t3), (5, t5), (6, t6), (7, t7)]⟩) := by
  refine (joinW_eq Tryd.prog GG (plenumlaw05_QuorumMeets_env m) m 106 (cdR (cdL (cdR (cdR (cdR (cdR (cdR (cdR plenumlaw05_QuorumMeets_c)))))))) plenumlaw05_QuorumMeets_h.r.r.r.r.r.r.l.r ⟨H, [(3, t3), (5, t5), (6, t6), (7, t7), (82, t82)]⟩ (seqK (fun s => plenumlaw05_QuorumMeets_r6 m ⟨s.H, [(3, gt s.T 3), (5, gt s.T 5), (6, gt s.T 6), (7, gt s.T 7)]⟩) (plenumlaw05_QuorumMeets_fin))).trans ?_
  kernel_rfl
theorem plenumlaw05_QuorumMeets_r4_eq (m : Nat) (H : List AObj) (t3 t5 t6 t7 : AV) : plenumlaw05_QuorumMeets_r4 m ⟨H, [(3, t3), (5, t5), (6, t6), (7, t7)]⟩ =
  tellE (quorum_IsStrong m (ro H t3) (ro H t6)) [(ro H t3), (ro H t6)] fun t68 =>
  condE t68 (
   tellE (quorum_Count m (ro H t5)) [(ro H t5)] fun t71 =>
   binE none false .leq t71 t7 fun t73 =>
   condE t73 (
   binE none false .andNot t3 t5 fun t78 =>
   tellE (quorum_IsWeak m (ro H t78) (ro H t6)) [(ro H t78), (ro H t6)] fun t80 =>
   unE .not t80 fun t81 =>
   plenumlaw05_QuorumMeets_r5 m ⟨H, [(3, t3), (5, t5), (6, t6), (7, t7), (82, t81)]⟩) (
   plenumlaw05_QuorumMeets_r5 m ⟨H, [(3, t3), (5, t5), (6, t6), (7, t7), (82, (V (.bool false)))]⟩)) (
   plenumlaw05_QuorumMeets_r5 m ⟨H, [(3, t3), (5, t5), (6, t6), (7, t7), (82, (V (.bool false)))]⟩) := by
  refine (joinW_eq Tryd.prog GG (plenumlaw05_QuorumMeets_env m) m 106 (cdR (cdR (cdR (cdR (cdR (cdR plenumlaw05_QuorumMeets_c)))))) plenumlaw05_QuorumMeets_h.r.r.r.r.r.r ⟨H, [(3, t3), (5, t5), (6, t6), (7, t7)]⟩ (plenumlaw05_QuorumMeets_fin)).trans ?_
  kernel_rfl
theorem plenumlaw05_QuorumMeets_r3_eq (m : Nat) (H : List AObj) (t3 t5 t6 t7 t65 : AV) : plenumlaw05_QuorumMeets_r3 m ⟨H, [(3, t3), (5, t5), (6, t6), (7, t7), (65, t65)]⟩ =
  condE t65 (
   tellK H (ro H (V (.bool false)))) (
   plenumlaw05_QuorumMeets_r4 m ⟨H, [(3, t3), (5, t5), (6, t6), (7, t7)]⟩) := by
  refine (joinW_eq Tryd.prog GG (plenumlaw05_QuorumMeets_env m) m 106 (cdR (cdL (cdR (cdR (cdR (cdR (cdR plenumlaw05_QuorumMeets_c))))))) plenumlaw05_QuorumMeets_h.r.r.r.r.r.l.r ⟨H, [(3, t3), (5, t5), (6, t6), (7, t7), (65, t65)]⟩ (seqK (fun s => plenumlaw05_QuorumMeets_r4 m ⟨s.H, [(3, gt s.T 3), (5, gt s.T 5), (6, gt s.T 6), (7, gt s.T 7)]⟩) (plenumlaw05_QuorumMeets_fin))).trans ?_
  kernel_rfl
theorem plenumlaw05_QuorumMeets_r2_eq (m : Nat) (H : List AObj) (t3 t4 t5 t6 t7 : AV) : plenumlaw05_QuorumMeets_r2 m ⟨H, [(3, t3), (4, t4), (5, t5), (6, t6), (7, t7)]⟩ =
  tellE (quorum_IsStrong m (ro H t3) (ro H t6)) [(ro H t3), (ro H t6)] fun t52 =>
  condE t52 (
   tellE (quorum_IsStrong m (ro H t4) (ro H t6)) [(ro H t4), (ro H t6)] fun t56 =>
   condE t56 (
   binE none false .and t3 t4 fun t61 =>
   tellE (quorum_IsWeak m (ro H t61) (ro H t6)) [(ro H t61), (ro H t6)] fun t63 =>
   unE .not t63 fun t64 =>
   plenumlaw05_QuorumMeets_r3 m ⟨H, [(3, t3), (5, t5), (6, t6), (7, t7), (65, t64)]⟩) (
   plenumlaw05_QuorumMeets_r3 m ⟨H, [(3, t3), (5, t5), (6, t6), (7, t7), (65, (V (.bool false)))]⟩)) (
   plenumlaw05_QuorumMeets_r3 m ⟨H, [(3, t3), (5, t5), (6, t6), (7, t7), (65, (V (.bool false)))]⟩) := by
  refine (joinW_eq Tryd.prog GG (plenumlaw05_QuorumMeets_env m) m 106 (cdR (cdR (cdR (cdR (cdR plenumlaw05_QuorumMeets_c))))) plenumlaw05_QuorumMeets_h.r.r.r.r.r ⟨H, [(3, t3), (4, t4), (5, t5), (6, t6), (7, t7)]⟩ (plenumlaw05_QuorumMeets_fin)).trans ?_
  kernel_rfl
theorem plenumlaw05_QuorumMeets_r1_eq (m : Nat) (H : List AObj) (t3 t4 t5 t6 t7 t49 : AV) : plenumlaw05_QuorumMeets_r1 m ⟨H, [(3, t3), (4, t4), (5, t5), (6, t6), (7, t7), (49, t49)]⟩ =
  condE t49 (
   tellK H (ro H (V (.bool false)))) (
   plenumlaw05_QuorumMeets_r2 m ⟨H, [(3, t3), (4, t4), (5, t5), (6, t6), (7, t7)]⟩) := by
  refine (joinW_eq Tryd.prog GG (plenumlaw05_QuorumMeets_env m) m 106 (cdR (cdL (cdR (cdR (cdR (cdR plenumlaw05_QuorumMeets_c)))))) plenumlaw05_QuorumMeets_h.r.r.r.r.l.r ⟨H, [(3, t3), (4, t4), (5, t5), (6, t6), (7, t7), (49, t49)]⟩ (seqK (fun s => plenumlaw05_QuorumMeets_r2 m ⟨s.H, [(3, gt s.T 3), (4, gt s.T 4), (5, gt s.T 5), (6, gt s.T 6), (7, gt s.T 7)]⟩) (plenumlaw05_QuorumMeets_fin))).trans ?_
  kernel_rfl
theorem plenumlaw05_QuorumMeets_eq (m : Nat) (t0 : AV) : plenumlaw05_QuorumMeets m t0 =
  boxE ty_plenumlaw05_Three [] t0 fun t1 H1 =>
  fieldE (some (0, 1)) t1 fun t9 =>
  loadE 1 H1 t9 fun t10 =>
  fieldE (some (1, 1)) t1 fun t11 =>
  loadE 1 H1 t11 fun t12 =>
  fieldE (some (2, 1)) t1 fun t13 =>
  loadE 1 H1 t13 fun t14 =>
  fieldE (some (3, 1)) t1 fun t15 =>
  loadE 1 H1 t15 fun t16 =>
  tellE (quorum_Faults m (ro H1 t16)) [(ro H1 t16)] fun t19 =>
  extE t19 0 fun t20 =>
  extE t19 1 fun t21 =>
  binE none false .neq t21 (V (.int .i64 0)) fun t23 =>
  condE t23 (
   binE none false .eql t20 (V (.int .i64 0)) fun t25 =>
   condE t25 (
    tellE (quorum_IsStrong m (ro H1 t10) (ro H1 t16)) [(ro H1 t10), (ro H1 t16)] fun t29 =>
    unE .not t29 fun t30 =>
    condE t30 (
    tellE (quorum_IsWeak m (ro H1 t12) (ro H1 t16)) [(ro H1 t12), (ro H1 t16)] fun t35 =>
    unE .not t35 fun t36 =>
    condE t36 (
    tellE (plenumlaw05_awake m) [] fun t39 =>
    tellK H1 (ro H1 t39)) (
    tellK H1 (ro H1 (V (.bool false))))) (
    tellK H1 (ro H1 (V (.bool false))))) (
    tellK H1 (ro H1 (V (.bool false))))) (
   tellE (quorum_IsStrong m (ro H1 t10) (ro H1 t16)) [(ro H1 t10), (ro H1 t16)] fun t43 =>
   condE t43 (
    tellE (quorum_IsWeak m (ro H1 t10) (ro H1 t16)) [(ro H1 t10), (ro H1 t16)] fun t47 =>
    unE .not t47 fun t48 =>
    plenumlaw05_QuorumMeets_r1 m ⟨H1, [(3, t10), (4, t12), (5, t14), (6, t16), (7, t20), (49, t48)]⟩) (
    plenumlaw05_QuorumMeets_r1 m ⟨H1, [(3, t10), (4, t12), (5, t14), (6, t16), (7, t20), (49, (V (.bool false)))]⟩)) := by
  refine (tellX Tryd.prog GG (plenumlaw05_QuorumMeets_env m) m 106 plenumlaw05_QuorumMeets_c plenumlaw05_QuorumMeets_h ⟨[], argsT 0 [t0]⟩ [.tmp 2]).trans ?_
  kernel_rfl
noncomputable def plenumlaw05_QuorumMeets_t (m : Nat) : List AV → RO | [t0] => plenumlaw05_QuorumMeets m t0 | _ => none
theorem plenumlaw05_QuorumMeets_ok (m : Nat) : ∀ args X H', plenumlaw05_QuorumMeets_t m args = some (X, H') → ACp Tryd.prog GG 4 args X := by
  intro args X H' h
  unfold plenumlaw05_QuorumMeets_t at h
  split at h
  · exact tell_okK MIX (by
    intro f e h
    simp only [plenumlaw05_QuorumMeets_env, Prod.mk.injEq, List.mem_cons, List.not_mem_nil, or_false] at h
    rcases h with ⟨rfl, rfl⟩ | ⟨rfl, rfl⟩ | ⟨rfl, rfl⟩ | ⟨rfl, rfl⟩ | ⟨rfl, rfl⟩ | ⟨rfl, rfl⟩
    · exact quorum_Faults_ok m
    · exact quorum_IsStrong_ok m
    · exact quorum_IsWeak_ok m
    · exact plenumlaw05_awake_ok m
    · exact quorum_Count_ok m
    · exact quorum_All_ok m) (f := 4) (c := plenumlaw05_QuorumMeets_c) Tryd.func4 rfl (by kernel_rfl) _ rfl Tryd.ntmps4 (Nat.le_of_ble_eq_true rfl) plenumlaw05_QuorumMeets_h h
  · cases h
noncomputable def plenumlaw05_QuorumOf_c : Code := (Tryd.f5.body).getD .skip
def plenumlaw05_QuorumOf_h : Hint := (.two .n (.join [0] (.two .n (.two .n .n)) (.two .n (.join [] (.two .n (.one (.lp [] [0, 3, 4] [2] (.two (.two .n (.two .n .n)) (.join [0, 3, 4] (.one (.two .n (.join [0, 3, 4, 5] (.two .n (.one (.lp [] [0, 3, 4, 5, 6] [0, 3, 4, 5] (.two (.two .n (.two .n .n)) (.join [0, 3, 4, 5, 6] (.one .n) .n))))) (.two .n (.two (.two .n .n) .n))))) .n))))) (.two .n .n)))))
noncomputable def plenumlaw05_QuorumOf_env (m : Nat) : Env := [(17, .tell (quorum_Of_t m)), (12, .tell (plenumlaw05_awake_t m)), (18, .tell (plenumref05_Has_t m))]
noncomputable abbrev plenumlaw05_QuorumOf_fin : KO (AV × List AObj) := tellFK Tryd.prog [.tmp 2]
noncomputable def plenumlaw05_QuorumOf_r6 (m : Nat) (n0 : Nat) (kc : ASt → RO) (kx : KO (AV × List AObj)) (s : ASt) : RO := joinW Tryd.prog GG (plenumlaw05_QuorumOf_env m) m 39 (cdR (cdR (cdL (cdL (cdR (cdL (cdR (cdR (cdR plenumlaw05_QuorumOf_c))))))))) plenumlaw05_QuorumOf_h.r.r.r.l.r.c.c.r.r s (backW n0 [0, 3, 4] [2] kc kx)
noncomputable def plenumlaw05_QuorumOf_r5 (m : Nat) (n0 : Nat) (kc : ASt → RO) (kx : KO (AV × List AObj)) (s : ASt) : RO := joinW Tryd.prog GG (plenumlaw05_QuorumOf_env m) m 39 (cdR (cdR (cdL (cdL (cdR (cdL (cdR (cdL (cdL (cdR (cdL (cdL (cdR (cdL (cdR (cdR (cdR plenumlaw05_QuorumOf_c))))))))))))))))) plenumlaw05_QuorumOf_h.r.r.r.l.r.c.c.r.l.c.r.l.r.c.c.r.r s (backW n0 [0, 3, 4, 5, 6] [0, 3, 4, 5] kc kx)
noncomputable def plenumlaw05_QuorumOf_r4 (m : Nat) (n0 : Nat) (kc : ASt → RO) (kx : KO (AV × List AObj)) (s : ASt) : RO := joinW Tryd.prog GG (plenumlaw05_QuorumOf_env m) m 39 (cdR (cdR (cdL (cdL (cdR (cdL (cdR (cdR (cdR plenumlaw05_QuorumOf_c))))))))) plenumlaw05_QuorumOf_h.r.r.r.l.r.c.c.r.r s (backW n0 [0, 3, 4] [2] kc kx)
noncomputable def plenumlaw05_QuorumOf_r3 (m : Nat) (n0 : Nat) (kc : ASt → RO) (kx : KO (AV × List AObj)) (s : ASt) : RO := joinW Tryd.prog GG (plenumlaw05_QuorumOf_env m) m 39 (cdR (cdR (cdL (cdL (cdR (cdL (cdL (cdR (cdL (cdR (cdR (cdR plenumlaw05_QuorumOf_c)))))))))))) plenumlaw05_QuorumOf_h.r.r.r.l.r.c.c.r.l.c.r.r s (blockK 1 (seqK (fun s => plenumlaw05_QuorumOf_r6 m n0 kc kx ⟨s.H, [(0, gt s.T 0), (3, gt s.T 3), (4, gt s.T 4)]⟩) (backW n0 [0, 3, 4] [2] kc kx)))
noncomputable def plenumlaw05_QuorumOf_r2 (m : Nat) (s : ASt) : RO := joinW Tryd.prog GG (plenumlaw05_QuorumOf_env m) m 39 (cdR (cdR (cdR (cdR plenumlaw05_QuorumOf_c)))) plenumlaw05_QuorumOf_h.r.r.r.r s (plenumlaw05_QuorumOf_fin)
noncomputable def plenumlaw05_QuorumOf_b2 (m : Nat) (s : ASt) (kc : ASt → RO) (kx : KO (AV × List AObj)) : RO := bodyW Tryd.prog GG (plenumlaw05_QuorumOf_env m) m 39 (cdL (cdL (cdR (cdL (cdR (cdL (cdL (cdR (cdL (cdL (cdR (cdL (cdR (cdR (cdR plenumlaw05_QuorumOf_c))))))))))))))) plenumlaw05_QuorumOf_h.r.r.r.l.r.c.c.r.l.c.r.l.r.c.c [0, 3, 4, 5, 6] [0, 3, 4, 5] s kc kx
noncomputable def plenumlaw05_QuorumOf_b1 (m : Nat) (s : ASt) (kc : ASt → RO) (kx : KO (AV × List AObj)) : RO := bodyW Tryd.prog GG (plenumlaw05_QuorumOf_env m) m 39 (cdL (cdL (cdR (cdL (cdR (cdR (cdR plenumlaw05_QuorumOf_c))))))) plenumlaw05_QuorumOf_h.r.r.r.l.r.c.c [0, 3, 4] [2] s kc kx
noncomputable def plenumlaw05_QuorumOf_r1 (m : Nat) (s : ASt) : RO := joinW Tryd.prog GG (plenumlaw05_QuorumOf_env m) m 39 (cdR (cdR plenumlaw05_QuorumOf_c)) plenumlaw05_QuorumOf_h.r.r s (plenumlaw05_QuorumOf_fin)
noncomputable def plenumlaw05_QuorumOf (m : Nat) (t0 : AV) : RO := exec Tryd.prog GG (plenumlaw05_QuorumOf_env m) m 39 plenumlaw05_QuorumOf_c plenumlaw05_QuorumOf_h ⟨[], argsT 0 [t0]⟩ (plenumlaw05_QuorumOf_fin)
theorem plenumlaw05_QuorumOf_r6_eq (m : Nat) (n0 : Nat) (kc : ASt → RO) (kx : KO (AV × List AObj)) (H : List AObj) (t0 t3 t4 : AV) : plenumlaw05_QuorumOf_r6 m n0 kc kx ⟨H, [(0, t0), (3, t3), (4, t4)]⟩ =
  binE none false .add t4 (V (.int .i64 1)) fun t17 =>
  backE n0 H [(0, t0), (3, t3), (4, t17)] kc := by
  refine (joinW_eq Tryd.prog GG (plenumlaw05_QuorumOf_env m) m 39 (cdR (cdR (cdL (cdL (cdR (cdL (cdR (cdR (cdR plenumlaw05_QuorumOf_c))))))))) plenumlaw05_QuorumOf_h.r.r.r.l.r.c.c.r.r ⟨H, [(0, t0), (3, t3), (4, t4)]⟩ (backW n0 [0, 3, 4] [2] kc kx)).trans ?_
  kernel_rfl
theorem plenumlaw05_QuorumOf_r5_eq (m : Nat) (n0 : Nat) (kc : ASt → RO) (kx : KO (AV × List AObj)) (H : List AObj) (t0 t3 t4 t5 t6 : AV) : plenumlaw05_QuorumOf_r5 m n0 kc kx ⟨H, [(0, t0), (3, t3), (4, t4), (5, t5), (6, t6)]⟩ =
  binE none false .add t6 (V (.int .i64 1)) fun t23 =>
  backE n0 H [(0, t0), (3, t3), (4, t4), (5, t5), (6, t23)] kc := by
  refine (joinW_eq Tryd.prog GG (plenumlaw05_QuorumOf_env m) m 39 (cdR (cdR (cdL (cdL (cdR (cdL (cdR (cdL (cdL (cdR (cdL (cdL (cdR (cdL (cdR (cdR (cdR plenumlaw05_QuorumOf_c))))))))))))))))) plenumlaw05_QuorumOf_h.r.r.r.l.r.c.c.r.l.c.r.l.r.c.c.r.r ⟨H, [(0, t0), (3, t3), (4, t4), (5, t5), (6, t6)]⟩ (backW n0 [0, 3, 4, 5, 6] [0, 3, 4, 5] kc kx)).trans ?_
  kernel_rfl
theorem plenumlaw05_QuorumOf_r4_eq (m : Nat) (n0 : Nat) (kc : ASt → RO) (kx : KO (AV × List AObj)) (H : List AObj) (t0 t3 t4 : AV) : plenumlaw05_QuorumOf_r4 m n0 kc kx ⟨H, [(0, t0), (3, t3), (4, t4)]⟩ =
  binE none false .add t4 (V (.int .i64 1)) fun t17 =>
  backE n0 H [(0, t0), (3, t3), (4, t17)] kc := by
  refine (joinW_eq Tryd.prog GG (plenumlaw05_QuorumOf_env m) m 39 (cdR (cdR (cdL (cdL (cdR (cdL (cdR (cdR (cdR plenumlaw05_QuorumOf_c))))))))) plenumlaw05_QuorumOf_h.r.r.r.l.r.c.c.r.r ⟨H, [(0, t0), (3, t3), (4, t4)]⟩ (backW n0 [0, 3, 4] [2] kc kx)).trans ?_
  kernel_rfl
theorem plenumlaw05_QuorumOf_r3_eq (m : Nat) (n0 : Nat) (kc : ASt → RO) (kx : KO (AV × List AObj)) (H : List AObj) (t0 t3 t4 t5 : AV) : plenumlaw05_QuorumOf_r3 m n0 kc kx ⟨H, [(0, t0), (3, t3), (4, t4), (5, t5)]⟩ =
  tellE (plenumref05_Has m (ro H t3) (ro H t4)) [(ro H t3), (ro H t4)] fun t35 =>
  binE none true .neq t35 t5 fun t37 =>
  condE t37 (
   kx .ret ⟨H, [(2, (V (.bool false)))]⟩) (
   plenumlaw05_QuorumOf_r6 m n0 kc kx ⟨H, [(0, t0), (3, t3), (4, t4)]⟩) := by
  refine (joinW_eq Tryd.prog GG (plenumlaw05_QuorumOf_env m) m 39 (cdR (cdR (cdL (cdL (cdR (cdL (cdL (cdR (cdL (cdR (cdR (cdR plenumlaw05_QuorumOf_c)))))))))))) plenumlaw05_QuorumOf_h.r.r.r.l.r.c.c.r.l.c.r.r ⟨H, [(0, t0), (3, t3), (4, t4), (5, t5)]⟩ (blockK 1 (seqK (fun s => plenumlaw05_QuorumOf_r6 m n0 kc kx ⟨s.H, [(0, gt s.T 0), (3, gt s.T 3), (4, gt s.T 4)]⟩) (backW n0 [0, 3, 4] [2] kc kx)))).trans ?_
  kernel_rfl
theorem plenumlaw05_QuorumOf_r2_eq (m : Nat) (H : List AObj) : plenumlaw05_QuorumOf_r2 m ⟨H, []⟩ =
  tellE (plenumlaw05_awake m) [] fun t38 =>
  tellK H (ro H t38) := by
  refine (joinW_eq Tryd.prog GG (plenumlaw05_QuorumOf_env m) m 39 (cdR (cdR (cdR (cdR plenumlaw05_QuorumOf_c)))) plenumlaw05_QuorumOf_h.r.r.r.r ⟨H, []⟩ (plenumlaw05_QuorumOf_fin)).trans ?_
  kernel_rfl
theorem plenumlaw05_QuorumOf_b2_eq (m : Nat) (H : List AObj) (t0 t3 t4 t5 t6 : AV) (kc : ASt → RO) (kx : KO (AV × List AObj)) : plenumlaw05_QuorumOf_b2 m ⟨H, [(0, t0), (3, t3), (4, t4), (5, t5), (6, t6)]⟩ kc kx =
  lenE false true H t0 fun t20 =>
  binE none false .lss t6 t20 fun t21 =>
  condE t21 (
   condE t5 (
    plenumlaw05_QuorumOf_r5 m H.length kc kx ⟨H, [(0, t0), (3, t3), (4, t4), (5, (V (.bool true))), (6, t6)]⟩) (
    idxSE 1 H t0 t6 fun t28 =>
    loadE 1 H t28 fun t29 =>
    binE none false .eql t29 t4 fun t31 =>
    plenumlaw05_QuorumOf_r5 m H.length kc kx ⟨H, [(0, t0), (3, t3), (4, t4), (5, t31), (6, t6)]⟩)) (
   kx (.exit 2) ⟨H, [(0, t0), (3, t3), (4, t4), (5, t5)]⟩) := by
  refine (bodyW_eq Tryd.prog GG (plenumlaw05_QuorumOf_env m) m 39 (cdL (cdL (cdR (cdL (cdR (cdL (cdL (cdR (cdL (cdL (cdR (cdL (cdR (cdR (cdR plenumlaw05_QuorumOf_c))))))))))))))) plenumlaw05_QuorumOf_h.r.r.r.l.r.c.c.r.l.c.r.l.r.c.c [0, 3, 4, 5, 6] [0, 3, 4, 5] ⟨H, [(0, t0), (3, t3), (4, t4), (5, t5), (6, t6)]⟩ kc kx).trans ?_
  kernel_rfl
theorem plenumlaw05_QuorumOf_b1_eq (m : Nat) (H : List AObj) (t0 t3 t4 : AV) (kc : ASt → RO) (kx : KO (AV × List AObj)) : plenumlaw05_QuorumOf_b1 m ⟨H, [(0, t0), (3, t3), (4, t4)]⟩ kc kx =
  binE none false .lss t4 (V (.int .i64 64)) fun t15 =>
  condE t15 (
   iterC m (plenumlaw05_QuorumOf_b2 m) ⟨H, [(0, t0), (3, t3), (4, t4), (5, (V (.bool false))), (6, (V (.int .i64 0)))]⟩ (blockK 2 (seqK (fun s => plenumlaw05_QuorumOf_r3 m H.length kc kx ⟨s.H, [(0, gt s.T 0), (3, gt s.T 3), (4, gt s.T 4), (5, gt s.T 5)]⟩) (blockK 1 (seqK (fun s => plenumlaw05_QuorumOf_r4 m H.length kc kx ⟨s.H, [(0, gt s.T 0), (3, gt s.T 3), (4, gt s.T 4)]⟩) (backW H.length [0, 3, 4] [2] kc kx)))))) (
   kx (.exit 0) ⟨H, [(2, .nil)]⟩) := by
  refine (bodyW_eq Tryd.prog GG (plenumlaw05_QuorumOf_env m) m 39 (cdL (cdL (cdR (cdL (cdR (cdR (cdR plenumlaw05_QuorumOf_c))))))) plenumlaw05_QuorumOf_h.r.r.r.l.r.c.c [0, 3, 4] [2] ⟨H, [(0, t0), (3, t3), (4, t4)]⟩ kc kx).trans ?_
  kernel_rfl
theorem plenumlaw05_QuorumOf_r1_eq (m : Nat) (H : List AObj) (t0 : AV) : plenumlaw05_QuorumOf_r1 m ⟨H, [(0, t0)]⟩ =
  tellE (quorum_Of m (ro H t0)) [(ro H t0)] fun t13 =>
  iterC m (plenumlaw05_QuorumOf_b1 m) ⟨H, [(0, t0), (3, t13), (4, (V (.int .i64 0)))]⟩ (blockK 0 (seqK (fun s => plenumlaw05_QuorumOf_r2 m ⟨s.H, []⟩) (plenumlaw05_QuorumOf_fin))) := by
  refine (joinW_eq Tryd.prog GG (plenumlaw05_QuorumOf_env m) m 39 (cdR (cdR plenumlaw05_QuorumOf_c)) plenumlaw05_QuorumOf_h.r.r ⟨H, [(0, t0)]⟩ (plenumlaw05_QuorumOf_fin)).trans ?_
  kernel_rfl
theorem plenumlaw05_QuorumOf_eq (m : Nat) (t0 : AV) : plenumlaw05_QuorumOf m t0 =
  lenE false true [] t0 fun t8 =>
  binE none false .gtr t8 (V (.int .i64 200)) fun t9 =>
  condE t9 (
   sliceE false (some (ty_int, 1)) [] t0 none (some (V (.int .i64 200))) fun t11 =>
   plenumlaw05_QuorumOf_r1 m ⟨[], [(0, t11)]⟩) (
   plenumlaw05_QuorumOf_r1 m ⟨[], [(0, t0)]⟩) := by
  refine (tellX Tryd.prog GG (plenumlaw05_QuorumOf_env m) m 39 plenumlaw05_QuorumOf_c plenumlaw05_QuorumOf_h ⟨[], argsT 0 [t0]⟩ [.tmp 2]).trans ?_
  kernel_rfl
noncomputable def plenumlaw05_QuorumOf_t (m : Nat) : List AV → RO | [t0] => plenumlaw05_QuorumOf m t0 | _ => none
theorem plenumlaw05_QuorumOf_ok (m : Nat) : ∀ args X H', plenumlaw05_QuorumOf_t m args = some (X, H') → ACp Tryd.prog GG 5 args X := by
  intro args X H' h
  unfold plenumlaw05_QuorumOf_t at h
  split at h
  · exact tell_okK MIX (by
    intro f e h
    simp only [plenumlaw05_QuorumOf_env, Prod.mk.injEq, List.mem_cons, List.not_mem_nil, or_false] at h
    rcases h with ⟨rfl, rfl⟩ | ⟨rfl, rfl⟩ | ⟨rfl, rfl⟩
    · exact quorum_Of_ok m
    · exact plenumlaw05_awake_ok m
    · exact plenumref05_Has_ok m) (f := 5) (c := plenumlaw05_QuorumOf_c) Tryd.func5 rfl (by kernel_rfl) _ rfl Tryd.ntmps5 (Nat.le_of_ble_eq_true rfl) plenumlaw05_QuorumOf_h h
  · cases h
noncomputable def plenumlaw05_QuorumSets_c : Code := (Tryd.f6.body).getD .skip
def plenumlaw05_QuorumSets_h : Hint := (.two .n (.two .n (.join [0, 1, 5, 6] (.join [0, 1, 5, 6, 35] .n (.two (.two .n .n) .n)) (.two .n (.join [0, 1, 5, 7, 8] (.two .n (.one (.lp [] [0, 1, 5, 6, 7, 8, 9] [0, 1, 4, 5, 7, 8] (.two (.two .n (.two .n .n)) (.two (.one (.two .n (.two (.two .n .n) .n))) .n))))) (.join [0, 5] (.two .n (.one (.lp [] [0, 1, 5, 7, 8, 10] [0, 4, 5] (.two (.two .n (.two .n .n)) (.join [0, 1, 5, 7, 8, 10] (.one (.join [0, 1, 5, 7, 8, 10, 96] .n (.two (.two .n .n) .n))) .n))))) (.two .n .n)))))))
noncomputable def plenumlaw05_QuorumSets_env (m : Nat) : Env := [(19, .tell (quorum_List_t m)), (20, .tell (plenumref05_List_t m)), (15, .tell (quorum_Count_t m)), (21, .tell (quorum_Has_t m)), (18, .tell (plenumref05_Has_t m)), (22, .tell (quorum_With_t m)), (23, .tell (quorum_Without_t m)), (16, .tell (quorum_All_t m)), (17, .tell (quorum_Of_t m)), (12, .tell (plenumlaw05_awake_t m))]
noncomputable abbrev plenumlaw05_QuorumSets_fin : KO (AV × List AObj) := tellFK Tryd.prog [.tmp 4]
noncomputable def plenumlaw05_QuorumSets_r6 (m : Nat) (n0 : Nat) (kc : ASt → RO) (kx : KO (AV × List AObj)) (s : ASt) : RO := joinW Tryd.prog GG (plenumlaw05_QuorumSets_env m) m 104 (cdR (cdR (cdL (cdL (cdR (cdL (cdR (cdR (cdR (cdR (cdR plenumlaw05_QuorumSets_c))))))))))) plenumlaw05_QuorumSets_h.r.r.r.r.r.l.r.c.c.r.r s (backW n0 [0, 1, 5, 7, 8, 10] [0, 4, 5] kc kx)
noncomputable def plenumlaw05_QuorumSets_r5 (m : Nat) (n0 : Nat) (kc : ASt → RO) (kx : KO (AV × List AObj)) (s : ASt) : RO := joinW Tryd.prog GG (plenumlaw05_QuorumSets_env m) m 104 (cdR (cdL (cdL (cdR (cdL (cdL (cdR (cdL (cdR (cdR (cdR (cdR (cdR plenumlaw05_QuorumSets_c))))))))))))) plenumlaw05_QuorumSets_h.r.r.r.r.r.l.r.c.c.r.l.c.r s (blockK 3 (seqK (fun s => plenumlaw05_QuorumSets_r6 m n0 kc kx ⟨s.H, [(0, gt s.T 0), (1, gt s.T 1), (5, gt s.T 5), (7, gt s.T 7), (8, gt s.T 8), (10, gt s.T 10)]⟩) (backW n0 [0, 1, 5, 7, 8, 10] [0, 4, 5] kc kx)))
noncomputable def plenumlaw05_QuorumSets_r4 (m : Nat) (s : ASt) : RO := joinW Tryd.prog GG (plenumlaw05_QuorumSets_env m) m 104 (cdR (cdR (cdR (cdR (cdR (cdR plenumlaw05_QuorumSets_c)))))) plenumlaw05_QuorumSets_h.r.r.r.r.r.r s (plenumlaw05_QuorumSets_fin)
noncomputable def plenumlaw05_QuorumSets_b2 (m : Nat) (s : ASt) (kc : ASt → RO) (kx : KO (AV × List AObj)) : RO := bodyW Tryd.prog GG (plenumlaw05_QuorumSets_env m) m 104 (cdL (cdL (cdR (cdL (cdR (cdR (cdR (cdR (cdR plenumlaw05_QuorumSets_c))))))))) plenumlaw05_QuorumSets_h.r.r.r.r.r.l.r.c.c [0, 1, 5, 7, 8, 10] [0, 4, 5] s kc kx
noncomputable def plenumlaw05_QuorumSets_r3 (m : Nat) (s : ASt) : RO := joinW Tryd.prog GG (plenumlaw05_QuorumSets_env m) m 104 (cdR (cdR (cdR (cdR (cdR plenumlaw05_QuorumSets_c))))) plenumlaw05_QuorumSets_h.r.r.r.r.r s (plenumlaw05_QuorumSets_fin)
noncomputable def plenumlaw05_QuorumSets_b1 (m : Nat) (s : ASt) (kc : ASt → RO) (kx : KO (AV × List AObj)) : RO := bodyW Tryd.prog GG (plenumlaw05_QuorumSets_env m) m 104 (cdL (cdL (cdR (cdL (cdR (cdR (cdR (cdR plenumlaw05_QuorumSets_c)))))))) plenumlaw05_QuorumSets_h.r.r.r.r.l.r.c.c [0, 1, 5, 6, 7, 8, 9] [0, 1, 4, 5, 7, 8] s kc kx
noncomputable def plenumlaw05_QuorumSets_r2 (m : Nat) (s : ASt) : RO := joinW Tryd.prog GG (plenumlaw05_QuorumSets_env m) m 104 (cdR (cdR (cdR plenumlaw05_QuorumSets_c))) plenumlaw05_QuorumSets_h.r.r.r s (plenumlaw05_QuorumSets_fin)
noncomputable def plenumlaw05_QuorumSets_r1 (m : Nat) (s : ASt) : RO := joinW Tryd.prog GG (plenumlaw05_QuorumSets_env m) m 104 (cdR (cdL (cdR (cdR plenumlaw05_QuorumSets_c)))) plenumlaw05_QuorumSets_h.r.r.l.r s (seqK (fun s => plenumlaw05_QuorumSets_r2 m ⟨s.H, [(0, gt s.T 0), (1, gt s.T 1), (5, gt s.T 5), (6, gt s.T 6)]⟩) (plenumlaw05_QuorumSets_fin))
noncomputable def plenumlaw05_QuorumSets (m : Nat) (t0 t1 : AV) : RO := exec Tryd.prog GG (plenumlaw05_QuorumSets_env m) m 104 plenumlaw05_QuorumSets_c plenumlaw05_QuorumSets_h ⟨[], argsT 0 [t0, t1]⟩ (plenumlaw05_QuorumSets_fin)
theorem plenumlaw05_QuorumSets_r6_eq (m : Nat) (n0 : Nat) (kc : ASt → RO) (kx : KO (AV × List AObj)) (H : List AObj) (t0 t1 t5 t7 t8 t10 : AV) : plenumlaw05_QuorumSets_r6 m n0 kc kx ⟨H, [(0, t0), (1, t1), (5, t5), (7, t7), (8, t8), (10, t10)]⟩ =
  binE none false .add t10 (V (.int .i64 1)) fun t60 =>
  backE n0 H [(0, t0), (1, t1), (5, t5), (7, t7), (8, t8), (10, t60)] kc := by
  refine (joinW_eq Tryd.prog GG (plenumlaw05_QuorumSets_env m) m 104 (cdR (cdR (cdL (cdL (cdR (cdL (cdR (cdR (cdR (cdR (cdR plenumlaw05_QuorumSets_c))))))))))) plenumlaw05_QuorumSets_h.r.r.r.r.r.l.r.c.c.r.r ⟨H, [(0, t0), (1, t1), (5, t5), (7, t7), (8, t8), (10, t10)]⟩ (backW n0 [0, 1, 5, 7, 8, 10] [0, 4, 5] kc kx)).trans ?_
  kernel_rfl
theorem plenumlaw05_QuorumSets_r5_eq (m : Nat) (n0 : Nat) (kc : ASt → RO) (kx : KO (AV × List AObj)) (H : List AObj) (t0 t1 t5 t7 t8 t10 t96 : AV) : plenumlaw05_QuorumSets_r5 m n0 kc kx ⟨H, [(0, t0), (1, t1), (5, t5), (7, t7), (8, t8), (10, t10), (96, t96)]⟩ =
  condE t96 (
   kx .ret ⟨H, [(0, t0), (4, (V (.bool false))), (5, t5)]⟩) (
   plenumlaw05_QuorumSets_r6 m n0 kc kx ⟨H, [(0, t0), (1, t1), (5, t5), (7, t7), (8, t8), (10, t10)]⟩) := by
  refine (joinW_eq Tryd.prog GG (plenumlaw05_QuorumSets_env m) m 104 (cdR (cdL (cdL (cdR (cdL (cdL (cdR (cdL (cdR (cdR (cdR (cdR (cdR plenumlaw05_QuorumSets_c))))))))))))) plenumlaw05_QuorumSets_h.r.r.r.r.r.l.r.c.c.r.l.c.r ⟨H, [(0, t0), (1, t1), (5, t5), (7, t7), (8, t8), (10, t10), (96, t96)]⟩ (blockK 3 (seqK (fun s => plenumlaw05_QuorumSets_r6 m n0 kc kx ⟨s.H, [(0, gt s.T 0), (1, gt s.T 1), (5, gt s.T 5), (7, gt s.T 7), (8, gt s.T 8), (10, gt s.T 10)]⟩) (backW n0 [0, 1, 5, 7, 8, 10] [0, 4, 5] kc kx)))).trans ?_
  kernel_rfl
theorem plenumlaw05_QuorumSets_r4_eq (m : Nat) (H : List AObj) (t0 t5 : AV) : plenumlaw05_QuorumSets_r4 m ⟨H, [(0, t0), (5, t5)]⟩ =
  tellE (quorum_Of m (ro H t5)) [(ro H t5)] fun t98 =>
  binE none false .eql t98 t0 fun t100 =>
  condE t100 (
   tellE (plenumlaw05_awake m) [] fun t102 =>
   tellK H (ro H t102)) (
   tellK H (ro H (V (.bool false)))) := by
  refine (joinW_eq Tryd.prog GG (plenumlaw05_QuorumSets_env m) m 104 (cdR (cdR (cdR (cdR (cdR (cdR plenumlaw05_QuorumSets_c)))))) plenumlaw05_QuorumSets_h.r.r.r.r.r.r ⟨H, [(0, t0), (5, t5)]⟩ (plenumlaw05_QuorumSets_fin)).trans ?_
  kernel_rfl
theorem plenumlaw05_QuorumSets_b2_eq (m : Nat) (H : List AObj) (t0 t1 t5 t7 t8 t10 : AV) (kc : ASt → RO) (kx : KO (AV × List AObj)) : plenumlaw05_QuorumSets_b2 m ⟨H, [(0, t0), (1, t1), (5, t5), (7, t7), (8, t8), (10, t10)]⟩ kc kx =
  binE none false .lss t10 (V (.int .i64 64)) fun t58 =>
  condE t58 (
   tellE (plenumref05_Has m (ro H t7) (ro H t10)) [(ro H t7), (ro H t10)] fun t63 =>
   tellE (plenumref05_Has m (ro H t0) (ro H t10)) [(ro H t0), (ro H t10)] fun t66 =>
   condE t66 (
    binE none true .neq t63 (V (.bool true)) fun t72 =>
   condE t72 (
    plenumlaw05_QuorumSets_r5 m H.length kc kx ⟨H, [(0, t0), (1, t1), (5, t5), (7, t7), (8, t8), (10, t10), (96, (V (.bool true)))]⟩) (
    tellE (plenumref05_Has m (ro H t8) (ro H t10)) [(ro H t8), (ro H t10)] fun t76 =>
    tellE (plenumref05_Has m (ro H t0) (ro H t10)) [(ro H t0), (ro H t10)] fun t79 =>
    condE t79 (
    binE none false .neq t10 t1 fun t83 =>
    binE none true .neq t76 t83 fun t85 =>
    condE t85 (
    plenumlaw05_QuorumSets_r5 m H.length kc kx ⟨H, [(0, t0), (1, t1), (5, t5), (7, t7), (8, t8), (10, t10), (96, (V (.bool true)))]⟩) (
    tellE (quorum_All m (ro H t1)) [(ro H t1)] fun t89 =>
    tellE (plenumref05_Has m (ro H t89) (ro H t10)) [(ro H t89), (ro H t10)] fun t91 =>
    binE none false .lss t10 t1 fun t94 =>
    binE none true .neq t91 t94 fun t95 =>
    plenumlaw05_QuorumSets_r5 m H.length kc kx ⟨H, [(0, t0), (1, t1), (5, t5), (7, t7), (8, t8), (10, t10), (96, t95)]⟩)) (
    binE none true .neq t76 (V (.bool false)) fun t85 =>
    condE t85 (
    plenumlaw05_QuorumSets_r5 m H.length kc kx ⟨H, [(0, t0), (1, t1), (5, t5), (7, t7), (8, t8), (10, t10), (96, (V (.bool true)))]⟩) (
    tellE (quorum_All m (ro H t1)) [(ro H t1)] fun t89 =>
    tellE (plenumref05_Has m (ro H t89) (ro H t10)) [(ro H t89), (ro H t10)] fun t91 =>
    binE none false .lss t10 t1 fun t94 =>
    binE none true .neq t91 t94 fun t95 =>
    plenumlaw05_QuorumSets_r5 m H.length kc kx ⟨H, [(0, t0), (1, t1), (5, t5), (7, t7), (8, t8), (10, t10), (96, t95)]⟩)))) (
    binE none false .eql t10 t1 fun t70 =>
    binE none true .neq t63 t70 fun t72 =>
   condE t72 (
    plenumlaw05_QuorumSets_r5 m H.length kc kx ⟨H, [(0, t0), (1, t1), (5, t5), (7, t7), (8, t8), (10, t10), (96, (V (.bool true)))]⟩) (
    tellE (plenumref05_Has m (ro H t8) (ro H t10)) [(ro H t8), (ro H t10)] fun t76 =>
    tellE (plenumref05_Has m (ro H t0) (ro H t10)) [(ro H t0), (ro H t10)] fun t79 =>
    condE t79 (
    binE none false .neq t10 t1 fun t83 =>
    binE none true .neq t76 t83 fun t85 =>
    condE t85 (
    plenumlaw05_QuorumSets_r5 m H.length kc kx ⟨H, [(0, t0), (1, t1), (5, t5), (7, t7), (8, t8), (10, t10), (96, (V (.bool true)))]⟩) (
    tellE (quorum_All m (ro H t1)) [(ro H t1)] fun t89 =>
    tellE (plenumref05_Has m (ro H t89) (ro H t10)) [(ro H t89), (ro H t10)] fun t91 =>
    binE none false .lss t10 t1 fun t94 =>
    binE none true .neq t91 t94 fun t95 =>
    plenumlaw05_QuorumSets_r5 m H.length kc kx ⟨H, [(0, t0), (1, t1), (5, t5), (7, t7), (8, t8), (10, t10), (96, t95)]⟩)) (
    binE none true .neq t76 (V (.bool false)) fun t85 =>
    condE t85 (
    plenumlaw05_QuorumSets_r5 m H.length kc kx ⟨H, [(0, t0), (1, t1), (5, t5), (7, t7), (8, t8), (10, t10), (96, (V (.bool true)))]⟩) (
    tellE (quorum_All m (ro H t1)) [(ro H t1)] fun t89 =>
    tellE (plenumref05_Has m (ro H t89) (ro H t10)) [(ro H t89), (ro H t10)] fun t91 =>
    binE none false .lss t10 t1 fun t94 =>
    binE none true .neq t91 t94 fun t95 =>
    plenumlaw05_QuorumSets_r5 m H.length kc kx ⟨H, [(0, t0), (1, t1), (5, t5), (7, t7), (8, t8), (10, t10), (96, t95)]⟩))))) (
   kx (.exit 2) ⟨H, [(0, t0), (4, .nil), (5, t5)]⟩) := by
  refine (bodyW_eq Tryd.prog GG (plenumlaw05_QuorumSets_env m) m 104 (cdL (cdL (cdR (cdL (cdR (cdR (cdR (cdR (cdR plenumlaw05_QuorumSets_c))))))))) plenumlaw05_QuorumSets_h.r.r.r.r.r.l.r.c.c [0, 1, 5, 7, 8, 10] [0, 4, 5] ⟨H, [(0, t0), (1, t1), (5, t5), (7, t7), (8, t8), (10, t10)]⟩ kc kx).trans ?_
  kernel_rfl
theorem plenumlaw05_QuorumSets_r3_eq (m : Nat) (H : List AObj) (t0 t1 t5 t7 t8 : AV) : plenumlaw05_QuorumSets_r3 m ⟨H, [(0, t0), (1, t1), (5, t5), (7, t7), (8, t8)]⟩ =
  iterC m (plenumlaw05_QuorumSets_b2 m) ⟨H, [(0, t0), (1, t1), (5, t5), (7, t7), (8, t8), (10, (V (.int .i64 0)))]⟩ (blockK 2 (seqK (fun s => plenumlaw05_QuorumSets_r4 m ⟨s.H, [(0, gt s.T 0), (5, gt s.T 5)]⟩) (plenumlaw05_QuorumSets_fin))) := by
  refine (joinW_eq Tryd.prog GG (plenumlaw05_QuorumSets_env m) m 104 (cdR (cdR (cdR (cdR (cdR plenumlaw05_QuorumSets_c))))) plenumlaw05_QuorumSets_h.r.r.r.r.r ⟨H, [(0, t0), (1, t1), (5, t5), (7, t7), (8, t8)]⟩ (plenumlaw05_QuorumSets_fin)).trans ?_
  kernel_rfl
theorem plenumlaw05_QuorumSets_b1_eq (m : Nat) (H : List AObj) (t0 t1 t5 t6 t7 t8 t9 : AV) (kc : ASt → RO) (kx : KO (AV × List AObj)) : plenumlaw05_QuorumSets_b1 m ⟨H, [(0, t0), (1, t1), (5, t5), (6, t6), (7, t7), (8, t8), (9, t9)]⟩ kc kx =
  lenE false true H t5 fun t44 =>
  binE none false .lss t9 t44 fun t45 =>
  condE t45 (
   idxSE 1 H t5 t9 fun t50 =>
   loadE 1 H t50 fun t51 =>
   idxSE 1 H t6 t9 fun t54 =>
   loadE 1 H t54 fun t55 =>
   binE none false .neq t51 t55 fun t56 =>
   condE t56 (
    kx .ret ⟨H, [(0, t0), (1, t1), (4, (V (.bool false))), (5, t5), (7, t7), (8, t8)]⟩) (
    binE none false .add t9 (V (.int .i64 1)) fun t47 =>
    backE H.length H [(0, t0), (1, t1), (5, t5), (6, t6), (7, t7), (8, t8), (9, t47)] kc)) (
   kx (.exit 0) ⟨H, [(0, t0), (1, t1), (4, .nil), (5, t5), (7, t7), (8, t8)]⟩) := by
  refine (bodyW_eq Tryd.prog GG (plenumlaw05_QuorumSets_env m) m 104 (cdL (cdL (cdR (cdL (cdR (cdR (cdR (cdR plenumlaw05_QuorumSets_c)))))))) plenumlaw05_QuorumSets_h.r.r.r.r.l.r.c.c [0, 1, 5, 6, 7, 8, 9] [0, 1, 4, 5, 7, 8] ⟨H, [(0, t0), (1, t1), (5, t5), (6, t6), (7, t7), (8, t8), (9, t9)]⟩ kc kx).trans ?_
  kernel_rfl
theorem plenumlaw05_QuorumSets_r2_eq (m : Nat) (H : List AObj) (t0 t1 t5 t6 : AV) : plenumlaw05_QuorumSets_r2 m ⟨H, [(0, t0), (1, t1), (5, t5), (6, t6)]⟩ =
  tellE (quorum_With m (ro H t0) (ro H t1)) [(ro H t0), (ro H t1)] fun t38 =>
  tellE (quorum_Without m (ro H t0) (ro H t1)) [(ro H t0), (ro H t1)] fun t41 =>
  iterC m (plenumlaw05_QuorumSets_b1 m) ⟨H, [(0, t0), (1, t1), (5, t5), (6, t6), (7, t38), (8, t41), (9, (V (.int .i64 0)))]⟩ (blockK 0 (seqK (fun s => plenumlaw05_QuorumSets_r3 m ⟨s.H, [(0, gt s.T 0), (1, gt s.T 1), (5, gt s.T 5), (7, gt s.T 7), (8, gt s.T 8)]⟩) (plenumlaw05_QuorumSets_fin))) := by
  refine (joinW_eq Tryd.prog GG (plenumlaw05_QuorumSets_env m) m 104 (cdR (cdR (cdR plenumlaw05_QuorumSets_c))) plenumlaw05_QuorumSets_h.r.r.r ⟨H, [(0, t0), (1, t1), (5, t5), (6, t6)]⟩ (plenumlaw05_QuorumSets_fin)).trans ?_
  kernel_rfl
theorem plenumlaw05_QuorumSets_r1_eq (m : Nat) (H : List AObj) (t0 t1 t5 t6 t35 : AV) : plenumlaw05_QuorumSets_r1 m ⟨H, [(0, t0), (1, t1), (5, t5), (6, t6), (35, t35)]⟩ =
  condE t35 (
   tellK H (ro H (V (.bool false)))) (
   plenumlaw05_QuorumSets_r2 m ⟨H, [(0, t0), (1, t1), (5, t5), (6, t6)]⟩) := by
  refine (joinW_eq Tryd.prog GG (plenumlaw05_QuorumSets_env m) m 104 (cdR (cdL (cdR (cdR plenumlaw05_QuorumSets_c)))) plenumlaw05_QuorumSets_h.r.r.l.r ⟨H, [(0, t0), (1, t1), (5, t5), (6, t6), (35, t35)]⟩ (seqK (fun s => plenumlaw05_QuorumSets_r2 m ⟨s.H, [(0, gt s.T 0), (1, gt s.T 1), (5, gt s.T 5), (6, gt s.T 6)]⟩) (plenumlaw05_QuorumSets_fin))).trans ?_
  kernel_rfl
theorem plenumlaw05_QuorumSets_eq (m : Nat) (t0 t1 : AV) : plenumlaw05_QuorumSets m t0 t1 =
  tellE (quorum_List_t m [(ro [] t0)]) [(ro [] t0)] fun t12 =>
  tellE (plenumref05_List m (ro [] t0)) [(ro [] t0)] fun t14 =>
  lenE false true [] t12 fun t16 =>
  lenE false true [] t14 fun t18 =>
  binE none false .neq t16 t18 fun t19 =>
  condE t19 (
   plenumlaw05_QuorumSets_r1 m ⟨[], [(0, t0), (1, t1), (5, t12), (6, t14), (35, (V (.bool true)))]⟩) (
   tellE (quorum_Count m (ro [] t0)) [(ro [] t0)] fun t22 =>
   lenE false true [] t14 fun t24 =>
   binE none false .neq t22 t24 fun t25 =>
   condE t25 (
   plenumlaw05_QuorumSets_r1 m ⟨[], [(0, t0), (1, t1), (5, t12), (6, t14), (35, (V (.bool true)))]⟩) (
   tellE (quorum_Has m (ro [] t0) (ro [] t1)) [(ro [] t0), (ro [] t1)] fun t30 =>
   tellE (plenumref05_Has m (ro [] t0) (ro [] t1)) [(ro [] t0), (ro [] t1)] fun t33 =>
   binE none true .neq t30 t33 fun t34 =>
   plenumlaw05_QuorumSets_r1 m ⟨[], [(0, t0), (1, t1), (5, t12), (6, t14), (35, t34)]⟩)) := by
  refine (tellX Tryd.prog GG (plenumlaw05_QuorumSets_env m) m 104 plenumlaw05_QuorumSets_c plenumlaw05_QuorumSets_h ⟨[], argsT 0 [t0, t1]⟩ [.tmp 4]).trans ?_
  kernel_rfl
noncomputable def plenumlaw05_QuorumSets_t (m : Nat) : List AV → RO | [t0, t1] => plenumlaw05_QuorumSets m t0 t1 | _ => none
theorem plenumlaw05_QuorumSets_ok (m : Nat) : ∀ args X H', plenumlaw05_QuorumSets_t m args = some (X, H') → ACp Tryd.prog GG 6 args X := by
  intro args X H' h
  unfold plenumlaw05_QuorumSets_t at h
  split at h
  · exact tell_okK MIX (by
    intro f e h
    simp only [plenumlaw05_QuorumSets_env, Prod.mk.injEq, List.mem_cons, List.not_mem_nil, or_false] at h
    rcases h with ⟨rfl, rfl⟩ | ⟨rfl, rfl⟩ | ⟨rfl, rfl⟩ | ⟨rfl, rfl⟩ | ⟨rfl, rfl⟩ | ⟨rfl, rfl⟩ | ⟨rfl, rfl⟩ | ⟨rfl, rfl⟩ | ⟨rfl, rfl⟩ | ⟨rfl, rfl⟩
    · exact quorum_List_ok m
    · exact plenumref05_List_ok m
    · exact quorum_Count_ok m
    · exact quorum_Has_ok m
    · exact plenumref05_Has_ok m
    · exact quorum_With_ok m
    · exact quorum_Without_ok m
    · exact quorum_All_ok m
    · exact quorum_Of_ok m
    · exact plenumlaw05_awake_ok m) (f := 6) (c := plenumlaw05_QuorumSets_c) Tryd.func6 rfl (by kernel_rfl) _ rfl Tryd.ntmps6 (Nat.le_of_ble_eq_true rfl) plenumlaw05_QuorumSets_h h
  · cases h
end Go.Proofs.YtlhnkljpidgjgaaDoor

namespace Go.Proofs.YtlhnkljpidgjgaaDoor
open Go.RowKit
set_option linter.unusedVariables false
set_option linter.unusedSimpArgs false
set_option maxRecDepth 20000
def cP (p : Nat → Bool) : Nat := ((List.range 64).filter p).length
theorem cP_mono {p q : Nat → Bool} (h : ∀ i, i < 64 → p i = true → q i = true) : cP p ≤ cP q := by
  unfold cP
  have key : ∀ l : List Nat, (∀ i ∈ l, p i = true → q i = true) → (l.filter p).length ≤ (l.filter q).length := by
    intro l
    induction l with
    | nil => intro _; exact Nat.le_refl _
    | cons a l ih =>
      intro h
      have h1 := ih fun i hi => h i (List.mem_cons_of_mem _ hi)
      have h2 := h a (List.mem_cons_self ..)
      simp only [List.filter_cons]
      cases hp : p a with
      | true => rw [h2 hp]; simp; omega
      | false => cases q a <;> simp <;> omega
  exact key _ fun i hi => h i (List.mem_range.1 hi)
theorem cP_two (p q : Nat → Bool) : cP p + cP q = cP (fun i => p i && q i) + cP (fun i => p i || q i) := by
  unfold cP
  have key : ∀ l : List Nat, (l.filter p).length + (l.filter q).length = (l.filter fun i => p i && q i).length + (l.filter fun i => p i || q i).length := by
    intro l
    induction l with
    | nil => rfl
    | cons a l ih =>
      simp only [List.filter_cons]
      cases hp : p a <;> cases hq : q a <;> simp <;> omega
  exact key _
theorem cP_lt (n : Int) (h : okN n = true) : cP (fun i => decide ((i : Int) < n)) = n.toNat := by
  rcases okN_iff.1 h with rfl | rfl | rfl | rfl | rfl <;> decide +kernel
theorem cnt_P (s : Nat) : cntS s = cP s.testBit := rfl
theorem cP_ext {p q : Nat → Bool} (h : ∀ i, i < 64 → p i = q i) : cP p = cP q :=
  Nat.le_antisymm (cP_mono fun i hi k => by rw [← h i hi]; exact k) (cP_mono fun i hi k => by rw [h i hi]; exact k)
theorem fN_ok {n : Int} (h : okN n = true) : n = 3 * (fN n : Int) + 1 := by
  unfold fN; rw [h]
  rcases okN_iff.1 h with rfl | rfl | rfl | rfl | rfl <;> decide
theorem not_bit {t i : Nat} (ht : t < 2 ^ 64) (hi : i < 64) : (18446744073709551615 - t).testBit i = !t.testBit i := by
  have e : 18446744073709551615 - t = 2 ^ 64 - (t + 1) := by omega
  rw [e, Nat.testBit_two_pow_sub_succ ht]
  simp [hi]
theorem cnt_all {s : Nat} {n : Int} : cntS (s &&& allN n) = cP fun i => s.testBit i && decide ((i : Int) < n) := by
  rw [cnt_P]
  exact cP_ext fun i hi => by rw [Nat.testBit_and, allN_bit hi]
theorem meet_both {a b : Nat} {n : Int} (h : okN n = true) (ha : 2 * fN n + 1 ≤ cntS (a &&& allN n)) (hb : 2 * fN n + 1 ≤ cntS (b &&& allN n)) : fN n + 1 ≤ cntS (a &&& b &&& allN n) := by
  rw [cnt_all] at ha hb ⊢
  have h1 := cP_two (fun i => a.testBit i && decide ((i : Int) < n)) (fun i => b.testBit i && decide ((i : Int) < n))
  have h2 : cP (fun i => (a.testBit i && decide ((i : Int) < n)) || (b.testBit i && decide ((i : Int) < n))) ≤ cP (fun i => decide ((i : Int) < n)) := cP_mono fun i _ k => by
    rw [Bool.or_eq_true, Bool.and_eq_true, Bool.and_eq_true] at k
    exact k.elim (·.2) (·.2)
  have h3 : cP (fun i => (a.testBit i && decide ((i : Int) < n)) && (b.testBit i && decide ((i : Int) < n))) ≤ cP (fun i => (a &&& b).testBit i && decide ((i : Int) < n)) := cP_mono fun i _ k => by
    simp only [Bool.and_eq_true] at k
    simp only [Nat.testBit_and, Bool.and_eq_true]
    exact ⟨⟨k.1.1, k.2.1⟩, k.1.2⟩
  have h4 := cP_lt n h
  have h5 := fN_ok h
  omega
theorem meet_bad {a bad k f : Nat} {n : Int} (hb : bad < 2 ^ 64) (ha : k + f ≤ cntS (a &&& allN n)) (hf : cntS bad ≤ f) : k ≤ cntS ((a &&& (18446744073709551615 - bad)) &&& allN n) ∧ k ≤ cntS ((a &&& allN n) &&& (18446744073709551615 - bad)) := by
  have e : cntS ((a &&& allN n) &&& (18446744073709551615 - bad)) = cntS ((a &&& (18446744073709551615 - bad)) &&& allN n) := by
    rw [Nat.and_assoc, Nat.and_comm (allN n), ← Nat.and_assoc]
  rw [e]
  rw [cnt_all] at ha ⊢
  rw [cnt_P] at hf
  have h1 := cP_two (fun i => (a &&& (18446744073709551615 - bad)).testBit i && decide ((i : Int) < n)) bad.testBit
  have h2 : cP (fun i => a.testBit i && decide ((i : Int) < n)) ≤ cP (fun i => ((a &&& (18446744073709551615 - bad)).testBit i && decide ((i : Int) < n)) || bad.testBit i) := cP_mono fun i hi k => by
    rw [Nat.testBit_and, not_bit hb hi]
    rw [Bool.and_eq_true] at k
    rw [k.1, k.2]
    cases bad.testBit i <;> rfl
  have h3 : cP (fun i => ((a &&& (18446744073709551615 - bad)).testBit i && decide ((i : Int) < n)) && bad.testBit i) = 0 := by
    have : cP (fun i => ((a &&& (18446744073709551615 - bad)).testBit i && decide ((i : Int) < n)) && bad.testBit i) ≤ cP (fun _ => false) := cP_mono fun i hi k => by
      rw [Nat.testBit_and, not_bit hb hi] at k
      cases h : bad.testBit i <;> simp [h] at k
    have h0 : cP (fun _ => false) = 0 := by unfold cP; simp
    omega
  omega
theorem nums11 : numsL 11 = [0, 1, 3] := by decide +kernel
theorem cnt11 : cntS 11 = 3 := by decide +kernel
theorem cnt11a : cntS (11 &&& allN 4) = 3 := by decide +kernel
theorem awake_s (m : Nat) : plenumlaw05_awake m = some (bA true, []) := by
  have a1 := replicas_s m 1 (by omega)
  have a2 := faults_s m 5
  have a3 := list_s m 11 (by decide)
  have a4 := strong_s m 4
  have a5 := weak_s m 4
  have a6 := count_s m 11 (by decide)
  have a7 := isStrong_s m 11 4 (by decide)
  have a8 := primary_s m 9 4 (by omega) (by omega)
  have a9 := primary_s m (-1) 4 (by omega) (by omega)
  rw [cnt11] at a6
  rw [cnt11a] at a7
  rw [nums11] at a3
  have o4 : okN 4 = true := by decide
  have o5 : okN 5 = false := by decide
  have f4 : fN 4 = 1 := by decide
  have f5 : fN 5 = 0 := by decide
  simp only [o4, f4, o5, f5] at a2 a4 a5 a7
  have a3 : quorum_List_t m [V (.int .u64 11)] = some (SL [nA 0, nA 1, nA 3], []) := a3
  have a6 : quorum_Count m (V (.int .u64 11)) = some (nA 3, []) := a6
  have a7 : quorum_IsStrong m (V (.int .u64 11)) (nA 4) = some (bA true, []) := a7
  rw [plenumlaw05_awake_eq]
  simp (config := {maxSteps := 4000000, implicitDefEqProofs := false}) only [go_sem, ↓reduceIte, Nat.reduceAdd, Nat.reduceSub, Nat.reduceMul, Nat.reduceLeDiff, Nat.reduceLT, Int.reduceEq, Int.reduceNe, Int.reduceLT, Int.reduceLE, Int.reduceAdd, Int.reduceSub, Int.reduceMul, Int.reduceNeg, Nat.zero_add, Nat.add_zero, Nat.mul_one, Int.toNat_natCast, Int.natCast_zero, Int.cast_ofNat_Int, or_false, false_or, or_true, true_or, Int.reduceToNat, Nat.sub_zero, Int.natCast_nonneg, Int.toNat_zero, Bool.true_and, Bool.and_true, Bool.false_and, Bool.and_false, Bool.true_or, Bool.or_true, Bool.false_or, Bool.or_false, Bool.not_true, Bool.not_false, Bool.not_not, true_and, and_true, false_and, and_false, not_true_eq_false, not_false_eq_true, eq_self, decide_true, decide_false, ne_eq, implies_true, forall_const, true_implies, false_implies, Bool.true_eq_false, Bool.false_eq_true, reduceCtorEq, List.map_cons, List.map_nil, List.all_cons, List.all_nil, List.length_cons, List.length_nil, List.length_map, List.length_append, List.nil_append, List.cons_append, List.set_cons_zero, List.set_cons_succ, List.set_nil, List.drop_zero, List.drop_succ_cons, List.drop_nil, List.take_zero, List.take_succ_cons, List.take_nil, Option.map_some, Option.map_none, Option.isSome_some, Nat.reduceEqDiff, Nat.reduceBEq, Nat.reduceGT, List.all_append, List.all_map, Function.comp_def, decide_eq_true_eq, Bool.and_eq_true, beq_self_eq_true, or_self, and_self, ite_true, ite_false, Nat.le_refl, Bool.not_eq_true, decide_not, Bool.not_eq_true', decide_eq_false_iff_not, Bool.not_eq_false, Bool.or_eq_true, if_true, if_false, ite_self, a1, a2, a3, a4, a5, a6, a7, a8, a9]
  rfl
theorem rfaults_s (m : Nat) (n : Int) (hm : 6 < m) : plenumref05_Faults m (nA n) = some (nA (fN n), []) := by
  rw [plenumref05_Faults_eq]
  refine iter_ind (ι := {k : Nat // 1 ≤ k ∧ k ≤ 6 ∧ ∀ j : Nat, 1 ≤ j → j < k → ¬ n = 3 * (j : Int) + 1}) (fun k => ⟨[], [(0, nA n), (3, nA k.1)]⟩) (fun k => 6 - k.1) (fun _ => some (nA (fN n), [])) ?_ ⟨1, by omega, by omega, fun j h1 h2 => by omega⟩ (by dsimp only; omega)
  rintro ⟨k, hk1, hk, hall⟩ kc hkc
  dsimp only at hkc ⊢
  rw [plenumref05_Faults_b1_eq]
  by_cases hlt : k ≤ 5
  · have hlt' : (k : Int) ≤ 5 := by omega
    by_cases he : n = 3 * (k : Int) + 1
    · have hf : (fN n : Int) = k := by
        have ho : okN n = true := okN_iff.2 (by omega)
        have := fN_ok ho
        omega
      simp (config := {maxSteps := 4000000, implicitDefEqProofs := false}) (disch := omega) only [go_sem, ↓reduceIte, Nat.reduceAdd, Nat.reduceSub, Nat.reduceMul, Nat.reduceLeDiff, Nat.reduceLT, Int.reduceEq, Int.reduceNe, Int.reduceLT, Int.reduceLE, Int.reduceAdd, Int.reduceSub, Int.reduceMul, Int.reduceNeg, Nat.zero_add, Nat.add_zero, Nat.mul_one, Int.toNat_natCast, Int.natCast_zero, Int.cast_ofNat_Int, or_false, false_or, or_true, true_or, Int.reduceToNat, Nat.sub_zero, Int.natCast_nonneg, Int.toNat_zero, Bool.true_and, Bool.and_true, Bool.false_and, Bool.and_false, Bool.true_or, Bool.or_true, Bool.false_or, Bool.or_false, Bool.not_true, Bool.not_false, Bool.not_not, true_and, and_true, false_and, and_false, not_true_eq_false, not_false_eq_true, eq_self, decide_true, decide_false, ne_eq, implies_true, forall_const, true_implies, false_implies, Bool.true_eq_false, Bool.false_eq_true, reduceCtorEq, List.map_cons, List.map_nil, List.all_cons, List.all_nil, List.length_cons, List.length_nil, List.length_map, List.length_append, List.nil_append, List.cons_append, List.set_cons_zero, List.set_cons_succ, List.set_nil, List.drop_zero, List.drop_succ_cons, List.drop_nil, List.take_zero, List.take_succ_cons, List.take_nil, Option.map_some, Option.map_none, Option.isSome_some, Nat.reduceEqDiff, Nat.reduceBEq, Nat.reduceGT, List.all_append, List.all_map, Function.comp_def, decide_eq_true_eq, Bool.and_eq_true, beq_self_eq_true, or_self, and_self, ite_true, ite_false, Nat.le_refl, Bool.not_eq_true, decide_not, Bool.not_eq_true', decide_eq_false_iff_not, Bool.not_eq_false, Bool.or_eq_true, if_true, if_false, ite_self, hlt', w_i64, he]
      rw [← he, hf]
    · have hs := hkc ⟨k + 1, by omega, by omega, fun j h1 h2 => by
        by_cases e : j = k
        · subst e; exact he
        · exact hall j h1 (by omega)⟩ (by dsimp only; omega)
      simp (config := {maxSteps := 4000000, implicitDefEqProofs := false}) (disch := omega) only [go_sem, ↓reduceIte, Nat.reduceAdd, Nat.reduceSub, Nat.reduceMul, Nat.reduceLeDiff, Nat.reduceLT, Int.reduceEq, Int.reduceNe, Int.reduceLT, Int.reduceLE, Int.reduceAdd, Int.reduceSub, Int.reduceMul, Int.reduceNeg, Nat.zero_add, Nat.add_zero, Nat.mul_one, Int.toNat_natCast, Int.natCast_zero, Int.cast_ofNat_Int, or_false, false_or, or_true, true_or, Int.reduceToNat, Nat.sub_zero, Int.natCast_nonneg, Int.toNat_zero, Bool.true_and, Bool.and_true, Bool.false_and, Bool.and_false, Bool.true_or, Bool.or_true, Bool.false_or, Bool.or_false, Bool.not_true, Bool.not_false, Bool.not_not, true_and, and_true, false_and, and_false, not_true_eq_false, not_false_eq_true, eq_self, decide_true, decide_false, ne_eq, implies_true, forall_const, true_implies, false_implies, Bool.true_eq_false, Bool.false_eq_true, reduceCtorEq, List.map_cons, List.map_nil, List.all_cons, List.all_nil, List.length_cons, List.length_nil, List.length_map, List.length_append, List.nil_append, List.cons_append, List.set_cons_zero, List.set_cons_succ, List.set_nil, List.drop_zero, List.drop_succ_cons, List.drop_nil, List.take_zero, List.take_succ_cons, List.take_nil, Option.map_some, Option.map_none, Option.isSome_some, Nat.reduceEqDiff, Nat.reduceBEq, Nat.reduceGT, List.all_append, List.all_map, Function.comp_def, decide_eq_true_eq, Bool.and_eq_true, beq_self_eq_true, or_self, and_self, ite_true, ite_false, Nat.le_refl, Bool.not_eq_true, decide_not, Bool.not_eq_true', decide_eq_false_iff_not, Bool.not_eq_false, Bool.or_eq_true, if_true, if_false, ite_self, hlt', w_i64, he]
      exact hs
  · have hlt' : ¬ (k : Int) ≤ 5 := by omega
    have hf : fN n = 0 := by
      unfold fN
      rw [if_neg]
      intro ho
      have h1 := hall 1 (by omega) (by omega)
      have h2 := hall 2 (by omega) (by omega)
      have h3 := hall 3 (by omega) (by omega)
      have h4 := hall 4 (by omega) (by omega)
      have h5 := hall 5 (by omega) (by omega)
      rcases okN_iff.1 ho with q | q | q | q | q <;> omega
    simp (config := {maxSteps := 4000000, implicitDefEqProofs := false}) only [go_sem, ↓reduceIte, Nat.reduceAdd, Nat.reduceSub, Nat.reduceMul, Nat.reduceLeDiff, Nat.reduceLT, Int.reduceEq, Int.reduceNe, Int.reduceLT, Int.reduceLE, Int.reduceAdd, Int.reduceSub, Int.reduceMul, Int.reduceNeg, Nat.zero_add, Nat.add_zero, Nat.mul_one, Int.toNat_natCast, Int.natCast_zero, Int.cast_ofNat_Int, or_false, false_or, or_true, true_or, Int.reduceToNat, Nat.sub_zero, Int.natCast_nonneg, Int.toNat_zero, Bool.true_and, Bool.and_true, Bool.false_and, Bool.and_false, Bool.true_or, Bool.or_true, Bool.false_or, Bool.or_false, Bool.not_true, Bool.not_false, Bool.not_not, true_and, and_true, false_and, and_false, not_true_eq_false, not_false_eq_true, eq_self, decide_true, decide_false, ne_eq, implies_true, forall_const, true_implies, false_implies, Bool.true_eq_false, Bool.false_eq_true, reduceCtorEq, List.map_cons, List.map_nil, List.all_cons, List.all_nil, List.length_cons, List.length_nil, List.length_map, List.length_append, List.nil_append, List.cons_append, List.set_cons_zero, List.set_cons_succ, List.set_nil, List.drop_zero, List.drop_succ_cons, List.drop_nil, List.take_zero, List.take_succ_cons, List.take_nil, Option.map_some, Option.map_none, Option.isSome_some, Nat.reduceEqDiff, Nat.reduceBEq, Nat.reduceGT, List.all_append, List.all_map, Function.comp_def, decide_eq_true_eq, Bool.and_eq_true, beq_self_eq_true, or_self, and_self, ite_true, ite_false, Nat.le_refl, Bool.not_eq_true, decide_not, Bool.not_eq_true', decide_eq_false_iff_not, Bool.not_eq_false, Bool.or_eq_true, if_true, if_false, ite_self, hlt']
    rw [plenumref05_Faults_r1_eq, hf]
    simp (config := {maxSteps := 4000000, implicitDefEqProofs := false}) only [go_sem, ↓reduceIte, Nat.reduceAdd, Nat.reduceSub, Nat.reduceMul, Nat.reduceLeDiff, Nat.reduceLT, Int.reduceEq, Int.reduceNe, Int.reduceLT, Int.reduceLE, Int.reduceAdd, Int.reduceSub, Int.reduceMul, Int.reduceNeg, Nat.zero_add, Nat.add_zero, Nat.mul_one, Int.toNat_natCast, Int.natCast_zero, Int.cast_ofNat_Int, or_false, false_or, or_true, true_or, Int.reduceToNat, Nat.sub_zero, Int.natCast_nonneg, Int.toNat_zero, Bool.true_and, Bool.and_true, Bool.false_and, Bool.and_false, Bool.true_or, Bool.or_true, Bool.false_or, Bool.or_false, Bool.not_true, Bool.not_false, Bool.not_not, true_and, and_true, false_and, and_false, not_true_eq_false, not_false_eq_true, eq_self, decide_true, decide_false, ne_eq, implies_true, forall_const, true_implies, false_implies, Bool.true_eq_false, Bool.false_eq_true, reduceCtorEq, List.map_cons, List.map_nil, List.all_cons, List.all_nil, List.length_cons, List.length_nil, List.length_map, List.length_append, List.nil_append, List.cons_append, List.set_cons_zero, List.set_cons_succ, List.set_nil, List.drop_zero, List.drop_succ_cons, List.drop_nil, List.take_zero, List.take_succ_cons, List.take_nil, Option.map_some, Option.map_none, Option.isSome_some, Nat.reduceEqDiff, Nat.reduceBEq, Nat.reduceGT, List.all_append, List.all_map, Function.comp_def, decide_eq_true_eq, Bool.and_eq_true, beq_self_eq_true, or_self, and_self, ite_true, ite_false, Nat.le_refl, Bool.not_eq_true, decide_not, Bool.not_eq_true', decide_eq_false_iff_not, Bool.not_eq_false, Bool.or_eq_true, if_true, if_false, ite_self]
theorem fN_no {n : Int} (h : okN n = false) : fN n = 0 := by unfold fN; rw [h]; rfl
theorem fN_yes {n : Int} (h : okN n = true) : fN n ≠ 0 := by
  have := fN_ok h
  rcases okN_iff.1 h with q | q | q | q | q <;> omega
theorem sizes_s (m : Nat) (f n : Int) (hm : 6 < m) (hf : -9223372036854775808 ≤ f ∧ f < 9223372036854775808) : plenumlaw05_QuorumSizes m (nA f) (nA n) = some (bA true, []) := by
  have a1 := replicas_s m f hf
  have a2 := faults_s m n
  have a3 := strong_s m n
  have a4 := weak_s m n
  have a5 := rfaults_s m n hm
  have a6 := awake_s m
  have hl := fN_le n
  rw [plenumlaw05_QuorumSizes_eq]
  have fin : ∀ e : Int, e = (if okN n then 0 else 1) → plenumlaw05_QuorumSizes_r4 m ⟨[], [(1, nA n), (7, nA (fN n)), (8, nA e)]⟩ = some (bA true, []) := by
    intro e he
    subst he
    rw [plenumlaw05_QuorumSizes_r4_eq]
    cases ho : okN n with
    | false =>
      have h0 := fN_no ho
      simp only [ho, h0] at a3 a4 a5 ⊢
      simp (config := {maxSteps := 4000000, implicitDefEqProofs := false}) only [go_sem, ↓reduceIte, Nat.reduceAdd, Nat.reduceSub, Nat.reduceMul, Nat.reduceLeDiff, Nat.reduceLT, Int.reduceEq, Int.reduceNe, Int.reduceLT, Int.reduceLE, Int.reduceAdd, Int.reduceSub, Int.reduceMul, Int.reduceNeg, Nat.zero_add, Nat.add_zero, Nat.mul_one, Int.toNat_natCast, Int.natCast_zero, Int.cast_ofNat_Int, or_false, false_or, or_true, true_or, Int.reduceToNat, Nat.sub_zero, Int.natCast_nonneg, Int.toNat_zero, Bool.true_and, Bool.and_true, Bool.false_and, Bool.and_false, Bool.true_or, Bool.or_true, Bool.false_or, Bool.or_false, Bool.not_true, Bool.not_false, Bool.not_not, true_and, and_true, false_and, and_false, not_true_eq_false, not_false_eq_true, eq_self, decide_true, decide_false, ne_eq, implies_true, forall_const, true_implies, false_implies, Bool.true_eq_false, Bool.false_eq_true, reduceCtorEq, List.map_cons, List.map_nil, List.all_cons, List.all_nil, List.length_cons, List.length_nil, List.length_map, List.length_append, List.nil_append, List.cons_append, List.set_cons_zero, List.set_cons_succ, List.set_nil, List.drop_zero, List.drop_succ_cons, List.drop_nil, List.take_zero, List.take_succ_cons, List.take_nil, Option.map_some, Option.map_none, Option.isSome_some, Nat.reduceEqDiff, Nat.reduceBEq, Nat.reduceGT, List.all_append, List.all_map, Function.comp_def, decide_eq_true_eq, Bool.and_eq_true, beq_self_eq_true, or_self, and_self, ite_true, ite_false, Nat.le_refl, Bool.not_eq_true, decide_not, Bool.not_eq_true', decide_eq_false_iff_not, Bool.not_eq_false, Bool.or_eq_true, if_true, if_false, ite_self, plenumlaw05_QuorumSizes_r4_eq, plenumlaw05_QuorumSizes_r3_eq, plenumlaw05_QuorumSizes_r2_eq, plenumlaw05_QuorumSizes_r1_eq, a3, a4, a5, a6]
    | true =>
      have h0 := fN_yes ho
      have h0' : ¬ (fN n : Int) = 0 := by omega
      have e1 : IntKind.i64.wrap (2 * (fN n : Int)) = 2 * (fN n : Int) := w_i64 (by omega) (by omega)
      have e2 : IntKind.i64.wrap (2 * (fN n : Int) + 1) = 2 * (fN n : Int) + 1 := w_i64 (by omega) (by omega)
      have e3 : IntKind.i64.wrap ((fN n : Int) + 1) = (fN n : Int) + 1 := w_i64 (by omega) (by omega)
      simp only [ho] at a3 a4 ⊢
      simp (config := {maxSteps := 4000000, implicitDefEqProofs := false}) only [go_sem, ↓reduceIte, Nat.reduceAdd, Nat.reduceSub, Nat.reduceMul, Nat.reduceLeDiff, Nat.reduceLT, Int.reduceEq, Int.reduceNe, Int.reduceLT, Int.reduceLE, Int.reduceAdd, Int.reduceSub, Int.reduceMul, Int.reduceNeg, Nat.zero_add, Nat.add_zero, Nat.mul_one, Int.toNat_natCast, Int.natCast_zero, Int.cast_ofNat_Int, or_false, false_or, or_true, true_or, Int.reduceToNat, Nat.sub_zero, Int.natCast_nonneg, Int.toNat_zero, Bool.true_and, Bool.and_true, Bool.false_and, Bool.and_false, Bool.true_or, Bool.or_true, Bool.false_or, Bool.or_false, Bool.not_true, Bool.not_false, Bool.not_not, true_and, and_true, false_and, and_false, not_true_eq_false, not_false_eq_true, eq_self, decide_true, decide_false, ne_eq, implies_true, forall_const, true_implies, false_implies, Bool.true_eq_false, Bool.false_eq_true, reduceCtorEq, List.map_cons, List.map_nil, List.all_cons, List.all_nil, List.length_cons, List.length_nil, List.length_map, List.length_append, List.nil_append, List.cons_append, List.set_cons_zero, List.set_cons_succ, List.set_nil, List.drop_zero, List.drop_succ_cons, List.drop_nil, List.take_zero, List.take_succ_cons, List.take_nil, Option.map_some, Option.map_none, Option.isSome_some, Nat.reduceEqDiff, Nat.reduceBEq, Nat.reduceGT, List.all_append, List.all_map, Function.comp_def, decide_eq_true_eq, Bool.and_eq_true, beq_self_eq_true, or_self, and_self, ite_true, ite_false, Nat.le_refl, Bool.not_eq_true, decide_not, Bool.not_eq_true', decide_eq_false_iff_not, Bool.not_eq_false, Bool.or_eq_true, if_true, if_false, ite_self, plenumlaw05_QuorumSizes_r4_eq, plenumlaw05_QuorumSizes_r3_eq, plenumlaw05_QuorumSizes_r2_eq, plenumlaw05_QuorumSizes_r1_eq, a3, a4, a5, a6, h0', e1, e2, e3]
  by_cases h1 : f < 1
  · have h3 : ¬ (1 ≤ f ∧ f ≤ 5) := by omega
    rw [if_neg h3, if_neg h3] at a1
    simp (config := {maxSteps := 4000000, implicitDefEqProofs := false}) only [go_sem, ↓reduceIte, Nat.reduceAdd, Nat.reduceSub, Nat.reduceMul, Nat.reduceLeDiff, Nat.reduceLT, Int.reduceEq, Int.reduceNe, Int.reduceLT, Int.reduceLE, Int.reduceAdd, Int.reduceSub, Int.reduceMul, Int.reduceNeg, Nat.zero_add, Nat.add_zero, Nat.mul_one, Int.toNat_natCast, Int.natCast_zero, Int.cast_ofNat_Int, or_false, false_or, or_true, true_or, Int.reduceToNat, Nat.sub_zero, Int.natCast_nonneg, Int.toNat_zero, Bool.true_and, Bool.and_true, Bool.false_and, Bool.and_false, Bool.true_or, Bool.or_true, Bool.false_or, Bool.or_false, Bool.not_true, Bool.not_false, Bool.not_not, true_and, and_true, false_and, and_false, not_true_eq_false, not_false_eq_true, eq_self, decide_true, decide_false, ne_eq, implies_true, forall_const, true_implies, false_implies, Bool.true_eq_false, Bool.false_eq_true, reduceCtorEq, List.map_cons, List.map_nil, List.all_cons, List.all_nil, List.length_cons, List.length_nil, List.length_map, List.length_append, List.nil_append, List.cons_append, List.set_cons_zero, List.set_cons_succ, List.set_nil, List.drop_zero, List.drop_succ_cons, List.drop_nil, List.take_zero, List.take_succ_cons, List.take_nil, Option.map_some, Option.map_none, Option.isSome_some, Nat.reduceEqDiff, Nat.reduceBEq, Nat.reduceGT, List.all_append, List.all_map, Function.comp_def, decide_eq_true_eq, Bool.and_eq_true, beq_self_eq_true, or_self, and_self, ite_true, ite_false, Nat.le_refl, Bool.not_eq_true, decide_not, Bool.not_eq_true', decide_eq_false_iff_not, Bool.not_eq_false, Bool.or_eq_true, if_true, if_false, ite_self, plenumlaw05_QuorumSizes_r1_eq, plenumlaw05_QuorumSizes_r2_eq, plenumlaw05_QuorumSizes_r3_eq, a1, a2, h1]
    exact fin _ rfl
  · by_cases h2 : 5 < f
    · have h3 : ¬ (1 ≤ f ∧ f ≤ 5) := by omega
      rw [if_neg h3, if_neg h3] at a1
      simp (config := {maxSteps := 4000000, implicitDefEqProofs := false}) only [go_sem, ↓reduceIte, Nat.reduceAdd, Nat.reduceSub, Nat.reduceMul, Nat.reduceLeDiff, Nat.reduceLT, Int.reduceEq, Int.reduceNe, Int.reduceLT, Int.reduceLE, Int.reduceAdd, Int.reduceSub, Int.reduceMul, Int.reduceNeg, Nat.zero_add, Nat.add_zero, Nat.mul_one, Int.toNat_natCast, Int.natCast_zero, Int.cast_ofNat_Int, or_false, false_or, or_true, true_or, Int.reduceToNat, Nat.sub_zero, Int.natCast_nonneg, Int.toNat_zero, Bool.true_and, Bool.and_true, Bool.false_and, Bool.and_false, Bool.true_or, Bool.or_true, Bool.false_or, Bool.or_false, Bool.not_true, Bool.not_false, Bool.not_not, true_and, and_true, false_and, and_false, not_true_eq_false, not_false_eq_true, eq_self, decide_true, decide_false, ne_eq, implies_true, forall_const, true_implies, false_implies, Bool.true_eq_false, Bool.false_eq_true, reduceCtorEq, List.map_cons, List.map_nil, List.all_cons, List.all_nil, List.length_cons, List.length_nil, List.length_map, List.length_append, List.nil_append, List.cons_append, List.set_cons_zero, List.set_cons_succ, List.set_nil, List.drop_zero, List.drop_succ_cons, List.drop_nil, List.take_zero, List.take_succ_cons, List.take_nil, Option.map_some, Option.map_none, Option.isSome_some, Nat.reduceEqDiff, Nat.reduceBEq, Nat.reduceGT, List.all_append, List.all_map, Function.comp_def, decide_eq_true_eq, Bool.and_eq_true, beq_self_eq_true, or_self, and_self, ite_true, ite_false, Nat.le_refl, Bool.not_eq_true, decide_not, Bool.not_eq_true', decide_eq_false_iff_not, Bool.not_eq_false, Bool.or_eq_true, if_true, if_false, ite_self, plenumlaw05_QuorumSizes_r1_eq, plenumlaw05_QuorumSizes_r2_eq, plenumlaw05_QuorumSizes_r3_eq, a1, a2, h1, h2]
      exact fin _ rfl
    · have h3 : 1 ≤ f ∧ f ≤ 5 := by omega
      rw [if_pos h3, if_pos h3] at a1
      have e1 : IntKind.i64.wrap (3 * f) = 3 * f := w_i64 (by omega) (by omega)
      have e2 : IntKind.i64.wrap (3 * f + 1) = 3 * f + 1 := w_i64 (by omega) (by omega)
      simp (config := {maxSteps := 4000000, implicitDefEqProofs := false}) only [go_sem, ↓reduceIte, Nat.reduceAdd, Nat.reduceSub, Nat.reduceMul, Nat.reduceLeDiff, Nat.reduceLT, Int.reduceEq, Int.reduceNe, Int.reduceLT, Int.reduceLE, Int.reduceAdd, Int.reduceSub, Int.reduceMul, Int.reduceNeg, Nat.zero_add, Nat.add_zero, Nat.mul_one, Int.toNat_natCast, Int.natCast_zero, Int.cast_ofNat_Int, or_false, false_or, or_true, true_or, Int.reduceToNat, Nat.sub_zero, Int.natCast_nonneg, Int.toNat_zero, Bool.true_and, Bool.and_true, Bool.false_and, Bool.and_false, Bool.true_or, Bool.or_true, Bool.false_or, Bool.or_false, Bool.not_true, Bool.not_false, Bool.not_not, true_and, and_true, false_and, and_false, not_true_eq_false, not_false_eq_true, eq_self, decide_true, decide_false, ne_eq, implies_true, forall_const, true_implies, false_implies, Bool.true_eq_false, Bool.false_eq_true, reduceCtorEq, List.map_cons, List.map_nil, List.all_cons, List.all_nil, List.length_cons, List.length_nil, List.length_map, List.length_append, List.nil_append, List.cons_append, List.set_cons_zero, List.set_cons_succ, List.set_nil, List.drop_zero, List.drop_succ_cons, List.drop_nil, List.take_zero, List.take_succ_cons, List.take_nil, Option.map_some, Option.map_none, Option.isSome_some, Nat.reduceEqDiff, Nat.reduceBEq, Nat.reduceGT, List.all_append, List.all_map, Function.comp_def, decide_eq_true_eq, Bool.and_eq_true, beq_self_eq_true, or_self, and_self, ite_true, ite_false, Nat.le_refl, Bool.not_eq_true, decide_not, Bool.not_eq_true', decide_eq_false_iff_not, Bool.not_eq_false, Bool.or_eq_true, if_true, if_false, ite_self, plenumlaw05_QuorumSizes_r1_eq, plenumlaw05_QuorumSizes_r2_eq, plenumlaw05_QuorumSizes_r3_eq, a1, a2, h1, h2, e1, e2]
      exact fin _ rfl
end Go.Proofs.YtlhnkljpidgjgaaDoor
