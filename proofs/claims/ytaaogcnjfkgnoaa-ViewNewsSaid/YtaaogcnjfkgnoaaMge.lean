/-
  Texts laid together, part 5 of 8: laws of a walk over data, contracts of functions, each whole by itself.
-/
import Derived.Test.YtaaogcnjfkgnoaaMgd
import Derived.WalkKit
import Derived.KernelRfl
import Derived.Test.YtaaogcnjfkgnoaaMgc
set_option maxRecDepth 100000
noncomputable section
set_option linter.unusedVariables false
set_option linter.unusedSimpArgs false
namespace Go.Proofs.Ytaaogcnjfkgnoaa
open Go.RowKit
def z0H : TypeId := 46
def zc_plenumref04_Ring : List AV := [(V (.int .i64 0)),(V (.slice none 0 0)),(V (.slice none 0 0))]
def z3e : Code := (Try.f13.body).getD .skip
def plenumref04_Ring_Bad_h : Hint := (.two .n (.join [] (.two .n (.one (.lp [] [1,2,5] [4] (.two (.two .n (.two .n .n)) (.two (.one (.two .n (.two (.two .n .n) .n))) .n))))) (.two .n .n)))
def z3Q (m : Nat) : Env := []
abbrev z3W : KO (AV × List AObj) := z1L Try.prog [.tmp 4]
def z7u (m : Nat) (s : ASt) : RO := z11 Try.prog GG (z3Q m) m ⟨20,[]⟩ (cdR (cdR z3e)) plenumref04_Ring_Bad_h.r.r s (z3W)
def z7A (m : Nat) (s : ASt) (kc : ASt → RO) (kx : KO (AV × List AObj)) : RO := z8G Try.prog GG (z3Q m) m ⟨20,[]⟩ (cdL (cdL (cdR (cdL (cdR z3e))))) plenumref04_Ring_Bad_h.r.l.r.c.c [1,2,5] [4] s kc kx
def z2O (m : Nat) (t0 t1 : AV) : RO := zLa Try.prog GG (z3Q m) m ⟨20,[]⟩ z3e plenumref04_Ring_Bad_h ⟨[],z14 0 [t0,t1]⟩ (z3W)
theorem zbq (m : Nat) (H : List AObj) : z7u m ⟨H,[]⟩ =
 z1Z H (ro H (V (.bool false))) := by
 refine (z03 _ _ _ _ _ _ _ _ _).trans ?_
 kernel_rfl
theorem zbs (m : Nat) (H : List AObj) (t1 t2 t5 : AV) (kc : ASt → RO) (kx : KO (AV × List AObj)) : z7A m ⟨H,[(1,t1),(2,t2),(5,t5)]⟩ kc kx =
 z02 (some (1,1)) t2 fun t7 =>
 z04 1 H t7 fun t8 =>
 zLZ false true H t8 fun t9 =>
 zMe none false false .lss t5 t9 fun t10 =>
 z0o t10 (
  z02 (some (1,1)) t2 fun t13 =>
  z04 1 H t13 fun t14 =>
  z3H 1 H t14 t5 fun t16 =>
  z04 1 H t16 fun t17 =>
  zMe none false false .eql t17 t1 fun t19 =>
  z0o t19 (
   kx .ret ⟨H,[(4,(V (.bool true)))]⟩) (
   zMe none false false .add t5 (V (.int .i64 1)) fun t12 =>
   z7z H.length H [(1,t1),(2,t2),(5,t12)] kc)) (
  kx (.exit 0) ⟨H,[(4, .nil)]⟩) := by
 refine (z0F _ _ _ _ _ _ _ _ _ _ _ _).trans ?_
 kernel_rfl
theorem zev (m : Nat) (t0 t1 : AV) : z2O m t0 t1 =
 zN2 z0H [] t0 fun t2 H1 =>
 z7c m (z7A m) ⟨H1,[(1,t1),(2,t2),(5,(V (.int .i64 0)))]⟩ (z0P 0 (zM3 (fun s=>z7u m ⟨s.H,[]⟩) (z3W))) := by
 refine (z8O _ _ _ _ _ _ _ _ _).trans ?_
 kernel_rfl
def z4B (m : Nat) : List AV → RO|[t0,t1]=>z2O m t0 t1|_=>none
theorem zeA (m : Nat) : ∀ args X H',z4B m args = some (X,H') → ACp Try.prog GG 13 args X := by
 intro args X H' h
 unfold z4B at h
 split at h
 ·exact z0B MIX (by intro f e h;cases h) (f := 13) (c := z3e) Try.func13 rfl (by kernel_rfl) _ rfl Try.ntmps13 (Nat.le_of_ble_eq_true rfl) plenumref04_Ring_Bad_h h
 ·cases h
def z3g : Code := (Try.f49.body).getD .skip
def plenumref04_Ring_Has_h : Hint := (.two .n (.join [] (.two .n (.one (.lp [] [2,3,5] [4] (.two (.two .n (.two .n .n)) (.two (.one (.two .n (.two (.two .n .n) .n))) .n))))) (.two .n .n)))
def z3Z (m : Nat) : Env := []
abbrev z3N : KO (AV × List AObj) := z1L Try.prog [.tmp 4]
def z7y (m : Nat) (s : ASt) : RO := z11 Try.prog GG (z3Z m) m ⟨20,[]⟩ (cdR (cdR z3g)) plenumref04_Ring_Has_h.r.r s (z3N)
def z7w (m : Nat) (s : ASt) (kc : ASt → RO) (kx : KO (AV × List AObj)) : RO := z8G Try.prog GG (z3Z m) m ⟨20,[]⟩ (cdL (cdL (cdR (cdL (cdR z3g))))) plenumref04_Ring_Has_h.r.l.r.c.c [2,3,5] [4] s kc kx
def z1f (m : Nat) (t0 t1 : AV) : RO := zLa Try.prog GG (z3Z m) m ⟨20,[]⟩ z3g plenumref04_Ring_Has_h ⟨[],z14 0 [t0,t1]⟩ (z3N)
theorem zbj (m : Nat) (H : List AObj) : z7y m ⟨H,[]⟩ =
 z1Z H (ro H (V (.bool false))) := by
 refine (z03 _ _ _ _ _ _ _ _ _).trans ?_
 kernel_rfl
theorem zbp (m : Nat) (H : List AObj) (t2 t3 t5 : AV) (kc : ASt → RO) (kx : KO (AV × List AObj)) : z7w m ⟨H,[(2,t2),(3,t3),(5,t5)]⟩ kc kx =
 z02 (some (2,1)) t2 fun t7 =>
 z04 1 H t7 fun t8 =>
 zLZ false true H t8 fun t9 =>
 zMe none false false .lss t5 t9 fun t10 =>
 z0o t10 (
  z02 (some (2,1)) t2 fun t13 =>
  z04 1 H t13 fun t14 =>
  z3H 7 H t14 t5 fun t16 =>
  z04 7 H t16 fun t17 =>
  z04 7 H t3 fun t18 =>
  zMe (some [.i .i64, .i .i64, .i .i64, .i .i64, .i .i64]) false false .eql t17 t18 fun t19 =>
  z0o t19 (
   kx .ret ⟨H,[(4,(V (.bool true)))]⟩) (
   zMe none false false .add t5 (V (.int .i64 1)) fun t12 =>
   z7z H.length H [(2,t2),(3,t3),(5,t12)] kc)) (
  kx (.exit 0) ⟨H,[(4, .nil)]⟩) := by
 refine (z0F _ _ _ _ _ _ _ _ _ _ _ _).trans ?_
 kernel_rfl
theorem zez (m : Nat) (t0 t1 : AV) : z1f m t0 t1 =
 zN2 z0H [] t0 fun t2 H1 =>
 zN2 z01 H1 t1 fun t3 H2 =>
 z7c m (z7w m) ⟨H2,[(2,t2),(3,t3),(5,(V (.int .i64 0)))]⟩ (z0P 0 (zM3 (fun s=>z7y m ⟨s.H,[]⟩) (z3N))) := by
 refine (z8O _ _ _ _ _ _ _ _ _).trans ?_
 kernel_rfl
def z1n (m : Nat) : List AV → RO|[t0,t1]=>z1f m t0 t1|_=>none
theorem z2T (m : Nat) : ∀ args X H',z1n m args = some (X,H') → ACp Try.prog GG 49 args X := by
 intro args X H' h
 unfold z1n at h
 split at h
 ·exact z0B MIX (by intro f e h;cases h) (f := 49) (c := z3g) Try.func49 rfl (by kernel_rfl) _ rfl Try.ntmps49 (Nat.le_of_ble_eq_true rfl) plenumref04_Ring_Has_h h
 ·cases h
def z1i : Code := (Try.f31.body).getD .skip
def plenumref04_Ring_Say_h : Hint := (.two .n (.join [1,3,5,6] (.join [1,3,5,6,15] .n (.two (.two .n .n) .n)) (.join [3,5,6] (.join [3,5,6,33] .n (.two (.two .n .n) .n)) (.two (.two .n (.two (.two .n .n) .n)) (.two (.two .n (.two (.two .n .n) .n)) (.two .n (.two .n .n)))))))
def z18 (m : Nat) : Env := [(13, .tell (z4B m)),(49, .tell (z1n m))]
abbrev z1v : KO (AV × List AObj) := z1L Try.prog [.cell 6 46, .tmp 7]
def z2P (m : Nat) (s : ASt) : RO := z11 Try.prog GG (z18 m) m ⟨53,[]⟩ (cdR (cdR (cdR z1i))) plenumref04_Ring_Say_h.r.r.r s (z1v)
def z1J (m : Nat) (s : ASt) : RO := z11 Try.prog GG (z18 m) m ⟨53,[]⟩ (cdR (cdL (cdR (cdR z1i)))) plenumref04_Ring_Say_h.r.r.l.r s (zM3 (fun s=>z2P m ⟨s.H,[(3,gt s.T 3),(5,gt s.T 5),(6,gt s.T 6)]⟩) (z1v))
def z4c (m : Nat) (s : ASt) : RO := z11 Try.prog GG (z18 m) m ⟨53,[]⟩ (cdR (cdR z1i)) plenumref04_Ring_Say_h.r.r s (z1v)
def z4h (m : Nat) (s : ASt) : RO := z11 Try.prog GG (z18 m) m ⟨53,[]⟩ (cdR (cdL (cdR z1i))) plenumref04_Ring_Say_h.r.l.r s (zM3 (fun s=>z4c m ⟨s.H,[(1,gt s.T 1),(3,gt s.T 3),(5,gt s.T 5),(6,gt s.T 6)]⟩) (z1v))
def z3X (m : Nat) (t0 t1 t2 : AV) : RO := zLa Try.prog GG (z18 m) m ⟨53,[]⟩ z1i plenumref04_Ring_Say_h ⟨[],z14 0 [t0,t1,t2]⟩ (z1v)
theorem zbh (m : Nat) (H : List AObj) (t3 t5 t6 : AV) : z2P m ⟨H,[(3,t3),(5,t5),(6,t6)]⟩ =
 z04 5 H t3 fun t35 =>
 z04 7 H t5 fun t36 =>
 z1D (z1f m (ro H t35) (ro H t36)) [(ro H t35),(ro H t36)] fun t37 =>
 z0o t37 (
  z04 5 H t3 fun t38 =>
  z0I 5 H t6 t38 fun H2 =>
  z04 5 H2 t6 fun t9000 =>
  z1Z H2 (ro H2 (TU [noT t9000,noT (V (.int .i64 0))]))) (
  z02 (some (2,1)) t3 fun t39 =>
  z04 1 H t39 fun t40 =>
  zLZ false true H t40 fun t41 =>
  zMe none false false .geq t41 (V (.int .i64 65536)) fun t42 =>
  z0o t42 (
   z04 5 H t3 fun t43 =>
   z0I 5 H t6 t43 fun H2 =>
   z04 5 H2 t6 fun t9000 =>
   z1Z H2 (ro H2 (TU [noT t9000,noT (V (.int .i64 5))]))) (
   z0O (some (z01,5)) 0 [] fun t44 =>
   z02 (some (2,1)) t3 fun t45 =>
   z04 1 H t45 fun t46 =>
   zNh (some (z01,5)) H t44 t46 fun t47 H2 =>
   z04 7 H2 t5 fun t48 =>
   z04 7 H t5 fun t8022 =>
   eqE t48 t8022 (
   z0O (some (z01,5)) 1 [(0,t48)] fun t49 =>
   zNh (some (z01,5)) H2 t47 t49 fun t50 H3 =>
   z02 (some (2,1)) t3 fun t51 =>
   z0I 1 H3 t51 t50 fun H4 =>
   z04 5 H4 t3 fun t52 =>
   z0I 5 H4 t6 t52 fun H5 =>
   z04 5 H5 t6 fun t9000 =>
   z1Z H5 (ro H5 (TU [noT t9000,noT (V (.int .i64 0))]))))) := by
 refine (z03 _ _ _ _ _ _ _ _ _).trans ?_
 kernel_rfl
theorem zbk (m : Nat) (H : List AObj) (t3 t5 t6 t33 : AV) : z1J m ⟨H,[(3,t3),(5,t5),(6,t6),(33,t33)]⟩ =
 z0o t33 (
  z04 5 H t3 fun t34 =>
  z0I 5 H t6 t34 fun H2 =>
  z04 5 H2 t6 fun t9000 =>
  z1Z H2 (ro H2 (TU [noT t9000,noT (V (.int .i64 19))]))) (
  z2P m ⟨H,[(3,t3),(5,t5),(6,t6)]⟩) := by
 refine (z03 _ _ _ _ _ _ _ _ _).trans ?_
 kernel_rfl
theorem z1V (m : Nat) (H : List AObj) (t1 t3 t5 t6 : AV) : z4c m ⟨H,[(1,t1),(3,t3),(5,t5),(6,t6)]⟩ =
 z02 (some (0,1)) t5 fun t17 =>
 z04 1 H t17 fun t18 =>
 zMe none false false .neq t18 t1 fun t20 =>
 z0o t20 (
  z04 5 H t3 fun t22 =>
  z1D (z2O m (ro H t22) (ro H t1)) [(ro H t22),(ro H t1)] fun t24 =>
  unE .not t24 fun t25 =>
  z0o t25 (
  z1J m ⟨H,[(3,t3),(5,t5),(6,t6),(33,(V (.bool true)))]⟩) (
  z04 5 H t3 fun t27 =>
  z02 (some (0,1)) t5 fun t28 =>
  z04 1 H t28 fun t29 =>
  z1D (z2O m (ro H t27) (ro H t29)) [(ro H t27),(ro H t29)] fun t30 =>
  unE .not t30 fun t31 =>
  z1J m ⟨H,[(3,t3),(5,t5),(6,t6),(33,t31)]⟩)) (
  z1J m ⟨H,[(3,t3),(5,t5),(6,t6),(33,(V (.bool false)))]⟩) := by
 refine (z03 _ _ _ _ _ _ _ _ _).trans ?_
 kernel_rfl
theorem z0U (m : Nat) (H : List AObj) (t1 t3 t5 t6 t15 : AV) : z4h m ⟨H,[(1,t1),(3,t3),(5,t5),(6,t6),(15,t15)]⟩ =
 z0o t15 (
  z04 5 H t3 fun t16 =>
  z0I 5 H t6 t16 fun H2 =>
  z04 5 H2 t6 fun t9000 =>
  z1Z H2 (ro H2 (TU [noT t9000,noT (V (.int .i64 4))]))) (
  z4c m ⟨H,[(1,t1),(3,t3),(5,t5),(6,t6)]⟩) := by
 refine (z03 _ _ _ _ _ _ _ _ _).trans ?_
 kernel_rfl
theorem zeB (m : Nat) (t0 t1 t2 : AV) : z3X m t0 t1 t2 =
 zN2 z0H [] t0 fun t3 H1 =>
 zN2 z01 H1 t2 fun t5 H2 =>
 z2f (some zc_plenumref04_Ring) z0H H2 fun t6 H3 =>
 zMe none false false .lss t1 (V (.int .i64 0)) fun t9 =>
 z0o t9 (
  z4h m ⟨H3,[(1,t1),(3,t3),(5,t5),(6,t6),(15,(V (.bool true)))]⟩) (
  z02 (some (0,1)) t3 fun t12 =>
  z04 1 H3 t12 fun t13 =>
  zMe none false false .geq t1 t13 fun t14 =>
  z4h m ⟨H3,[(1,t1),(3,t3),(5,t5),(6,t6),(15,t14)]⟩) := by
 refine (z8O _ _ _ _ _ _ _ _ _).trans ?_
 kernel_rfl
def z55 (m : Nat) : List AV → RO|[t0,t1,t2]=>z3X m t0 t1 t2|_=>none
theorem zeJ (m : Nat) : ∀ args X H',z55 m args = some (X,H') → ACp Try.prog GG 31 args X := by
 intro args X H' h
 unfold z55 at h
 split at h
 ·exact z0B MIX (by
  intro f e h
  simp only [z18,Prod.mk.injEq,List.mem_cons,List.not_mem_nil,or_false] at h
  rcases h with ⟨rfl,rfl⟩|⟨rfl,rfl⟩
  ·exact zeA m
  ·exact z2T m) (f := 31) (c := z1i) Try.func31 rfl (by kernel_rfl) _ rfl Try.ntmps31 (Nat.le_of_ble_eq_true rfl) plenumref04_Ring_Say_h h
 ·cases h
def z2n : Code := (Try.f45.body).getD .skip
def plenumref04_Ring_Voice_h : Hint := (.two .n (.two .n (.join [] (.two .n (.one (.lp [] [1,4,6,9] [8] (.two (.two .n (.two .n .n)) (.two (.one (.two .n (.two (.two .n .n) .n))) .n))))) (.two .n .n))))
def z1W (m : Nat) : Env := [(49, .tell (z1n m))]
abbrev z3j : KO (AV × List AObj) := z1L Try.prog [.tmp 8]
def z6u (m : Nat) (s : ASt) : RO := z11 Try.prog GG (z1W m) m ⟨27,[]⟩ (cdR (cdR (cdR z2n))) plenumref04_Ring_Voice_h.r.r.r s (z3j)
def z6t (m : Nat) (s : ASt) (kc : ASt → RO) (kx : KO (AV × List AObj)) : RO := z8G Try.prog GG (z1W m) m ⟨27,[]⟩ (cdL (cdL (cdR (cdL (cdR (cdR z2n)))))) plenumref04_Ring_Voice_h.r.r.l.r.c.c [1,4,6,9] [8] s kc kx
def z21 (m : Nat) (t0 t1 t2 t3 : AV) : RO := zLa Try.prog GG (z1W m) m ⟨27,[]⟩ z2n plenumref04_Ring_Voice_h ⟨[],z14 0 [t0,t1,t2,t3]⟩ (z3j)
theorem zai (m : Nat) (H : List AObj) : z6u m ⟨H,[]⟩ =
 z1Z H (ro H (V (.bool false))) := by
 refine (z03 _ _ _ _ _ _ _ _ _).trans ?_
 kernel_rfl
theorem zac (m : Nat) (H : List AObj) (t1 t4 t6 t9 : AV) (kc : ASt → RO) (kx : KO (AV × List AObj)) : z6t m ⟨H,[(1,t1),(4,t4),(6,t6),(9,t9)]⟩ kc kx =
 zLZ false true H t1 fun t14 =>
 zMe none false false .lss t9 t14 fun t15 =>
 z0o t15 (
  z3H 7 H t1 t9 fun t20 =>
  z04 7 H t20 fun t21 =>
  z04 7 H t6 fun t22 =>
  zMe (some [.i .i64, .i .i64, .i .i64, .i .i64, .i .i64]) false false .eql t21 t22 fun t23 =>
  z0o t23 (
   z04 5 H t4 fun t24 =>
   z04 7 H t6 fun t25 =>
   z1D (z1f m (ro H t24) (ro H t25)) [(ro H t24),(ro H t25)] fun t26 =>
   kx .ret ⟨H,[(8,t26)]⟩) (
   zMe none false false .add t9 (V (.int .i64 1)) fun t17 =>
   z7z H.length H [(1,t1),(4,t4),(6,t6),(9,t17)] kc)) (
  kx (.exit 0) ⟨H,[(8, .nil)]⟩) := by
 refine (z0F _ _ _ _ _ _ _ _ _ _ _ _).trans ?_
 kernel_rfl
theorem zbV (m : Nat) (t0 t1 t2 t3 : AV) : z21 m t0 t1 t2 t3 =
 zN2 z0H [] t0 fun t4 H1 =>
 zN2 z01 H1 t2 fun t6 H2 =>
 z02 (some (0,1)) t6 fun t11 =>
 z0I 1 H2 t11 t3 fun H3 =>
 z7c m (z6t m) ⟨H3,[(1,t1),(4,t4),(6,t6),(9,(V (.int .i64 0)))]⟩ (z0P 0 (zM3 (fun s=>z6u m ⟨s.H,[]⟩) (z3j))) := by
 refine (z8O _ _ _ _ _ _ _ _ _).trans ?_
 kernel_rfl
def z2q (m : Nat) : List AV → RO|[t0,t1,t2,t3]=>z21 m t0 t1 t2 t3|_=>none
theorem z6o (m : Nat) : ∀ args X H',z2q m args = some (X,H') → ACp Try.prog GG 45 args X := by
 intro args X H' h
 unfold z2q at h
 split at h
 ·exact z0B MIX (by
  intro f e h
  simp only [z1W,Prod.mk.injEq,List.mem_cons,List.not_mem_nil,or_false] at h
  obtain ⟨rfl,rfl⟩ := h
  ·exact z2T m) (f := 45) (c := z2n) Try.func45 rfl (by kernel_rfl) _ rfl Try.ntmps45 (Nat.le_of_ble_eq_true rfl) plenumref04_Ring_Voice_h h
 ·cases h
def z5Q : Code := (Try.f58.body).getD .skip
def plenumref02_Has_h : Hint := (.two .n (.join [] (.two .n (.one (.lp [] [0,1,5] [4] (.two (.two .n (.two .n .n)) (.two (.one (.two .n (.two (.two .n .n) .n))) .n))))) (.two .n .n)))
def z6H (m : Nat) : Env := []
abbrev z6M : KO (AV × List AObj) := z1L Try.prog [.tmp 4]
def zcd (m : Nat) (s : ASt) : RO := z11 Try.prog GG (z6H m) m ⟨20,[]⟩ (cdR (cdR z5Q)) plenumref02_Has_h.r.r s (z6M)
def zct (m : Nat) (s : ASt) (kc : ASt → RO) (kx : KO (AV × List AObj)) : RO := z8G Try.prog GG (z6H m) m ⟨20,[]⟩ (cdL (cdL (cdR (cdL (cdR z5Q))))) plenumref02_Has_h.r.l.r.c.c [0,1,5] [4] s kc kx
def z8d (m : Nat) (t0 t1 : AV) : RO := zLa Try.prog GG (z6H m) m ⟨20,[]⟩ z5Q plenumref02_Has_h ⟨[],z14 0 [t0,t1]⟩ (z6M)
theorem zgo (m : Nat) (H : List AObj) : zcd m ⟨H,[]⟩ =
 z1Z H (ro H (V (.int .i64 0))) := by
 refine (z03 _ _ _ _ _ _ _ _ _).trans ?_
 kernel_rfl
theorem zgp (m : Nat) (H : List AObj) (t0 t1 t5 : AV) (kc : ASt → RO) (kx : KO (AV × List AObj)) : zct m ⟨H,[(0,t0),(1,t1),(5,t5)]⟩ kc kx =
 zLZ false true H t0 fun t8 =>
 zMe none false false .lss t5 t8 fun t9 =>
 z0o t9 (
  z3H 1 H t0 t5 fun t14 =>
  z04 1 H t14 fun t15 =>
  zMe none false false .eql t15 t1 fun t17 =>
  z0o t17 (
   zMe none false false .add t5 (V (.int .i64 1)) fun t19 =>
   kx .ret ⟨H,[(4,t19)]⟩) (
   zMe none false false .add t5 (V (.int .i64 1)) fun t11 =>
   z7z H.length H [(0,t0),(1,t1),(5,t11)] kc)) (
  kx (.exit 0) ⟨H,[(4, .nil)]⟩) := by
 refine (z0F _ _ _ _ _ _ _ _ _ _ _ _).trans ?_
 kernel_rfl
theorem zjm (m : Nat) (t0 t1 : AV) : z8d m t0 t1 =
 z7c m (zct m) ⟨[],[(0,t0),(1,t1),(5,(V (.int .i64 0)))]⟩ (z0P 0 (zM3 (fun s=>zcd m ⟨s.H,[]⟩) (z6M))) := by
 refine (z8O _ _ _ _ _ _ _ _ _).trans ?_
 kernel_rfl
def z91 (m : Nat) : List AV → RO|[t0,t1]=>z8d m t0 t1|_=>none
theorem zjk (m : Nat) : ∀ args X H',z91 m args = some (X,H') → ACp Try.prog GG 58 args X := by
 intro args X H' h
 unfold z91 at h
 split at h
 ·exact z0B MIX (by intro f e h;cases h) (f := 58) (c := z5Q) Try.func58 rfl (by kernel_rfl) _ rfl Try.ntmps58 (Nat.le_of_ble_eq_true rfl) plenumref02_Has_h h
 ·cases h
def zaq : Code := (Try.f29.body).getD .skip
def zag : Hint := (.two .n (.two (.two .n (.two .n (.two (.two .n .n) .n))) (.two (.two .n (.two (.two .n .n) .n)) (.two .n (.two .n .n)))))
def z7W (m : Nat) : Env := [(58, .tell (z91 m))]
abbrev zjQ (n0 : Nat) : KO (AV × List AObj) := zF9 Try.prog n0 [.tmp 4, .tmp 5, .tmp 6]
def z71 (m : Nat) (t0 t1 : AV) (H : List AObj) : RO := zLa Try.prog GG (z7W m) m ⟨26,[]⟩ zaq zag ⟨H,z14 0 [t0,t1]⟩ (zjQ H.length)
theorem zkZ (m : Nat) (t0 t1 : AV) (H : List AObj) : z71 m t0 t1 H =
 z1D (z8d m (ro H t0) (ro H t1)) [(ro H t0),(ro H t1)] fun t10 =>
 zMe none false false .gtr t10 (V (.int .i64 0)) fun t12 =>
 z0o t12 (
  zq3 H (TU [noT t0,noT t10,noT (V (.int .i64 0))])) (
  zLZ false true H t0 fun t16 =>
  zMe none false false .geq t16 (V (.int .i64 65536)) fun t17 =>
  z0o t17 (
   zq3 H (TU [noT t0,noT (V (.int .i64 0)),noT (V (.int .i64 5))])) (
   z0O (some (z4p,1)) 1 [(0,t1)] fun t21 =>
   zNh (some (z4p,1)) H t0 t21 fun t22 H2 =>
   zLZ false true H2 t22 fun t25 =>
   zq3 H2 (TU [noT t22,noT t25,noT (V (.int .i64 0))]))) := by
 refine (orwX Try.prog GG (z7W m) m ⟨26,[]⟩ H.length zaq zag ⟨H,z14 0 [t0,t1]⟩ [.tmp 4, .tmp 5, .tmp 6]).trans ?_
 kernel_rfl
def z77 (m : Nat) : List AV → List AObj → RO|[t0,t1],H=>z71 m t0 t1 H|_,_=>none
theorem zeh (m : Nat) : ∀ args H X H',z77 m args H = some (X,H') → AC Try.prog GG 29 args H (Is X H') := by
 intro args H X H' h
 unfold z77 at h
 split at h
 ·exact zGA (n := H.length) MIX (by
  intro f e h
  simp only [z7W,Prod.mk.injEq,List.mem_cons,List.not_mem_nil,or_false] at h
  obtain ⟨rfl,rfl⟩ := h
  ·exact zjk m) (f := 29) (c := zaq) Try.func29 rfl (by kernel_rfl) _ rfl Try.ntmps29 (Nat.le_of_ble_eq_true rfl) zag h
 ·cases h
end Go.Proofs.Ytaaogcnjfkgnoaa

namespace Go.Proofs.Ytaaogcnjfkgnoaa
open Go.RowKit
def z2z : TypeId := 63
def zaJ : Code := (Try.f94.body).getD .skip
def choose_at_1_h : Hint := (.two .n (.join [1,2,3,4,14] .n (.two .n .n)))
def zbx (m : Nat) : Env := []
abbrev zgH (n0 : Nat) : KO (AV × List AObj) := z5e Try.prog n0 []
def zdo (m : Nat) (n0k : Nat) (s : ASt) : RO := z11 Try.prog GG (zbx m) m ⟨23,[]⟩ (cdR (cdR zaJ)) choose_at_1_h.r.r s (zgH n0k)
def zjI (m : Nat) (t0 t1 t2 t3 : AV) (H : List AObj) : RO := zLa Try.prog GG (zbx m) m ⟨23,[]⟩ zaJ choose_at_1_h ⟨H,z14 0 [t0,t1,t2,t3]⟩ (zgH H.length)
theorem z8P (m : Nat) (n0k : Nat) (H : List AObj) (t1 t2 t3 t4 t14 : AV) : zdo m n0k ⟨H,[(1,t1),(2,t2),(3,t3),(4,t4),(14,t14)]⟩ =
 z0o t14 (
  z02 (some (1,1)) t4 fun t15 =>
  z04 1 H t15 fun t16 =>
  z04 1 H t1 fun t17 =>
  z02 (some (2,1)) t4 fun t18 =>
  z04 1 H t18 fun t19 =>
  z02 (some (3,1)) t4 fun t20 =>
  z04 1 H t20 fun t21 =>
  z1F (some z3M) (some zc_api_Choice) [(0,t17),(1,t19),(2,t21)] fun t22 =>
  z0I 1 H t2 t16 fun H2 =>
  z04 1 H2 t20 fun t8020 =>
  eqE t21 t8020 (
  z04 1 H2 t18 fun t8021 =>
  eqE t19 t8021 (
  z04 1 H2 t1 fun t8022 =>
  eqE t17 t8022 (
  z0I 6 H2 t3 t22 fun H3 =>
  z4f n0k H3 (ro H3 (TU [])))))) (
  z4f n0k H (ro H (TU []))) := by
 refine (z03 _ _ _ _ _ _ _ _ _).trans ?_
 kernel_rfl
theorem znB (m : Nat) (t0 t1 t2 t3 : AV) (H : List AObj) : zjI m t0 t1 t2 t3 H =
 zN2 z07 H t0 fun t4 H2 =>
 z02 (some (0,1)) t4 fun t5 =>
 z04 1 H2 t5 fun t6 =>
 z04 1 H2 t1 fun t7 =>
 zMe none false false .eql t6 t7 fun t8 =>
 z0o t8 (
  z02 (some (1,1)) t4 fun t10 =>
  z04 1 H2 t10 fun t11 =>
  z04 1 H2 t2 fun t12 =>
  zMe none false false .gtr t11 t12 fun t13 =>
  zdo m H.length ⟨H2,[(1,t1),(2,t2),(3,t3),(4,t4),(14,t13)]⟩) (
  zdo m H.length ⟨H2,[(1,t1),(2,t2),(3,t3),(4,t4),(14,(V (.bool false)))]⟩) := by
 refine (zhw Try.prog GG (zbx m) m ⟨23,[]⟩ H.length zaJ choose_at_1_h ⟨H,z14 0 [t0,t1,t2,t3]⟩ []).trans ?_
 kernel_rfl
def z8r (m : Nat) : List AV → List AObj → RO|[t0,t1,t2,t3],H=>zjI m t0 t1 t2 t3 H|_,_=>none
theorem zor (m : Nat) : ∀ args H X H',z8r m args H = some (X,H') → AC Try.prog GG 94 args H (Is X H') := by
 intro args H X H' h
 unfold z8r at h
 split at h
 ·exact z1p MIX (by intro f e h;cases h) (f := 94) (c := zaJ) Try.func94 rfl (by kernel_rfl) _ rfl Try.ntmps94 (Nat.le_of_ble_eq_true rfl) choose_at_1_h h
 ·cases h
def zgX : Code := (Try.f77.body).getD .skip
def zgW : Hint := (.two .n (.two .n .n))
def zi1 (m : Nat) : Env := []
abbrev zoE (n0 : Nat) : KO (AV × List AObj) := zqd Try.prog n0 [.tmp 2]
def zhA (m : Nat) (t0 : AV) (H : List AObj) : RO := zLa Try.prog GG (zi1 m) m ⟨4,[]⟩ zgX zgW ⟨H,z14 0 [t0]⟩ (zoE H.length)
theorem zkn (m : Nat) (t0 : AV) (H : List AObj) : zhA m t0 H =
 zN2 z2z H t0 fun t1 H2 =>
 z0C (([t1] : List AV).all zLj) (
 zq3 H2 (ro H2 (CL (.func 93) 0 [t1]))) := by
 refine (zFe Try.prog GG (zi1 m) m ⟨4,[]⟩ H.length zgX zgW ⟨H,z14 0 [t0]⟩ [.tmp 2]).trans ?_
 kernel_rfl
def ze1 (m : Nat) : List AV → List AObj → RO|[t0],H=>zhA m t0 H|_,_=>none
theorem zks (m : Nat) : ∀ args H X H',ze1 m args H = some (X,H') → AC Try.prog GG 77 args H (Is X H') := by
 intro args H X H' h
 unfold ze1 at h
 split at h
 ·exact zre (n := H.length) MIX (by intro f e h;cases h) (f := 77) (c := zgX) Try.func77 rfl (by kernel_rfl) _ rfl Try.ntmps77 (Nat.le_of_ble_eq_true rfl) zgW h
 ·cases h
end Go.Proofs.Ytaaogcnjfkgnoaa

namespace Go.Proofs.Ytaaogcnjfkgnoaa
open Go.RowKit
def z0G : List (Nat × Nat) := [(0,1),(1,1),(2,1),(3,1),(4,1)]
def zft : Code := (Try.f39.body).getD .skip
def zfz : Hint := (.two .n (.two .n .n))
def zbA (m : Nat) : Env := [(66, .keep (z7I m)),(65, .tell (zjD m)),(67, .tell (zcT m))]
abbrev zmE (n0 : Nat) : KO (AV × List AObj) := z5e Try.prog n0 [.tmp 8]
def za2 (m : Nat) (t0 t1 t2 t3 : AV) (H : List AObj) : RO := zLa Try.prog GG (zbA m) m ⟨17,[]⟩ zft zfz ⟨H,z14 0 [t0,t1,t2,t3]⟩ (zmE H.length)
theorem znY (m : Nat) (t0 t1 t2 t3 : AV) (H : List AObj) : za2 m t0 t1 t2 t3 H =
 zN2 z01 H t2 fun t6 H2 =>
 z04 7 H2 t6 fun t11 =>
 z4O (z7d m (ro H2 t0) (ro H2 t1) (ro H2 t11) H2) fun t12 H3 =>
 z1D (zlc m (ro H3 t12)) [(ro H3 t12)] fun t13 =>
 z1D (zfw m (ro H3 t3)) [(ro H3 t3)] fun t15 =>
 zMe none false false .and t13 t15 fun t16 =>
 z4f H.length H3 (ro H3 t16) := by
 refine (zhw Try.prog GG (zbA m) m ⟨17,[]⟩ H.length zft zfz ⟨H,z14 0 [t0,t1,t2,t3]⟩ [.tmp 8]).trans ?_
 kernel_rfl
def zaI (m : Nat) : List AV → List AObj → RO|[t0,t1,t2,t3],H=>za2 m t0 t1 t2 t3 H|_,_=>none
theorem ziY (m : Nat) : ∀ args H X H',zaI m args H = some (X,H') → AC Try.prog GG 39 args H (Is X H') := by
 intro args H X H' h
 unfold zaI at h
 split at h
 ·exact z1p MIX (by
  intro f e h
  simp only [zbA,Prod.mk.injEq,List.mem_cons,List.not_mem_nil,or_false] at h
  rcases h with ⟨rfl,rfl⟩|⟨rfl,rfl⟩|⟨rfl,rfl⟩
  ·exact ziw m
  ·exact zqk m
  ·exact zki m) (f := 39) (c := zft) Try.func39 rfl (by kernel_rfl) _ rfl Try.ntmps39 (Nat.le_of_ble_eq_true rfl) zfz h
 ·cases h
def zch : Code := (Try.f14.body).getD .skip
def view_Cert_h : Hint := (.two .n (.two .n (.two (.two .n (.two (.two .n .n) .n)) (.join [0,3,6,9] (.two .n (.join [0,3,6,9,38] .n (.two (.two .n .n) .n))) (.two .n (.two .n (.two .n (.two .n (.two .n (.two .n .n))))))))))
def z8u (m : Nat) : Env := [(32, .tell (z3n m)),(28, .keep (z49 m)),(37, .tell (z6S m)),(39, .keep (zaI m)),(38, .tell (zds m)),(40, .tell (zad m)),(41, .tell (z9V m))]
abbrev zfu (n0 : Nat) : KO (AV × List AObj) := z5e Try.prog n0 [.tmp 8]
def zcQ (m : Nat) (n0k : Nat) (s : ASt) : RO := z11 Try.prog GG (z8u m) m ⟨75,[]⟩ (cdR (cdR (cdR (cdR zch)))) view_Cert_h.r.r.r.r s (zfu n0k)
def zhh (m : Nat) (n0k : Nat) (s : ASt) : RO := z11 Try.prog GG (z8u m) m ⟨75,[]⟩ (cdR (cdR (cdL (cdR (cdR (cdR zch)))))) view_Cert_h.r.r.r.l.r.r s (zM3 (fun s=>zcQ m n0k ⟨s.H,[(0,gt s.T 0),(3,gt s.T 3),(6,gt s.T 6),(9,gt s.T 9)]⟩) (zfu n0k))
def zlh (m : Nat) (t0 t1 t2 t3 : AV) (H : List AObj) : RO := zLa Try.prog GG (z8u m) m ⟨75,[]⟩ zch view_Cert_h ⟨H,z14 0 [t0,t1,t2,t3]⟩ (zfu H.length)
theorem zmv (m : Nat) (n0k : Nat) (H : List AObj) (t0 t3 t6 t9 : AV) : zcQ m n0k ⟨H,[(0,t0),(3,t3),(6,t6),(9,t9)]⟩ =
 z02 (some (1,1)) t6 fun t39 =>
 z04 1 H t39 fun t40 =>
 z1D (z7o m (ro H t40) (ro H t3)) [(ro H t40),(ro H t3)] fun t42 =>
 z02 (some (1,1)) t6 fun t43 =>
 z04 1 H t43 fun t44 =>
 z02 (some (0,1)) t6 fun t45 =>
 z04 1 H t45 fun t46 =>
 z02 (some (2,1)) t6 fun t47 =>
 z04 1 H t47 fun t48 =>
 z1F (some z0G) (some zc_api_Stmt) [(1,(V (.int .i64 2))),(2,t44),(3,t46),(4,t48)] fun t49 =>
 z2f (some zc_api_Stmt) z01 H fun t14 H2 =>
 z0I 7 H2 t14 t49 fun H3 =>
 z02 (some (4,1)) t6 fun t51 =>
 z04 1 H3 t51 fun t52 =>
 z04 7 H3 t14 fun t53 =>
 z4O (za2 m (ro H3 t0) (ro H3 t52) (ro H3 t53) (ro H3 t3) H3) fun t55 H4 =>
 z1D (zfA m (ro H4 t55) (ro H4 t42)) [(ro H4 t55),(ro H4 t42)] fun t57 =>
 z02 (some (1,1)) t14 fun t58 =>
 z0I 1 H4 t58 (V (.int .i64 3)) fun H5 =>
 z02 (some (4,1)) t6 fun t60 =>
 z04 1 H5 t60 fun t61 =>
 z04 7 H5 t14 fun t62 =>
 z4O (za2 m (ro H5 t0) (ro H5 t61) (ro H5 t62) (ro H5 t3) H5) fun t64 H6 =>
 z1D (z9W m (ro H6 t64) (ro H6 t42)) [(ro H6 t64),(ro H6 t42)] fun t66 =>
 z0o t57 (
  z1D (zao m (ro H6 t66)) [(ro H6 t66)] fun t70 =>
  zMe none false false .mul (V (.int .i64 2)) t9 fun t72 =>
  zMe none false false .geq t70 t72 fun t73 =>
  z4f n0k H6 (ro H6 t73)) (
  z4f n0k H6 (ro H6 (V (.bool false)))) := by
 refine (z03 _ _ _ _ _ _ _ _ _).trans ?_
 kernel_rfl
theorem zb9 (m : Nat) (n0k : Nat) (H : List AObj) (t0 t3 t6 t9 t38 : AV) : zhh m n0k ⟨H,[(0,t0),(3,t3),(6,t6),(9,t9),(38,t38)]⟩ =
 z0o t38 (
  z4f n0k H (ro H (V (.bool false)))) (
  zcQ m n0k ⟨H,[(0,t0),(3,t3),(6,t6),(9,t9)]⟩) := by
 refine (z03 _ _ _ _ _ _ _ _ _).trans ?_
 kernel_rfl
theorem zqx (m : Nat) (t0 t1 t2 t3 : AV) (H : List AObj) : zlh m t0 t1 t2 t3 H =
 zN2 z07 H t2 fun t6 H2 =>
 z1D (z3L m (ro H2 t3)) [(ro H2 t3)] fun t19 =>
 zLC t19 0 fun t20 =>
 zLC t19 1 fun t21 =>
 zMe none false false .neq t21 (V (.int .i64 0)) fun t23 =>
 z0o t23 (
  z4f H.length H2 (ro H2 (V (.bool false)))) (
  z02 (some (3,1)) t6 fun t26 =>
  z04 1 H2 t26 fun t27 =>
  z4O (z4Z m (ro H2 t1) (ro H2 t27) H2) fun t28 H3 =>
  zLC t28 0 fun t29 =>
  zLC t28 1 fun t30 =>
  zMe none false false .neq t30 (V (.int .i64 0)) fun t32 =>
  z0o t32 (
   zhh m H.length ⟨H3,[(0,t0),(3,t3),(6,t6),(9,t20),(38,(V (.bool true)))]⟩) (
   z02 (some (2,1)) t6 fun t35 =>
   z04 1 H3 t35 fun t36 =>
   zMe none false false .neq t29 t36 fun t37 =>
   zhh m H.length ⟨H3,[(0,t0),(3,t3),(6,t6),(9,t20),(38,t37)]⟩)) := by
 refine (zhw Try.prog GG (z8u m) m ⟨75,[]⟩ H.length zch view_Cert_h ⟨H,z14 0 [t0,t1,t2,t3]⟩ [.tmp 8]).trans ?_
 kernel_rfl
def zja (m : Nat) : List AV → List AObj → RO|[t0,t1,t2,t3],H=>zlh m t0 t1 t2 t3 H|_,_=>none
theorem zqh (m : Nat) : ∀ args H X H',zja m args H = some (X,H') → AC Try.prog GG 14 args H (Is X H') := by
 intro args H X H' h
 unfold zja at h
 split at h
 ·exact z1p MIX (by
  intro f e h
  simp only [z8u,Prod.mk.injEq,List.mem_cons,List.not_mem_nil,or_false] at h
  rcases h with ⟨rfl,rfl⟩|⟨rfl,rfl⟩|⟨rfl,rfl⟩|⟨rfl,rfl⟩|⟨rfl,rfl⟩|⟨rfl,rfl⟩|⟨rfl,rfl⟩
  ·exact z53 m
  ·exact z6z m
  ·exact zer m
  ·exact ziY m
  ·exact zkr m
  ·exact zkC m
  ·exact zgE m) (f := 14) (c := zch) Try.func14 rfl (by kernel_rfl) _ rfl Try.ntmps14 (Nat.le_of_ble_eq_true rfl) view_Cert_h h
 ·cases h
def zfy : Code := (Try.f34.body).getD .skip
def zfB : Hint := (.two .n (.two (.two .n (.two (.two .n .n) .n)) (.two .n (.two .n .n))))
def zbt (m : Nat) : Env := [(62, .tell (zfX m)),(39, .keep (zaI m)),(63, .tell (z5V m))]
abbrev zmI (n0 : Nat) : KO (AV × List AObj) := z5e Try.prog n0 [.tmp 6]
def zfY (m : Nat) (t0 t1 t2 : AV) (H : List AObj) : RO := zLa Try.prog GG (zbt m) m ⟨38,[]⟩ zfy zfB ⟨H,z14 0 [t0,t1,t2]⟩ (zmI H.length)
theorem zoi (m : Nat) (t0 t1 t2 : AV) (H : List AObj) : zfY m t0 t1 t2 H =
 zN2 z00 H t1 fun t4 H2 =>
 z02 (some (2,1)) t4 fun t8 =>
 z04 1 H2 t8 fun t9 =>
 zMe none false false .eql t9 (V (.int .i64 0)) fun t10 =>
 z0o t10 (
  z02 (some (3,1)) t4 fun t11 =>
  z04 1 H2 t11 fun t12 =>
  zMe none false false .eql t12 (V (.int .i64 0)) fun t13 =>
  z0o t13 (
   z02 (some (4,1)) t4 fun t15 =>
   z04 1 H2 t15 fun t16 =>
   zLZ false true H2 t16 fun t17 =>
   zMe none false false .eql t17 (V (.int .i64 0)) fun t18 =>
   z4f H.length H2 (ro H2 t18)) (
   z4f H.length H2 (ro H2 (V (.bool false))))) (
  z02 (some (2,1)) t4 fun t20 =>
  z04 1 H2 t20 fun t21 =>
  z02 (some (3,1)) t4 fun t22 =>
  z04 1 H2 t22 fun t23 =>
  z1F (some z0G) (some zc_api_Stmt) [(1,(V (.int .i64 5))),(3,t21),(4,t23)] fun t24 =>
  z2f (some zc_api_Stmt) z01 H2 fun t7 H3 =>
  z0I 7 H3 t7 t24 fun H4 =>
  z02 (some (2,1)) t4 fun t25 =>
  z04 1 H4 t25 fun t26 =>
  z1D (zj6 m (ro H4 t26)) [(ro H4 t26)] fun t27 =>
  z0o t27 (
   z02 (some (4,1)) t4 fun t30 =>
   z04 1 H4 t30 fun t31 =>
   z04 7 H4 t7 fun t32 =>
   z4O (za2 m (ro H4 t0) (ro H4 t31) (ro H4 t32) (ro H4 t2) H4) fun t34 H5 =>
   z1D (z5N m (ro H5 t34) (ro H5 t2)) [(ro H5 t34),(ro H5 t2)] fun t36 =>
   z4f H.length H5 (ro H5 t36)) (
   z4f H.length H4 (ro H4 (V (.bool false))))) := by
 refine (zhw Try.prog GG (zbt m) m ⟨38,[]⟩ H.length zfy zfB ⟨H,z14 0 [t0,t1,t2]⟩ [.tmp 6]).trans ?_
 kernel_rfl
def zfH (m : Nat) : List AV → List AObj → RO|[t0,t1,t2],H=>zfY m t0 t1 t2 H|_,_=>none
theorem znz (m : Nat) : ∀ args H X H',zfH m args H = some (X,H') → AC Try.prog GG 34 args H (Is X H') := by
 intro args H X H' h
 unfold zfH at h
 split at h
 ·exact z1p MIX (by
  intro f e h
  simp only [zbt,Prod.mk.injEq,List.mem_cons,List.not_mem_nil,or_false] at h
  rcases h with ⟨rfl,rfl⟩|⟨rfl,rfl⟩|⟨rfl,rfl⟩
  ·exact zlU m
  ·exact ziY m
  ·exact zcA m) (f := 34) (c := zfy) Try.func34 rfl (by kernel_rfl) _ rfl Try.ntmps34 (Nat.le_of_ble_eq_true rfl) zfB h
 ·cases h
def z3U : Code := (Try.f35.body).getD .skip
def view_certs_h : Hint := (.two .n (.two .n (.join [] (.two .n (.one (.lp [] [0,1,3,6,9,15,16,17] [8] (.two .n (.two (.two .n .n) (.join [0,1,3,6,9,15,16,17] (.one (.two .n (.join [0,1,3,6,11,15,16,17] (.join [0,1,3,6,11,15,16,17,47] .n (.two (.two .n .n) .n)) .n))) .n)))))) (.two .n .n))))
def z2o (m : Nat) : Env := [(14, .keep (zja m))]
abbrev zdX (n0 : Nat) : KO (AV × List AObj) := z5e Try.prog n0 [.tmp 8]
def zeZ (m : Nat) (n0 : Nat) (kc : ASt → RO) (kx : KO (AV × List AObj)) (s : ASt) : RO := z11 Try.prog GG (z2o m) m ⟨51,[]⟩ (cdR (cdR (cdR (cdL (cdL (cdR (cdL (cdR (cdR z3U))))))))) view_certs_h.r.r.l.r.c.c.r.r.r s (z5s n0 [0,1,3,6,9,15,16,17] [8] kc kx)
def zkp (m : Nat) (n0 : Nat) (kc : ASt → RO) (kx : KO (AV × List AObj)) (s : ASt) : RO := z11 Try.prog GG (z2o m) m ⟨51,[]⟩ (cdR (cdR (cdR (cdL (cdL (cdR (cdL (cdR (cdR z3U))))))))) view_certs_h.r.r.l.r.c.c.r.r.r s (z5s n0 [0,1,3,6,9,15,16,17] [8] kc kx)
def zeV (m : Nat) (n0 : Nat) (kc : ASt → RO) (kx : KO (AV × List AObj)) (s : ASt) : RO := z11 Try.prog GG (z2o m) m ⟨51,[]⟩ (cdR (cdR (cdL (cdL (cdR (cdR (cdL (cdL (cdR (cdL (cdR (cdR z3U)))))))))))) view_certs_h.r.r.l.r.c.c.r.r.l.c.r.r s (z0P 1 (zM3 (fun s=>zeZ m n0 kc kx ⟨s.H,[(0,gt s.T 0),(1,gt s.T 1),(3,gt s.T 3),(6,gt s.T 6),(9,gt s.T 9),(15,gt s.T 15),(16,gt s.T 16),(17,gt s.T 17)]⟩) (z5s n0 [0,1,3,6,9,15,16,17] [8] kc kx)))
def z8J (m : Nat) (n0 : Nat) (kc : ASt → RO) (kx : KO (AV × List AObj)) (s : ASt) : RO := z11 Try.prog GG (z2o m) m ⟨51,[]⟩ (cdR (cdL (cdR (cdL (cdL (cdR (cdR (cdL (cdL (cdR (cdL (cdR (cdR z3U))))))))))))) view_certs_h.r.r.l.r.c.c.r.r.l.c.r.l.r s (zM3 (fun s=>zeV m n0 kc kx ⟨s.H,[(0,gt s.T 0),(1,gt s.T 1),(3,gt s.T 3),(6,gt s.T 6),(11,gt s.T 11),(15,gt s.T 15),(16,gt s.T 16),(17,gt s.T 17)]⟩) (z0P 1 (zM3 (fun s=>zkp m n0 kc kx ⟨s.H,[(0,gt s.T 0),(1,gt s.T 1),(3,gt s.T 3),(6,gt s.T 6),(9,gt s.T 9),(15,gt s.T 15),(16,gt s.T 16),(17,gt s.T 17)]⟩) (z5s n0 [0,1,3,6,9,15,16,17] [8] kc kx))))
def zkq (m : Nat) (n0k : Nat) (s : ASt) : RO := z11 Try.prog GG (z2o m) m ⟨51,[]⟩ (cdR (cdR (cdR z3U))) view_certs_h.r.r.r s (zdX n0k)
def zkt (m : Nat) (s : ASt) (kc : ASt → RO) (kx : KO (AV × List AObj)) : RO := z8G Try.prog GG (z2o m) m ⟨51,[]⟩ (cdL (cdL (cdR (cdL (cdR (cdR z3U)))))) view_certs_h.r.r.l.r.c.c [0,1,3,6,9,15,16,17] [8] s kc kx
def ziQ (m : Nat) (t0 t1 t2 t3 : AV) (H : List AObj) : RO := zLa Try.prog GG (z2o m) m ⟨51,[]⟩ z3U view_certs_h ⟨H,z14 0 [t0,t1,t2,t3]⟩ (zdX H.length)
theorem z3y (m : Nat) (n0 : Nat) (kc : ASt → RO) (kx : KO (AV × List AObj)) (H : List AObj) (t0 t1 t3 t6 t9 t15 t16 t17 : AV) : zeZ m n0 kc kx ⟨H,[(0,t0),(1,t1),(3,t3),(6,t6),(9,t9),(15,t15),(16,t16),(17,t17)]⟩ =
 zMe none false false .add t17 (V (.int .i64 1)) fun t50 =>
 z7z n0 H [(0,t0),(1,t1),(3,t3),(6,t6),(9,t9),(15,t15),(16,t16),(17,t50)] kc := by
 refine (z03 _ _ _ _ _ _ _ _ _).trans ?_
 kernel_rfl
theorem z3G (m : Nat) (n0 : Nat) (kc : ASt → RO) (kx : KO (AV × List AObj)) (H : List AObj) (t0 t1 t3 t6 t9 t15 t16 t17 : AV) : zkp m n0 kc kx ⟨H,[(0,t0),(1,t1),(3,t3),(6,t6),(9,t9),(15,t15),(16,t16),(17,t17)]⟩ =
 zMe none false false .add t17 (V (.int .i64 1)) fun t50 =>
 z7z n0 H [(0,t0),(1,t1),(3,t3),(6,t6),(9,t9),(15,t15),(16,t16),(17,t50)] kc := by
 refine (z03 _ _ _ _ _ _ _ _ _).trans ?_
 kernel_rfl
theorem z3w (m : Nat) (n0 : Nat) (kc : ASt → RO) (kx : KO (AV × List AObj)) (H : List AObj) (t0 t1 t3 t6 t11 t15 t16 t17 : AV) : zeV m n0 kc kx ⟨H,[(0,t0),(1,t1),(3,t3),(6,t6),(11,t11),(15,t15),(16,t16),(17,t17)]⟩ =
 z02 (some (0,1)) t11 fun t48 =>
 z04 1 H t48 fun t49 =>
 zeZ m n0 kc kx ⟨H,[(0,t0),(1,t1),(3,t3),(6,t6),(9,t49),(15,t15),(16,t16),(17,t17)]⟩ := by
 refine (z03 _ _ _ _ _ _ _ _ _).trans ?_
 kernel_rfl
theorem z3D (m : Nat) (n0 : Nat) (kc : ASt → RO) (kx : KO (AV × List AObj)) (H : List AObj) (t0 t1 t3 t6 t11 t15 t16 t17 t47 : AV) : z8J m n0 kc kx ⟨H,[(0,t0),(1,t1),(3,t3),(6,t6),(11,t11),(15,t15),(16,t16),(17,t17),(47,t47)]⟩ =
 z0o t47 (
  kx .ret ⟨H,[(8,(V (.bool false)))]⟩) (
  zeV m n0 kc kx ⟨H,[(0,t0),(1,t1),(3,t3),(6,t6),(11,t11),(15,t15),(16,t16),(17,t17)]⟩) := by
 refine (z03 _ _ _ _ _ _ _ _ _).trans ?_
 kernel_rfl
theorem z3z (m : Nat) (n0k : Nat) (H : List AObj) : zkq m n0k ⟨H,[]⟩ =
 z4f n0k H (ro H (V (.bool true))) := by
 refine (z03 _ _ _ _ _ _ _ _ _).trans ?_
 kernel_rfl
theorem zlw (m : Nat) (H : List AObj) (t0 t1 t3 t6 t9 t15 t16 t17 : AV) (kc : ASt → RO) (kx : KO (AV × List AObj)) : zkt m ⟨H,[(0,t0),(1,t1),(3,t3),(6,t6),(9,t9),(15,t15),(16,t16),(17,t17)]⟩ kc kx =
 zMe none false false .lss t17 t16 fun t18 =>
 z0o t18 (
  z3H 7 H t15 t17 fun t19 =>
  z04 7 H t19 fun t20 =>
  z2f (some zc_api_Cert) z07 H fun t11 H2 =>
  z0I 7 H2 t11 t20 fun H3 =>
  z02 (some (0,1)) t11 fun t21 =>
  z04 1 H3 t21 fun t22 =>
  zMe none false false .leq t22 t9 fun t24 =>
  z0o t24 (
   z8J m H.length kc kx ⟨H3,[(0,t0),(1,t1),(3,t3),(6,t6),(11,t11),(15,t15),(16,t16),(17,t17),(47,(V (.bool true)))]⟩) (
   z02 (some (0,1)) t11 fun t26 =>
   z04 1 H3 t26 fun t27 =>
   z02 (some (2,1)) t6 fun t28 =>
   z04 1 H3 t28 fun t29 =>
   zMe none false false .sub t27 t29 fun t30 =>
   zMe none false false .gtr t30 (V (.int .i64 16)) fun t31 =>
   z0o t31 (
   z8J m H.length kc kx ⟨H3,[(0,t0),(1,t1),(3,t3),(6,t6),(11,t11),(15,t15),(16,t16),(17,t17),(47,(V (.bool true)))]⟩) (
   z02 (some (1,1)) t11 fun t34 =>
   z04 1 H3 t34 fun t35 =>
   z02 (some (1,1)) t6 fun t36 =>
   z04 1 H3 t36 fun t37 =>
   zMe none false false .geq t35 t37 fun t38 =>
   z0o t38 (
   z8J m H.length kc kx ⟨H3,[(0,t0),(1,t1),(3,t3),(6,t6),(11,t11),(15,t15),(16,t16),(17,t17),(47,(V (.bool true)))]⟩) (
   z04 7 H3 t11 fun t43 =>
   z4O (zlh m (ro H3 t0) (ro H3 t1) (ro H3 t43) (ro H3 t3) H3) fun t45 H4 =>
   unE .not t45 fun t46 =>
   z8J m H.length kc kx ⟨H4,[(0,t0),(1,t1),(3,t3),(6,t6),(11,t11),(15,t15),(16,t16),(17,t17),(47,t46)]⟩)))) (
  kx (.exit 0) ⟨H,[(8, .nil)]⟩) := by
 refine (z0F _ _ _ _ _ _ _ _ _ _ _ _).trans ?_
 kernel_rfl
theorem zpr (m : Nat) (t0 t1 t2 t3 : AV) (H : List AObj) : ziQ m t0 t1 t2 t3 H =
 zN2 z00 H t2 fun t6 H2 =>
 z02 (some (2,1)) t6 fun t12 =>
 z04 1 H2 t12 fun t13 =>
 z02 (some (5,1)) t6 fun t14 =>
 z04 1 H2 t14 fun t15 =>
 zLZ false true H2 t15 fun t16 =>
 z7c m (zkt m) ⟨H2,[(0,t0),(1,t1),(3,t3),(6,t6),(9,t13),(15,t15),(16,t16),(17,(V (.int .i64 0)))]⟩ (z0P 0 (zM3 (fun s=>zkq m H.length ⟨s.H,[]⟩) (zdX H.length))) := by
 refine (zhw Try.prog GG (z2o m) m ⟨51,[]⟩ H.length z3U view_certs_h ⟨H,z14 0 [t0,t1,t2,t3]⟩ [.tmp 8]).trans ?_
 kernel_rfl
def zhp (m : Nat) : List AV → List AObj → RO|[t0,t1,t2,t3],H=>ziQ m t0 t1 t2 t3 H|_,_=>none
theorem zpi (m : Nat) : ∀ args H X H',zhp m args H = some (X,H') → AC Try.prog GG 35 args H (Is X H') := by
 intro args H X H' h
 unfold zhp at h
 split at h
 ·exact z1p MIX (by
  intro f e h
  simp only [z2o,Prod.mk.injEq,List.mem_cons,List.not_mem_nil,or_false] at h
  obtain ⟨rfl,rfl⟩ := h
  ·exact zqh m) (f := 35) (c := z3U) Try.func35 rfl (by kernel_rfl) _ rfl Try.ntmps35 (Nat.le_of_ble_eq_true rfl) view_certs_h h
 ·cases h
def z8L : Code := (Try.f12.body).getD .skip
def z8R : Hint := (.two .n (.two .n (.two (.two .n (.two (.two .n .n) .n)) (.two .n (.two (.two .n (.two (.two .n .n) .n)) (.two .n .n))))))
def z6C (m : Nat) : Env := [(33, .tell (z3b m)),(28, .keep (z49 m))]
abbrev zi4 (n0 : Nat) : KO (AV × List AObj) := z5e Try.prog n0 [.cell 4 41, .tmp 5]
def z4b (m : Nat) (t0 t1 : AV) (H : List AObj) : RO := zLa Try.prog GG (z6C m) m ⟨34,[]⟩ z8L z8R ⟨H,z14 0 [t0,t1]⟩ (zi4 H.length)
theorem zjX (m : Nat) (t0 t1 : AV) (H : List AObj) : z4b m t0 t1 H =
 zN2 z00 H t1 fun t3 H2 =>
 z2f (some zc_api_Stmt) z01 H2 fun t4 H3 =>
 z04 8 H3 t3 fun t9 =>
 z1D (z32 m (ro H3 t9)) [(ro H3 t9)] fun t10 =>
 zLZ false true H3 t10 fun t12 =>
 zMe none false false .eql t12 (V (.int .i64 0)) fun t13 =>
 z0o t13 (
  z1F (some z0G) (some zc_api_Stmt) [] fun t14 =>
  z0I 7 H3 t4 t14 fun H4 =>
  z04 7 H4 t4 fun t9000 =>
  z4f H.length H4 (ro H4 (TU [noT t9000,noT (V (.int .i64 1))]))) (
  zsa false none true true false (ro H3 t10) fun t18 =>
  z4O (z4Z m (ro H3 t0) (ro H3 t18) H3) fun t19 H4 =>
  zLC t19 0 fun t20 =>
  zLC t19 1 fun t21 =>
  zMe none false false .neq t21 (V (.int .i64 0)) fun t23 =>
  z0o t23 (
   z1F (some z0G) (some zc_api_Stmt) [] fun t24 =>
   z0I 7 H4 t4 t24 fun H5 =>
   z04 7 H5 t4 fun t9000 =>
   z4f H.length H5 (ro H5 (TU [noT t9000,noT t21]))) (
   z02 (some (0,1)) t3 fun t26 =>
   z04 1 H4 t26 fun t27 =>
   z02 (some (1,1)) t3 fun t28 =>
   z04 1 H4 t28 fun t29 =>
   z02 (some (2,1)) t3 fun t30 =>
   z04 1 H4 t30 fun t31 =>
   z1F (some z0G) (some zc_api_Stmt) [(0,t27),(1,(V (.int .i64 6))),(2,t29),(3,t31),(4,t20)] fun t33 =>
   z0I 7 H4 t4 t33 fun H5 =>
   z04 7 H5 t4 fun t9000 =>
   z4f H.length H5 (ro H5 (TU [noT t9000,noT (V (.int .i64 0))])))) := by
 refine (zhw Try.prog GG (z6C m) m ⟨34,[]⟩ H.length z8L z8R ⟨H,z14 0 [t0,t1]⟩ [.cell 4 41, .tmp 5]).trans ?_
 kernel_rfl
def z5U (m : Nat) : List AV → List AObj → RO|[t0,t1],H=>z4b m t0 t1 H|_,_=>none
theorem zcb (m : Nat) : ∀ args H X H',z5U m args H = some (X,H') → AC Try.prog GG 12 args H (Is X H') := by
 intro args H X H' h
 unfold z5U at h
 split at h
 ·exact z1p MIX (by
  intro f e h
  simp only [z6C,Prod.mk.injEq,List.mem_cons,List.not_mem_nil,or_false] at h
  rcases h with ⟨rfl,rfl⟩|⟨rfl,rfl⟩
  ·exact z68 m
  ·exact z6z m) (f := 12) (c := z8L) Try.func12 rfl (by kernel_rfl) _ rfl Try.ntmps12 (Nat.le_of_ble_eq_true rfl) z8R h
 ·cases h
def z4I : Code := (Try.f11.body).getD .skip
def view_Change_h : Hint := (.two .n (.join [0,1,3,6] (.two .n (.join [0,1,3,6,25] .n (.two (.two .n .n) .n))) (.join [0,1,6] (.join [0,1,6,49] .n (.two (.two .n .n) .n)) (.two .n (.two .n .n)))))
def z3l (m : Nat) : Env := [(32, .tell (z3n m)),(33, .tell (z3b m)),(34, .keep (zfH m)),(35, .keep (zhp m)),(12, .keep (z5U m)),(36, .keep (z4a m))]
abbrev z5M (n0 : Nat) : KO (AV × List AObj) := z5e Try.prog n0 [.tmp 8]
def z9D (m : Nat) (n0k : Nat) (s : ASt) : RO := z11 Try.prog GG (z3l m) m ⟨63,[]⟩ (cdR (cdR (cdR z4I))) view_Change_h.r.r.r s (z5M n0k)
def z6Q (m : Nat) (n0k : Nat) (s : ASt) : RO := z11 Try.prog GG (z3l m) m ⟨63,[]⟩ (cdR (cdL (cdR (cdR z4I)))) view_Change_h.r.r.l.r s (zM3 (fun s=>z9D m n0k ⟨s.H,[(0,gt s.T 0),(1,gt s.T 1),(6,gt s.T 6)]⟩) (z5M n0k))
def zcM (m : Nat) (n0k : Nat) (s : ASt) : RO := z11 Try.prog GG (z3l m) m ⟨63,[]⟩ (cdR (cdR z4I)) view_Change_h.r.r s (z5M n0k)
def zdd (m : Nat) (n0k : Nat) (s : ASt) : RO := z11 Try.prog GG (z3l m) m ⟨63,[]⟩ (cdR (cdR (cdL (cdR z4I)))) view_Change_h.r.l.r.r s (zM3 (fun s=>zcM m n0k ⟨s.H,[(0,gt s.T 0),(1,gt s.T 1),(3,gt s.T 3),(6,gt s.T 6)]⟩) (z5M n0k))
def z6m (m : Nat) (t0 t1 t2 t3 : AV) (H : List AObj) : RO := zLa Try.prog GG (z3l m) m ⟨63,[]⟩ z4I view_Change_h ⟨H,z14 0 [t0,t1,t2,t3]⟩ (z5M H.length)
theorem zkP (m : Nat) (n0k : Nat) (H : List AObj) (t0 t1 t6 : AV) : z9D m n0k ⟨H,[(0,t0),(1,t1),(6,t6)]⟩ =
 z04 8 H t6 fun t52 =>
 z4O (z4b m (ro H t1) (ro H t52) H) fun t53 H2 =>
 zLC t53 0 fun t54 =>
 zLC t53 1 fun t55 =>
 z2f (some zc_api_Stmt) z01 H2 fun t11 H3 =>
 z0I 7 H3 t11 t54 fun H4 =>
 zMe none false false .eql t55 (V (.int .i64 0)) fun t57 =>
 z0o t57 (
  z04 7 H4 t11 fun t60 =>
  z4O (z4V m (ro H4 t0) (ro H4 t60) H4) fun t61 H5 =>
  z4f n0k H5 (ro H5 t61)) (
  z4f n0k H4 (ro H4 (V (.bool false)))) := by
 refine (z03 _ _ _ _ _ _ _ _ _).trans ?_
 kernel_rfl
theorem z42 (m : Nat) (n0k : Nat) (H : List AObj) (t0 t1 t6 t49 : AV) : z6Q m n0k ⟨H,[(0,t0),(1,t1),(6,t6),(49,t49)]⟩ =
 z0o t49 (
  z4f n0k H (ro H (V (.bool false)))) (
  z9D m n0k ⟨H,[(0,t0),(1,t1),(6,t6)]⟩) := by
 refine (z03 _ _ _ _ _ _ _ _ _).trans ?_
 kernel_rfl
theorem z45 (m : Nat) (n0k : Nat) (H : List AObj) (t0 t1 t3 t6 : AV) : zcM m n0k ⟨H,[(0,t0),(1,t1),(3,t3),(6,t6)]⟩ =
 z02 (some (0,1)) t6 fun t26 =>
 z04 1 H t26 fun t27 =>
 zMe none false false .geq t27 t3 fun t29 =>
 z0o t29 (
  z6Q m n0k ⟨H,[(0,t0),(1,t1),(6,t6),(49,(V (.bool true)))]⟩) (
  z02 (some (1,1)) t6 fun t31 =>
  z04 1 H t31 fun t32 =>
  zMe none false false .lss t32 (V (.int .i64 1)) fun t33 =>
  z0o t33 (
  z6Q m n0k ⟨H,[(0,t0),(1,t1),(6,t6),(49,(V (.bool true)))]⟩) (
  z04 8 H t6 fun t37 =>
  z4O (zfY m (ro H t0) (ro H t37) (ro H t3) H) fun t39 H2 =>
  unE .not t39 fun t40 =>
  z0o t40 (
  z6Q m n0k ⟨H2,[(0,t0),(1,t1),(6,t6),(49,(V (.bool true)))]⟩) (
  z04 8 H2 t6 fun t45 =>
  z4O (ziQ m (ro H2 t0) (ro H2 t1) (ro H2 t45) (ro H2 t3) H2) fun t47 H3 =>
  unE .not t47 fun t48 =>
  z6Q m n0k ⟨H3,[(0,t0),(1,t1),(6,t6),(49,t48)]⟩))) := by
 refine (z03 _ _ _ _ _ _ _ _ _).trans ?_
 kernel_rfl
theorem z2h (m : Nat) (n0k : Nat) (H : List AObj) (t0 t1 t3 t6 t25 : AV) : zdd m n0k ⟨H,[(0,t0),(1,t1),(3,t3),(6,t6),(25,t25)]⟩ =
 z0o t25 (
  z4f n0k H (ro H (V (.bool false)))) (
  zcM m n0k ⟨H,[(0,t0),(1,t1),(3,t3),(6,t6)]⟩) := by
 refine (z03 _ _ _ _ _ _ _ _ _).trans ?_
 kernel_rfl
theorem znI (m : Nat) (t0 t1 t2 t3 : AV) (H : List AObj) : z6m m t0 t1 t2 t3 H =
 zN2 z00 H t2 fun t6 H2 =>
 z1D (z3L m (ro H2 t3)) [(ro H2 t3)] fun t15 =>
 zLC t15 0 fun t16 =>
 zLC t15 1 fun t17 =>
 zMe none false false .neq t17 (V (.int .i64 0)) fun t19 =>
 z0o t19 (
  zdd m H.length ⟨H2,[(0,t0),(1,t1),(3,t3),(6,t6),(25,(V (.bool true)))]⟩) (
  z04 8 H2 t6 fun t21 =>
  z1D (z32 m (ro H2 t21)) [(ro H2 t21)] fun t22 =>
  zLZ false true H2 t22 fun t23 =>
  zMe none false false .eql t23 (V (.int .i64 0)) fun t24 =>
  zdd m H.length ⟨H2,[(0,t0),(1,t1),(3,t3),(6,t6),(25,t24)]⟩) := by
 refine (zhw Try.prog GG (z3l m) m ⟨63,[]⟩ H.length z4I view_Change_h ⟨H,z14 0 [t0,t1,t2,t3]⟩ [.tmp 8]).trans ?_
 kernel_rfl
def zaZ (m : Nat) : List AV → List AObj → RO|[t0,t1,t2,t3],H=>z6m m t0 t1 t2 t3 H|_,_=>none
theorem ziR (m : Nat) : ∀ args H X H',zaZ m args H = some (X,H') → AC Try.prog GG 11 args H (Is X H') := by
 intro args H X H' h
 unfold zaZ at h
 split at h
 ·exact z1p MIX (by
  intro f e h
  simp only [z3l,Prod.mk.injEq,List.mem_cons,List.not_mem_nil,or_false] at h
  rcases h with ⟨rfl,rfl⟩|⟨rfl,rfl⟩|⟨rfl,rfl⟩|⟨rfl,rfl⟩|⟨rfl,rfl⟩|⟨rfl,rfl⟩
  ·exact z53 m
  ·exact z68 m
  ·exact znz m
  ·exact zpi m
  ·exact zcb m
  ·exact z7g m) (f := 11) (c := z4I) Try.func11 rfl (by kernel_rfl) _ rfl Try.ntmps11 (Nat.le_of_ble_eq_true rfl) view_Change_h h
 ·cases h
def z6G : Code := (Try.f22.body).getD .skip
def view_NewStmt_h : Hint := (.two .n (.two .n (.join [0,3,4,6] (.two .n (.one (.lp [] [0,3,4,6,13,14,15] [0,3,4,5,6] (.two .n (.two (.two .n .n) (.two (.one (.two .n (.two .n (.two (.two .n (.two (.two .n .n) .n)) .n)))) .n)))))) (.two .n (.two (.two .n (.two (.two .n .n) .n)) (.two .n .n))))))
def z4w (m : Nat) : Env := [(33, .tell (z3b m)),(28, .keep (z49 m))]
abbrev z6K (n0 : Nat) : KO (AV × List AObj) := z5e Try.prog n0 [.cell 4 41, .tmp 5]
def zgC (m : Nat) (n0k : Nat) (s : ASt) : RO := z11 Try.prog GG (z4w m) m ⟨46,[]⟩ (cdR (cdR (cdR z6G))) view_NewStmt_h.r.r.r s (z6K n0k)
def zgu (m : Nat) (s : ASt) (kc : ASt → RO) (kx : KO (AV × List AObj)) : RO := z8G Try.prog GG (z4w m) m ⟨46,[]⟩ (cdL (cdL (cdR (cdL (cdR (cdR z6G)))))) view_NewStmt_h.r.r.l.r.c.c [0,3,4,6,13,14,15] [0,3,4,5,6] s kc kx
def z89 (m : Nat) (t0 t1 : AV) (H : List AObj) : RO := zLa Try.prog GG (z4w m) m ⟨46,[]⟩ z6G view_NewStmt_h ⟨H,z14 0 [t0,t1]⟩ (z6K H.length)
theorem zcc (m : Nat) (n0k : Nat) (H : List AObj) (t0 t3 t4 t6 : AV) : zgC m n0k ⟨H,[(0,t0),(3,t3),(4,t4),(6,t6)]⟩ =
 z4O (z4Z m (ro H t0) (ro H t6) H) fun t33 H2 =>
 zLC t33 0 fun t34 =>
 zLC t33 1 fun t35 =>
 zMe none false false .neq t35 (V (.int .i64 0)) fun t37 =>
 z0o t37 (
  z1F (some z0G) (some zc_api_Stmt) [] fun t38 =>
  z0I 7 H2 t4 t38 fun H3 =>
  z04 7 H3 t4 fun t9000 =>
  z4f n0k H3 (ro H3 (TU [noT t9000,noT t35]))) (
  z02 (some (1,1)) t3 fun t40 =>
  z04 1 H2 t40 fun t41 =>
  z02 (some (2,1)) t3 fun t42 =>
  z04 1 H2 t42 fun t43 =>
  z1F (some z0G) (some zc_api_Stmt) [(0,t41),(1,(V (.int .i64 7))),(2,t43),(4,t34)] fun t45 =>
  z0I 7 H2 t4 t45 fun H3 =>
  z04 7 H3 t4 fun t9000 =>
  z4f n0k H3 (ro H3 (TU [noT t9000,noT (V (.int .i64 0))]))) := by
 refine (z03 _ _ _ _ _ _ _ _ _).trans ?_
 kernel_rfl
theorem zjn (m : Nat) (H : List AObj) (t0 t3 t4 t6 t13 t14 t15 : AV) (kc : ASt → RO) (kx : KO (AV × List AObj)) : zgu m ⟨H,[(0,t0),(3,t3),(4,t4),(6,t6),(13,t13),(14,t14),(15,t15)]⟩ kc kx =
 zMe none false false .lss t15 t14 fun t16 =>
 z0o t16 (
  z3H 8 H t13 t15 fun t17 =>
  z04 8 H t17 fun t18 =>
  z2f (some zc_api_Change) z00 H fun t8 H2 =>
  z0I 8 H2 t8 t18 fun H3 =>
  z04 8 H3 t8 fun t19 =>
  z1D (z32 m (ro H3 t19)) [(ro H3 t19)] fun t20 =>
  zLZ false true H3 t20 fun t22 =>
  zMe none false false .eql t22 (V (.int .i64 0)) fun t23 =>
  z0o t23 (
   z1F (some z0G) (some zc_api_Stmt) [] fun t24 =>
   z0I 7 H3 t4 t24 fun H4 =>
   kx .ret ⟨H4,[(0,t0),(3,t3),(4,t4),(5,(V (.int .i64 1))),(6,t6)]⟩) (
   zsa false none true true false (ro H3 t20) fun t27 =>
   zMe none false false .add t6 t27 fun t28 =>
   zMe none false false .add t15 (V (.int .i64 1)) fun t29 =>
   z7z H.length H3 [(0,t0),(3,t3),(4,t4),(6,t28),(13,t13),(14,t14),(15,t29)] kc)) (
  kx (.exit 0) ⟨H,[(0,t0),(3,t3),(4,t4),(5, .nil),(6,t6)]⟩) := by
 refine (z0F _ _ _ _ _ _ _ _ _ _ _ _).trans ?_
 kernel_rfl
theorem zmK (m : Nat) (t0 t1 : AV) (H : List AObj) : z89 m t0 t1 H =
 zN2 z0t H t1 fun t3 H2 =>
 z2f (some zc_api_Stmt) z01 H2 fun t4 H3 =>
 z02 (some (7,1)) t3 fun t12 =>
 z04 1 H3 t12 fun t13 =>
 zLZ false true H3 t13 fun t14 =>
 z7c m (zgu m) ⟨H3,[(0,t0),(3,t3),(4,t4),(6,(V (.string ⟨#[]⟩))),(13,t13),(14,t14),(15,(V (.int .i64 0)))]⟩ (z0P 0 (zM3 (fun s=>zgC m H.length ⟨s.H,[(0,gt s.T 0),(3,gt s.T 3),(4,gt s.T 4),(6,gt s.T 6)]⟩) (z6K H.length))) := by
 refine (zhw Try.prog GG (z4w m) m ⟨46,[]⟩ H.length z6G view_NewStmt_h ⟨H,z14 0 [t0,t1]⟩ [.cell 4 41, .tmp 5]).trans ?_
 kernel_rfl
def z9G (m : Nat) : List AV → List AObj → RO|[t0,t1],H=>z89 m t0 t1 H|_,_=>none
theorem zgB (m : Nat) : ∀ args H X H',z9G m args H = some (X,H') → AC Try.prog GG 22 args H (Is X H') := by
 intro args H X H' h
 unfold z9G at h
 split at h
 ·exact z1p MIX (by
  intro f e h
  simp only [z4w,Prod.mk.injEq,List.mem_cons,List.not_mem_nil,or_false] at h
  rcases h with ⟨rfl,rfl⟩|⟨rfl,rfl⟩
  ·exact z68 m
  ·exact z6z m) (f := 22) (c := z6G) Try.func22 rfl (by kernel_rfl) _ rfl Try.ntmps22 (Nat.le_of_ble_eq_true rfl) view_NewStmt_h h
 ·cases h
end Go.Proofs.Ytaaogcnjfkgnoaa

namespace Go.Proofs.Ytaaogcnjfkgnoaa
open Go.RowKit
def z50 : Code := (Try.f43.body).getD .skip
def z4Q : Hint := (.two .n (.two .n (.two .n (.two .n .n))))
def z40 (m : Nat) : Env := [(29, .keep (z77 m))]
abbrev zcI (n0 : Nat) : KO (AV × List AObj) := z5e Try.prog n0 [.tmp 4]
def z1N (m : Nat) (t0 t1 : AV) (H : List AObj) : RO := zLa Try.prog GG (z40 m) m ⟨23,[]⟩ z50 z4Q ⟨H,z14 0 [t0,t1]⟩ (zcI H.length)
theorem zex (m : Nat) (t0 t1 : AV) (H : List AObj) : z1N m t0 t1 H =
 zMC t0 fun t10 =>
 z02 (some (0,1)) t10 fun t11 =>
 z04 1 H t11 fun t12 =>
 z4O (z71 m t12 t1 H) fun t14 H2 =>
 zLC t14 0 fun t15 =>
 zLC t14 1 fun t16 =>
 zLC t14 2 fun t17 =>
 zMC t0 fun t20 =>
 z02 (some (0,1)) t20 fun t21 =>
 z0I 1 H2 t21 t15 fun H3 =>
 z4f H.length H3 (ro H3 t16) := by
 refine (zhw Try.prog GG (z40 m) m ⟨23,[]⟩ H.length z50 z4Q ⟨H,z14 0 [t0,t1]⟩ [.tmp 4]).trans ?_
 kernel_rfl
def z26 (m : Nat) : List AV → List AObj → RO|[t0,t1],H=>z1N m t0 t1 H|_,_=>none
theorem z4e (m : Nat) : ∀ args H X H',z26 m args H = some (X,H') → AC Try.prog GG 43 args H (Is X H') := by
 intro args H X H' h
 unfold z26 at h
 split at h
 ·exact z1p MIX (by
  intro f e h
  simp only [z40,Prod.mk.injEq,List.mem_cons,List.not_mem_nil,or_false] at h
  obtain ⟨rfl,rfl⟩ := h
  ·exact zeh m) (f := 43) (c := z50) Try.func43 rfl (by kernel_rfl) _ rfl Try.ntmps43 (Nat.le_of_ble_eq_true rfl) z4Q h
 ·cases h
def z0S : Code := (Try.f46.body).getD .skip
def plenumref32_World_many_h : Hint := (.two .n (.two .n (.join [11] (.two .n (.one (.lp [] [0,1,3,4,7,11,12] [11] (.two (.two .n (.two .n .n)) (.join [0,1,3,4,7,11,12] (.one (.join [0,1,3,4,7,11,12,30] .n (.two .n .n))) .n))))) (.two .n .n))))
def z0N (m : Nat) : Env := [(45, .tell (z2q m))]
abbrev z3h (n0 : Nat) : KO (AV × List AObj) := z5e Try.prog n0 [.tmp 10]
def z27 (m : Nat) (n0 : Nat) (kc : ASt → RO) (kx : KO (AV × List AObj)) (s : ASt) : RO := z11 Try.prog GG (z0N m) m ⟨34,[]⟩ (cdR (cdR (cdL (cdL (cdR (cdL (cdR (cdR z0S)))))))) plenumref32_World_many_h.r.r.l.r.c.c.r.r s (z5s n0 [0,1,3,4,7,11,12] [11] kc kx)
def z3x (m : Nat) (n0 : Nat) (kc : ASt → RO) (kx : KO (AV × List AObj)) (s : ASt) : RO := z11 Try.prog GG (z0N m) m ⟨34,[]⟩ (cdR (cdL (cdL (cdR (cdL (cdL (cdR (cdL (cdR (cdR z0S)))))))))) plenumref32_World_many_h.r.r.l.r.c.c.r.l.c.r s (z0P 1 (zM3 (fun s=>z27 m n0 kc kx ⟨s.H,[(0,gt s.T 0),(1,gt s.T 1),(3,gt s.T 3),(4,gt s.T 4),(7,gt s.T 7),(11,gt s.T 11),(12,gt s.T 12)]⟩) (z5s n0 [0,1,3,4,7,11,12] [11] kc kx)))
def z6v (m : Nat) (n0k : Nat) (s : ASt) : RO := z11 Try.prog GG (z0N m) m ⟨34,[]⟩ (cdR (cdR (cdR z0S))) plenumref32_World_many_h.r.r.r s (z3h n0k)
def z6l (m : Nat) (s : ASt) (kc : ASt → RO) (kx : KO (AV × List AObj)) : RO := z8G Try.prog GG (z0N m) m ⟨34,[]⟩ (cdL (cdL (cdR (cdL (cdR (cdR z0S)))))) plenumref32_World_many_h.r.r.l.r.c.c [0,1,3,4,7,11,12] [11] s kc kx
def z25 (m : Nat) (t0 t1 t2 t3 t4 : AV) (H : List AObj) : RO := zLa Try.prog GG (z0N m) m ⟨34,[]⟩ z0S plenumref32_World_many_h ⟨H,z14 0 [t0,t1,t2,t3,t4]⟩ (z3h H.length)
theorem z2G (m : Nat) (n0 : Nat) (kc : ASt → RO) (kx : KO (AV × List AObj)) (H : List AObj) (t0 t1 t3 t4 t7 t11 t12 : AV) : z27 m n0 kc kx ⟨H,[(0,t0),(1,t1),(3,t3),(4,t4),(7,t7),(11,t11),(12,t12)]⟩ =
 zMe none false false .add t12 (V (.int .i64 1)) fun t17 =>
 z7z n0 H [(0,t0),(1,t1),(3,t3),(4,t4),(7,t7),(11,t11),(12,t17)] kc := by
 refine (z03 _ _ _ _ _ _ _ _ _).trans ?_
 kernel_rfl
theorem z2E (m : Nat) (n0 : Nat) (kc : ASt → RO) (kx : KO (AV × List AObj)) (H : List AObj) (t0 t1 t3 t4 t7 t11 t12 t30 : AV) : z3x m n0 kc kx ⟨H,[(0,t0),(1,t1),(3,t3),(4,t4),(7,t7),(11,t11),(12,t12),(30,t30)]⟩ =
 z0o t30 (
  zMe none false false .add t11 (V (.int .i64 1)) fun t32 =>
  z27 m n0 kc kx ⟨H,[(0,t0),(1,t1),(3,t3),(4,t4),(7,t7),(11,t32),(12,t12)]⟩) (
  z27 m n0 kc kx ⟨H,[(0,t0),(1,t1),(3,t3),(4,t4),(7,t7),(11,t11),(12,t12)]⟩) := by
 refine (z03 _ _ _ _ _ _ _ _ _).trans ?_
 kernel_rfl
theorem zax (m : Nat) (n0k : Nat) (H : List AObj) (t11 : AV) : z6v m n0k ⟨H,[(11,t11)]⟩ =
 z4f n0k H (ro H t11) := by
 refine (z03 _ _ _ _ _ _ _ _ _).trans ?_
 kernel_rfl
theorem zaw (m : Nat) (H : List AObj) (t0 t1 t3 t4 t7 t11 t12 : AV) (kc : ASt → RO) (kx : KO (AV × List AObj)) : z6l m ⟨H,[(0,t0),(1,t1),(3,t3),(4,t4),(7,t7),(11,t11),(12,t12)]⟩ kc kx =
 zMe none false false .lss t12 t3 fun t15 =>
 z0o t15 (
  zMe none false false .neq t12 t4 fun t20 =>
  z0o t20 (
   zMC t0 fun t23 =>
   z02 (some (1,5)) t23 fun t24 =>
   z04 5 H t24 fun t25 =>
   z04 7 H t7 fun t27 =>
   z1D (z21 m (ro H t25) (ro H t1) (ro H t27) (ro H t12)) [(ro H t25),(ro H t1),(ro H t27),(ro H t12)] fun t29 =>
   z3x m H.length kc kx ⟨H,[(0,t0),(1,t1),(3,t3),(4,t4),(7,t7),(11,t11),(12,t12),(30,t29)]⟩) (
   z3x m H.length kc kx ⟨H,[(0,t0),(1,t1),(3,t3),(4,t4),(7,t7),(11,t11),(12,t12),(30,(V (.bool false)))]⟩)) (
  kx (.exit 0) ⟨H,[(11,t11)]⟩) := by
 refine (z0F _ _ _ _ _ _ _ _ _ _ _ _).trans ?_
 kernel_rfl
theorem zcs (m : Nat) (t0 t1 t2 t3 t4 : AV) (H : List AObj) : z25 m t0 t1 t2 t3 t4 H =
 zN2 z01 H t2 fun t7 H2 =>
 z7c m (z6l m) ⟨H2,[(0,t0),(1,t1),(3,t3),(4,t4),(7,t7),(11,(V (.int .i64 0))),(12,(V (.int .i64 0)))]⟩ (z0P 0 (zM3 (fun s=>z6v m H.length ⟨s.H,[(11,gt s.T 11)]⟩) (z3h H.length))) := by
 refine (zhw Try.prog GG (z0N m) m ⟨34,[]⟩ H.length z0S plenumref32_World_many_h ⟨H,z14 0 [t0,t1,t2,t3,t4]⟩ [.tmp 10]).trans ?_
 kernel_rfl
def z2m (m : Nat) : List AV → List AObj → RO|[t0,t1,t2,t3,t4],H=>z25 m t0 t1 t2 t3 t4 H|_,_=>none
theorem z6p (m : Nat) : ∀ args H X H',z2m m args H = some (X,H') → AC Try.prog GG 46 args H (Is X H') := by
 intro args H X H' h
 unfold z2m at h
 split at h
 ·exact z1p MIX (by
  intro f e h
  simp only [z0N,Prod.mk.injEq,List.mem_cons,List.not_mem_nil,or_false] at h
  obtain ⟨rfl,rfl⟩ := h
  ·exact z6o m) (f := 46) (c := z0S) Try.func46 rfl (by kernel_rfl) _ rfl Try.ntmps46 (Nat.le_of_ble_eq_true rfl) plenumref32_World_many_h h
 ·cases h
def z1r : Code := (Try.f15.body).getD .skip
def plenumref32_World_Cert_h : Hint := (.two .n (.two .n (.two (.two .n (.two (.two .n .n) .n)) (.two .n (.join [0,2,4,7] (.join [0,2,4,7,25] .n (.two (.two .n .n) .n)) (.two .n (.two .n .n)))))))
def z1e (m : Nat) : Env := [(42, .tell (z1R m)),(43, .keep (z26 m)),(44, .tell (z3p m)),(45, .tell (z2q m)),(46, .keep (z2m m))]
abbrev z3o (n0 : Nat) : KO (AV × List AObj) := z5e Try.prog n0 [.tmp 6]
def z2b (m : Nat) (n0k : Nat) (s : ASt) : RO := z11 Try.prog GG (z1e m) m ⟨63,[]⟩ (cdR (cdR (cdR (cdR (cdR z1r))))) plenumref32_World_Cert_h.r.r.r.r.r s (z3o n0k)
def z3B (m : Nat) (n0k : Nat) (s : ASt) : RO := z11 Try.prog GG (z1e m) m ⟨63,[]⟩ (cdR (cdL (cdR (cdR (cdR (cdR z1r)))))) plenumref32_World_Cert_h.r.r.r.r.l.r s (zM3 (fun s=>z2b m n0k ⟨s.H,[(0,gt s.T 0),(2,gt s.T 2),(4,gt s.T 4),(7,gt s.T 7)]⟩) (z3o n0k))
def z23 (m : Nat) (t0 t1 t2 : AV) (H : List AObj) : RO := zLa Try.prog GG (z1e m) m ⟨63,[]⟩ z1r plenumref32_World_Cert_h ⟨H,z14 0 [t0,t1,t2]⟩ (z3o H.length)
theorem zar (m : Nat) (n0k : Nat) (H : List AObj) (t0 t2 t4 t7 : AV) : z2b m n0k ⟨H,[(0,t0),(2,t2),(4,t4),(7,t7)]⟩ =
 z02 (some (1,1)) t4 fun t26 =>
 z04 1 H t26 fun t27 =>
 z1D (z3f m (ro H t27) (ro H t2)) [(ro H t27),(ro H t2)] fun t29 =>
 zMC t0 fun t31 =>
 z02 (some (1,5)) t31 fun t32 =>
 z04 5 H t32 fun t33 =>
 z02 (some (4,1)) t4 fun t34 =>
 z04 1 H t34 fun t35 =>
 z02 (some (1,1)) t4 fun t36 =>
 z04 1 H t36 fun t37 =>
 z02 (some (0,1)) t4 fun t38 =>
 z04 1 H t38 fun t39 =>
 z02 (some (2,1)) t4 fun t40 =>
 z04 1 H t40 fun t41 =>
 z1F (some z0G) (some zc_api_Stmt) [(1,(V (.int .i64 2))),(2,t37),(3,t39),(4,t41)] fun t42 =>
 z1D (z21 m (ro H t33) (ro H t35) (ro H t42) (ro H t29)) [(ro H t33),(ro H t35),(ro H t42),(ro H t29)] fun t44 =>
 z0o t44 (
  z02 (some (4,1)) t4 fun t47 =>
  z04 1 H t47 fun t48 =>
  z02 (some (1,1)) t4 fun t49 =>
  z04 1 H t49 fun t50 =>
  z02 (some (0,1)) t4 fun t51 =>
  z04 1 H t51 fun t52 =>
  z02 (some (2,1)) t4 fun t53 =>
  z04 1 H t53 fun t54 =>
  z1F (some z0G) (some zc_api_Stmt) [(1,(V (.int .i64 3))),(2,t50),(3,t52),(4,t54)] fun t55 =>
  z4O (z25 m (ro H t0) (ro H t48) (ro H t55) (ro H t2) (ro H t29) H) fun t58 H2 =>
  zMe none false false .mul (V (.int .i64 2)) t7 fun t60 =>
  zMe none false false .geq t58 t60 fun t61 =>
  z4f n0k H2 (ro H2 t61)) (
  z4f n0k H (ro H (V (.bool false)))) := by
 refine (z03 _ _ _ _ _ _ _ _ _).trans ?_
 kernel_rfl
theorem z2K (m : Nat) (n0k : Nat) (H : List AObj) (t0 t2 t4 t7 t25 : AV) : z3B m n0k ⟨H,[(0,t0),(2,t2),(4,t4),(7,t7),(25,t25)]⟩ =
 z0o t25 (
  z4f n0k H (ro H (V (.bool false)))) (
  z2b m n0k ⟨H,[(0,t0),(2,t2),(4,t4),(7,t7)]⟩) := by
 refine (z03 _ _ _ _ _ _ _ _ _).trans ?_
 kernel_rfl
theorem zcf (m : Nat) (t0 t1 t2 : AV) (H : List AObj) : z23 m t0 t1 t2 H =
 zN2 z07 H t1 fun t4 H2 =>
 z1D (z1P m (ro H2 t2)) [(ro H2 t2)] fun t11 =>
 zMe none false false .eql t11 (V (.int .i64 0)) fun t13 =>
 z0o t13 (
  z4f H.length H2 (ro H2 (V (.bool false)))) (
  z02 (some (3,1)) t4 fun t15 =>
  z04 1 H2 t15 fun t16 =>
  z4O (z1N m (ro H2 t0) (ro H2 t16) H2) fun t17 H3 =>
  zMe none false false .eql t17 (V (.int .i64 0)) fun t19 =>
  z0o t19 (
   z3B m H.length ⟨H3,[(0,t0),(2,t2),(4,t4),(7,t11),(25,(V (.bool true)))]⟩) (
   z02 (some (2,1)) t4 fun t22 =>
   z04 1 H3 t22 fun t23 =>
   zMe none false false .neq t17 t23 fun t24 =>
   z3B m H.length ⟨H3,[(0,t0),(2,t2),(4,t4),(7,t11),(25,t24)]⟩)) := by
 refine (zhw Try.prog GG (z1e m) m ⟨63,[]⟩ H.length z1r plenumref32_World_Cert_h ⟨H,z14 0 [t0,t1,t2]⟩ [.tmp 6]).trans ?_
 kernel_rfl
def z3O (m : Nat) : List AV → List AObj → RO|[t0,t1,t2],H=>z23 m t0 t1 t2 H|_,_=>none
theorem zca (m : Nat) : ∀ args H X H',z3O m args H = some (X,H') → AC Try.prog GG 15 args H (Is X H') := by
 intro args H X H' h
 unfold z3O at h
 split at h
 ·exact z1p MIX (by
  intro f e h
  simp only [z1e,Prod.mk.injEq,List.mem_cons,List.not_mem_nil,or_false] at h
  rcases h with ⟨rfl,rfl⟩|⟨rfl,rfl⟩|⟨rfl,rfl⟩|⟨rfl,rfl⟩|⟨rfl,rfl⟩
  ·exact z3q m
  ·exact z4e m
  ·exact z8z m
  ·exact z6o m
  ·exact z6p m) (f := 15) (c := z1r) Try.func15 rfl (by kernel_rfl) _ rfl Try.ntmps15 (Nat.le_of_ble_eq_true rfl) plenumref32_World_Cert_h h
 ·cases h
def z2e : Code := (Try.f18.body).getD .skip
def z2d : Hint := (.two .n (.two (.two .n (.two (.two .n .n) .n)) (.two .n (.two (.two .n (.two (.two .n .n) .n)) (.two .n .n)))))
def z1K (m : Nat) : Env := [(47, .tell (z2F m)),(50, .tell (z1Y m)),(43, .keep (z26 m))]
abbrev z7Z (n0 : Nat) : KO (AV × List AObj) := z5e Try.prog n0 [.cell 4 41, .tmp 5]
def z1y (m : Nat) (t0 t1 : AV) (H : List AObj) : RO := zLa Try.prog GG (z1K m) m ⟨26,[]⟩ z2e z2d ⟨H,z14 0 [t0,t1]⟩ (z7Z H.length)
theorem z8s (m : Nat) (t0 t1 : AV) (H : List AObj) : z1y m t0 t1 H =
 zN2 z00 H t1 fun t3 H2 =>
 z2f (some zc_api_Stmt) z01 H2 fun t4 H3 =>
 z04 8 H3 t3 fun t7 =>
 z1D (z1S m (ro H3 t7)) [(ro H3 t7)] fun t8 =>
 unE .not t8 fun t9 =>
 z0o t9 (
  z1F (some z0G) (some zc_api_Stmt) [] fun t10 =>
  z0I 7 H3 t4 t10 fun H4 =>
  z04 7 H4 t4 fun t9000 =>
  z4f H.length H4 (ro H4 (TU [noT t9000,noT (V (.int .i64 1))]))) (
  z04 8 H3 t3 fun t12 =>
  z1D (z1w m (ro H3 t12)) [(ro H3 t12)] fun t13 =>
  z4O (z1N m (ro H3 t0) (ro H3 t13) H3) fun t14 H4 =>
  zMe none false false .eql t14 (V (.int .i64 0)) fun t16 =>
  z0o t16 (
   z1F (some z0G) (some zc_api_Stmt) [] fun t17 =>
   z0I 7 H4 t4 t17 fun H5 =>
   z04 7 H5 t4 fun t9000 =>
   z4f H.length H5 (ro H5 (TU [noT t9000,noT (V (.int .i64 5))]))) (
   z02 (some (0,1)) t3 fun t18 =>
   z04 1 H4 t18 fun t19 =>
   z02 (some (1,1)) t3 fun t20 =>
   z04 1 H4 t20 fun t21 =>
   z02 (some (2,1)) t3 fun t22 =>
   z04 1 H4 t22 fun t23 =>
   z1F (some z0G) (some zc_api_Stmt) [(0,t19),(1,(V (.int .i64 6))),(2,t21),(3,t23),(4,t14)] fun t25 =>
   z0I 7 H4 t4 t25 fun H5 =>
   z04 7 H5 t4 fun t9000 =>
   z4f H.length H5 (ro H5 (TU [noT t9000,noT (V (.int .i64 0))])))) := by
 refine (zhw Try.prog GG (z1K m) m ⟨26,[]⟩ H.length z2e z2d ⟨H,z14 0 [t0,t1]⟩ [.cell 4 41, .tmp 5]).trans ?_
 kernel_rfl
def z2c (m : Nat) : List AV → List AObj → RO|[t0,t1],H=>z1y m t0 t1 H|_,_=>none
theorem z8m (m : Nat) : ∀ args H X H',z2c m args H = some (X,H') → AC Try.prog GG 18 args H (Is X H') := by
 intro args H X H' h
 unfold z2c at h
 split at h
 ·exact z1p MIX (by
  intro f e h
  simp only [z1K,Prod.mk.injEq,List.mem_cons,List.not_mem_nil,or_false] at h
  rcases h with ⟨rfl,rfl⟩|⟨rfl,rfl⟩|⟨rfl,rfl⟩
  ·exact z5t m
  ·exact z5p m
  ·exact z4e m) (f := 18) (c := z2e) Try.func18 rfl (by kernel_rfl) _ rfl Try.ntmps18 (Nat.le_of_ble_eq_true rfl) z2d h
 ·cases h
def z0l : Code := (Try.f17.body).getD .skip
def plenumref32_World_Change_h : Hint := (.two .n (.two .n (.join [0,2,4,7] (.join [0,2,4,7,31] .n (.two (.two .n .n) .n)) (.join [0,2,4] (.two .n (.two (.join [0,2,4,43] .n (.two (.two .n .n) .n)) (.join [0,2,4,63] .n (.two (.two .n .n) .n)))) (.join [0,4] (.two .n (.one (.lp [] [0,2,4,8] [0,4,6] (.two (.two .n (.two .n .n)) (.join [0,2,4,8] (.one (.two .n (.join [0,2,4,8,118] .n (.two (.two .n .n) .n)))) .n))))) (.two .n (.two .n .n)))))))
def z0d (m : Nat) : Env := [(42, .tell (z1R m)),(47, .tell (z2F m)),(48, .tell (z5X m)),(46, .keep (z2m m)),(15, .keep (z3O m)),(18, .keep (z2c m)),(49, .tell (z1n m))]
abbrev z0z (n0 : Nat) : KO (AV × List AObj) := z5e Try.prog n0 [.tmp 6]
def z2V (m : Nat) (n0 : Nat) (kc : ASt → RO) (kx : KO (AV × List AObj)) (s : ASt) : RO := z11 Try.prog GG (z0d m) m ⟨135,[]⟩ (cdR (cdR (cdL (cdL (cdR (cdL (cdR (cdR (cdR (cdR z0l)))))))))) plenumref32_World_Change_h.r.r.r.r.l.r.c.c.r.r s (z5s n0 [0,2,4,8] [0,4,6] kc kx)
def z0D (m : Nat) (n0 : Nat) (kc : ASt → RO) (kx : KO (AV × List AObj)) (s : ASt) : RO := z11 Try.prog GG (z0d m) m ⟨135,[]⟩ (cdR (cdR (cdL (cdL (cdR (cdL (cdL (cdR (cdL (cdR (cdR (cdR (cdR z0l))))))))))))) plenumref32_World_Change_h.r.r.r.r.l.r.c.c.r.l.c.r.r s (z0P 1 (zM3 (fun s=>z2V m n0 kc kx ⟨s.H,[(0,gt s.T 0),(2,gt s.T 2),(4,gt s.T 4),(8,gt s.T 8)]⟩) (z5s n0 [0,2,4,8] [0,4,6] kc kx)))
def z2X (m : Nat) (n0k : Nat) (s : ASt) : RO := z11 Try.prog GG (z0d m) m ⟨135,[]⟩ (cdR (cdR (cdR (cdR (cdR z0l))))) plenumref32_World_Change_h.r.r.r.r.r s (z0z n0k)
def z5q (m : Nat) (s : ASt) (kc : ASt → RO) (kx : KO (AV × List AObj)) : RO := z8G Try.prog GG (z0d m) m ⟨135,[]⟩ (cdL (cdL (cdR (cdL (cdR (cdR (cdR (cdR z0l)))))))) plenumref32_World_Change_h.r.r.r.r.l.r.c.c [0,2,4,8] [0,4,6] s kc kx
def z0R (m : Nat) (n0k : Nat) (s : ASt) : RO := z11 Try.prog GG (z0d m) m ⟨135,[]⟩ (cdR (cdR (cdR (cdR z0l)))) plenumref32_World_Change_h.r.r.r.r s (z0z n0k)
def z2W (m : Nat) (n0k : Nat) (s : ASt) : RO := z11 Try.prog GG (z0d m) m ⟨135,[]⟩ (cdR (cdR (cdR (cdL (cdR (cdR (cdR z0l))))))) plenumref32_World_Change_h.r.r.r.l.r.r.r s (zM3 (fun s=>z0R m n0k ⟨s.H,[(0,gt s.T 0),(2,gt s.T 2),(4,gt s.T 4)]⟩) (z0z n0k))
def z2Z (m : Nat) (n0k : Nat) (s : ASt) : RO := z11 Try.prog GG (z0d m) m ⟨135,[]⟩ (cdR (cdL (cdR (cdL (cdR (cdR (cdR z0l))))))) plenumref32_World_Change_h.r.r.r.l.r.l.r s (zM3 (fun s=>z0R m n0k ⟨s.H,[(0,gt s.T 0),(2,gt s.T 2),(4,gt s.T 4)]⟩) (z0z n0k))
def z1H (m : Nat) (n0k : Nat) (s : ASt) : RO := z11 Try.prog GG (z0d m) m ⟨135,[]⟩ (cdR (cdR (cdR z0l))) plenumref32_World_Change_h.r.r.r s (z0z n0k)
def z19 (m : Nat) (n0k : Nat) (s : ASt) : RO := z11 Try.prog GG (z0d m) m ⟨135,[]⟩ (cdR (cdL (cdR (cdR z0l)))) plenumref32_World_Change_h.r.r.l.r s (zM3 (fun s=>z1H m n0k ⟨s.H,[(0,gt s.T 0),(2,gt s.T 2),(4,gt s.T 4),(7,gt s.T 7)]⟩) (z0z n0k))
def z2p (m : Nat) (t0 t1 t2 : AV) (H : List AObj) : RO := zLa Try.prog GG (z0d m) m ⟨135,[]⟩ z0l plenumref32_World_Change_h ⟨H,z14 0 [t0,t1,t2]⟩ (z0z H.length)
theorem z0s (m : Nat) (n0 : Nat) (kc : ASt → RO) (kx : KO (AV × List AObj)) (H : List AObj) (t0 t2 t4 t8 : AV) : z2V m n0 kc kx ⟨H,[(0,t0),(2,t2),(4,t4),(8,t8)]⟩ =
 zMe none false false .add t8 (V (.int .i64 1)) fun t70 =>
 z7z n0 H [(0,t0),(2,t2),(4,t4),(8,t70)] kc := by
 refine (z03 _ _ _ _ _ _ _ _ _).trans ?_
 kernel_rfl
theorem z0r (m : Nat) (n0 : Nat) (kc : ASt → RO) (kx : KO (AV × List AObj)) (H : List AObj) (t0 t2 t4 t8 t118 : AV) : z0D m n0 kc kx ⟨H,[(0,t0),(2,t2),(4,t4),(8,t8),(118,t118)]⟩ =
 z0o t118 (
  kx .ret ⟨H,[(0,t0),(4,t4),(6,(V (.bool false)))]⟩) (
  z2V m n0 kc kx ⟨H,[(0,t0),(2,t2),(4,t4),(8,t8)]⟩) := by
 refine (z03 _ _ _ _ _ _ _ _ _).trans ?_
 kernel_rfl
theorem z0k (m : Nat) (n0k : Nat) (H : List AObj) (t0 t4 : AV) : z2X m n0k ⟨H,[(0,t0),(4,t4)]⟩ =
 z04 8 H t4 fun t121 =>
 z4O (z1y m (ro H t0) (ro H t121) H) fun t122 H2 =>
 zLC t122 0 fun t123 =>
 zLC t122 1 fun t124 =>
 z2f (some zc_api_Stmt) z01 H2 fun t10 H3 =>
 z0I 7 H3 t10 t123 fun H4 =>
 zMe none false false .eql t124 (V (.int .i64 0)) fun t126 =>
 z0o t126 (
  zMC t0 fun t129 =>
  z02 (some (1,5)) t129 fun t130 =>
  z04 5 H4 t130 fun t131 =>
  z04 7 H4 t10 fun t132 =>
  z1D (z1f m (ro H4 t131) (ro H4 t132)) [(ro H4 t131),(ro H4 t132)] fun t133 =>
  z4f n0k H4 (ro H4 t133)) (
  z4f n0k H4 (ro H4 (V (.bool false)))) := by
 refine (z03 _ _ _ _ _ _ _ _ _).trans ?_
 kernel_rfl
theorem z96 (m : Nat) (H : List AObj) (t0 t2 t4 t8 : AV) (kc : ASt → RO) (kx : KO (AV × List AObj)) : z5q m ⟨H,[(0,t0),(2,t2),(4,t4),(8,t8)]⟩ kc kx =
 z02 (some (5,1)) t4 fun t65 =>
 z04 1 H t65 fun t66 =>
 zLZ false true H t66 fun t67 =>
 zMe none false false .lss t8 t67 fun t68 =>
 z0o t68 (
  z02 (some (5,1)) t4 fun t71 =>
  z04 1 H t71 fun t72 =>
  z3H 7 H t72 t8 fun t74 =>
  z04 7 H t74 fun t75 =>
  z2f (some zc_api_Cert) z07 H fun t9 H2 =>
  z0I 7 H2 t9 t75 fun H3 =>
  z02 (some (0,1)) t9 fun t76 =>
  z04 1 H3 t76 fun t77 =>
  z02 (some (2,1)) t4 fun t78 =>
  z04 1 H3 t78 fun t79 =>
  zMe none false false .leq t77 t79 fun t80 =>
  z0o t80 (
   z0D m H.length kc kx ⟨H3,[(0,t0),(2,t2),(4,t4),(8,t8),(118,(V (.bool true)))]⟩) (
   z02 (some (0,1)) t9 fun t82 =>
   z04 1 H3 t82 fun t83 =>
   z02 (some (2,1)) t4 fun t84 =>
   z04 1 H3 t84 fun t85 =>
   zMe none false false .add t85 (V (.int .i64 16)) fun t86 =>
   zMe none false false .gtr t83 t86 fun t87 =>
   z0o t87 (
   z0D m H.length kc kx ⟨H3,[(0,t0),(2,t2),(4,t4),(8,t8),(118,(V (.bool true)))]⟩) (
   zMe none false false .gtr t8 (V (.int .i64 0)) fun t91 =>
   z0o t91 (
   z02 (some (0,1)) t9 fun t93 =>
   z04 1 H3 t93 fun t94 =>
   z02 (some (5,1)) t4 fun t95 =>
   z04 1 H3 t95 fun t96 =>
   zMe none false false .sub t8 (V (.int .i64 1)) fun t98 =>
   z3H 7 H3 t96 t98 fun t99 =>
   z02 (some (0,1)) t99 fun t100 =>
   z04 1 H3 t100 fun t101 =>
   zMe none false false .leq t94 t101 fun t102 =>
   z0o t102 (
   z0D m H.length kc kx ⟨H3,[(0,t0),(2,t2),(4,t4),(8,t8),(118,(V (.bool true)))]⟩) (
   z02 (some (1,1)) t9 fun t106 =>
   z04 1 H3 t106 fun t107 =>
   z02 (some (1,1)) t4 fun t108 =>
   z04 1 H3 t108 fun t109 =>
   zMe none false false .geq t107 t109 fun t110 =>
   z0o t110 (
   z0D m H.length kc kx ⟨H3,[(0,t0),(2,t2),(4,t4),(8,t8),(118,(V (.bool true)))]⟩) (
   z04 7 H3 t9 fun t114 =>
   z4O (z23 m (ro H3 t0) (ro H3 t114) (ro H3 t2) H3) fun t116 H4 =>
   unE .not t116 fun t117 =>
   z0D m H.length kc kx ⟨H4,[(0,t0),(2,t2),(4,t4),(8,t8),(118,t117)]⟩))) (
   z02 (some (1,1)) t9 fun t106 =>
   z04 1 H3 t106 fun t107 =>
   z02 (some (1,1)) t4 fun t108 =>
   z04 1 H3 t108 fun t109 =>
   zMe none false false .geq t107 t109 fun t110 =>
   z0o t110 (
   z0D m H.length kc kx ⟨H3,[(0,t0),(2,t2),(4,t4),(8,t8),(118,(V (.bool true)))]⟩) (
   z04 7 H3 t9 fun t114 =>
   z4O (z23 m (ro H3 t0) (ro H3 t114) (ro H3 t2) H3) fun t116 H4 =>
   unE .not t116 fun t117 =>
   z0D m H.length kc kx ⟨H4,[(0,t0),(2,t2),(4,t4),(8,t8),(118,t117)]⟩))))) (
  kx (.exit 0) ⟨H,[(0,t0),(4,t4),(6, .nil)]⟩) := by
 refine (z0F _ _ _ _ _ _ _ _ _ _ _ _).trans ?_
 kernel_rfl
theorem z0m (m : Nat) (n0k : Nat) (H : List AObj) (t0 t2 t4 : AV) : z0R m n0k ⟨H,[(0,t0),(2,t2),(4,t4)]⟩ =
 z7c m (z5q m) ⟨H,[(0,t0),(2,t2),(4,t4),(8,(V (.int .i64 0)))]⟩ (z0P 0 (zM3 (fun s=>z2X m n0k ⟨s.H,[(0,gt s.T 0),(4,gt s.T 4)]⟩) (z0z n0k))) := by
 refine (z03 _ _ _ _ _ _ _ _ _).trans ?_
 kernel_rfl
theorem z0b (m : Nat) (n0k : Nat) (H : List AObj) (t0 t2 t4 t63 : AV) : z2W m n0k ⟨H,[(0,t0),(2,t2),(4,t4),(63,t63)]⟩ =
 z0o t63 (
  z4f n0k H (ro H (V (.bool false)))) (
  z0R m n0k ⟨H,[(0,t0),(2,t2),(4,t4)]⟩) := by
 refine (z03 _ _ _ _ _ _ _ _ _).trans ?_
 kernel_rfl
theorem z0a (m : Nat) (n0k : Nat) (H : List AObj) (t0 t2 t4 t43 : AV) : z2Z m n0k ⟨H,[(0,t0),(2,t2),(4,t4),(43,t43)]⟩ =
 z0o t43 (
  z4f n0k H (ro H (V (.bool false)))) (
  z0R m n0k ⟨H,[(0,t0),(2,t2),(4,t4)]⟩) := by
 refine (z03 _ _ _ _ _ _ _ _ _).trans ?_
 kernel_rfl
theorem z0j (m : Nat) (n0k : Nat) (H : List AObj) (t0 t2 t4 t7 : AV) : z1H m n0k ⟨H,[(0,t0),(2,t2),(4,t4),(7,t7)]⟩ =
 z02 (some (2,1)) t4 fun t32 =>
 z04 1 H t32 fun t33 =>
 zMe none false false .eql t33 (V (.int .i64 0)) fun t34 =>
 z0o t34 (
  z02 (some (3,1)) t4 fun t35 =>
  z04 1 H t35 fun t36 =>
  zMe none false false .neq t36 (V (.int .i64 0)) fun t37 =>
  z0o t37 (
   z2Z m n0k ⟨H,[(0,t0),(2,t2),(4,t4),(43,(V (.bool true)))]⟩) (
   z02 (some (4,1)) t4 fun t39 =>
   z04 1 H t39 fun t40 =>
   zLZ false true H t40 fun t41 =>
   zMe none false false .neq t41 (V (.int .i64 0)) fun t42 =>
   z2Z m n0k ⟨H,[(0,t0),(2,t2),(4,t4),(43,t42)]⟩)) (
  z02 (some (2,1)) t4 fun t44 =>
  z04 1 H t44 fun t45 =>
  z1D (z5G m (ro H t45)) [(ro H t45)] fun t46 =>
  unE .not t46 fun t47 =>
  z0o t47 (
   z2W m n0k ⟨H,[(0,t0),(2,t2),(4,t4),(63,(V (.bool true)))]⟩) (
   z02 (some (4,1)) t4 fun t50 =>
   z04 1 H t50 fun t51 =>
   z02 (some (2,1)) t4 fun t52 =>
   z04 1 H t52 fun t53 =>
   z02 (some (3,1)) t4 fun t54 =>
   z04 1 H t54 fun t55 =>
   z1F (some z0G) (some zc_api_Stmt) [(1,(V (.int .i64 5))),(3,t53),(4,t55)] fun t56 =>
   z4O (z25 m (ro H t0) (ro H t51) (ro H t56) (ro H t2) (V (.int .i64 (-1))) H) fun t58 H2 =>
   zMe none false false .mul (V (.int .i64 2)) t7 fun t60 =>
   zMe none false false .add t60 (V (.int .i64 1)) fun t61 =>
   zMe none false false .lss t58 t61 fun t62 =>
   z2W m n0k ⟨H2,[(0,t0),(2,t2),(4,t4),(63,t62)]⟩)) := by
 refine (z03 _ _ _ _ _ _ _ _ _).trans ?_
 kernel_rfl
theorem z06 (m : Nat) (n0k : Nat) (H : List AObj) (t0 t2 t4 t7 t31 : AV) : z19 m n0k ⟨H,[(0,t0),(2,t2),(4,t4),(7,t7),(31,t31)]⟩ =
 z0o t31 (
  z4f n0k H (ro H (V (.bool false)))) (
  z1H m n0k ⟨H,[(0,t0),(2,t2),(4,t4),(7,t7)]⟩) := by
 refine (z03 _ _ _ _ _ _ _ _ _).trans ?_
 kernel_rfl
theorem zaH (m : Nat) (t0 t1 t2 : AV) (H : List AObj) : z2p m t0 t1 t2 H =
 zN2 z00 H t1 fun t4 H2 =>
 z1D (z1P m (ro H2 t2)) [(ro H2 t2)] fun t13 =>
 zMe none false false .eql t13 (V (.int .i64 0)) fun t15 =>
 z0o t15 (
  z19 m H.length ⟨H2,[(0,t0),(2,t2),(4,t4),(7,t13),(31,(V (.bool true)))]⟩) (
  z04 8 H2 t4 fun t17 =>
  z1D (z1S m (ro H2 t17)) [(ro H2 t17)] fun t18 =>
  unE .not t18 fun t19 =>
  z0o t19 (
  z19 m H.length ⟨H2,[(0,t0),(2,t2),(4,t4),(7,t13),(31,(V (.bool true)))]⟩) (
  z02 (some (0,1)) t4 fun t22 =>
  z04 1 H2 t22 fun t23 =>
  zMe none false false .geq t23 t2 fun t25 =>
  z0o t25 (
  z19 m H.length ⟨H2,[(0,t0),(2,t2),(4,t4),(7,t13),(31,(V (.bool true)))]⟩) (
  z02 (some (1,1)) t4 fun t28 =>
  z04 1 H2 t28 fun t29 =>
  zMe none false false .lss t29 (V (.int .i64 1)) fun t30 =>
  z19 m H.length ⟨H2,[(0,t0),(2,t2),(4,t4),(7,t13),(31,t30)]⟩))) := by
 refine (zhw Try.prog GG (z0d m) m ⟨135,[]⟩ H.length z0l plenumref32_World_Change_h ⟨H,z14 0 [t0,t1,t2]⟩ [.tmp 6]).trans ?_
 kernel_rfl
def z3k (m : Nat) : List AV → List AObj → RO|[t0,t1,t2],H=>z2p m t0 t1 t2 H|_,_=>none
theorem zaE (m : Nat) : ∀ args H X H',z3k m args H = some (X,H') → AC Try.prog GG 17 args H (Is X H') := by
 intro args H X H' h
 unfold z3k at h
 split at h
 ·exact z1p MIX (by
  intro f e h
  simp only [z0d,Prod.mk.injEq,List.mem_cons,List.not_mem_nil,or_false] at h
  rcases h with ⟨rfl,rfl⟩|⟨rfl,rfl⟩|⟨rfl,rfl⟩|⟨rfl,rfl⟩|⟨rfl,rfl⟩|⟨rfl,rfl⟩|⟨rfl,rfl⟩
  ·exact z3q m
  ·exact z5t m
  ·exact zc0 m
  ·exact z6p m
  ·exact zca m
  ·exact z8m m
  ·exact z2T m) (f := 17) (c := z0l) Try.func17 rfl (by kernel_rfl) _ rfl Try.ntmps17 (Nat.le_of_ble_eq_true rfl) plenumref32_World_Change_h h
 ·cases h
def z1a : Code := (Try.f23.body).getD .skip
def plenumref32_World_NewStmt_h : Hint := (.two .n (.two .n (.join [0,3,4,6] (.two .n (.one (.lp [] [0,3,4,6,7] [0,3,4,5,6] (.two (.two .n (.two .n .n)) (.two (.one (.two (.two .n (.two (.two .n .n) .n)) .n)) .n))))) (.two .n (.two (.two .n (.two (.two .n .n) .n)) (.two .n .n))))))
def z0Z (m : Nat) : Env := [(47, .tell (z2F m)),(50, .tell (z1Y m)),(43, .keep (z26 m))]
abbrev z1o (n0 : Nat) : KO (AV × List AObj) := z5e Try.prog n0 [.cell 4 41, .tmp 5]
def z4E (m : Nat) (n0k : Nat) (s : ASt) : RO := z11 Try.prog GG (z0Z m) m ⟨44,[]⟩ (cdR (cdR (cdR z1a))) plenumref32_World_NewStmt_h.r.r.r s (z1o n0k)
def z4K (m : Nat) (s : ASt) (kc : ASt → RO) (kx : KO (AV × List AObj)) : RO := z8G Try.prog GG (z0Z m) m ⟨44,[]⟩ (cdL (cdL (cdR (cdL (cdR (cdR z1a)))))) plenumref32_World_NewStmt_h.r.r.l.r.c.c [0,3,4,6,7] [0,3,4,5,6] s kc kx
def z12 (m : Nat) (t0 t1 : AV) (H : List AObj) : RO := zLa Try.prog GG (z0Z m) m ⟨44,[]⟩ z1a plenumref32_World_NewStmt_h ⟨H,z14 0 [t0,t1]⟩ (z1o H.length)
theorem z3J (m : Nat) (n0k : Nat) (H : List AObj) (t0 t3 t4 t6 : AV) : z4E m n0k ⟨H,[(0,t0),(3,t3),(4,t4),(6,t6)]⟩ =
 z4O (z1N m (ro H t0) (ro H t6) H) fun t34 H2 =>
 zMe none false false .eql t34 (V (.int .i64 0)) fun t36 =>
 z0o t36 (
  z1F (some z0G) (some zc_api_Stmt) [] fun t37 =>
  z0I 7 H2 t4 t37 fun H3 =>
  z04 7 H3 t4 fun t9000 =>
  z4f n0k H3 (ro H3 (TU [noT t9000,noT (V (.int .i64 5))]))) (
  z02 (some (1,1)) t3 fun t38 =>
  z04 1 H2 t38 fun t39 =>
  z02 (some (2,1)) t3 fun t40 =>
  z04 1 H2 t40 fun t41 =>
  z1F (some z0G) (some zc_api_Stmt) [(0,t39),(1,(V (.int .i64 7))),(2,t41),(4,t34)] fun t43 =>
  z0I 7 H2 t4 t43 fun H3 =>
  z04 7 H3 t4 fun t9000 =>
  z4f n0k H3 (ro H3 (TU [noT t9000,noT (V (.int .i64 0))]))) := by
 refine (z03 _ _ _ _ _ _ _ _ _).trans ?_
 kernel_rfl
theorem z8l (m : Nat) (H : List AObj) (t0 t3 t4 t6 t7 : AV) (kc : ASt → RO) (kx : KO (AV × List AObj)) : z4K m ⟨H,[(0,t0),(3,t3),(4,t4),(6,t6),(7,t7)]⟩ kc kx =
 z02 (some (7,1)) t3 fun t10 =>
 z04 1 H t10 fun t11 =>
 zLZ false true H t11 fun t12 =>
 zMe none false false .lss t7 t12 fun t13 =>
 z0o t13 (
  z02 (some (7,1)) t3 fun t16 =>
  z04 1 H t16 fun t17 =>
  z3H 8 H t17 t7 fun t19 =>
  z04 8 H t19 fun t20 =>
  z1D (z1S m (ro H t20)) [(ro H t20)] fun t21 =>
  unE .not t21 fun t22 =>
  z0o t22 (
   z1F (some z0G) (some zc_api_Stmt) [] fun t23 =>
   z0I 7 H t4 t23 fun H2 =>
   kx .ret ⟨H2,[(0,t0),(3,t3),(4,t4),(5,(V (.int .i64 1))),(6,t6)]⟩) (
   z02 (some (7,1)) t3 fun t25 =>
   z04 1 H t25 fun t26 =>
   z3H 8 H t26 t7 fun t28 =>
   z04 8 H t28 fun t29 =>
   z1D (z1w m (ro H t29)) [(ro H t29)] fun t30 =>
   zMe none false false .add t6 t30 fun t31 =>
   zMe none false false .add t7 (V (.int .i64 1)) fun t15 =>
   z7z H.length H [(0,t0),(3,t3),(4,t4),(6,t31),(7,t15)] kc)) (
  kx (.exit 0) ⟨H,[(0,t0),(3,t3),(4,t4),(5, .nil),(6,t6)]⟩) := by
 refine (z0F _ _ _ _ _ _ _ _ _ _ _ _).trans ?_
 kernel_rfl
theorem zab (m : Nat) (t0 t1 : AV) (H : List AObj) : z12 m t0 t1 H =
 zN2 z0t H t1 fun t3 H2 =>
 z2f (some zc_api_Stmt) z01 H2 fun t4 H3 =>
 z7c m (z4K m) ⟨H3,[(0,t0),(3,t3),(4,t4),(6,(V (.string ⟨#[]⟩))),(7,(V (.int .i64 0)))]⟩ (z0P 0 (zM3 (fun s=>z4E m H.length ⟨s.H,[(0,gt s.T 0),(3,gt s.T 3),(4,gt s.T 4),(6,gt s.T 6)]⟩) (z1o H.length))) := by
 refine (zhw Try.prog GG (z0Z m) m ⟨44,[]⟩ H.length z1a plenumref32_World_NewStmt_h ⟨H,z14 0 [t0,t1]⟩ [.cell 4 41, .tmp 5]).trans ?_
 kernel_rfl
def z1G (m : Nat) : List AV → List AObj → RO|[t0,t1],H=>z12 m t0 t1 H|_,_=>none
theorem z52 (m : Nat) : ∀ args H X H',z1G m args H = some (X,H') → AC Try.prog GG 23 args H (Is X H') := by
 intro args H X H' h
 unfold z1G at h
 split at h
 ·exact z1p MIX (by
  intro f e h
  simp only [z0Z,Prod.mk.injEq,List.mem_cons,List.not_mem_nil,or_false] at h
  rcases h with ⟨rfl,rfl⟩|⟨rfl,rfl⟩|⟨rfl,rfl⟩
  ·exact z5t m
  ·exact z5p m
  ·exact z4e m) (f := 23) (c := z1a) Try.func23 rfl (by kernel_rfl) _ rfl Try.ntmps23 (Nat.le_of_ble_eq_true rfl) plenumref32_World_NewStmt_h h
 ·cases h
end Go.Proofs.Ytaaogcnjfkgnoaa

namespace Go.Proofs.Ytaaogcnjfkgnoaa
open Go.RowKit
def z1h : TypeId := 26
def z0w : TypeId := 48
def z6h : List AV := [(V (.slice none 0 0)),(V (.int .i64 0)),(V (.slice none 0 0)),(V (.slice none 0 0))]
def z6B : List (Nat × Nat) := [(0,1),(1,1),(2,1)]
def z6c : List (Nat × Nat) := [(0,1),(1,3)]
def z1E : Code := (Try.f9.body).getD .skip
def plenumlaw32_bad_h : Hint := (.two .n (.join [] (.two .n (.one (.lp [] [1,3] [2] (.join [1,3] (.join [1,3,12] .n (.two .n .n)) (.join [1,3] (.one (.join [1,3,28] .n (.two (.two .n .n) .n))) .n))))) (.two .n .n)))
def z1z (m : Nat) : Env := []
abbrev z6y : KO (AV × List AObj) := z1L Try.prog [.tmp 2]
def z88 (m : Nat) (n0 : Nat) (kc : ASt → RO) (kx : KO (AV × List AObj)) (s : ASt) : RO := z11 Try.prog GG (z1z m) m ⟨29,[]⟩ (cdR (cdR (cdL (cdL (cdR (cdL (cdR z1E))))))) plenumlaw32_bad_h.r.l.r.c.c.r.r s (z5s n0 [1,3] [2] kc kx)
def z7B (m : Nat) (n0 : Nat) (kc : ASt → RO) (kx : KO (AV × List AObj)) (s : ASt) : RO := z11 Try.prog GG (z1z m) m ⟨29,[]⟩ (cdR (cdL (cdL (cdR (cdL (cdL (cdR (cdL (cdR z1E))))))))) plenumlaw32_bad_h.r.l.r.c.c.r.l.c.r s (z0P 1 (zM3 (fun s=>z88 m n0 kc kx ⟨s.H,[(1,gt s.T 1),(3,gt s.T 3)]⟩) (z5s n0 [1,3] [2] kc kx)))
def z7R (m : Nat) (n0 : Nat) (kc : ASt → RO) (kx : KO (AV × List AObj)) (s : ASt) : RO := z11 Try.prog GG (z1z m) m ⟨29,[]⟩ (cdR (cdL (cdL (cdR (cdL (cdR z1E)))))) plenumlaw32_bad_h.r.l.r.c.c.r s (z5s n0 [1,3] [2] kc kx)
def z7Y (m : Nat) (n0 : Nat) (kc : ASt → RO) (kx : KO (AV × List AObj)) (s : ASt) : RO := z11 Try.prog GG (z1z m) m ⟨29,[]⟩ (cdR (cdL (cdL (cdL (cdR (cdL (cdR z1E))))))) plenumlaw32_bad_h.r.l.r.c.c.l.r s (zM3 (fun s=>z7R m n0 kc kx ⟨s.H,[(1,gt s.T 1),(3,gt s.T 3)]⟩) (z5s n0 [1,3] [2] kc kx))
def zcn (m : Nat) (s : ASt) : RO := z11 Try.prog GG (z1z m) m ⟨29,[]⟩ (cdR (cdR z1E)) plenumlaw32_bad_h.r.r s (z6y)
def zco (m : Nat) (s : ASt) (kc : ASt → RO) (kx : KO (AV × List AObj)) : RO := z8G Try.prog GG (z1z m) m ⟨29,[]⟩ (cdL (cdL (cdR (cdL (cdR z1E))))) plenumlaw32_bad_h.r.l.r.c.c [1,3] [2] s kc kx
def z8e (m : Nat) (t0 : AV) : RO := zLa Try.prog GG (z1z m) m ⟨29,[]⟩ z1E plenumlaw32_bad_h ⟨[],z14 0 [t0]⟩ (z6y)
theorem zgn (m : Nat) (n0 : Nat) (kc : ASt → RO) (kx : KO (AV × List AObj)) (H : List AObj) (t1 t3 : AV) : z88 m n0 kc kx ⟨H,[(1,t1),(3,t3)]⟩ =
 zMe none false false .add t3 (V (.int .i64 1)) fun t14 =>
 z7z n0 H [(1,t1),(3,t14)] kc := by
 refine (z03 _ _ _ _ _ _ _ _ _).trans ?_
 kernel_rfl
theorem z5u (m : Nat) (n0 : Nat) (kc : ASt → RO) (kx : KO (AV × List AObj)) (H : List AObj) (t1 t3 t28 : AV) : z7B m n0 kc kx ⟨H,[(1,t1),(3,t3),(28,t28)]⟩ =
 z0o t28 (
  kx .ret ⟨H,[(2,(V (.bool true)))]⟩) (
  z88 m n0 kc kx ⟨H,[(1,t1),(3,t3)]⟩) := by
 refine (z03 _ _ _ _ _ _ _ _ _).trans ?_
 kernel_rfl
theorem z5E (m : Nat) (n0 : Nat) (kc : ASt → RO) (kx : KO (AV × List AObj)) (H : List AObj) (t1 t3 : AV) : z7R m n0 kc kx ⟨H,[(1,t1),(3,t3)]⟩ =
 z02 (some (1,1)) t1 fun t15 =>
 z04 1 H t15 fun t16 =>
 z3H 1 H t16 t3 fun t18 =>
 z04 1 H t18 fun t19 =>
 zMe none false false .lss t19 (V (.int .i64 0)) fun t20 =>
 z0o t20 (
  z7B m n0 kc kx ⟨H,[(1,t1),(3,t3),(28,(V (.bool true)))]⟩) (
  z02 (some (1,1)) t1 fun t22 =>
  z04 1 H t22 fun t23 =>
  z3H 1 H t23 t3 fun t25 =>
  z04 1 H t25 fun t26 =>
  zMe none false false .gtr t26 (V (.int .i64 6)) fun t27 =>
  z7B m n0 kc kx ⟨H,[(1,t1),(3,t3),(28,t27)]⟩) := by
 refine (z03 _ _ _ _ _ _ _ _ _).trans ?_
 kernel_rfl
theorem z2j (m : Nat) (n0 : Nat) (kc : ASt → RO) (kx : KO (AV × List AObj)) (H : List AObj) (t1 t3 t12 : AV) : z7Y m n0 kc kx ⟨H,[(1,t1),(3,t3),(12,t12)]⟩ =
 z0o t12 (
  z7R m n0 kc kx ⟨H,[(1,t1),(3,t3)]⟩) (
  kx (.exit 0) ⟨H,[(2, .nil)]⟩) := by
 refine (z03 _ _ _ _ _ _ _ _ _).trans ?_
 kernel_rfl
theorem z2i (m : Nat) (H : List AObj) : zcn m ⟨H,[]⟩ =
 z1Z H (ro H (V (.bool false))) := by
 refine (z03 _ _ _ _ _ _ _ _ _).trans ?_
 kernel_rfl
theorem zgl (m : Nat) (H : List AObj) (t1 t3 : AV) (kc : ASt → RO) (kx : KO (AV × List AObj)) : zco m ⟨H,[(1,t1),(3,t3)]⟩ kc kx =
 z02 (some (1,1)) t1 fun t5 =>
 z04 1 H t5 fun t6 =>
 zLZ false true H t6 fun t7 =>
 zMe none false false .lss t3 t7 fun t8 =>
 z0o t8 (
  zMe none false false .lss t3 (V (.int .i64 10)) fun t11 =>
  z7Y m H.length kc kx ⟨H,[(1,t1),(3,t3),(12,t11)]⟩) (
  z7Y m H.length kc kx ⟨H,[(1,t1),(3,t3),(12,(V (.bool false)))]⟩) := by
 refine (z0F _ _ _ _ _ _ _ _ _ _ _ _).trans ?_
 kernel_rfl
theorem zka (m : Nat) (t0 : AV) : z8e m t0 =
 zN2 z1h [] t0 fun t1 H1 =>
 z7c m (zco m) ⟨H1,[(1,t1),(3,(V (.int .i64 0)))]⟩ (z0P 0 (zM3 (fun s=>zcn m ⟨s.H,[]⟩) (z6y))) := by
 refine (z8O _ _ _ _ _ _ _ _ _).trans ?_
 kernel_rfl
def z8N (m : Nat) : List AV → RO|[t0]=>z8e m t0|_=>none
theorem zjZ (m : Nat) : ∀ args X H',z8N m args = some (X,H') → ACp Try.prog GG 9 args X := by
 intro args X H' h
 unfold z8N at h
 split at h
 ·exact z0B MIX (by intro f e h;cases h) (f := 9) (c := z1E) Try.func9 rfl (by kernel_rfl) _ rfl Try.ntmps9 (Nat.le_of_ble_eq_true rfl) plenumlaw32_bad_h h
 ·cases h
def z0x : Code := (Try.f8.body).getD .skip
def plenumlaw32_set_h : Hint := (.two .n (.join [1] (.two .n (.two .n .n)) (.two .n (.two .n (.gh (9,0,z4p,1) [1,6,7,8,9] .n (.join [1,6,7,9] (.join [1,6,7,9,42] .n (.two (.two .n .n) .n)) (.join [1,6,7,9] (.two .n (.one (.lp [] [1,6,7,9,10] [1,6,7,9] (.join [1,6,7,9,10] (.join [1,6,7,9,10,51] .n (.two .n .n)) (.join [1,6,7,9,10] (.one (.two .n (.join [1,6,7,9,10,11] (.two .n (.two .n .n)) (.two .n .n)))) .n))))) (.join [6,7,9] (.two .n (.one (.lp [] [1,6,7,9,12] [6,7,9] (.join [1,6,7,9,12] (.join [1,6,7,9,12,88] .n (.two .n .n)) (.two (.one (.two .n .n)) .n))))) (.two .n .n)))))))))
def z0p (m : Nat) : Env := [(26, .keep (zhY m)),(27, .keep (zhH m)),(30, .keep (z8k m)),(31, .tell (z55 m)),(28, .keep (z49 m)),(29, .keep (z77 m))]
abbrev z10 (n0 : Nat) : KO (AV × List AObj) := zqd Try.prog n0 [.tmp 2, .tmp 3, .tmp 4, .tmp 5]
def z4r (m : Nat) (n0 : Nat) (kc : ASt → RO) (kx : KO (AV × List AObj)) (s : ASt) : RO := z11 Try.prog GG (z0p m) m ⟨131,[]⟩ (cdR (cdR (cdL (cdL (cdR (cdL (cdR (cdR (cdR (cdR (cdR (cdR z0x)))))))))))) plenumlaw32_set_h.r.r.r.r.r.r.l.r.c.c.r.r s (z5s n0 [1,6,7,9,10] [1,6,7,9] kc kx)
def z4u (m : Nat) (n0 : Nat) (kc : ASt → RO) (kx : KO (AV × List AObj)) (s : ASt) : RO := z11 Try.prog GG (z0p m) m ⟨131,[]⟩ (cdR (cdR (cdL (cdL (cdR (cdL (cdL (cdR (cdL (cdR (cdR (cdR (cdR (cdR (cdR z0x))))))))))))))) plenumlaw32_set_h.r.r.r.r.r.r.l.r.c.c.r.l.c.r.r s (z0P 1 (zM3 (fun s=>z4r m n0 kc kx ⟨s.H,[(1,gt s.T 1),(6,gt s.T 6),(7,gt s.T 7),(9,gt s.T 9),(10,gt s.T 10)]⟩) (z5s n0 [1,6,7,9,10] [1,6,7,9] kc kx)))
def z4n (m : Nat) (n0 : Nat) (kc : ASt → RO) (kx : KO (AV × List AObj)) (s : ASt) : RO := z11 Try.prog GG (z0p m) m ⟨131,[]⟩ (cdR (cdL (cdL (cdR (cdL (cdR (cdR (cdR (cdR (cdR (cdR (cdR z0x)))))))))))) plenumlaw32_set_h.r.r.r.r.r.r.r.l.r.c.c.r s (z5s n0 [1,6,7,9,12] [6,7,9] kc kx)
def z7M (m : Nat) (n0 : Nat) (kc : ASt → RO) (kx : KO (AV × List AObj)) (s : ASt) : RO := z11 Try.prog GG (z0p m) m ⟨131,[]⟩ (cdR (cdL (cdL (cdR (cdL (cdR (cdR (cdR (cdR (cdR (cdR z0x))))))))))) plenumlaw32_set_h.r.r.r.r.r.r.l.r.c.c.r s (z5s n0 [1,6,7,9,10] [1,6,7,9] kc kx)
def z7L (m : Nat) (n0 : Nat) (kc : ASt → RO) (kx : KO (AV × List AObj)) (s : ASt) : RO := z11 Try.prog GG (z0p m) m ⟨131,[]⟩ (cdR (cdL (cdL (cdL (cdR (cdL (cdR (cdR (cdR (cdR (cdR (cdR (cdR z0x))))))))))))) plenumlaw32_set_h.r.r.r.r.r.r.r.l.r.c.c.l.r s (zM3 (fun s=>z4n m n0 kc kx ⟨s.H,[(1,gt s.T 1),(6,gt s.T 6),(7,gt s.T 7),(9,gt s.T 9),(12,gt s.T 12)]⟩) (z5s n0 [1,6,7,9,12] [6,7,9] kc kx))
def zbM (m : Nat) (n0k : Nat) (s : ASt) : RO := z11 Try.prog GG (z0p m) m ⟨131,[]⟩ (cdR (cdR (cdR (cdR (cdR (cdR (cdR (cdR z0x)))))))) plenumlaw32_set_h.r.r.r.r.r.r.r.r s (z10 n0k)
def z7E (m : Nat) (n0 : Nat) (kc : ASt → RO) (kx : KO (AV × List AObj)) (s : ASt) : RO := z11 Try.prog GG (z0p m) m ⟨131,[]⟩ (cdR (cdL (cdL (cdL (cdR (cdL (cdR (cdR (cdR (cdR (cdR (cdR z0x)))))))))))) plenumlaw32_set_h.r.r.r.r.r.r.l.r.c.c.l.r s (zM3 (fun s=>z7M m n0 kc kx ⟨s.H,[(1,gt s.T 1),(6,gt s.T 6),(7,gt s.T 7),(9,gt s.T 9),(10,gt s.T 10)]⟩) (z5s n0 [1,6,7,9,10] [1,6,7,9] kc kx))
def zbJ (m : Nat) (s : ASt) (kc : ASt → RO) (kx : KO (AV × List AObj)) : RO := z8G Try.prog GG (z0p m) m ⟨131,[]⟩ (cdL (cdL (cdR (cdL (cdR (cdR (cdR (cdR (cdR (cdR (cdR z0x))))))))))) plenumlaw32_set_h.r.r.r.r.r.r.r.l.r.c.c [1,6,7,9,12] [6,7,9] s kc kx
def z87 (m : Nat) (n0k : Nat) (s : ASt) : RO := z11 Try.prog GG (z0p m) m ⟨131,[]⟩ (cdR (cdR (cdR (cdR (cdR (cdR (cdR z0x))))))) plenumlaw32_set_h.r.r.r.r.r.r.r s (z10 n0k)
def zcv (m : Nat) (s : ASt) (kc : ASt → RO) (kx : KO (AV × List AObj)) : RO := z8G Try.prog GG (z0p m) m ⟨131,[]⟩ (cdL (cdL (cdR (cdL (cdR (cdR (cdR (cdR (cdR (cdR z0x)))))))))) plenumlaw32_set_h.r.r.r.r.r.r.l.r.c.c [1,6,7,9,10] [1,6,7,9] s kc kx
def z5b (m : Nat) (n0k : Nat) (s : ASt) : RO := z11 Try.prog GG (z0p m) m ⟨131,[]⟩ (cdR (cdR (cdR (cdR (cdR (cdR z0x)))))) plenumlaw32_set_h.r.r.r.r.r.r s (z10 n0k)
def z5h (m : Nat) (n0k : Nat) (s : ASt) : RO := z11 Try.prog GG (z0p m) m ⟨131,[]⟩ (cdR (cdL (cdR (cdR (cdR (cdR (cdR z0x))))))) plenumlaw32_set_h.r.r.r.r.r.l.r s (zM3 (fun s=>z5b m n0k ⟨s.H,[(1,gt s.T 1),(6,gt s.T 6),(7,gt s.T 7),(9,gt s.T 9)]⟩) (z10 n0k))
def zbW (m : Nat) (n0k : Nat) (s : ASt) : RO := z11 Try.prog GG (z0p m) m ⟨131,[]⟩ (cdR (cdR (cdR (cdR (cdR z0x))))) plenumlaw32_set_h.r.r.r.r.r s (z10 n0k)
def z5g (m : Nat) (n0k : Nat) (s : ASt) : RO := z11 Try.prog GG (z0p m) m ⟨131,[]⟩ (cdR (cdR z0x)) plenumlaw32_set_h.r.r s (z10 n0k)
def z2r (m : Nat) (t0 : AV) (H : List AObj) : RO := zLa Try.prog GG (z0p m) m ⟨131,[]⟩ z0x plenumlaw32_set_h ⟨H,z14 0 [t0]⟩ (z10 H.length)
theorem z8I (m : Nat) (n0 : Nat) (kc : ASt → RO) (kx : KO (AV × List AObj)) (H : List AObj) (t1 t6 t7 t9 t10 : AV) : z4r m n0 kc kx ⟨H,[(1,t1),(6,t6),(7,t7),(9,t9),(10,t10)]⟩ =
 zMe none false false .add t10 (V (.int .i64 1)) fun t53 =>
 z7z n0 H [(1,t1),(6,t6),(7,t7),(9,t9),(10,t53)] kc := by
 refine (z03 _ _ _ _ _ _ _ _ _).trans ?_
 kernel_rfl
theorem zeT (m : Nat) (n0 : Nat) (kc : ASt → RO) (kx : KO (AV × List AObj)) (H : List AObj) (t1 t6 t7 t9 t10 t11 : AV) : z4u m n0 kc kx ⟨H,[(1,t1),(6,t6),(7,t7),(9,t9),(10,t10),(11,t11)]⟩ =
 z4O (z4Z m (ro H t6) (ro H t11) H) fun t66 H2 =>
 zMC t9 fun t70 =>
 z02 (some (0,1)) t70 fun t71 =>
 z04 1 H2 t71 fun t72 =>
 z4O (z71 m t72 t11 H2) fun t74 H3 =>
 zLC t74 0 fun t75 =>
 zLC t74 1 fun t76 =>
 zLC t74 2 fun t77 =>
 zMC t9 fun t78 =>
 z02 (some (0,1)) t78 fun t79 =>
 z0I 1 H3 t79 t75 fun H4 =>
 z4r m n0 kc kx ⟨H4,[(1,t1),(6,t6),(7,t7),(9,t9),(10,t10)]⟩ := by
 refine (z03 _ _ _ _ _ _ _ _ _).trans ?_
 kernel_rfl
theorem zfl (m : Nat) (n0 : Nat) (kc : ASt → RO) (kx : KO (AV × List AObj)) (H : List AObj) (t1 t6 t7 t9 t12 : AV) : z4n m n0 kc kx ⟨H,[(1,t1),(6,t6),(7,t7),(9,t9),(12,t12)]⟩ =
 z02 (some (2,1)) t1 fun t92 =>
 z04 1 H t92 fun t93 =>
 z3H 8 H t93 t12 fun t95 =>
 z02 (some (0,1)) t95 fun t96 =>
 z04 1 H t96 fun t97 =>
 z02 (some (2,1)) t1 fun t98 =>
 z04 1 H t98 fun t99 =>
 z3H 8 H t99 t12 fun t101 =>
 z02 (some (1,7)) t101 fun t102 =>
 z04 7 H t102 fun t103 =>
 z4O (z6n m (ro H t7) (ro H t97) (ro H t103) H) fun t104 H2 =>
 zMC t9 fun t108 =>
 z02 (some (1,5)) t108 fun t109 =>
 z04 5 H2 t109 fun t110 =>
 z02 (some (2,1)) t1 fun t111 =>
 z04 1 H2 t111 fun t112 =>
 z3H 8 H2 t112 t12 fun t114 =>
 z02 (some (0,1)) t114 fun t115 =>
 z04 1 H2 t115 fun t116 =>
 z02 (some (2,1)) t1 fun t117 =>
 z04 1 H2 t117 fun t118 =>
 z3H 8 H2 t118 t12 fun t120 =>
 z02 (some (1,7)) t120 fun t121 =>
 z04 7 H2 t121 fun t122 =>
 z1D (z3X m (ro H2 t110) (ro H2 t116) (ro H2 t122)) [(ro H2 t110),(ro H2 t116),(ro H2 t122)] fun t123 =>
 zLC t123 0 fun t124 =>
 zLC t123 1 fun t125 =>
 zMC t9 fun t126 =>
 z02 (some (1,5)) t126 fun t127 =>
 z0I 5 H2 t127 t124 fun H3 =>
 zMe none false false .add t12 (V (.int .i64 1)) fun t90 =>
 z7z n0 H3 [(1,t1),(6,t6),(7,t7),(9,t9),(12,t90)] kc := by
 refine (z03 _ _ _ _ _ _ _ _ _).trans ?_
 kernel_rfl
theorem z9a (m : Nat) (n0 : Nat) (kc : ASt → RO) (kx : KO (AV × List AObj)) (H : List AObj) (t1 t6 t7 t9 t10 : AV) : z7M m n0 kc kx ⟨H,[(1,t1),(6,t6),(7,t7),(9,t9),(10,t10)]⟩ =
 z02 (some (0,1)) t1 fun t54 =>
 z04 1 H t54 fun t55 =>
 z3H 1 H t55 t10 fun t57 =>
 z04 1 H t57 fun t58 =>
 zLZ true false H t58 fun t60 =>
 zMe none false false .gtr t60 (V (.int .i64 3000)) fun t61 =>
 z0o t61 (
  zhk true none H t58 none (some (V (.int .i64 3000))) fun t63 =>
  z4u m n0 kc kx ⟨H,[(1,t1),(6,t6),(7,t7),(9,t9),(10,t10),(11,t63)]⟩) (
  z4u m n0 kc kx ⟨H,[(1,t1),(6,t6),(7,t7),(9,t9),(10,t10),(11,t58)]⟩) := by
 refine (z03 _ _ _ _ _ _ _ _ _).trans ?_
 kernel_rfl
theorem z5x (m : Nat) (n0 : Nat) (kc : ASt → RO) (kx : KO (AV × List AObj)) (H : List AObj) (t1 t6 t7 t9 t12 t88 : AV) : z7L m n0 kc kx ⟨H,[(1,t1),(6,t6),(7,t7),(9,t9),(12,t12),(88,t88)]⟩ =
 z0o t88 (
  z4n m n0 kc kx ⟨H,[(1,t1),(6,t6),(7,t7),(9,t9),(12,t12)]⟩) (
  kx (.exit 2) ⟨H,[(6,t6),(7,t7),(9,t9)]⟩) := by
 refine (z03 _ _ _ _ _ _ _ _ _).trans ?_
 kernel_rfl
theorem z98 (m : Nat) (n0k : Nat) (H : List AObj) (t6 t7 t9 : AV) : zbM m n0k ⟨H,[(6,t6),(7,t7),(9,t9)]⟩ =
 zq3 H (ro H (TU [noT t6,noT t7,noT t9,noT (V (.bool true))])) := by
 refine (z03 _ _ _ _ _ _ _ _ _).trans ?_
 kernel_rfl
theorem z3t (m : Nat) (n0 : Nat) (kc : ASt → RO) (kx : KO (AV × List AObj)) (H : List AObj) (t1 t6 t7 t9 t10 t51 : AV) : z7E m n0 kc kx ⟨H,[(1,t1),(6,t6),(7,t7),(9,t9),(10,t10),(51,t51)]⟩ =
 z0o t51 (
  z7M m n0 kc kx ⟨H,[(1,t1),(6,t6),(7,t7),(9,t9),(10,t10)]⟩) (
  kx (.exit 0) ⟨H,[(1,t1),(6,t6),(7,t7),(9,t9)]⟩) := by
 refine (z03 _ _ _ _ _ _ _ _ _).trans ?_
 kernel_rfl
theorem zgh (m : Nat) (H : List AObj) (t1 t6 t7 t9 t12 : AV) (kc : ASt → RO) (kx : KO (AV × List AObj)) : zbJ m ⟨H,[(1,t1),(6,t6),(7,t7),(9,t9),(12,t12)]⟩ kc kx =
 z02 (some (2,1)) t1 fun t81 =>
 z04 1 H t81 fun t82 =>
 zLZ false true H t82 fun t83 =>
 zMe none false false .lss t12 t83 fun t84 =>
 z0o t84 (
  zMe none false false .lss t12 (V (.int .i64 120)) fun t87 =>
  z7L m H.length kc kx ⟨H,[(1,t1),(6,t6),(7,t7),(9,t9),(12,t12),(88,t87)]⟩) (
  z7L m H.length kc kx ⟨H,[(1,t1),(6,t6),(7,t7),(9,t9),(12,t12),(88,(V (.bool false)))]⟩) := by
 refine (z0F _ _ _ _ _ _ _ _ _ _ _ _).trans ?_
 kernel_rfl
theorem zg0 (m : Nat) (n0k : Nat) (H : List AObj) (t1 t6 t7 t9 : AV) : z87 m n0k ⟨H,[(1,t1),(6,t6),(7,t7),(9,t9)]⟩ =
 z7c m (zbJ m) ⟨H,[(1,t1),(6,t6),(7,t7),(9,t9),(12,(V (.int .i64 0)))]⟩ (z0P 2 (zM3 (fun s=>zbM m n0k ⟨s.H,[(6,gt s.T 6),(7,gt s.T 7),(9,gt s.T 9)]⟩) (z10 n0k))) := by
 refine (z03 _ _ _ _ _ _ _ _ _).trans ?_
 kernel_rfl
theorem zgq (m : Nat) (H : List AObj) (t1 t6 t7 t9 t10 : AV) (kc : ASt → RO) (kx : KO (AV × List AObj)) : zcv m ⟨H,[(1,t1),(6,t6),(7,t7),(9,t9),(10,t10)]⟩ kc kx =
 z02 (some (0,1)) t1 fun t44 =>
 z04 1 H t44 fun t45 =>
 zLZ false true H t45 fun t46 =>
 zMe none false false .lss t10 t46 fun t47 =>
 z0o t47 (
  zMe none false false .lss t10 (V (.int .i64 80)) fun t50 =>
  z7E m H.length kc kx ⟨H,[(1,t1),(6,t6),(7,t7),(9,t9),(10,t10),(51,t50)]⟩) (
  z7E m H.length kc kx ⟨H,[(1,t1),(6,t6),(7,t7),(9,t9),(10,t10),(51,(V (.bool false)))]⟩) := by
 refine (z0F _ _ _ _ _ _ _ _ _ _ _ _).trans ?_
 kernel_rfl
theorem zg7 (m : Nat) (n0k : Nat) (H : List AObj) (t1 t6 t7 t9 : AV) : z5b m n0k ⟨H,[(1,t1),(6,t6),(7,t7),(9,t9)]⟩ =
 z7c m (zcv m) ⟨H,[(1,t1),(6,t6),(7,t7),(9,t9),(10,(V (.int .i64 0)))]⟩ (z0P 0 (zM3 (fun s=>z87 m n0k ⟨s.H,[(1,gt s.T 1),(6,gt s.T 6),(7,gt s.T 7),(9,gt s.T 9)]⟩) (z10 n0k))) := by
 refine (z03 _ _ _ _ _ _ _ _ _).trans ?_
 kernel_rfl
theorem z9i (m : Nat) (n0k : Nat) (H : List AObj) (t1 t6 t7 t9 t42 : AV) : z5h m n0k ⟨H,[(1,t1),(6,t6),(7,t7),(9,t9),(42,t42)]⟩ =
 z0o t42 (
  zq3 H (ro H (TU [noT (V (.pointer none)),noT (V (.pointer none)),noT (V (.pointer none)),noT (V (.bool false))]))) (
  z5b m n0k ⟨H,[(1,t1),(6,t6),(7,t7),(9,t9)]⟩) := by
 refine (z03 _ _ _ _ _ _ _ _ _).trans ?_
 kernel_rfl
theorem z9e (m : Nat) (n0k : Nat) (H : List AObj) (t1 t6 t7 t8 t9 : AV) : zbW m n0k ⟨H,[(1,t1),(6,t6),(7,t7),(8,t8),(9,t9)]⟩ =
 zNi .eql t6 (V (.pointer none)) fun t34 =>
 z0o t34 (
  z5h m n0k ⟨H,[(1,t1),(6,t6),(7,t7),(9,t9),(42,(V (.bool true)))]⟩) (
  zMe none false false .neq t8 (V (.int .i64 0)) fun t37 =>
  z0o t37 (
  z5h m n0k ⟨H,[(1,t1),(6,t6),(7,t7),(9,t9),(42,(V (.bool true)))]⟩) (
  zNi .eql t7 (V (.pointer none)) fun t41 =>
  z5h m n0k ⟨H,[(1,t1),(6,t6),(7,t7),(9,t9),(42,t41)]⟩)) := by
 refine (z03 _ _ _ _ _ _ _ _ _).trans ?_
 kernel_rfl
theorem z9f (m : Nat) (n0k : Nat) (H : List AObj) (t1 : AV) : z5g m n0k ⟨H,[(1,t1)]⟩ =
 z4O (zjV m H) fun t21 H2 =>
 z02 (some (1,1)) t1 fun t23 =>
 z04 1 H2 t23 fun t24 =>
 z4O (zeM m (V (.int .i64 7)) (ro H2 t24) H2) fun t25 H3 =>
 zLC t25 0 fun t26 =>
 zLC t25 1 fun t27 =>
 z02 (some (1,1)) t1 fun t28 =>
 z04 1 H3 t28 fun t29 =>
 z1F (some z6B) (some zc_plenumref04_Ring) [(0,(V (.int .i64 7))),(1,t29)] fun t30 =>
 z1F (some z6c) (some z6h) [(1,t30)] fun t31 =>
 zN2 z0w H3 t31 fun t32 H4 =>
 zbW m n0k (ghS 9 0 z4p 1 ⟨H4,[(1,t1),(6,t21),(7,t26),(8,t27),(9,t32)]⟩) := by
 refine (z03 _ _ _ _ _ _ _ _ _).trans ?_
 kernel_rfl
theorem zje (m : Nat) (t0 : AV) (H : List AObj) : z2r m t0 H =
 zN2 z1h H t0 fun t1 H2 =>
 z02 (some (1,1)) t1 fun t13 =>
 z04 1 H2 t13 fun t14 =>
 zLZ false true H2 t14 fun t15 =>
 zMe none false false .gtr t15 (V (.int .i64 10)) fun t16 =>
 z0o t16 (
  z02 (some (1,1)) t1 fun t17 =>
  z04 1 H2 t17 fun t18 =>
  zhk false (some (z5v,1)) H2 t18 none (some (V (.int .i64 10))) fun t19 =>
  z02 (some (1,1)) t1 fun t20 =>
  z0I 1 H2 t20 t19 fun H3 =>
  z5g m H.length ⟨H3,[(1,t1)]⟩) (
  z5g m H.length ⟨H2,[(1,t1)]⟩) := by
 refine (zFe Try.prog GG (z0p m) m ⟨131,[]⟩ H.length z0x plenumlaw32_set_h ⟨H,z14 0 [t0]⟩ [.tmp 2, .tmp 3, .tmp 4, .tmp 5]).trans ?_
 kernel_rfl
def z8S (m : Nat) : List AV → List AObj → RO|[t0],H=>z2r m t0 H|_,_=>none
theorem zjy (m : Nat) : ∀ args H X H',z8S m args H = some (X,H') → AC Try.prog GG 8 args H (Is X H') := by
 intro args H X H' h
 unfold z8S at h
 split at h
 ·exact zre (n := H.length) MIX (by
  intro f e h
  simp only [z0p,Prod.mk.injEq,List.mem_cons,List.not_mem_nil,or_false] at h
  rcases h with ⟨rfl,rfl⟩|⟨rfl,rfl⟩|⟨rfl,rfl⟩|⟨rfl,rfl⟩|⟨rfl,rfl⟩|⟨rfl,rfl⟩
  ·exact zn7 m
  ·exact zni m
  ·exact zeX m
  ·exact zeJ m
  ·exact z6z m
  ·exact zeh m) (f := 8) (c := z0x) Try.func8 rfl (by kernel_rfl) _ rfl Try.ntmps8 (Nat.le_of_ble_eq_true rfl) plenumlaw32_set_h h
 ·cases h
end Go.Proofs.Ytaaogcnjfkgnoaa

namespace Go.Proofs.Ytaaogcnjfkgnoaa
open Go.RowKit
theorem znL (k : Nat) : ((k : Int)).toNat = k := Int.toNat_natCast k
theorem zzv {R : Type} {X : AV} {Y H : List AObj} {K : AV → List AObj → Option R} : zNA (some (X,Y)) H K = K X (H ++ Y) := _root_.id rfl
theorem zvo {R : Type} {t : TypeId} {a : Int} {K1 : AV → Option R} : z0O (some (t,1)) 1 [(0,V (.int .i64 a))] K1 = K1 (SL [nA a]) := by
 first|rfl|(simp [z0O,z0C];rfl)|simp [z0O,z0C]
theorem zuZ {R : Type} {t : TypeId} {a b : Int} {K1 : AV → Option R} : z0O (some (t,1)) 2 [(0,V (.int .i64 a)),(1,V (.int .i64 b))] K1 = K1 (SL [nA a,nA b]) := by
 first|rfl|(simp [z0O,z0C];rfl)|simp [z0O,z0C]
theorem zvk {R : Type} {t : TypeId} {a b c : Int} {K1 : AV → Option R} : z0O (some (t,1)) 3 [(0,V (.int .i64 a)),(1,V (.int .i64 b)),(2,V (.int .i64 c))] K1 = K1 (SL [nA a,nA b,nA c]) := by
 first|rfl|(simp [z0O,z0C];rfl)|simp [z0O,z0C]
theorem zvS {R : Type} {t : TypeId} {a b c d : Int} {K1 : AV → Option R} : z0O (some (t,1)) 4 [(0,V (.int .i64 a)),(1,V (.int .i64 b)),(2,V (.int .i64 c)),(3,V (.int .i64 d))] K1 = K1 (SL [nA a,nA b,nA c,nA d]) := by
 first|rfl|(simp [z0O,z0C];rfl)|simp [z0O,z0C]
theorem zvN {R : Type} {t : TypeId} {a b c d e : Int} {K1 : AV → Option R} : z0O (some (t,1)) 5 [(0,V (.int .i64 a)),(1,V (.int .i64 b)),(2,V (.int .i64 c)),(3,V (.int .i64 d)),(4,V (.int .i64 e))] K1 = K1 (SL [nA a,nA b,nA c,nA d,nA e]) := by
 first|rfl|(simp [z0O,z0C];rfl)|simp [z0O,z0C]
theorem zus {R : Type} {t : TypeId} {a b c d e f : Int} {K1 : AV → Option R} : z0O (some (t,1)) 6 [(0,V (.int .i64 a)),(1,V (.int .i64 b)),(2,V (.int .i64 c)),(3,V (.int .i64 d)),(4,V (.int .i64 e)),(5,V (.int .i64 f))] K1 = K1 (SL [nA a,nA b,nA c,nA d,nA e,nA f]) := by
 first|rfl|(simp [z0O,z0C];rfl)|simp [z0O,z0C]
theorem zuJ {R : Type} {t : TypeId} {a b c d e f g : Int} {K1 : AV → Option R} : z0O (some (t,1)) 7 [(0,V (.int .i64 a)),(1,V (.int .i64 b)),(2,V (.int .i64 c)),(3,V (.int .i64 d)),(4,V (.int .i64 e)),(5,V (.int .i64 f)),(6,V (.int .i64 g))] K1 = K1 (SL [nA a,nA b,nA c,nA d,nA e,nA f,nA g]) := by
 first|rfl|(simp [z0O,z0C];rfl)|simp [z0O,z0C]
theorem zMd {R : Type} {t : TypeId} {z : Nat} {K1 : AV → Option R} : z0O (some (t,z)) 0 [] K1 = K1 ZV := by
 first|rfl|(simp [z0O,z0C];rfl)|simp [z0O,z0C]
structure Sm where
 fr : Int
 kd : Int
 vw : Int
 sq : Int
 tm : Int
deriving DecidableEq
def Sm.zero : Sm := ⟨0,0,0,0,0⟩
def smC (x : Sm) : List AV := [nA x.fr,nA x.kd,nA x.vw,nA x.sq,nA x.tm]
def smE (x : Sm) : AV := .agg (smC x)
structure Ce where
 sq : Int
 vw : Int
 tm : Int
 body : List UInt8
 vs : List Sm
deriving DecidableEq
def Ce.zero : Ce := ⟨0,0,0,[],[]⟩
def ceC (x : Ce) : List AV := [nA x.sq,nA x.vw,nA x.tm,sA x.body,SL (x.vs.map smE)]
def ceE (x : Ce) : AV := .agg (ceC x)
structure Ch where
 fr : Int
 vw : Int
 st : Int
 rt : Int
 pf : List Sm
 cs : List Ce
deriving DecidableEq
def Ch.zero : Ch := ⟨0,0,0,0,[],[]⟩
def cgC (x : Ch) : List AV := [nA x.fr,nA x.vw,nA x.st,nA x.rt,SL (x.pf.map smE),SL (x.cs.map ceE)]
def cgE (x : Ch) : AV := .agg (cgC x)
structure Ms where
 kd : Int
 fr : Int
 vw : Int
 sq : Int
 tm : Int
 body : List UInt8
 vs : List Sm
 chs : List Ch
deriving DecidableEq
def Ms.zero : Ms := ⟨0,0,0,0,0,[],[],[]⟩
def msC (x : Ms) : List AV := [nA x.kd,nA x.fr,nA x.vw,nA x.sq,nA x.tm,sA x.body,SL (x.vs.map smE),SL (x.chs.map cgE)]
def msE (x : Ms) : AV := .agg (msC x)
structure Co where
 sq : Int
 tm : Int
 body : List UInt8
 nl : Bool
deriving DecidableEq
def Co.zero : Co := ⟨0,0,[],false⟩
def coC (x : Co) : List AV := [nA x.sq,nA x.tm,sA x.body,bA x.nl]
def coE (x : Co) : AV := .agg (coC x)
structure Sd where
 wh : Int
 fr : Int
 kd : Int
 vw : Int
 sq : Int
 tm : Int
deriving DecidableEq
def Sd.zero : Sd := ⟨0,0,0,0,0,0⟩
def sdC (x : Sd) : List AV := [nA x.wh,nA x.fr,nA x.kd,nA x.vw,nA x.sq,nA x.tm]
def sdE (x : Sd) : AV := .agg (sdC x)
section
variable {R : Type} {n : Nat} {H : List AObj} {K1 : AV → Option R}
theorem z6x (x : Sm) : smE x = .agg (smC x) := _root_.id rfl
theorem znr {x : Sm} : (smC x).length = 5 := _root_.id rfl
theorem zim {x : Sm} : (smC x).all zN7 = true := _root_.id rfl
theorem zl3 {x : Sm} : (smC x).all (ltA n) = true := _root_.id rfl
theorem znw {x : Sm} : (smC x).all (lt1 n) = true := _root_.id rfl
theorem zj7 {x : Sm} : ((smC x).all fun y=>lt1 n (ro1 H y)) = true := _root_.id rfl
theorem zut {x : Sm} : (smC x).map (ro1 H) = smC x := _root_.id rfl
theorem zii {x : Sm} : (smC x).take 5 = smC x := _root_.id rfl
theorem zw8 {x : Sm} : ((smC x).all fun y=>zN7 y && lt1 n y) = true := _root_.id rfl
theorem zoB {x y : Sm} : z09 (smC y) 0 (smC x) = smC x := _root_.id rfl
theorem znT {x : Sm} : noT (.agg (smC x)) = .agg (smC x) := _root_.id rfl
theorem zva {x : Sm} : zLl (smC x) 0 K1 = K1 (nA x.fr) := _root_.id rfl
theorem zdk {x : Sm} {q : Int} : (smC x).set 0 (nA q) = smC { x with fr := q } := _root_.id rfl
theorem z9t {x : Sm} {q : Int} : z09 (smC x) 0 [nA q] = smC { x with fr := q } := _root_.id rfl
theorem zwp {x : Sm} : zLl (smC x) 1 K1 = K1 (nA x.kd) := _root_.id rfl
theorem zd2 {x : Sm} {q : Int} : (smC x).set 1 (nA q) = smC { x with kd := q } := _root_.id rfl
theorem z9U {x : Sm} {q : Int} : z09 (smC x) 1 [nA q] = smC { x with kd := q } := _root_.id rfl
theorem zw5 {x : Sm} : zLl (smC x) 2 K1 = K1 (nA x.vw) := _root_.id rfl
theorem zcG {x : Sm} {q : Int} : (smC x).set 2 (nA q) = smC { x with vw := q } := _root_.id rfl
theorem z9R {x : Sm} {q : Int} : z09 (smC x) 2 [nA q] = smC { x with vw := q } := _root_.id rfl
theorem zw2 {x : Sm} : zLl (smC x) 3 K1 = K1 (nA x.sq) := _root_.id rfl
theorem ze0 {x : Sm} {q : Int} : (smC x).set 3 (nA q) = smC { x with sq := q } := _root_.id rfl
theorem z9K {x : Sm} {q : Int} : z09 (smC x) 3 [nA q] = smC { x with sq := q } := _root_.id rfl
theorem zwc {x : Sm} : zLl (smC x) 4 K1 = K1 (nA x.tm) := _root_.id rfl
theorem zdv {x : Sm} {q : Int} : (smC x).set 4 (nA q) = smC { x with tm := q } := _root_.id rfl
theorem z9B {x : Sm} {q : Int} : z09 (smC x) 4 [nA q] = smC { x with tm := q } := _root_.id rfl
theorem ziK : zc_api_Stmt.length = 5 := _root_.id rfl
theorem zd1 : zc_api_Stmt.all zN7 = true := _root_.id rfl
theorem ziP : zc_api_Stmt.all (lt1 n) = true := _root_.id rfl
theorem zop : (zc_api_Stmt.all fun y=>zN7 y && lt1 n y) = true := _root_.id rfl
theorem zok : zc_api_Stmt.map (ro1 H) = smC Sm.zero := _root_.id rfl
theorem zdz : z09 zc_api_Stmt 0 zc_api_Stmt = zc_api_Stmt := _root_.id rfl
theorem ziu {x : Sm} : z09 zc_api_Stmt 0 (smC x) = smC x := _root_.id rfl
theorem zda {x : Sm} : z09 (smC x) 0 zc_api_Stmt = zc_api_Stmt := _root_.id rfl
theorem zdw : zc_api_Stmt.take 5 = zc_api_Stmt := _root_.id rfl
theorem zfG {l : List Sm} : (l.all fun x=>ltA n (smE x)) = true := List.all_eq_true.2 fun _ _=>rfl
theorem zhD {l : List Sm} : (l.all fun x=>decide ((cellsOf (smE x)).length = 5)) = true := List.all_eq_true.2 fun _ _=>rfl
theorem zo0 (x : Ce) : ceE x = .agg (ceC x) := _root_.id rfl
theorem zoy {x : Ce} : (ceC x).length = 5 := _root_.id rfl
theorem zi3 {x : Ce} : (ceC x).all zN7 = true := _root_.id rfl
theorem ziH {x : Ce} : (ceC x).all (ltA n) = true := _root_.id rfl
theorem zoh {x : Ce} : (ceC x).all (lt1 n) = true := _root_.id rfl
theorem ziC {x : Ce} : ((ceC x).all fun y=>lt1 n (ro1 H y)) = true := _root_.id rfl
theorem zwi {x : Ce} : (ceC x).map (ro1 H) = ceC x := _root_.id rfl
theorem ziG {x : Ce} : (ceC x).take 5 = ceC x := _root_.id rfl
theorem zvM {x : Ce} : ((ceC x).all fun y=>zN7 y && lt1 n y) = true := _root_.id rfl
theorem znZ {x y : Ce} : z09 (ceC y) 0 (ceC x) = ceC x := _root_.id rfl
theorem zoK {x : Ce} : noT (.agg (ceC x)) = .agg (ceC x) := _root_.id rfl
theorem zuK {x : Ce} : zLl (ceC x) 0 K1 = K1 (nA x.sq) := _root_.id rfl
theorem zcE {x : Ce} {q : Int} : (ceC x).set 0 (nA q) = ceC { x with sq := q } := _root_.id rfl
theorem z9s {x : Ce} {q : Int} : z09 (ceC x) 0 [nA q] = ceC { x with sq := q } := _root_.id rfl
theorem zw4 {x : Ce} : zLl (ceC x) 1 K1 = K1 (nA x.vw) := _root_.id rfl
theorem zdP {x : Ce} {q : Int} : (ceC x).set 1 (nA q) = ceC { x with vw := q } := _root_.id rfl
theorem z9q {x : Ce} {q : Int} : z09 (ceC x) 1 [nA q] = ceC { x with vw := q } := _root_.id rfl
theorem zvE {x : Ce} : zLl (ceC x) 2 K1 = K1 (nA x.tm) := _root_.id rfl
theorem zdh {x : Ce} {q : Int} : (ceC x).set 2 (nA q) = ceC { x with tm := q } := _root_.id rfl
theorem z9Q {x : Ce} {q : Int} : z09 (ceC x) 2 [nA q] = ceC { x with tm := q } := _root_.id rfl
theorem zhM {x : Ce} : zLl (ceC x) 3 K1 = K1 (sA x.body) := _root_.id rfl
theorem z7f {x : Ce} {q : List UInt8} : (ceC x).set 3 (sA q) = ceC { x with body := q } := _root_.id rfl
theorem z58 {x : Ce} {q : List UInt8} : z09 (ceC x) 3 [sA q] = ceC { x with body := q } := _root_.id rfl
theorem zw1 {x : Ce} : zLl (ceC x) 4 K1 = K1 (SL (x.vs.map smE)) := _root_.id rfl
theorem zdI {x : Ce} {q : List Sm} : (ceC x).set 4 (SL (q.map smE)) = ceC { x with vs := q } := _root_.id rfl
theorem z9O {x : Ce} {q : List Sm} : z09 (ceC x) 4 [SL (q.map smE)] = ceC { x with vs := q } := _root_.id rfl
theorem zj8 : zc_api_Cert.length = 5 := _root_.id rfl
theorem zd3 : zc_api_Cert.all zN7 = true := _root_.id rfl
theorem zi7 : zc_api_Cert.all (lt1 n) = true := _root_.id rfl
theorem zno : (zc_api_Cert.all fun y=>zN7 y && lt1 n y) = true := _root_.id rfl
theorem zoe : zc_api_Cert.map (ro1 H) = ceC Ce.zero := _root_.id rfl
theorem zdJ : z09 zc_api_Cert 0 zc_api_Cert = zc_api_Cert := _root_.id rfl
theorem zic {x : Ce} : z09 zc_api_Cert 0 (ceC x) = ceC x := _root_.id rfl
theorem zdF {x : Ce} : z09 (ceC x) 0 zc_api_Cert = zc_api_Cert := _root_.id rfl
theorem zcX : zc_api_Cert.take 5 = zc_api_Cert := _root_.id rfl
theorem zfx {l : List Ce} : (l.all fun x=>ltA n (ceE x)) = true := List.all_eq_true.2 fun _ _=>rfl
theorem zi8 {l : List Ce} : (l.all fun x=>decide ((cellsOf (ceE x)).length = 5)) = true := List.all_eq_true.2 fun _ _=>rfl
theorem zaD (x : Ch) : cgE x = .agg (cgC x) := _root_.id rfl
theorem znN {x : Ch} : (cgC x).length = 6 := _root_.id rfl
theorem ziB {x : Ch} : (cgC x).all zN7 = true := _root_.id rfl
theorem zmB {x : Ch} : (cgC x).all (ltA n) = true := _root_.id rfl
theorem zoo {x : Ch} : (cgC x).all (lt1 n) = true := _root_.id rfl
theorem ziO {x : Ch} : ((cgC x).all fun y=>lt1 n (ro1 H y)) = true := _root_.id rfl
theorem zvb {x : Ch} : (cgC x).map (ro1 H) = cgC x := _root_.id rfl
theorem ziX {x : Ch} : (cgC x).take 6 = cgC x := _root_.id rfl
theorem zvZ {x : Ch} : ((cgC x).all fun y=>zN7 y && lt1 n y) = true := _root_.id rfl
theorem znv {x y : Ch} : z09 (cgC y) 0 (cgC x) = cgC x := _root_.id rfl
theorem zon {x : Ch} : noT (.agg (cgC x)) = .agg (cgC x) := _root_.id rfl
theorem zv4 {x : Ch} : zLl (cgC x) 0 K1 = K1 (nA x.fr) := _root_.id rfl
theorem zdb {x : Ch} {q : Int} : (cgC x).set 0 (nA q) = cgC { x with fr := q } := _root_.id rfl
theorem z9S {x : Ch} {q : Int} : z09 (cgC x) 0 [nA q] = cgC { x with fr := q } := _root_.id rfl
theorem zwg {x : Ch} : zLl (cgC x) 1 K1 = K1 (nA x.vw) := _root_.id rfl
theorem zdZ {x : Ch} {q : Int} : (cgC x).set 1 (nA q) = cgC { x with vw := q } := _root_.id rfl
theorem z9X {x : Ch} {q : Int} : z09 (cgC x) 1 [nA q] = cgC { x with vw := q } := _root_.id rfl
theorem zun {x : Ch} : zLl (cgC x) 2 K1 = K1 (nA x.st) := _root_.id rfl
theorem zd7 {x : Ch} {q : Int} : (cgC x).set 2 (nA q) = cgC { x with st := q } := _root_.id rfl
theorem z9P {x : Ch} {q : Int} : z09 (cgC x) 2 [nA q] = cgC { x with st := q } := _root_.id rfl
theorem zuX {x : Ch} : zLl (cgC x) 3 K1 = K1 (nA x.rt) := _root_.id rfl
theorem ze2 {x : Ch} {q : Int} : (cgC x).set 3 (nA q) = cgC { x with rt := q } := _root_.id rfl
theorem z9E {x : Ch} {q : Int} : z09 (cgC x) 3 [nA q] = cgC { x with rt := q } := _root_.id rfl
theorem zv6 {x : Ch} : zLl (cgC x) 4 K1 = K1 (SL (x.pf.map smE)) := _root_.id rfl
theorem zdn {x : Ch} {q : List Sm} : (cgC x).set 4 (SL (q.map smE)) = cgC { x with pf := q } := _root_.id rfl
theorem z9M {x : Ch} {q : List Sm} : z09 (cgC x) 4 [SL (q.map smE)] = cgC { x with pf := q } := _root_.id rfl
theorem zv5 {x : Ch} : zLl (cgC x) 5 K1 = K1 (SL (x.cs.map ceE)) := _root_.id rfl
theorem zdS {x : Ch} {q : List Ce} : (cgC x).set 5 (SL (q.map ceE)) = cgC { x with cs := q } := _root_.id rfl
theorem z9A {x : Ch} {q : List Ce} : z09 (cgC x) 5 [SL (q.map ceE)] = cgC { x with cs := q } := _root_.id rfl
theorem zhP : zc_api_Change.length = 6 := _root_.id rfl
theorem zdB : zc_api_Change.all zN7 = true := _root_.id rfl
theorem zi9 : zc_api_Change.all (lt1 n) = true := _root_.id rfl
theorem znO : (zc_api_Change.all fun y=>zN7 y && lt1 n y) = true := _root_.id rfl
theorem zoa : zc_api_Change.map (ro1 H) = cgC Ch.zero := _root_.id rfl
theorem zcS : z09 zc_api_Change 0 zc_api_Change = zc_api_Change := _root_.id rfl
theorem ziS {x : Ch} : z09 zc_api_Change 0 (cgC x) = cgC x := _root_.id rfl
theorem zcC {x : Ch} : z09 (cgC x) 0 zc_api_Change = zc_api_Change := _root_.id rfl
theorem zdx : zc_api_Change.take 6 = zc_api_Change := _root_.id rfl
theorem zgR {l : List Ch} : (l.all fun x=>ltA n (cgE x)) = true := List.all_eq_true.2 fun _ _=>rfl
theorem zhQ {l : List Ch} : (l.all fun x=>decide ((cellsOf (cgE x)).length = 6)) = true := List.all_eq_true.2 fun _ _=>rfl
theorem zmH (x : Ms) : msE x = .agg (msC x) := _root_.id rfl
theorem zot {x : Ms} : (msC x).length = 8 := _root_.id rfl
theorem ziV {x : Ms} : (msC x).all zN7 = true := _root_.id rfl
theorem zmt {x : Ms} : (msC x).all (ltA n) = true := _root_.id rfl
theorem znC {x : Ms} : (msC x).all (lt1 n) = true := _root_.id rfl
theorem zhE {x : Ms} : ((msC x).all fun y=>lt1 n (ro1 H y)) = true := _root_.id rfl
theorem zup {x : Ms} : (msC x).map (ro1 H) = msC x := _root_.id rfl
theorem zhJ {x : Ms} : (msC x).take 8 = msC x := _root_.id rfl
theorem zvO {x : Ms} : ((msC x).all fun y=>zN7 y && lt1 n y) = true := _root_.id rfl
theorem znS {x y : Ms} : z09 (msC y) 0 (msC x) = msC x := _root_.id rfl
theorem znV {x : Ms} : noT (.agg (msC x)) = .agg (msC x) := _root_.id rfl
theorem zvX {x : Ms} : zLl (msC x) 0 K1 = K1 (nA x.kd) := _root_.id rfl
theorem zcP {x : Ms} {q : Int} : (msC x).set 0 (nA q) = msC { x with kd := q } := _root_.id rfl
theorem z9Z {x : Ms} {q : Int} : z09 (msC x) 0 [nA q] = msC { x with kd := q } := _root_.id rfl
theorem zvW {x : Ms} : zLl (msC x) 1 K1 = K1 (nA x.fr) := _root_.id rfl
theorem zcR {x : Ms} {q : Int} : (msC x).set 1 (nA q) = msC { x with fr := q } := _root_.id rfl
theorem z9v {x : Ms} {q : Int} : z09 (msC x) 1 [nA q] = msC { x with fr := q } := _root_.id rfl
theorem zwk {x : Ms} : zLl (msC x) 2 K1 = K1 (nA x.vw) := _root_.id rfl
theorem zcV {x : Ms} {q : Int} : (msC x).set 2 (nA q) = msC { x with vw := q } := _root_.id rfl
theorem z9p {x : Ms} {q : Int} : z09 (msC x) 2 [nA q] = msC { x with vw := q } := _root_.id rfl
theorem zwn {x : Ms} : zLl (msC x) 3 K1 = K1 (nA x.sq) := _root_.id rfl
theorem zcY {x : Ms} {q : Int} : (msC x).set 3 (nA q) = msC { x with sq := q } := _root_.id rfl
theorem z9z {x : Ms} {q : Int} : z09 (msC x) 3 [nA q] = msC { x with sq := q } := _root_.id rfl
theorem zux {x : Ms} : zLl (msC x) 4 K1 = K1 (nA x.tm) := _root_.id rfl
theorem zcD {x : Ms} {q : Int} : (msC x).set 4 (nA q) = msC { x with tm := q } := _root_.id rfl
theorem z9N {x : Ms} {q : Int} : z09 (msC x) 4 [nA q] = msC { x with tm := q } := _root_.id rfl
theorem zj1 {x : Ms} : zLl (msC x) 5 K1 = K1 (sA x.body) := _root_.id rfl
theorem z7s {x : Ms} {q : List UInt8} : (msC x).set 5 (sA q) = msC { x with body := q } := _root_.id rfl
theorem z5l {x : Ms} {q : List UInt8} : z09 (msC x) 5 [sA q] = msC { x with body := q } := _root_.id rfl
theorem zvA {x : Ms} : zLl (msC x) 6 K1 = K1 (SL (x.vs.map smE)) := _root_.id rfl
theorem zdN {x : Ms} {q : List Sm} : (msC x).set 6 (SL (q.map smE)) = msC { x with vs := q } := _root_.id rfl
theorem z9o {x : Ms} {q : List Sm} : z09 (msC x) 6 [SL (q.map smE)] = msC { x with vs := q } := _root_.id rfl
theorem zoc {x : Ms} : zLl (msC x) 7 K1 = K1 (SL (x.chs.map cgE)) := _root_.id rfl
theorem z9w {x : Ms} {q : List Ch} : (msC x).set 7 (SL (q.map cgE)) = msC { x with chs := q } := _root_.id rfl
theorem z7m {x : Ms} {q : List Ch} : z09 (msC x) 7 [SL (q.map cgE)] = msC { x with chs := q } := _root_.id rfl
theorem zih : zc_api_Msg.length = 8 := _root_.id rfl
theorem zdG : zc_api_Msg.all zN7 = true := _root_.id rfl
theorem ziz : zc_api_Msg.all (lt1 n) = true := _root_.id rfl
theorem zo7 : (zc_api_Msg.all fun y=>zN7 y && lt1 n y) = true := _root_.id rfl
theorem znJ : zc_api_Msg.map (ro1 H) = msC Ms.zero := _root_.id rfl
theorem zdY : z09 zc_api_Msg 0 zc_api_Msg = zc_api_Msg := _root_.id rfl
theorem zig {x : Ms} : z09 zc_api_Msg 0 (msC x) = msC x := _root_.id rfl
theorem zdH {x : Ms} : z09 (msC x) 0 zc_api_Msg = zc_api_Msg := _root_.id rfl
theorem zde : zc_api_Msg.take 8 = zc_api_Msg := _root_.id rfl
theorem zhR {l : List Ms} : (l.all fun x=>ltA n (msE x)) = true := List.all_eq_true.2 fun _ _=>rfl
theorem zhX {l : List Ms} : (l.all fun x=>decide ((cellsOf (msE x)).length = 8)) = true := List.all_eq_true.2 fun _ _=>rfl
theorem ztp (x : Co) : coE x = .agg (coC x) := _root_.id rfl
theorem znA {x : Co} : (coC x).length = 4 := _root_.id rfl
theorem zhN {x : Co} : (coC x).all zN7 = true := _root_.id rfl
theorem znx {x : Co} : (coC x).all (ltA n) = true := _root_.id rfl
theorem zou {x : Co} : (coC x).all (lt1 n) = true := _root_.id rfl
theorem zhx {x : Co} : ((coC x).all fun y=>lt1 n (ro1 H y)) = true := _root_.id rfl
theorem zvj {x : Co} : (coC x).map (ro1 H) = coC x := _root_.id rfl
theorem ziJ {x : Co} : (coC x).take 4 = coC x := _root_.id rfl
theorem zuT {x : Co} : ((coC x).all fun y=>zN7 y && lt1 n y) = true := _root_.id rfl
theorem zoz {x y : Co} : z09 (coC y) 0 (coC x) = coC x := _root_.id rfl
theorem zox {x : Co} : noT (.agg (coC x)) = .agg (coC x) := _root_.id rfl
theorem zuA {x : Co} : zLl (coC x) 0 K1 = K1 (nA x.sq) := _root_.id rfl
theorem zdO {x : Co} {q : Int} : (coC x).set 0 (nA q) = coC { x with sq := q } := _root_.id rfl
theorem z9H {x : Co} {q : Int} : z09 (coC x) 0 [nA q] = coC { x with sq := q } := _root_.id rfl
theorem zvp {x : Co} : zLl (coC x) 1 K1 = K1 (nA x.tm) := _root_.id rfl
theorem zd5 {x : Co} {q : Int} : (coC x).set 1 (nA q) = coC { x with tm := q } := _root_.id rfl
theorem z9T {x : Co} {q : Int} : z09 (coC x) 1 [nA q] = coC { x with tm := q } := _root_.id rfl
theorem ziM {x : Co} : zLl (coC x) 2 K1 = K1 (sA x.body) := _root_.id rfl
theorem z6A {x : Co} {q : List UInt8} : (coC x).set 2 (sA q) = coC { x with body := q } := _root_.id rfl
theorem z5a {x : Co} {q : List UInt8} : z09 (coC x) 2 [sA q] = coC { x with body := q } := _root_.id rfl
theorem zuG {x : Co} : zLl (coC x) 3 K1 = K1 (bA x.nl) := _root_.id rfl
theorem zdl {x : Co} {q : Bool} : (coC x).set 3 (bA q) = coC { x with nl := q } := _root_.id rfl
theorem z9J {x : Co} {q : Bool} : z09 (coC x) 3 [bA q] = coC { x with nl := q } := _root_.id rfl
theorem zij : zc_api_Choice.length = 4 := _root_.id rfl
theorem zd4 : zc_api_Choice.all zN7 = true := _root_.id rfl
theorem zhL : zc_api_Choice.all (lt1 n) = true := _root_.id rfl
theorem zoC : (zc_api_Choice.all fun y=>zN7 y && lt1 n y) = true := _root_.id rfl
theorem znq : zc_api_Choice.map (ro1 H) = coC Co.zero := _root_.id rfl
theorem zd8 : z09 zc_api_Choice 0 zc_api_Choice = zc_api_Choice := _root_.id rfl
theorem zia {x : Co} : z09 zc_api_Choice 0 (coC x) = coC x := _root_.id rfl
theorem zdu {x : Co} : z09 (coC x) 0 zc_api_Choice = zc_api_Choice := _root_.id rfl
theorem zcU : zc_api_Choice.take 4 = zc_api_Choice := _root_.id rfl
theorem zfe {l : List Co} : (l.all fun x=>ltA n (coE x)) = true := List.all_eq_true.2 fun _ _=>rfl
theorem ziW {l : List Co} : (l.all fun x=>decide ((cellsOf (coE x)).length = 4)) = true := List.all_eq_true.2 fun _ _=>rfl
theorem zvn (x : Sd) : sdE x = .agg (sdC x) := _root_.id rfl
theorem znX {x : Sd} : (sdC x).length = 6 := _root_.id rfl
theorem zif {x : Sd} : (sdC x).all zN7 = true := _root_.id rfl
theorem zog {x : Sd} : (sdC x).all (ltA n) = true := _root_.id rfl
theorem znG {x : Sd} : (sdC x).all (lt1 n) = true := _root_.id rfl
theorem ziU {x : Sd} : ((sdC x).all fun y=>lt1 n (ro1 H y)) = true := _root_.id rfl
theorem zw7 {x : Sd} : (sdC x).map (ro1 H) = sdC x := _root_.id rfl
theorem zhz {x : Sd} : (sdC x).take 6 = sdC x := _root_.id rfl
theorem zv8 {x : Sd} : ((sdC x).all fun y=>zN7 y && lt1 n y) = true := _root_.id rfl
theorem zny {x y : Sd} : z09 (sdC y) 0 (sdC x) = sdC x := _root_.id rfl
theorem zow {x : Sd} : noT (.agg (sdC x)) = .agg (sdC x) := _root_.id rfl
theorem zvc {x : Sd} : zLl (sdC x) 0 K1 = K1 (nA x.wh) := _root_.id rfl
theorem zcH {x : Sd} {q : Int} : (sdC x).set 0 (nA q) = sdC { x with wh := q } := _root_.id rfl
theorem z9F {x : Sd} {q : Int} : z09 (sdC x) 0 [nA q] = sdC { x with wh := q } := _root_.id rfl
theorem zvm {x : Sd} : zLl (sdC x) 1 K1 = K1 (nA x.fr) := _root_.id rfl
theorem zcW {x : Sd} {q : Int} : (sdC x).set 1 (nA q) = sdC { x with fr := q } := _root_.id rfl
theorem z9L {x : Sd} {q : Int} : z09 (sdC x) 1 [nA q] = sdC { x with fr := q } := _root_.id rfl
theorem zuS {x : Sd} : zLl (sdC x) 2 K1 = K1 (nA x.kd) := _root_.id rfl
theorem zcJ {x : Sd} {q : Int} : (sdC x).set 2 (nA q) = sdC { x with kd := q } := _root_.id rfl
theorem z9I {x : Sd} {q : Int} : z09 (sdC x) 2 [nA q] = sdC { x with kd := q } := _root_.id rfl
theorem zvV {x : Sd} : zLl (sdC x) 3 K1 = K1 (nA x.vw) := _root_.id rfl
theorem zcF {x : Sd} {q : Int} : (sdC x).set 3 (nA q) = sdC { x with vw := q } := _root_.id rfl
theorem za0 {x : Sd} {q : Int} : z09 (sdC x) 3 [nA q] = sdC { x with vw := q } := _root_.id rfl
theorem zuH {x : Sd} : zLl (sdC x) 4 K1 = K1 (nA x.sq) := _root_.id rfl
theorem zdV {x : Sd} {q : Int} : (sdC x).set 4 (nA q) = sdC { x with sq := q } := _root_.id rfl
theorem z9C {x : Sd} {q : Int} : z09 (sdC x) 4 [nA q] = sdC { x with sq := q } := _root_.id rfl
theorem zvL {x : Sd} : zLl (sdC x) 5 K1 = K1 (nA x.tm) := _root_.id rfl
theorem zdR {x : Sd} {q : Int} : (sdC x).set 5 (nA q) = sdC { x with tm := q } := _root_.id rfl
theorem z9Y {x : Sd} {q : Int} : z09 (sdC x) 5 [nA q] = sdC { x with tm := q } := _root_.id rfl
theorem zik {l : List Sd} : (l.all fun x=>ltA n (sdE x)) = true := List.all_eq_true.2 fun _ _=>rfl
theorem ziv {l : List Sd} : (l.all fun x=>decide ((cellsOf (sdE x)).length = 6)) = true := List.all_eq_true.2 fun _ _=>rfl
end
end Go.Proofs.Ytaaogcnjfkgnoaa

section
namespace Go.Proofs.Ytaaogcnjfkgnoaa
attribute [local go_sem] Nat.zero_add Nat.add_zero Nat.mul_one Int.toNat_natCast Int.natCast_zero Int.cast_ofNat_Int or_false false_or or_true true_or Nat.sub_zero Int.natCast_nonneg Int.toNat_zero Bool.true_and Bool.and_true Bool.false_and Bool.and_false Bool.true_or Bool.or_true Bool.false_or Bool.or_false Bool.not_true Bool.not_false Bool.not_not true_and and_true false_and and_false not_true_eq_false not_false_eq_true eq_self decide_true decide_false ne_eq implies_true forall_const true_implies false_implies Bool.true_eq_false Bool.false_eq_true List.map_cons List.map_nil List.all_cons List.all_nil List.length_cons List.length_nil List.length_map List.length_append List.nil_append List.cons_append List.set_cons_zero List.set_cons_succ List.set_nil List.drop_zero List.drop_succ_cons List.drop_nil List.take_zero List.take_succ_cons List.take_nil Option.map_some Option.map_none Option.isSome_some List.all_append List.all_map Function.comp_def decide_eq_true_eq Bool.and_eq_true beq_self_eq_true or_self and_self ite_true ite_false Nat.le_refl Bool.not_eq_true decide_not Bool.not_eq_true' decide_eq_false_iff_not Bool.not_eq_false Bool.or_eq_true if_true if_false ite_self zgt zgL zgT zgD zgN z5I zqn
attribute [local go_sem_proc] Nat.reduceAdd Nat.reduceSub Nat.reduceMul Nat.reduceLeDiff Nat.reduceLT Int.reduceEq Int.reduceNe Int.reduceLT Int.reduceLE Int.reduceAdd Int.reduceSub Int.reduceMul Int.reduceNeg Int.reduceToNat reduceCtorEq Nat.reduceEqDiff Nat.reduceBEq Nat.reduceGT
attribute [local go_sem_proc ↓] reduceIte
section
open Go.RowKit
attribute [local go_sem] z6x znr zim zl3 znw zj7 zut zii zw8 zoB znT zva zdk z9t zwp zd2 z9U zw5 zcG z9R zw2 ze0 z9K zwc zdv z9B ziK zd1 ziP zop zok zdz ziu zda zdw zfG zhD zo0 zoy zi3 ziH zoh ziC zwi ziG zvM znZ zoK zuK zcE z9s zw4 zdP z9q zvE zdh z9Q zhM z7f z58 zw1 zdI z9O zj8 zd3 zi7 zno zoe zdJ zic zdF zcX zfx zi8 zaD znN ziB zmB zoo ziO zvb ziX zvZ znv zon zv4 zdb z9S zwg zdZ z9X zun zd7 z9P zuX ze2 z9E zv6 zdn z9M zv5 zdS z9A zhP zdB zi9 znO zoa zcS ziS zcC zdx zgR zhQ zmH zot ziV zmt znC zhE zup zhJ zvO znS znV zvX zcP z9Z zvW zcR z9v zwk zcV z9p zwn zcY z9z zux zcD z9N zj1 z7s z5l zvA zdN z9o zoc z9w z7m zih zdG ziz zo7 znJ zdY zig zdH zde zhR zhX ztp znA zhN znx zou zhx zvj ziJ zuT zoz zox zuA zdO z9H zvp zd5 z9T ziM z6A z5a zuG zdl z9J zij zd4 zhL zoC znq zd8 zia zdu zcU zfe ziW zvn znX zif zog znG ziU zw7 zhz zv8 zny zow zvc zcH z9F zvm zcW z9L zuS zcJ z9I zvV zcF za0 zuH zdV z9C zvL zdR z9Y zik ziv znL zMd zvo zuZ zvk zvS zvN zus zuJ
def zMh (v : Int) : Bool := decide (0 ≤ v) && decide (v ≤ 2147483647)
def zLr (v : Int) : Bool := decide (0 ≤ v) && decide (v ≤ 63)
def smB (x : Sm) : Bool := zLr x.fr && [x.kd,x.vw,x.sq,x.tm].all zMh
def zNl (l : List Sm) : Bool := decide (l.length ≤ 64) && l.all smB
def ceB (x : Ce) : Bool := [x.sq,x.vw,x.tm].all zMh && (decide (x.body.length ≤ 65536) && zNl x.vs)
def zMJ (l : List Ce) : Bool := decide (l.length ≤ 64) && l.all ceB
def cgB (x : Ch) : Bool := zLr x.fr && ([x.vw,x.st,x.rt].all zMh && (zNl x.pf && zMJ x.cs))
theorem zqD (m : Nat) (l : List Int) (hm : l.length < m) (hl : l.length ≤ 34359738367) : za1 m (SL (l.map nA)) = some (bA (l.all zMh),[]) := by
 rw [zo9]
 simp (config := {maxSteps := 4000000,implicitDefEqProofs := false}) (disch := omega) only [go_sem,]
 generalize hg : l.all zMh = g
 refine z13 (ι := {k : Nat // k ≤ l.length ∧ (l.drop k).all zMh = g}) (fun k=>⟨[],[(5,SL (l.map nA)),(6,nA l.length),(7,nA k.1)]⟩) (fun k=>l.length - k.1) (fun _=>some (bA g,[])) ?_ ⟨0,Nat.zero_le _,hg⟩ (by dsimp only;omega)
 rintro kx hkx ⟨k,hk,hG⟩ kc hkc
 dsimp only at hkc hG ⊢
 rw [zkN]
 by_cases hlt : k < l.length
 ·have hlt' : (k : Int) < (l.length : Int) := by omega
  rw [List.drop_eq_getElem_cons hlt,List.all_cons] at hG
  by_cases h1 : l[k] < 0
  ·have e : zMh l[k] = false := by unfold zMh;rw [decide_eq_false (by omega)];rfl
   rw [e] at hG
   have hG2 : false = g := hG
   subst hG2
   simp (config := {maxSteps := 4000000,implicitDefEqProofs := false}) (disch := omega) only [go_sem,hlt',h1,z2s,hkx,z5W,z5O,z5T]
  ·by_cases h2 : l[k] > 2147483647
   ·have e : zMh l[k] = false := by unfold zMh;rw [decide_eq_false (p := l[k] ≤ 2147483647) (by omega)];simp
    rw [e] at hG
    have hG2 : false = g := hG
    subst hG2
    simp (config := {maxSteps := 4000000,implicitDefEqProofs := false}) (disch := omega) only [go_sem,hlt',h1,h2,z2s,hkx,z5W,z5O,z5T]
   ·have e : zMh l[k] = true := by unfold zMh;rw [decide_eq_true (by omega),decide_eq_true (by omega)];rfl
    rw [e] at hG
    have step := hkc ⟨k + 1,by omega,hG⟩ (by dsimp only;omega)
    simp (config := {maxSteps := 4000000,implicitDefEqProofs := false}) (disch := omega) only [go_sem,hlt',h1,h2,z2s,z5W,z5O,z5T]
    exact step
 ·have hlt' : ¬ (k : Int) < (l.length : Int) := by omega
  rw [List.drop_of_length_le (by omega)] at hG
  have hG2 : true = g := hG
  subst hG2
  simp (config := {maxSteps := 4000000,implicitDefEqProofs := false}) (disch := omega) only [go_sem,hlt',hkx,z5W,z5O,z5T]
theorem zxu (m : Nat) (v : Int) : zfs m (nA v) = some (bA (zLr v),[]) := by
 rw [zpM]
 unfold zLr
 have e : decide (v ≤ 63) = decide (v < 64) := by apply decide_eq_decide.2;omega
 rw [e]
 by_cases h1 : 0 ≤ v
 ·simp (config := {maxSteps := 4000000,implicitDefEqProofs := false}) (disch := omega) only [go_sem,h1]
 ·simp (config := {maxSteps := 4000000,implicitDefEqProofs := false}) (disch := omega) only [go_sem,h1]
theorem zHy (m : Nat) (x : Sm) (hm : 4 < m) : zlf m (smE x) = some (bA (smB x),[]) := by
 have hN := zqD m [x.kd,x.vw,x.sq,x.tm] hm (by simp only [List.length_cons,List.length_nil];omega)
 have hP := zxu m x.fr
 rw [zqu,z6x]
 unfold smB
 generalize [x.kd,x.vw,x.sq,x.tm].all zMh = gn at hN ⊢
 simp only [List.map_cons,List.map_nil] at hN
 cases h : zLr x.fr with
 |false=>rw [h] at hP;simp (config := {maxSteps := 4000000,implicitDefEqProofs := false}) (disch := omega) only [go_sem,hP,hN]
 |true=>rw [h] at hP;simp (config := {maxSteps := 4000000,implicitDefEqProofs := false}) (disch := omega) only [go_sem,hP,hN]
theorem zq0 (m : Nat) (l : List Sm) (hm : 70 < m) : z7h m (SL (l.map smE)) (V (.func (.func 82) #[] #[])) = some (bA (zNl l),[]) := by
 rw [zkV]
 unfold zNl
 by_cases h64 : l.length ≤ 64
 rotate_left
 ·have h64' : (l.length : Int) > 64 := by omega
  simp (config := {maxSteps := 4000000,implicitDefEqProofs := false}) (disch := omega) only [go_sem,h64',h64]
 have h64' : ¬ (l.length : Int) > 64 := by omega
 simp (config := {maxSteps := 4000000,implicitDefEqProofs := false}) (disch := omega) only [go_sem,h64',h64]
 generalize hg : l.all smB = g
 refine z13 (ι := {k : Nat // k ≤ l.length ∧ (l.drop k).all smB = g}) (fun k=>⟨[],[(1,V (.func (.func 82) #[] #[])),(10,SL (l.map smE)),(11,nA l.length),(12,nA k.1)]⟩) (fun k=>l.length - k.1) (fun _=>some (bA g,[])) ?_ ⟨0,Nat.zero_le _,hg⟩ (by dsimp only;omega)
 rintro kx hkx ⟨k,hk,hG⟩ kc hkc
 dsimp only at hkc hG ⊢
 rw [zh8]
 by_cases hlt : k < l.length
 ·have hlt' : (k : Int) < (l.length : Int) := by omega
  rw [List.drop_eq_getElem_cons hlt,List.all_cons] at hG
  have hV := zHy m l[k] (by omega)
  rw [z6x] at hV
  have hF : zj9 (z2t m) 82 = some (.tell (zcw m)) := rfl
  have hT : zcw m [.agg (smC l[k])] = zlf m (.agg (smC l[k])) := rfl
  cases h1 : smB l[k] with
  |false =>
   rw [h1] at hG hV
   have hG2 : false = g := hG
   subst hG2
   simp (config := {maxSteps := 4000000,implicitDefEqProofs := false}) (disch := omega) only [go_sem,hlt',hF,hT,hV,z2s,hkx,z6j]
  |true =>
   rw [h1] at hG hV
   have step := hkc ⟨k + 1,by omega,hG⟩ (by dsimp only;omega)
   simp (config := {maxSteps := 4000000,implicitDefEqProofs := false}) (disch := omega) only [go_sem,hlt',hF,hT,hV,z2s,z6j]
   exact step
 ·have hlt' : ¬ (k : Int) < (l.length : Int) := by omega
  rw [List.drop_of_length_le (by omega)] at hG
  have hG2 : true = g := hG
  subst hG2
  simp (config := {maxSteps := 4000000,implicitDefEqProofs := false}) (disch := omega) only [go_sem,hlt',hkx,z6j]
theorem zFt (m : Nat) (x : Ce) (hm : 70 < m) : zld m (ceE x) = some (bA (ceB x),[]) := by
 have hN := zqD m [x.sq,x.vw,x.tm] (by simp only [List.length_cons,List.length_nil];omega) (by simp only [List.length_cons,List.length_nil];omega)
 have hL := zq0 m x.vs hm
 rw [zqO,zo0]
 unfold ceB
 simp only [List.map_cons,List.map_nil] at hN
 cases h : [x.sq,x.vw,x.tm].all zMh with
 |false=>rw [h] at hN;simp (config := {maxSteps := 4000000,implicitDefEqProofs := false}) (disch := omega) only [go_sem,hN]
 |true =>
  rw [h] at hN
  by_cases h1 : x.body.length ≤ 65536
  ·have h1' : (x.body.length : Int) ≤ 65536 := by omega
   simp (config := {maxSteps := 4000000,implicitDefEqProofs := false}) (disch := omega) only [go_sem,hN,h1,h1',hL]
  ·have h1' : ¬ (x.body.length : Int) ≤ 65536 := by omega
   simp (config := {maxSteps := 4000000,implicitDefEqProofs := false}) (disch := omega) only [go_sem,hN,h1,h1',hL]
theorem zu2 (m : Nat) (l : List Ce) (hm : 70 < m) : z9y m (SL (l.map ceE)) (V (.func (.func 84) #[] #[])) = some (bA (zMJ l),[]) := by
 rw [zkS]
 unfold zMJ
 by_cases h64 : l.length ≤ 64
 rotate_left
 ·have h64' : (l.length : Int) > 64 := by omega
  simp (config := {maxSteps := 4000000,implicitDefEqProofs := false}) (disch := omega) only [go_sem,h64',h64]
 have h64' : ¬ (l.length : Int) > 64 := by omega
 simp (config := {maxSteps := 4000000,implicitDefEqProofs := false}) (disch := omega) only [go_sem,h64',h64]
 generalize hg : l.all ceB = g
 refine z13 (ι := {k : Nat // k ≤ l.length ∧ (l.drop k).all ceB = g}) (fun k=>⟨[],[(1,V (.func (.func 84) #[] #[])),(10,SL (l.map ceE)),(11,nA l.length),(12,nA k.1)]⟩) (fun k=>l.length - k.1) (fun _=>some (bA g,[])) ?_ ⟨0,Nat.zero_le _,hg⟩ (by dsimp only;omega)
 rintro kx hkx ⟨k,hk,hG⟩ kc hkc
 dsimp only at hkc hG ⊢
 rw [zgY]
 by_cases hlt : k < l.length
 ·have hlt' : (k : Int) < (l.length : Int) := by omega
  rw [List.drop_eq_getElem_cons hlt,List.all_cons] at hG
  have hV := zFt m l[k] hm
  rw [zo0] at hV
  have hF : zj9 (z2y m) 84 = some (.tell (zbT m)) := rfl
  have hT : zbT m [.agg (ceC l[k])] = zld m (.agg (ceC l[k])) := rfl
  cases h1 : ceB l[k] with
  |false =>
   rw [h1] at hG hV
   have hG2 : false = g := hG
   subst hG2
   simp (config := {maxSteps := 4000000,implicitDefEqProofs := false}) (disch := omega) only [go_sem,hlt',hF,hT,hV,z2s,hkx,z6d]
  |true =>
   rw [h1] at hG hV
   have step := hkc ⟨k + 1,by omega,hG⟩ (by dsimp only;omega)
   simp (config := {maxSteps := 4000000,implicitDefEqProofs := false}) (disch := omega) only [go_sem,hlt',hF,hT,hV,z2s,z6d]
   exact step
 ·have hlt' : ¬ (k : Int) < (l.length : Int) := by omega
  rw [List.drop_of_length_le (by omega)] at hG
  have hG2 : true = g := hG
  subst hG2
  simp (config := {maxSteps := 4000000,implicitDefEqProofs := false}) (disch := omega) only [go_sem,hlt',hkx,z6d]
theorem zyM (m : Nat) (x : Ch) (hm : 70 < m) : zfV m (cgE x) = some (bA (cgB x),[]) := by
 have hN := zqD m [x.vw,x.st,x.rt] (by simp only [List.length_cons,List.length_nil];omega) (by simp only [List.length_cons,List.length_nil];omega)
 have hP := zxu m x.fr
 have hL := zq0 m x.pf hm
 have hC := zu2 m x.cs hm
 rw [zo4,zaD]
 unfold cgB
 simp only [List.map_cons,List.map_nil] at hN
 cases h0 : zLr x.fr with
 |false=>rw [h0] at hP;simp (config := {maxSteps := 4000000,implicitDefEqProofs := false}) (disch := omega) only [go_sem,hP]
 |true =>
  rw [h0] at hP
  cases h : [x.vw,x.st,x.rt].all zMh with
  |false=>rw [h] at hN;simp (config := {maxSteps := 4000000,implicitDefEqProofs := false}) (disch := omega) only [go_sem,hP,hN]
  |true =>
   rw [h] at hN
   cases h1 : zNl x.pf with
   |false=>rw [h1] at hL;simp (config := {maxSteps := 4000000,implicitDefEqProofs := false}) (disch := omega) only [go_sem,hP,hN,hL]
   |true=>rw [h1] at hL;simp (config := {maxSteps := 4000000,implicitDefEqProofs := false}) (disch := omega) only [go_sem,hP,hN,hL,hC]
end

section
open Go.RowKit
theorem zyr {n : Nat} {l : List UInt8} : (bC l).all (ltA n) = true := List.all_eq_true.2 fun d hd=>by
 obtain ⟨b,_,rfl⟩ := List.mem_map.1 hd;rfl
theorem zA6 {l : List UInt8} : ((bC l).all fun d=>decide ((cellsOf d).length = 1)) = true := List.all_eq_true.2 fun d hd=>by
 obtain ⟨b,_,rfl⟩ := List.mem_map.1 hd;rfl
theorem zG1 {R : Type} {o : AObj} {Y : List AObj} {K : AObj → Option R} : z2Q (Y ++ [o]) Y.length K = K o := by simp [z2Q]
theorem zwA {n e z : Nat} {c : List AV} : ltO n ⟨1,e,z,c⟩ = c.all (ltA n) := _root_.id rfl
theorem zwD {n e z : Nat} {c : List AV} : ltO n ⟨2,e,z,c⟩ = c.all (ltA n) := _root_.id rfl
theorem zFx {Y Z : List AObj} : (Y ++ Z).take Y.length = Y := List.take_left
theorem zKa (m n : Nat) (v : Int) (h0 : 0 ≤ v) (h1 : v < 18446744073709551616) : z4W m [V (.int .u64 v)] n = some (OW n (put v.toNat).length,[⟨2,z1Q,1,bC (put v.toNat)⟩]) := by
 have := zqj m n v.toNat (by omega)
 rw [Int.toNat_of_nonneg h0] at this
 exact this
def zeL (l : List Int) : List UInt8 := l.flatMap fun v=>put v.toNat
theorem ziE (v : Int) (l : List Int) : zeL (v :: l) = put v.toNat ++ zeL l := rfl
theorem znQ : zeL [] = [] := rfl
theorem zlM (a b : List Int) : zeL (a ++ b) = zeL a ++ zeL b := by simp [zeL]
def inI (l : List Int) : Prop := ∀ v ∈ l,0 ≤ v ∧ v < 9223372036854775808
theorem z8g : ∀ {l : List Int},inI l → (zeL l).length ≤ 10 * l.length
 |[],_=>Nat.le_refl _
 |v :: r,h=>by
  have h1 := z8g (l := r) (fun x hx=>h x (List.mem_cons_of_mem _ hx))
  have h2 := h v (List.mem_cons_self ..)
  have h3 := zci v.toNat (by omega)
  rw [ziE,List.length_append,List.length_cons];omega
theorem inI.take {l : List Int} (h : inI l) (k : Nat) : inI (l.take k) := fun v hv=>h v (List.mem_of_mem_take hv)
attribute [local go_sem] z6x znr zim zl3 znw zj7 zut zii zw8 zoB znT zva zdk z9t zwp zd2 z9U zw5 zcG z9R zw2 ze0 z9K zwc zdv z9B ziK zd1 ziP zop zok zdz ziu zda zdw zfG zhD zo0 zoy zi3 ziH zoh ziC zwi ziG zvM znZ zoK zuK zcE z9s zw4 zdP z9q zvE zdh z9Q zhM z7f z58 zw1 zdI z9O zj8 zd3 zi7 zno zoe zdJ zic zdF zcX zfx zi8 zaD znN ziB zmB zoo ziO zvb ziX zvZ znv zon zv4 zdb z9S zwg zdZ z9X zun zd7 z9P zuX ze2 z9E zv6 zdn z9M zv5 zdS z9A zhP zdB zi9 znO zoa zcS ziS zcC zdx zgR zhQ zmH zot ziV zmt znC zhE zup zhJ zvO znS znV zvX zcP z9Z zvW zcR z9v zwk zcV z9p zwn zcY z9z zux zcD z9N zj1 z7s z5l zvA zdN z9o zoc z9w z7m zih zdG ziz zo7 znJ zdY zig zdH zde zhR zhX ztp znA zhN znx zou zhx zvj ziJ zuT zoz zox zuA zdO z9H zvp zd5 z9T ziM z6A z5a zuG zdl z9J zij zd4 zhL zoC znq zd8 zia zdu zcU zfe ziW zvn znX zif zog znG ziU zw7 zhz zv8 zny zow zvc zcH z9F zvm zcW z9L zuS zcJ z9I zvV zcF za0 zuH zdV z9C zvL zdR z9Y zik ziv znL zMd zvo zuZ zvk zvS zvN zus zuJ z3r zyr zA6 zG1 zwA zwD zFx z4q zzv List.take_length
theorem zsk (m : Nat) (X : AObj) (B : List UInt8) (Y : List AObj) (l : List Int) (hX : ∀ n,ltO n X = true) (hY : ∀ n,Y.all (ltO n) = true) (hl : inI l) (hm : l.length < m) (hB : B.length + 10 * l.length ≤ 34359738368) :
  z1A m (OP 1 0) (SL (l.map nA)) (X :: ⟨1,z0v,0,[OW 2 B.length]⟩ :: ⟨2,z1Q,1,bC B⟩ :: Y) = some (TU [],(X :: ⟨1,z0v,0,[OW 2 (B ++ zeL l).length]⟩ :: ⟨2,z1Q,1,bC (B ++ zeL l)⟩ :: Y)) := by
 obtain ⟨r,hr⟩ : ∃ r,r = some (TU [],(X :: ⟨1,z0v,0,[OW 2 (B ++ zeL l).length]⟩ :: ⟨2,z1Q,1,bC (B ++ zeL l)⟩ :: Y)) := ⟨_,rfl⟩
 have hY2 : 2 < Y.length + 1 + 1 + 1 := by omega
 rw [← hr,ziI]
 simp (config := {maxSteps := 4000000,implicitDefEqProofs := false}) (disch := omega) only [go_sem,]
 have e0 : B = B ++ zeL (l.take 0) := by simp [zeL]
 have hr' := hr
 clear hr
 rw [e0]
 refine z13 (ι := {k : Nat // k ≤ l.length}) (fun k=>⟨(X :: ⟨1,z0v,0,[OW 2 (B ++ zeL (l.take k.1)).length]⟩ :: ⟨2,z1Q,1,bC (B ++ zeL (l.take k.1))⟩ :: Y),[(0,OP 1 0),(6,SL (l.map nA)),(7,nA l.length),(8,nA k.1)]⟩) (fun k=>l.length - k.1) (fun _=>r) ?_ ⟨0,Nat.zero_le _⟩ (by dsimp only;omega)
 rintro kx hkx ⟨k,hk⟩ kc hkc
 dsimp only at hkc ⊢
 have hlen := z8g (hl.take k)
 rw [List.length_take,Nat.min_eq_left hk] at hlen
 rw [zff]
 by_cases hlt : k < l.length
 ·have hlt' : (k : Int) < (l.length : Int) := by omega
  obtain ⟨hv0,hv1⟩ := hl l[k] (List.getElem_mem hlt)
  have hp := zci l[k].toNat (by omega)
  have hP := zKa m (Y.length + 3) l[k] hv0 (by omega)
  have hw : IntKind.u64.wrap l[k] = l[k] := by rw [zFJ (by omega) (by omega)]
  have step := hkc ⟨k + 1,by omega⟩ (by dsimp only;omega)
  dsimp only at step
  rw [List.take_succ_eq_append_getElem hlt,zlM,ziE,znQ,List.append_nil,← List.append_assoc] at step
  generalize zeL (l.take k) = B1 at hlen step ⊢
  have hs : B.length + B1.length + (put l[k].toNat).length ≤ 34359738368 := by omega
  have hY3 : Y.length ≤ Y.length + 1 := Nat.le_succ _
  simp only [List.length_append,z4q] at step
  simp (config := {maxSteps := 4000000,implicitDefEqProofs := false}) (disch := omega) only [go_sem,hlt',hw,hP,hX,hY,hY2,hY3,hs,z2s]
  exact step
 ·have hlt' : ¬ (k : Int) < (l.length : Int) := by omega
  have hk2 : l.take k = l := List.take_of_length_le (by omega)
  rw [hk2] at hlen ⊢
  rw [hr']
  generalize zeL l = B1 at hlen ⊢
  simp (config := {maxSteps := 4000000,implicitDefEqProofs := false}) (disch := omega) only [go_sem,hlt',hkx,hX,hY,hY2]
theorem zId {o o' : AObj} {Y : List AObj} : (Y ++ [o]).set Y.length o' = Y ++ [o'] := by simp
def zww (s : List UInt8) : List UInt8 := put s.length ++ s
theorem zi2 (n : Nat) : zeL [(n : Int)] = put n := by simp [zeL]
theorem zIY {H : List AObj} {fn : Fn} {i : Nat} : ro H (CL fn 1 [OP i 0]) = CL fn 1 [OP i 0] := _root_.id rfl
theorem zHw (m : Nat) (X : AObj) (B : List UInt8) (Y : List AObj) (s : List UInt8) (hX : ∀ n,ltO n X = true) (hY : ∀ n,Y.all (ltO n) = true) (hm : 70 < m) (hB : B.length + 10 + s.length ≤ 34359738368) :
  z7a m (OP 1 0) (sA s) (X :: ⟨1,z0v,0,[OW 2 B.length]⟩ :: ⟨2,z1Q,1,bC B⟩ :: Y) = some (TU [],(X :: ⟨1,z0v,0,[OW 2 (B ++ zww s).length]⟩ :: ⟨2,z1Q,1,bC (B ++ zww s)⟩ :: Y)) := by
 have hN := zsk m X B Y [(s.length : Int)] hX hY (by intro v hv;simp at hv;omega) (by simp;omega) (by simp;omega)
 rw [zi2] at hN
 simp only [List.map_cons,List.map_nil,List.length_append,z4q] at hN
 have hp := zci s.length (by omega)
 have hY2 : 2 < Y.length + 1 + 1 + 1 := by omega
 have hs : B.length + ((put s.length).length + s.length) ≤ 34359738368 := by omega
 rw [ziq]
 unfold zww
 simp (config := {maxSteps := 4000000,implicitDefEqProofs := false}) (disch := omega) only [go_sem,hN,hX,hY,hY2,hs,zER,List.append_assoc,Nat.add_assoc]
theorem zrn {x : Sm} (h : smB x = true) : inI [x.fr,x.kd,x.vw,x.sq,x.tm] := by
 unfold smB zLr at h
 simp only [Bool.and_eq_true,decide_eq_true_eq,List.all_eq_true] at h
 obtain ⟨h1,h2⟩ := h
 intro v hv
 rcases List.mem_cons.1 hv with rfl|hv
 ·omega
 ·have := h2 v hv
  unfold zMh at this
  simp only [Bool.and_eq_true,decide_eq_true_eq] at this
  omega
theorem zpg {l : List Int} (h : l.all zMh = true) : inI l := by
 intro v hv
 have := List.all_eq_true.1 h v hv
 unfold zMh at this
 simp only [Bool.and_eq_true,decide_eq_true_eq] at this
 omega
def zpf (x : Sm) : List UInt8 := zeL [x.fr,x.kd,x.vw,x.sq,x.tm]
theorem zrD {x : Sm} (h : smB x = true) : (zpf x).length ≤ 50 := z8g (zrn h)
theorem zCV (m : Nat) (X : AObj) (B : List UInt8) (Y : List AObj) (x : Sm) (hX : ∀ n,ltO n X = true) (hY : ∀ n,Y.all (ltO n) = true) (hx : smB x = true) (hm : 70 < m) (hB : B.length + 50 ≤ 34359738368) :
  z6L m (OP 1 0) (smE x) (X :: ⟨1,z0v,0,[OW 2 B.length]⟩ :: ⟨2,z1Q,1,bC B⟩ :: Y) = some (TU [],(X :: ⟨1,z0v,0,[OW 2 (B ++ zpf x).length]⟩ :: ⟨2,z1Q,1,bC (B ++ zpf x)⟩ :: Y)) := by
 have hN := zsk m X B (Y ++ [⟨1,z01,0,smC x⟩]) [x.fr,x.kd,x.vw,x.sq,x.tm] hX (fun n=>by rw [List.all_append,hY];rfl) (zrn hx) (by simp;omega) (by simpa using hB)
 simp only [List.map_cons,List.map_nil,List.length_append,z4q] at hN
 have hY2 : 2 < Y.length + 1 + 1 + 1 := by omega
 have hY3 : Y.length ≤ Y.length + 1 := Nat.le_succ _
 rw [ziT,z6x]
 unfold zpf
 simp (config := {maxSteps := 4000000,implicitDefEqProofs := false}) (disch := omega) only [go_sem,hN,hX,hY,hY2,hY3]
theorem zH1 {m : Nat} {a b : AV} {H : List AObj} : z3A m [a,b] H = z6L m a b H := _root_.id rfl
theorem zGQ {m : Nat} : zj9 (z2v m) 87 = some (.keep (z3A m)) := _root_.id rfl
def z4G (l : List Sm) : List UInt8 := put l.length ++ l.flatMap zpf
theorem zcL : ∀ {l : List Sm},l.all smB = true → (l.flatMap zpf).length ≤ 50 * l.length
 |[],_=>Nat.le_refl _
 |x :: r,h=>by
  rw [List.all_cons,Bool.and_eq_true] at h
  have h1 := zcL h.2
  have h2 := zrD h.1
  rw [List.flatMap_cons,List.length_append,List.length_cons];omega
theorem zpw (m : Nat) (X : AObj) (B : List UInt8) (Y : List AObj) (l : List Sm) (hX : ∀ n,ltO n X = true) (hY : ∀ n,Y.all (ltO n) = true) (hx : l.all smB = true) (h64 : l.length ≤ 64) (hm : 70 < m) (hB : B.length + 10 + 50 * l.length ≤ 34359738368) :
  z7i m (OP 1 0) (SL (l.map smE)) (CL (.func 87) 1 [OP 1 0]) (X :: ⟨1,z0v,0,[OW 2 B.length]⟩ :: ⟨2,z1Q,1,bC B⟩ :: Y) = some (TU [],(X :: ⟨1,z0v,0,[OW 2 (B ++ z4G l).length]⟩ :: ⟨2,z1Q,1,bC (B ++ z4G l)⟩ :: Y)) := by
 have hp := zci l.length (by omega)
 obtain ⟨r,hr⟩ : ∃ r,r = some (TU [],(X :: ⟨1,z0v,0,[OW 2 (B ++ z4G l).length]⟩ :: ⟨2,z1Q,1,bC (B ++ z4G l)⟩ :: Y)) := ⟨_,rfl⟩
 have hY2 : 2 < Y.length + 1 + 1 + 1 := by omega
 have hY3 : Y.length ≤ Y.length + 1 := Nat.le_succ _
 have hN := zsk m X B Y [(l.length : Int)] hX hY (by intro v hv;simp at hv;omega) (by simp;omega) (by simp;omega)
 rw [zi2] at hN
 simp only [List.map_cons,List.map_nil] at hN
 rw [← hr,zl5]
 rw [show put l.length = put l.length ++ (l.take 0).flatMap zpf by simp] at hN
 generalize hz : (l.take 0).flatMap zpf = Z at hN
 simp only [List.length_append,z4q] at hN
 simp (config := {maxSteps := 4000000,implicitDefEqProofs := false}) (disch := omega) only [go_sem,hN]
 subst hz
 simp only [← z4q,← List.length_append]
 refine z13 (ι := {k : Nat // k ≤ l.length}) (fun k=>⟨(X :: ⟨1,z0v,0,[OW 2 (B ++ (put l.length ++ (l.take k.1).flatMap zpf)).length]⟩ :: ⟨2,z1Q,1,bC (B ++ (put l.length ++ (l.take k.1).flatMap zpf))⟩ :: Y),[(2,CL (.func 87) 1 [OP 1 0]),(13,SL (l.map smE)),(14,nA l.length),(15,nA k.1)]⟩) (fun k=>l.length - k.1) (fun _=>r) ?_ ⟨0,Nat.zero_le _⟩ (by dsimp only;omega)
 rintro kx hkx ⟨k,hk⟩ kc hkc
 dsimp only at hkc ⊢
 rw [zhv]
 by_cases hlt : k < l.length
 ·have hlt' : (k : Int) < (l.length : Int) := by omega
  have hv := List.all_eq_true.1 hx l[k] (List.getElem_mem hlt)
  have hlen := zcL (l := l.take k) (List.all_eq_true.2 fun y hy=>List.all_eq_true.1 hx y (List.mem_of_mem_take hy))
  rw [List.length_take,Nat.min_eq_left hk] at hlen
  have step := hkc ⟨k + 1,by omega⟩ (by dsimp only;omega)
  dsimp only at step
  rw [List.take_succ_eq_append_getElem hlt,List.flatMap_append,List.flatMap_cons,List.flatMap_nil,List.append_nil] at step
  generalize (l.take k).flatMap zpf = B1 at hlen step ⊢
  have hV := zCV m X (B ++ (put l.length ++ B1)) (Y ++ [⟨1,z01,0,smC l[k]⟩]) l[k] hX (fun n=>by rw [List.all_append,hY];rfl) hv hm (by simp only [List.length_append];omega)
  rw [z6x] at hV
  simp only [List.length_append,z4q,List.append_assoc,Nat.add_assoc] at hV step
  simp (config := {maxSteps := 4000000,implicitDefEqProofs := false}) (disch := omega) only [go_sem,hlt',hV,hX,hY,hY2,hY3,z2s,zId,zH1,zGQ,List.append_assoc,Nat.add_assoc]
  exact step
 ·have hlt' : ¬ (k : Int) < (l.length : Int) := by omega
  have hk2 : l.take k = l := List.take_of_length_le (by omega)
  rw [hk2,hr]
  unfold z4G
  generalize l.flatMap zpf = B1
  simp (config := {maxSteps := 4000000,implicitDefEqProofs := false}) (disch := omega) only [go_sem,hlt',hkx,hX,hY,hY2]
theorem zmW {l : List Sm} (h : zNl l = true) : l.length ≤ 64 ∧ l.all smB = true := by
 unfold zNl at h
 simpa [Bool.and_eq_true] using h
theorem zqT (s : List UInt8) (h : s.length ≤ 65536) : (zww s).length ≤ 65546 := by
 have := zci s.length (by omega)
 unfold zww;rw [List.length_append];omega
theorem z7O {l : List Sm} (h : zNl l = true) : (z4G l).length ≤ 3210 := by
 obtain ⟨h1,h2⟩ := zmW h
 have h3 := zcL h2
 have := zci l.length (by omega)
 unfold z4G;rw [List.length_append];omega
theorem ztf {x : Ce} (h : ceB x = true) : [x.sq,x.vw,x.tm].all zMh = true ∧ x.body.length ≤ 65536 ∧ zNl x.vs = true := by
 unfold ceB at h
 rw [Bool.and_eq_true,Bool.and_eq_true,decide_eq_true_eq] at h
 exact h
def zmu (x : Ce) : List UInt8 := zeL [x.sq,x.vw,x.tm] ++ (zww x.body ++ z4G x.vs)
theorem zvU {x : Ce} (h : ceB x = true) : (zmu x).length ≤ 70000 := by
 obtain ⟨h1,h2,h3⟩ := ztf h
 have e1 := z8g (zpg h1)
 have e2 := zqT x.body h2
 have e3 := z7O h3
 unfold zmu
 rw [List.length_append,List.length_append]
 simp only [List.length_cons,List.length_nil] at e1
 omega
theorem zBv (m : Nat) (X : AObj) (B : List UInt8) (Y : List AObj) (x : Ce) (hX : ∀ n,ltO n X = true) (hY : ∀ n,Y.all (ltO n) = true) (hx : ceB x = true) (hm : 70 < m) (hB : B.length + 70000 ≤ 34359738368) :
  z6F m (OP 1 0) (ceE x) (X :: ⟨1,z0v,0,[OW 2 B.length]⟩ :: ⟨2,z1Q,1,bC B⟩ :: Y) = some (TU [],(X :: ⟨1,z0v,0,[OW 2 (B ++ zmu x).length]⟩ :: ⟨2,z1Q,1,bC (B ++ zmu x)⟩ :: Y)) := by
 obtain ⟨h1,h2,h3⟩ := ztf hx
 obtain ⟨h4,h5⟩ := zmW h3
 have e1 := z8g (zpg h1)
 have e2 := zqT x.body h2
 have e3 := z7O h3
 simp only [List.length_cons,List.length_nil] at e1
 have hY' : ∀ n,(Y ++ [(⟨1,z07,0,ceC x⟩ : AObj)]).all (ltO n) = true := fun n=>by rw [List.all_append,hY];rfl
 have hN := zsk m X B (Y ++ [⟨1,z07,0,ceC x⟩]) [x.sq,x.vw,x.tm] hX hY' (zpg h1) (by simp;omega) (by simp;omega)
 have hT := zHw m X (B ++ zeL [x.sq,x.vw,x.tm]) (Y ++ [⟨1,z07,0,ceC x⟩]) x.body hX hY' hm (by rw [List.length_append];omega)
 have hE := zpw m X (B ++ zeL [x.sq,x.vw,x.tm] ++ zww x.body) (Y ++ [⟨1,z07,0,ceC x⟩]) x.vs hX hY' h5 h4 hm (by rw [List.length_append,List.length_append];omega)
 simp only [List.map_cons,List.map_nil,List.length_append,z4q,List.append_assoc,Nat.add_assoc] at hN hT hE
 have hY2 : 2 < Y.length + 1 + 1 + 1 := by omega
 have hY3 : Y.length ≤ Y.length + 1 := Nat.le_succ _
 rw [zhI,zo0]
 unfold zmu
 simp (config := {maxSteps := 4000000,implicitDefEqProofs := false}) (disch := omega) only [go_sem,hN,hT,hE,zIY,hX,hY,hY2,hY3,List.append_assoc,Nat.add_assoc]
theorem zHE {m : Nat} {a b : AV} {H : List AObj} : z3F m [a,b] H = z6F m a b H := _root_.id rfl
theorem zHW {m : Nat} : zj9 (z2x m) 89 = some (.keep (z3F m)) := _root_.id rfl
def zdr (l : List Ce) : List UInt8 := put l.length ++ l.flatMap zmu
theorem zdW : ∀ {l : List Ce},l.all ceB = true → (l.flatMap zmu).length ≤ 70000 * l.length
 |[],_=>Nat.le_refl _
 |x :: r,h=>by
  rw [List.all_cons,Bool.and_eq_true] at h
  have h1 := zdW h.2
  have h2 := zvU h.1
  rw [List.flatMap_cons,List.length_append,List.length_cons];omega
theorem zsD (m : Nat) (X : AObj) (B : List UInt8) (Y : List AObj) (l : List Ce) (hX : ∀ n,ltO n X = true) (hY : ∀ n,Y.all (ltO n) = true) (hx : l.all ceB = true) (h64 : l.length ≤ 64) (hm : 70 < m) (hB : B.length + 10 + 70000 * l.length ≤ 34359738368) :
  z9x m (OP 1 0) (SL (l.map ceE)) (CL (.func 89) 1 [OP 1 0]) (X :: ⟨1,z0v,0,[OW 2 B.length]⟩ :: ⟨2,z1Q,1,bC B⟩ :: Y) = some (TU [],(X :: ⟨1,z0v,0,[OW 2 (B ++ zdr l).length]⟩ :: ⟨2,z1Q,1,bC (B ++ zdr l)⟩ :: Y)) := by
 have hp := zci l.length (by omega)
 obtain ⟨r,hr⟩ : ∃ r,r = some (TU [],(X :: ⟨1,z0v,0,[OW 2 (B ++ zdr l).length]⟩ :: ⟨2,z1Q,1,bC (B ++ zdr l)⟩ :: Y)) := ⟨_,rfl⟩
 have hY2 : 2 < Y.length + 1 + 1 + 1 := by omega
 have hY3 : Y.length ≤ Y.length + 1 := Nat.le_succ _
 have hN := zsk m X B Y [(l.length : Int)] hX hY (by intro v hv;simp at hv;omega) (by simp;omega) (by simp;omega)
 rw [zi2] at hN
 simp only [List.map_cons,List.map_nil] at hN
 rw [← hr,zkO]
 rw [show put l.length = put l.length ++ (l.take 0).flatMap zmu by simp] at hN
 generalize hz : (l.take 0).flatMap zmu = Z at hN
 simp only [List.length_append,z4q] at hN
 simp (config := {maxSteps := 4000000,implicitDefEqProofs := false}) (disch := omega) only [go_sem,hN]
 subst hz
 simp only [← z4q,← List.length_append]
 refine z13 (ι := {k : Nat // k ≤ l.length}) (fun k=>⟨(X :: ⟨1,z0v,0,[OW 2 (B ++ (put l.length ++ (l.take k.1).flatMap zmu)).length]⟩ :: ⟨2,z1Q,1,bC (B ++ (put l.length ++ (l.take k.1).flatMap zmu))⟩ :: Y),[(2,CL (.func 89) 1 [OP 1 0]),(13,SL (l.map ceE)),(14,nA l.length),(15,nA k.1)]⟩) (fun k=>l.length - k.1) (fun _=>r) ?_ ⟨0,Nat.zero_le _⟩ (by dsimp only;omega)
 rintro kx hkx ⟨k,hk⟩ kc hkc
 dsimp only at hkc ⊢
 rw [zhm]
 by_cases hlt : k < l.length
 ·have hlt' : (k : Int) < (l.length : Int) := by omega
  have hv := List.all_eq_true.1 hx l[k] (List.getElem_mem hlt)
  have hlen := zdW (l := l.take k) (List.all_eq_true.2 fun y hy=>List.all_eq_true.1 hx y (List.mem_of_mem_take hy))
  rw [List.length_take,Nat.min_eq_left hk] at hlen
  have step := hkc ⟨k + 1,by omega⟩ (by dsimp only;omega)
  dsimp only at step
  rw [List.take_succ_eq_append_getElem hlt,List.flatMap_append,List.flatMap_cons,List.flatMap_nil,List.append_nil] at step
  generalize (l.take k).flatMap zmu = B1 at hlen step ⊢
  have hV := zBv m X (B ++ (put l.length ++ B1)) (Y ++ [⟨1,z07,0,ceC l[k]⟩]) l[k] hX (fun n=>by rw [List.all_append,hY];rfl) hv hm (by simp only [List.length_append];omega)
  rw [zo0] at hV
  simp only [List.length_append,z4q,List.append_assoc,Nat.add_assoc] at hV step
  simp (config := {maxSteps := 4000000,implicitDefEqProofs := false}) (disch := omega) only [go_sem,hlt',hV,hX,hY,hY2,hY3,z2s,zId,zHE,zHW,List.append_assoc,Nat.add_assoc]
  exact step
 ·have hlt' : ¬ (k : Int) < (l.length : Int) := by omega
  have hk2 : l.take k = l := List.take_of_length_le (by omega)
  rw [hk2,hr]
  unfold zdr
  generalize l.flatMap zmu = B1
  simp (config := {maxSteps := 4000000,implicitDefEqProofs := false}) (disch := omega) only [go_sem,hlt',hkx,hX,hY,hY2]
theorem zpC {l : List Ce} (h : zMJ l = true) : l.length ≤ 64 ∧ l.all ceB = true := by
 unfold zMJ at h
 simpa [Bool.and_eq_true] using h
theorem zhj {l : List Ce} (h : zMJ l = true) : (zdr l).length ≤ 4480010 := by
 obtain ⟨h1,h2⟩ := zpC h
 have h3 := zdW h2
 have := zci l.length (by omega)
 unfold zdr;rw [List.length_append];omega
theorem zsj {x : Ch} (h : cgB x = true) : zLr x.fr = true ∧ [x.vw,x.st,x.rt].all zMh = true ∧ zNl x.pf = true ∧ zMJ x.cs = true := by
 unfold cgB at h
 rw [Bool.and_eq_true,Bool.and_eq_true,Bool.and_eq_true] at h
 exact h
theorem zqJ {v : Int} (h : zLr v = true) : zMh v = true := by
 unfold zLr at h
 unfold zMh
 simp only [Bool.and_eq_true,decide_eq_true_eq] at h ⊢
 omega
def z2k (x : Ch) : List UInt8 := zeL [x.fr,x.vw,x.st,x.rt] ++ (z4G x.pf ++ zdr x.cs)
theorem zp0 {x : Ch} (h : cgB x = true) : inI [x.fr,x.vw,x.st,x.rt] := by
 obtain ⟨h0,h1,_,_⟩ := zsj h
 exact zpg (by rw [List.all_cons,zqJ h0,h1];rfl)
theorem zb0 {x : Ch} (h : cgB x = true) : (z2k x).length ≤ 4500000 := by
 obtain ⟨h0,h1,h2,h3⟩ := zsj h
 have e1 := z8g (zp0 h)
 have e2 := z7O h2
 have e3 := zhj h3
 unfold z2k
 rw [List.length_append,List.length_append]
 simp only [List.length_cons,List.length_nil] at e1
 omega
theorem zuF (m : Nat) (X : AObj) (B : List UInt8) (Y : List AObj) (x : Ch) (hX : ∀ n,ltO n X = true) (hY : ∀ n,Y.all (ltO n) = true) (hx : cgB x = true) (hm : 70 < m) (hB : B.length + 4500000 ≤ 34359738368) :
  z5c m (OP 1 0) (cgE x) (X :: ⟨1,z0v,0,[OW 2 B.length]⟩ :: ⟨2,z1Q,1,bC B⟩ :: Y) = some (TU [],(X :: ⟨1,z0v,0,[OW 2 (B ++ z2k x).length]⟩ :: ⟨2,z1Q,1,bC (B ++ z2k x)⟩ :: Y)) := by
 obtain ⟨h0,h1,h2,h3⟩ := zsj hx
 obtain ⟨h4,h5⟩ := zmW h2
 obtain ⟨h6,h7⟩ := zpC h3
 have e1 := z8g (zp0 hx)
 have e2 := z7O h2
 have e3 := zhj h3
 simp only [List.length_cons,List.length_nil] at e1
 have hY' : ∀ n,(Y ++ [(⟨1,z00,0,cgC x⟩ : AObj)]).all (ltO n) = true := fun n=>by rw [List.all_append,hY];rfl
 have hN := zsk m X B (Y ++ [⟨1,z00,0,cgC x⟩]) [x.fr,x.vw,x.st,x.rt] hX hY' (zp0 hx) (by simp;omega) (by simp;omega)
 have hT := zpw m X (B ++ zeL [x.fr,x.vw,x.st,x.rt]) (Y ++ [⟨1,z00,0,cgC x⟩]) x.pf hX hY' h5 h4 hm (by rw [List.length_append];omega)
 have hE := zsD m X (B ++ zeL [x.fr,x.vw,x.st,x.rt] ++ z4G x.pf) (Y ++ [⟨1,z00,0,cgC x⟩]) x.cs hX hY' h7 h6 hm (by rw [List.length_append,List.length_append];omega)
 simp only [List.map_cons,List.map_nil,List.length_append,z4q,List.append_assoc,Nat.add_assoc] at hN hT hE
 have hY2 : 2 < Y.length + 1 + 1 + 1 := by omega
 have hY3 : Y.length ≤ Y.length + 1 := Nat.le_succ _
 rw [zge,zaD]
 unfold z2k
 simp (config := {maxSteps := 4000000,implicitDefEqProofs := false}) (disch := omega) only [go_sem,hN,hT,hE,zIY,hX,hY,hY2,hY3,List.append_assoc,Nat.add_assoc]
theorem zJn {X : AObj} {T : Tm} (h : get T 3 = OP 1 0) : ghS 3 0 z1Q 1 ⟨[X,⟨1,z0v,0,[V (.slice none 0 0)]⟩],T⟩ = ⟨[X,⟨1,z0v,0,[OW 2 0]⟩,⟨2,z1Q,1,[]⟩],T⟩ := by
 unfold ghS
 rw [h]
 rfl
theorem zw_b {R : Type} {K1 : AV → Option R} : z1F (some ziA) (some zj3) [] K1 = K1 (.agg [V (.slice none 0 0)]) := _root_.id rfl
theorem zdf (m : Nat) (x : Ch) (hm : 70 < m) : z32 m (cgE x) = some (SL (bC (if cgB x = true then z2k x else [])),[]) := by
 have hC := zyM m x hm
 rw [zaD] at hC
 rw [zhr,zaD]
 cases h : cgB x with
 |false=>rw [h] at hC;have hz : bC [] = [] := rfl;simp (config := {maxSteps := 4000000,implicitDefEqProofs := false}) (disch := omega) only [go_sem,hC,hz]
 |true =>
  rw [h] at hC
  have hW := zuF m ⟨1,z00,0,cgC x⟩ [] [] x (fun n=>rfl) (fun n=>rfl) h hm (by simp)
  rw [zaD] at hW
  simp only [List.length_nil,List.nil_append,List.length_append] at hW
  have hz : bC [] = [] := rfl
  rw [hz] at hW
  simp (config := {maxSteps := 4000000,implicitDefEqProofs := false}) (disch := omega) only [go_sem,hC,zw_b]
  rw [zJn (by rfl),zeI]
  simp (config := {maxSteps := 4000000,implicitDefEqProofs := false}) (disch := omega) only [go_sem,hW]
end

section
open Go.RowKit
attribute [local go_sem] z6x znr zim zl3 znw zj7 zut zii zw8 zoB znT zva zdk z9t zwp zd2 z9U zw5 zcG z9R zw2 ze0 z9K zwc zdv z9B ziK zd1 ziP zop zok zdz ziu zda zdw zfG zhD zo0 zoy zi3 ziH zoh ziC zwi ziG zvM znZ zoK zuK zcE z9s zw4 zdP z9q zvE zdh z9Q zhM z7f z58 zw1 zdI z9O zj8 zd3 zi7 zno zoe zdJ zic zdF zcX zfx zi8 zaD znN ziB zmB zoo ziO zvb ziX zvZ znv zon zv4 zdb z9S zwg zdZ z9X zun zd7 z9P zuX ze2 z9E zv6 zdn z9M zv5 zdS z9A zhP zdB zi9 znO zoa zcS ziS zcC zdx zgR zhQ zmH zot ziV zmt znC zhE zup zhJ zvO znS znV zvX zcP z9Z zvW zcR z9v zwk zcV z9p zwn zcY z9z zux zcD z9N zj1 z7s z5l zvA zdN z9o zoc z9w z7m zih zdG ziz zo7 znJ zdY zig zdH zde zhR zhX ztp znA zhN znx zou zhx zvj ziJ zuT zoz zox zuA zdO z9H zvp zd5 z9T ziM z6A z5a zuG zdl z9J zij zd4 zhL zoC znq zd8 zia zdu zcU zfe ziW zvn znX zif zog znG ziU zw7 zhz zv8 zny zow zvc zcH z9F zvm zcW z9L zuS zcJ z9I zvV zcF za0 zuH zdV z9C zvL zdR z9Y zik ziv znL zMd zvo zuZ zvk zvS zvN zus zuJ z3r zyr zA6 zG1 zwA zwD zFx z4q zzv List.take_length
theorem zLg (m : Nat) (v : Int) : z56 m (nA v) (nA 63) = some (bA (zLr v),[]) := by
 rw [zef]
 unfold zLr
 by_cases h1 : 0 ≤ v
 ·simp (config := {maxSteps := 4000000,implicitDefEqProofs := false}) (disch := omega) only [go_sem,h1]
 ·simp (config := {maxSteps := 4000000,implicitDefEqProofs := false}) (disch := omega) only [go_sem,h1]
theorem zuf (m : Nat) (v : Int) : z0T m (nA v) = some (bA (zMh v),[]) := by
 rw [zjS,zef]
 unfold zMh
 by_cases h1 : 0 ≤ v
 ·simp (config := {maxSteps := 4000000,implicitDefEqProofs := false}) (disch := omega) only [go_sem,h1]
 ·simp (config := {maxSteps := 4000000,implicitDefEqProofs := false}) (disch := omega) only [go_sem,h1]
theorem ztb (m : Nat) (l : List Sm) (hm : l.length < m) (hl : l.length ≤ 34359738367) : z47 m (SL (l.map smE)) = some (bA (zNl l),[]) := by
 rw [zh2]
 simp (config := {maxSteps := 4000000,implicitDefEqProofs := false}) (disch := omega) only [go_sem,]
 generalize hg : zNl l = g
 refine z13 (ι := {k : Nat // k ≤ l.length ∧ (decide (l.length ≤ 64) && (l.drop k).all smB) = g}) (fun k=>⟨[],[(0,SL (l.map smE)),(3,nA k.1)]⟩) (fun k=>l.length - k.1) (fun _=>some (bA g,[])) ?_ ⟨0,Nat.zero_le _,hg⟩ (by dsimp only;omega)
 rintro kx hkx ⟨k,hk,hG⟩ kc hkc
 dsimp only at hkc hG ⊢
 rw [zeF]
 by_cases hlt : k < l.length
 ·have hlt' : (k : Int) < (l.length : Int) := by omega
  rw [List.drop_eq_getElem_cons hlt,List.all_cons] at hG
  have q0 := zLg m l[k].fr
  have q1 := zuf m l[k].kd
  have q2 := zuf m l[k].vw
  have q3 := zuf m l[k].sq
  have q4 := zuf m l[k].tm
  cases c0 : zLr l[k].fr with
  |false =>
   rw [c0] at q0
   have e : smB l[k] = false := by simp [smB,c0]
   rw [e] at hG
   have hG2 : false = g := by rw [← hG];simp
   subst hG2
   simp (config := {maxSteps := 4000000,implicitDefEqProofs := false}) (disch := omega) only [go_sem,hlt',q0,q1,q2,q3,q4,z2s,hkx,z0W,z0X,z0Y]
  |true =>
   rw [c0] at q0
   cases c1 : zMh l[k].kd with
   |false =>
    rw [c1] at q1
    have e : smB l[k] = false := by simp [smB,c0,c1]
    rw [e] at hG
    have hG2 : false = g := by rw [← hG];simp
    subst hG2
    simp (config := {maxSteps := 4000000,implicitDefEqProofs := false}) (disch := omega) only [go_sem,hlt',q0,q1,q2,q3,q4,z2s,hkx,z0W,z0X,z0Y]
   |true =>
    rw [c1] at q1
    cases c2 : zMh l[k].vw with
    |false =>
     rw [c2] at q2
     have e : smB l[k] = false := by simp [smB,c0,c1,c2]
     rw [e] at hG
     have hG2 : false = g := by rw [← hG];simp
     subst hG2
     simp (config := {maxSteps := 4000000,implicitDefEqProofs := false}) (disch := omega) only [go_sem,hlt',q0,q1,q2,q3,q4,z2s,hkx,z0W,z0X,z0Y]
    |true =>
     rw [c2] at q2
     cases c3 : zMh l[k].sq with
     |false =>
      rw [c3] at q3
      have e : smB l[k] = false := by simp [smB,c0,c1,c2,c3]
      rw [e] at hG
      have hG2 : false = g := by rw [← hG];simp
      subst hG2
      simp (config := {maxSteps := 4000000,implicitDefEqProofs := false}) (disch := omega) only [go_sem,hlt',q0,q1,q2,q3,q4,z2s,hkx,z0W,z0X,z0Y]
     |true =>
      rw [c3] at q3
      cases c4 : zMh l[k].tm with
      |false =>
       rw [c4] at q4
       have e : smB l[k] = false := by simp [smB,c0,c1,c2,c3,c4]
       rw [e] at hG
       have hG2 : false = g := by rw [← hG];simp
       subst hG2
       simp (config := {maxSteps := 4000000,implicitDefEqProofs := false}) (disch := omega) only [go_sem,hlt',q0,q1,q2,q3,q4,z2s,hkx,z0W,z0X,z0Y]
      |true =>
       rw [c4] at q4
       have e : smB l[k] = true := by simp [smB,c0,c1,c2,c3,c4]
       rw [e] at hG
       have step := hkc ⟨k + 1,by omega,hG⟩ (by dsimp only;omega)
       simp (config := {maxSteps := 4000000,implicitDefEqProofs := false}) (disch := omega) only [go_sem,hlt',q0,q1,q2,q3,q4,z2s,z0W,z0X,z0Y]
       exact step
 ·have hlt' : ¬ (k : Int) < (l.length : Int) := by omega
  rw [List.drop_of_length_le (by omega)] at hG
  have hG2 : decide (l.length ≤ 64) = g := by rw [← hG];simp
  subst hG2
  have e : decide ((l.length : Int) ≤ 64) = decide (l.length ≤ 64) := by apply decide_eq_decide.2;omega
  simp (config := {maxSteps := 4000000,implicitDefEqProofs := false}) (disch := omega) only [go_sem,hlt',e,hkx,z0W,z0X,z0Y]
theorem zv2 (m : Nat) (x : Ch) (hp : x.pf.length < m) (hp2 : x.pf.length ≤ 34359738367) (hc : x.cs.length < m) (hc2 : x.cs.length ≤ 34359738367) (hv : ∀ y ∈ x.cs,y.vs.length < m ∧ y.vs.length ≤ 34359738367) : z1S m (cgE x) = some (bA (cgB x),[]) := by
 have q0 := zLg m x.fr
 have q1 := zuf m x.vw
 have q2 := zuf m x.st
 have q3 := zuf m x.rt
 have q4 := ztb m x.pf hp hp2
 have E : cgB x = (zLr x.fr && ([x.vw,x.st,x.rt].all zMh && (zNl x.pf && (decide (x.cs.length ≤ 64) && x.cs.all ceB)))) := rfl
 rw [zgs,zaD]
 cases c0 : zLr x.fr with
 |false =>
  rw [c0] at q0
  have e : cgB x = false := by simp [E,c0]
  rw [e]
  simp (config := {maxSteps := 4000000,implicitDefEqProofs := false}) (disch := omega) only [go_sem,q0,q1,q2,q3,q4,z0h,z0f,z0i,z0e,z0g]
 |true =>
  rw [c0] at q0
  cases c1 : zMh x.vw with
  |false =>
   rw [c1] at q1
   have e : cgB x = false := by simp [E,c0,c1]
   rw [e]
   simp (config := {maxSteps := 4000000,implicitDefEqProofs := false}) (disch := omega) only [go_sem,q0,q1,q2,q3,q4,z0h,z0f,z0i,z0e,z0g]
  |true =>
   rw [c1] at q1
   cases c2 : zMh x.st with
   |false =>
    rw [c2] at q2
    have e : cgB x = false := by simp [E,c0,c1,c2]
    rw [e]
    simp (config := {maxSteps := 4000000,implicitDefEqProofs := false}) (disch := omega) only [go_sem,q0,q1,q2,q3,q4,z0h,z0f,z0i,z0e,z0g]
   |true =>
    rw [c2] at q2
    cases c3 : zMh x.rt with
    |false =>
     rw [c3] at q3
     have e : cgB x = false := by simp [E,c0,c1,c2,c3]
     rw [e]
     simp (config := {maxSteps := 4000000,implicitDefEqProofs := false}) (disch := omega) only [go_sem,q0,q1,q2,q3,q4,z0h,z0f,z0i,z0e,z0g]
    |true =>
     rw [c3] at q3
     cases c4 : zNl x.pf with
     |false =>
      rw [c4] at q4
      have e : cgB x = false := by simp [E,c0,c1,c2,c3,c4]
      rw [e]
      simp (config := {maxSteps := 4000000,implicitDefEqProofs := false}) (disch := omega) only [go_sem,q0,q1,q2,q3,q4,z0h,z0f,z0i,z0e,z0g]
     |true =>
      rw [c4] at q4
      by_cases h64 : x.cs.length ≤ 64
      rotate_left
      ·have h64' : (x.cs.length : Int) > 64 := by omega
       have e : cgB x = false := by rw [E,decide_eq_false h64];simp
       rw [e]
       simp (config := {maxSteps := 4000000,implicitDefEqProofs := false}) (disch := omega) only [go_sem,q0,q1,q2,q3,q4,h64',z0h,z0f,z0i,z0e,z0g]
      have h64' : ¬ (x.cs.length : Int) > 64 := by omega
      have e : cgB x = x.cs.all ceB := by rw [E,decide_eq_true h64];simp [c0,c1,c2,c3,c4]
      rw [e]
      simp (config := {maxSteps := 4000000,implicitDefEqProofs := false}) (disch := omega) only [go_sem,q0,q1,q2,q3,q4,h64',z0h,z0f,z0i,z0e,z0g]
      generalize hg : x.cs.all ceB = g
      refine z13 (ι := {k : Nat // k ≤ x.cs.length ∧ (x.cs.drop k).all ceB = g}) (fun k=>⟨[⟨1,z00,0,cgC x⟩],[(1,OP 0 0),(3,nA k.1)]⟩) (fun k=>x.cs.length - k.1) (fun _=>some (bA g,[])) ?_ ⟨0,Nat.zero_le _,hg⟩ (by dsimp only;omega)
      clear q0 q1 q2 q3 q4
      rintro kx hkx ⟨k,hk,hG⟩ kc hkc
      dsimp only at hkc hG ⊢
      rw [zcZ]
      by_cases hlt : k < x.cs.length
      rotate_left
      ·have hlt' : ¬ (k : Int) < (x.cs.length : Int) := by omega
       rw [List.drop_of_length_le (by omega)] at hG
       have hG2 : true = g := hG
       subst hG2
       simp (config := {maxSteps := 4000000,implicitDefEqProofs := false}) (disch := omega) only [go_sem,hlt',hkx,z0h,z0f,z0i,z0e,z0g]
      have hlt' : (k : Int) < (x.cs.length : Int) := by omega
      rw [List.drop_eq_getElem_cons hlt,List.all_cons] at hG
      obtain ⟨v1,v2⟩ := hv x.cs[k] (List.getElem_mem hlt)
      have q0 := zuf m x.cs[k].sq
      have q1 := zuf m x.cs[k].vw
      have q2 := zuf m x.cs[k].tm
      have q4 := ztb m x.cs[k].vs v1 v2
      generalize hy : x.cs[k] = y at *
      cases d0 : zMh y.sq with
      |false =>
       rw [d0] at q0
       have e : ceB y = false := by simp [ceB,d0]
       rw [e] at hG
       have hG2 : false = g := by rw [← hG];simp
       subst hG2
       simp (config := {maxSteps := 4000000,implicitDefEqProofs := false}) (disch := omega) only [go_sem,hlt',hy,q0,q1,q2,q4,z2s,hkx,z0h,z0f,z0i,z0e,z0g]
      |true =>
       rw [d0] at q0
       cases d1 : zMh y.vw with
       |false =>
        rw [d1] at q1
        have e : ceB y = false := by simp [ceB,d0,d1]
        rw [e] at hG
        have hG2 : false = g := by rw [← hG];simp
        subst hG2
        simp (config := {maxSteps := 4000000,implicitDefEqProofs := false}) (disch := omega) only [go_sem,hlt',hy,q0,q1,q2,q4,z2s,hkx,z0h,z0f,z0i,z0e,z0g]
       |true =>
        rw [d1] at q1
        cases d2 : zMh y.tm with
        |false =>
         rw [d2] at q2
         have e : ceB y = false := by simp [ceB,d0,d1,d2]
         rw [e] at hG
         have hG2 : false = g := by rw [← hG];simp
         subst hG2
         simp (config := {maxSteps := 4000000,implicitDefEqProofs := false}) (disch := omega) only [go_sem,hlt',hy,q0,q1,q2,q4,z2s,hkx,z0h,z0f,z0i,z0e,z0g]
        |true =>
         rw [d2] at q2
         by_cases hb : y.body.length ≤ 65536
         rotate_left
         ·have hb' : (y.body.length : Int) > 65536 := by omega
          have e : ceB y = false := by simp [ceB,d0,d1,d2,hb]
          rw [e] at hG
          have hG2 : false = g := by rw [← hG];simp
          subst hG2
          simp (config := {maxSteps := 4000000,implicitDefEqProofs := false}) (disch := omega) only [go_sem,hlt',hy,hb',q0,q1,q2,q4,z2s,hkx,z0h,z0f,z0i,z0e,z0g]
         have hb' : ¬ (y.body.length : Int) > 65536 := by omega
         cases d4 : zNl y.vs with
         |false =>
          rw [d4] at q4
          have e : ceB y = false := by simp [ceB,d0,d1,d2,hb,d4]
          rw [e] at hG
          have hG2 : false = g := by rw [← hG];simp
          subst hG2
          simp (config := {maxSteps := 4000000,implicitDefEqProofs := false}) (disch := omega) only [go_sem,hlt',hy,hb',q0,q1,q2,q4,z2s,hkx,z0h,z0f,z0i,z0e,z0g]
         |true =>
          rw [d4] at q4
          have e : ceB y = true := by simp [ceB,d0,d1,d2,hb,d4]
          rw [e] at hG
          have step := hkc ⟨k + 1,by omega,hG⟩ (by dsimp only;omega)
          simp (config := {maxSteps := 4000000,implicitDefEqProofs := false}) (disch := omega) only [go_sem,hlt',hy,hb',q0,q1,q2,q4,z2s,z0h,z0f,z0i,z0e,z0g]
          exact step
end

section
open Go.RowKit
attribute [local go_sem] z6x znr zim zl3 znw zj7 zut zii zw8 zoB znT zva zdk z9t zwp zd2 z9U zw5 zcG z9R zw2 ze0 z9K zwc zdv z9B ziK zd1 ziP zop zok zdz ziu zda zdw zfG zhD zo0 zoy zi3 ziH zoh ziC zwi ziG zvM znZ zoK zuK zcE z9s zw4 zdP z9q zvE zdh z9Q zhM z7f z58 zw1 zdI z9O zj8 zd3 zi7 zno zoe zdJ zic zdF zcX zfx zi8 zaD znN ziB zmB zoo ziO zvb ziX zvZ znv zon zv4 zdb z9S zwg zdZ z9X zun zd7 z9P zuX ze2 z9E zv6 zdn z9M zv5 zdS z9A zhP zdB zi9 znO zoa zcS ziS zcC zdx zgR zhQ zmH zot ziV zmt znC zhE zup zhJ zvO znS znV zvX zcP z9Z zvW zcR z9v zwk zcV z9p zwn zcY z9z zux zcD z9N zj1 z7s z5l zvA zdN z9o zoc z9w z7m zih zdG ziz zo7 znJ zdY zig zdH zde zhR zhX ztp znA zhN znx zou zhx zvj ziJ zuT zoz zox zuA zdO z9H zvp zd5 z9T ziM z6A z5a zuG zdl z9J zij zd4 zhL zoC znq zd8 zia zdu zcU zfe ziW zvn znX zif zog znG ziU zw7 zhz zv8 zny zow zvc zcH z9F zvm zcW z9L zuS zcJ z9I zvV zcF za0 zuH zdV z9C zvL zdR z9Y zik ziv znL zMd zvo zuZ zvk zvS zvN zus zuJ z3r zyr zA6 zG1 zwA zwD zFx z4q zzv List.take_length
theorem zGs (m : Nat) (v : Int) (h0 : 0 ≤ v) (h1 : v < 18446744073709551616) : z46 m [V (.int .u64 v)] = some (sA (put v.toNat),[]) := by
 have := zl4 m v.toNat (by omega)
 rw [Int.toNat_of_nonneg h0] at this
 exact this
theorem zq2 (m : Nat) (l : List Int) (hl : inI l) (hm : l.length < m) (hm2 : l.length ≤ 1000) : z1X m (SL (l.map nA)) = some (sA (zeL l),[]) := by
 rw [zjf]
 refine z13 (ι := {k : Nat // k ≤ l.length}) (fun k=>⟨[],[(0,SL (l.map nA)),(3,sA (zeL (l.take k.1))),(4,nA k.1)]⟩) (fun k=>l.length - k.1) (fun _=>some (sA (zeL l),[])) ?_ ⟨0,Nat.zero_le _⟩ (by dsimp only;omega)
 rintro kx hkx ⟨k,hk⟩ kc hkc
 dsimp only at hkc ⊢
 have hlen := z8g (hl.take k)
 rw [List.length_take,Nat.min_eq_left hk] at hlen
 rw [zg6]
 by_cases hlt : k < l.length
 ·have hlt' : (k : Int) < (l.length : Int) := by omega
  obtain ⟨hv0,hv1⟩ := hl l[k] (List.getElem_mem hlt)
  have hp := zci l[k].toNat (by omega)
  have hP := zGs m l[k] hv0 (by omega)
  have hw : IntKind.u64.wrap l[k] = l[k] := by rw [zFJ (by omega) (by omega)]
  have step := hkc ⟨k + 1,by omega⟩ (by dsimp only;omega)
  dsimp only at step
  rw [List.take_succ_eq_append_getElem hlt,zlM,ziE,znQ,List.append_nil] at step
  generalize zeL (l.take k) = B1 at hlen step ⊢
  have hs : ((B1.length + (put l[k].toNat).length : Nat) : Int) ≤ 9223372036854775807 := by omega
  simp (config := {maxSteps := 4000000,implicitDefEqProofs := false}) (disch := omega) only [go_sem,hlt',hw,hP,hs,z2s]
  exact step
 ·have hlt' : ¬ (k : Int) < (l.length : Int) := by omega
  have hk2 : l.take k = l := List.take_of_length_le (by omega)
  rw [hk2] at hlen ⊢
  simp (config := {maxSteps := 4000000,implicitDefEqProofs := false}) (disch := omega) only [go_sem,hlt',hkx,zgk]
theorem zrG (m : Nat) (l : List Sm) (h : zNl l = true) (hm : 70 < m) : z3C m (SL (l.map smE)) = some (sA (z4G l),[]) := by
 obtain ⟨h64,hx⟩ := zmW h
 have hN := zq2 m [(l.length : Int)] (by intro v hv;simp at hv;omega) (by simp;omega) (by simp)
 rw [zi2] at hN
 simp only [List.map_cons,List.map_nil] at hN
 have hp := zci l.length (by omega)
 rw [zgf]
 rw [show put l.length = put l.length ++ (l.take 0).flatMap zpf by simp] at hN
 simp (config := {maxSteps := 4000000,implicitDefEqProofs := false}) (disch := omega) only [go_sem,hN]
 refine z13 (ι := {k : Nat // k ≤ l.length}) (fun k=>⟨[],[(0,SL (l.map smE)),(3,sA (put l.length ++ (l.take k.1).flatMap zpf)),(4,nA k.1)]⟩) (fun k=>l.length - k.1) (fun _=>some (sA (z4G l),[])) ?_ ⟨0,Nat.zero_le _⟩ (by dsimp only;omega)
 rintro kx hkx ⟨k,hk⟩ kc hkc
 dsimp only at hkc ⊢
 rw [zcO]
 by_cases hlt : k < l.length
 ·have hlt' : (k : Int) < (l.length : Int) := by omega
  have hv := List.all_eq_true.1 hx l[k] (List.getElem_mem hlt)
  have hlen := zcL (l := l.take k) (List.all_eq_true.2 fun y hy=>List.all_eq_true.1 hx y (List.mem_of_mem_take hy))
  rw [List.length_take,Nat.min_eq_left hk] at hlen
  have step := hkc ⟨k + 1,by omega⟩ (by dsimp only;omega)
  dsimp only at step
  rw [List.take_succ_eq_append_getElem hlt,List.flatMap_append,List.flatMap_cons,List.flatMap_nil,List.append_nil,← List.append_assoc] at step
  generalize (l.take k).flatMap zpf = B1 at hlen step ⊢
  have hV := zq2 m [l[k].fr,l[k].kd,l[k].vw,l[k].sq,l[k].tm] (zrn hv) (by simp;omega) (by simp)
  have hV2 := zrD hv
  change z1X m _ = some (sA (zpf l[k]),[]) at hV
  simp only [List.map_cons,List.map_nil] at hV
  generalize zpf l[k] = E at hV hV2 step
  have hs : (((put l.length).length + B1.length + E.length : Nat) : Int) ≤ 9223372036854775807 := by omega
  simp (config := {maxSteps := 4000000,implicitDefEqProofs := false}) (disch := omega) only [go_sem,hlt',hV,hs,z2s]
  exact step
 ·have hlt' : ¬ (k : Int) < (l.length : Int) := by omega
  have hk2 : l.take k = l := List.take_of_length_le (by omega)
  rw [hk2]
  unfold z4G
  simp (config := {maxSteps := 4000000,implicitDefEqProofs := false}) (disch := omega) only [go_sem,hlt',hkx,zdE]
theorem zyJ {x : Ce} : zmu x = zeL [x.sq,x.vw,x.tm,(x.body.length : Int)] ++ x.body ++ z4G x.vs := by
 unfold zmu zww
 simp only [ziE,znQ,List.append_nil,List.append_assoc,Int.toNat_natCast]
theorem zgM (m : Nat) (x : Ch) (h : cgB x = true) (hm : 70 < m) : z1w m (cgE x) = some (sA (z2k x),[]) := by
 obtain ⟨h0,h1,h2,h3⟩ := zsj h
 obtain ⟨h6,h7⟩ := zpC h3
 have e1 := z8g (zp0 h)
 have e2 := z7O h2
 have e3 := zhj h3
 have hN := zq2 m [x.fr,x.vw,x.st,x.rt] (zp0 h) (by simp;omega) (by simp)
 have hV := zrG m x.pf h2 hm
 have hN2 := zq2 m [(x.cs.length : Int)] (by intro v hv;simp at hv;omega) (by simp;omega) (by simp)
 rw [zi2] at hN2
 have hp := zci x.cs.length (by omega)
 simp only [List.map_cons,List.map_nil] at hN hN2
 simp only [List.length_cons,List.length_nil] at e1
 rw [zaG,zaD]
 have E : z2k x = zeL [x.fr,x.vw,x.st,x.rt] ++ z4G x.pf ++ put x.cs.length ++ x.cs.flatMap zmu := by
  unfold z2k zdr
  simp only [List.append_assoc]
 rw [E]
 generalize zeL [x.fr,x.vw,x.st,x.rt] = A1 at *
 generalize z4G x.pf = A2 at *
 generalize put x.cs.length = A3 at *
 have s1 : ((A1.length + A2.length : Nat) : Int) ≤ 9223372036854775807 := by omega
 have s2 : ((A1.length + A2.length + A3.length : Nat) : Int) ≤ 9223372036854775807 := by omega
 simp (config := {maxSteps := 4000000,implicitDefEqProofs := false}) (disch := omega) only [go_sem,hN,hV,hN2,s1,s2]
 rw [show A1 ++ A2 ++ A3 = A1 ++ A2 ++ A3 ++ (x.cs.take 0).flatMap zmu by simp]
 obtain ⟨r,hr⟩ : ∃ r,r = some (sA (A1 ++ A2 ++ A3 ++ (x.cs.take 0).flatMap zmu ++ x.cs.flatMap zmu),([] : List AObj)) := ⟨_,rfl⟩
 rw [← hr]
 refine z13 (ι := {k : Nat // k ≤ x.cs.length}) (fun k=>⟨[⟨1,z00,0,cgC x⟩],[(1,OP 0 0),(3,sA (A1 ++ A2 ++ A3 ++ (x.cs.take k.1).flatMap zmu)),(4,nA k.1)]⟩) (fun k=>x.cs.length - k.1) (fun _=>r) ?_ ⟨0,Nat.zero_le _⟩ (by dsimp only;omega)
 simp only [List.take_zero,List.flatMap_nil,List.append_nil] at hr
 rintro kx hkx ⟨k,hk⟩ kc hkc
 dsimp only at hkc ⊢
 rw [z93]
 by_cases hlt : k < x.cs.length
 ·have hlt' : (k : Int) < (x.cs.length : Int) := by omega
  have hv := List.all_eq_true.1 h7 x.cs[k] (List.getElem_mem hlt)
  have hlen := zdW (l := x.cs.take k) (List.all_eq_true.2 fun y hy=>List.all_eq_true.1 h7 y (List.mem_of_mem_take hy))
  rw [List.length_take,Nat.min_eq_left hk] at hlen
  have step := hkc ⟨k + 1,by omega⟩ (by dsimp only;omega)
  dsimp only at step
  rw [List.take_succ_eq_append_getElem hlt,List.flatMap_append,List.flatMap_cons,List.flatMap_nil,List.append_nil,zyJ,← List.append_assoc] at step
  generalize (x.cs.take k).flatMap zmu = B1 at hlen step ⊢
  obtain ⟨v1,v2,v3⟩ := ztf hv
  have hi : inI [x.cs[k].sq,x.cs[k].vw,x.cs[k].tm,(x.cs[k].body.length : Int)] := by
   have := zpg v1
   intro v hv
   simp only [List.mem_cons,List.not_mem_nil,or_false] at hv
   rcases hv with rfl|rfl|rfl|rfl
   ·exact this _ (by simp)
   ·exact this _ (by simp)
   ·exact this _ (by simp)
   ·omega
  have hM := zq2 m [x.cs[k].sq,x.cs[k].vw,x.cs[k].tm,(x.cs[k].body.length : Int)] hi (by simp;omega) (by simp)
  have hM2 := z8g hi
  have hW := zrG m x.cs[k].vs v3 hm
  have hW2 := z7O v3
  simp only [List.map_cons,List.map_nil] at hM
  simp only [List.length_cons,List.length_nil] at hM2
  generalize zeL [x.cs[k].sq,x.cs[k].vw,x.cs[k].tm,(x.cs[k].body.length : Int)] = C1 at *
  generalize z4G x.cs[k].vs = C2 at *
  clear hN hV hN2
  have s1 : ((C1.length + x.cs[k].body.length : Nat) : Int) ≤ 9223372036854775807 := by omega
  have s2 : ((C1.length + x.cs[k].body.length + C2.length : Nat) : Int) ≤ 9223372036854775807 := by omega
  have s3 : ((A1.length + A2.length + A3.length + B1.length + (C1.length + x.cs[k].body.length + C2.length) : Nat) : Int) ≤ 9223372036854775807 := by omega
  simp (config := {maxSteps := 4000000,implicitDefEqProofs := false}) (disch := omega) only [go_sem,hlt',hM,hW,s1,s2,s3,z2s]
  simp only [List.append_assoc] at step ⊢
  exact step
 ·have hlt' : ¬ (k : Int) < (x.cs.length : Int) := by omega
  have hk2 : x.cs.take k = x.cs := List.take_of_length_le (by omega)
  rw [hk2,hr]
  simp (config := {maxSteps := 4000000,implicitDefEqProofs := false}) (disch := omega) only [go_sem,hlt',hkx,z8T]
end

section
def setL (s : Nat) : List Nat := (List.range 64).filter s.testBit
def zKU (s : Nat) : Nat := (setL s).length
def bv : List Nat → Nat
 |[]=>0
 |b :: r=>2 ^ 8 * bv r + b
theorem zq9 {h b m c : Nat} (hb : b < 2 ^ 8) (hc : c < 2 ^ 8) : (2 ^ 8 * h + b) &&& (2 ^ 8 * m + c) = 2 ^ 8 * (h &&& m) + (b &&& c) := by
 have hbc : b &&& c < 2 ^ 8 := Nat.lt_of_le_of_lt Nat.and_le_left hb
 refine Nat.eq_of_testBit_eq fun j=>?_
 rw [Nat.testBit_and,Nat.testBit_two_pow_mul_add _ hb,Nat.testBit_two_pow_mul_add _ hc,Nat.testBit_two_pow_mul_add _ hbc]
 split
 ·rw [Nat.testBit_and]
 ·rw [Nat.testBit_and]
theorem zlQ {h b m c k : Nat} (hk : k ≤ 8) (hb : b < 2 ^ 8) (hc : c < 2 ^ (8 - k)) : (2 ^ 8 * h + b) / 2 ^ k &&& (2 ^ 8 * m + c) = 2 ^ 8 * (h / 2 ^ k &&& m) + (b / 2 ^ k &&& c) := by
 have hc8 : c < 2 ^ 8 := Nat.lt_of_lt_of_le hc (Nat.pow_le_pow_right (by decide) (by omega))
 have hbc : b / 2 ^ k &&& c < 2 ^ 8 := Nat.lt_of_le_of_lt Nat.and_le_right hc8
 refine Nat.eq_of_testBit_eq fun j=>?_
 rw [Nat.testBit_and,Nat.testBit_div_two_pow,Nat.testBit_two_pow_mul_add _ hb,Nat.testBit_two_pow_mul_add _ hc8,Nat.testBit_two_pow_mul_add _ hbc]
 by_cases hj : j < 8
 ·rw [if_pos hj,if_pos hj,Nat.testBit_and,Nat.testBit_div_two_pow]
  by_cases hjk : j + k < 8
  ·rw [if_pos hjk]
  ·have : c.testBit j = false := Nat.testBit_lt_two_pow (Nat.lt_of_lt_of_le hc (Nat.pow_le_pow_right (by decide) (by omega)))
   rw [this,Bool.and_false,Bool.and_false]
 ·rw [if_neg hj,if_neg hj,if_neg (by omega),Nat.testBit_and,Nat.testBit_div_two_pow]
  congr 2
  omega
def msk (c w : Nat) : Nat := bv (List.replicate w c)
def oc1 (w x : Nat) : Nat := (x / 2 ^ 1 &&& msk 85 w) + (x &&& msk 85 w)
def oc2 (w x : Nat) : Nat := (x / 2 ^ 2 &&& msk 51 w) + (x &&& msk 51 w)
def oc3 (w x : Nat) : Nat := (x / 2 ^ 4 + x) &&& msk 15 w
def f1 (b : Nat) : Nat := (b / 2 ^ 1 &&& 85) + (b &&& 85)
def f2 (b : Nat) : Nat := (b / 2 ^ 2 &&& 51) + (b &&& 51)
def f3 (b : Nat) : Nat := (b / 16 + b) &&& 15
theorem zqF (c w : Nat) : msk c (w + 1) = 2 ^ 8 * msk c w + c := rfl
theorem zCm : ∀ (l : List Nat),(∀ b ∈ l,b < 2 ^ 8) → oc1 l.length (bv l) = bv (l.map f1)
 |[],_=>rfl
 |b :: r,h=>by
  have ih := zCm r fun x hx=>h x (List.mem_cons_of_mem _ hx)
  have hb := h b (List.mem_cons_self ..)
  simp only [List.map_cons,bv,List.length_cons]
  rw [← ih]
  unfold oc1
  rw [zqF,zlQ (by decide) hb (by decide),zq9 hb (by decide)]
  unfold f1
  omega
theorem zBD : ∀ (l : List Nat),(∀ b ∈ l,b < 2 ^ 8) → oc2 l.length (bv l) = bv (l.map f2)
 |[],_=>rfl
 |b :: r,h=>by
  have ih := zBD r fun x hx=>h x (List.mem_cons_of_mem _ hx)
  have hb := h b (List.mem_cons_self ..)
  simp only [List.map_cons,bv,List.length_cons]
  rw [← ih]
  unfold oc2
  rw [zqF,zlQ (by decide) hb (by decide),zq9 hb (by decide)]
  unfold f2
  omega
def q4 (b : Nat) : Bool := decide (b % 16 ≤ 4) && decide (b / 16 ≤ 4)
theorem zIo (x : Nat) : x &&& 15 = x % 16 := Nat.and_two_pow_sub_one_eq_mod x 4
theorem zBA : ∀ (l : List Nat),(∀ b ∈ l,q4 b = true) → oc3 l.length (bv l) = bv (l.map f3)
 |[],_=>rfl
 |b :: r,h=>by
  have ih := zBA r fun x hx=>h x (List.mem_cons_of_mem _ hx)
  have hb := h b (List.mem_cons_self ..)
  unfold q4 at hb
  simp only [Bool.and_eq_true,decide_eq_true_eq] at hb
  have hr : bv r % 16 ≤ 4 := by
   cases r with
   |nil=>exact Nat.zero_le _
   |cons c r' =>
    have hc := h c (List.mem_cons_of_mem _ (List.mem_cons_self ..))
    unfold q4 at hc
    simp only [Bool.and_eq_true,decide_eq_true_eq] at hc
    simp only [bv]
    omega
  simp only [List.map_cons,bv,List.length_cons]
  rw [← ih]
  unfold oc3
  rw [zqF]
  have e : (2 ^ 8 * bv r + b) / 2 ^ 4 + (2 ^ 8 * bv r + b) = 2 ^ 8 * (bv r / 2 ^ 4 + bv r) + (16 * (bv r % 16) + b / 16 + b) := by omega
  rw [e,zq9 (by omega) (by decide)]
  unfold f3
  rw [zIo,zIo]
  omega
def p8 (b : Nat) : Nat := ((List.range 8).filter b.testBit).length
theorem zC7 : ∀ b,b < 256 → f1 b < 256 ∧ f2 (f1 b) < 256 ∧ q4 (f2 (f1 b)) = true ∧ f3 (f2 (f1 b)) = p8 b ∧ p8 b ≤ 8 := by decide +kernel
theorem zns (n : Nat) : ∀ k,List.range (n + k) = List.range n ++ (List.range k).map (n + ·)
 |0=>by simp
 |k + 1=>by rw [← Nat.add_assoc,List.range_succ,zns n k,List.range_succ,List.map_append,← List.append_assoc];rfl
theorem zCI : ∀ (l : List Nat),(∀ b ∈ l,b < 2 ^ 8) → ((List.range (8 * l.length)).filter (bv l).testBit).length = (l.map p8).sum
 |[],_=>rfl
 |b :: r,h=>by
  have ih := zCI r fun x hx=>h x (List.mem_cons_of_mem _ hx)
  have hb := h b (List.mem_cons_self ..)
  simp only [List.length_cons,List.map_cons,List.sum_cons,bv]
  rw [show 8 * (r.length + 1) = 8 + 8 * r.length by omega,zns,List.filter_append,List.length_append,List.filter_map,List.length_map]
  congr 1
  ·unfold p8
   congr 1
   refine List.filter_congr fun i hi=>?_
   rw [Nat.testBit_two_pow_mul_add _ hb,if_pos (List.mem_range.1 hi)]
  ·rw [← ih]
   congr 1
   refine List.filter_congr fun i hi=>?_
   show (2 ^ 8 * bv r + b).testBit (8 + i) = _
   rw [Nat.testBit_two_pow_mul_add _ hb,if_neg (by omega)]
   congr 1;omega
theorem zAp (s : Nat) (h : s < 2 ^ 64) : ∃ b0 b1 b2 b3 b4 b5 b6 b7 : Nat,s = bv [b0,b1,b2,b3,b4,b5,b6,b7] ∧ ∀ b ∈ [b0,b1,b2,b3,b4,b5,b6,b7],b < 2 ^ 8 := by
 refine ⟨s % 256,s / 256 % 256,s / 65536 % 256,s / 16777216 % 256,s / 4294967296 % 256,s / 1099511627776 % 256,s / 281474976710656 % 256,s / 72057594037927936 % 256,?_,?_⟩
 ·simp only [bv];omega
 ·intro b hb
  simp only [List.mem_cons,List.not_mem_nil,or_false] at hb
  omega
theorem zIO : msk 85 8 = 6148914691236517205 := by decide
theorem zHi : msk 51 8 = 3689348814741910323 := by decide
theorem zJ1 : msk 15 8 = 1085102592571150095 := by decide
theorem zDT (s : Nat) (h : s < 2 ^ 64) : ∃ c0 c1 c2 c3 c4 c5 c6 c7 : Nat,oc3 8 (oc2 8 (oc1 8 s)) = bv [c0,c1,c2,c3,c4,c5,c6,c7] ∧ (c0 ≤ 8 ∧ c1 ≤ 8 ∧ c2 ≤ 8 ∧ c3 ≤ 8 ∧ c4 ≤ 8 ∧ c5 ≤ 8 ∧ c6 ≤ 8 ∧ c7 ≤ 8) ∧ zKU s = c0 + c1 + c2 + c3 + c4 + c5 + c6 + c7 ∧ oc1 8 s < 2 ^ 64 ∧ oc2 8 (oc1 8 s) < 2 ^ 64 := by
 obtain ⟨b0,b1,b2,b3,b4,b5,b6,b7,rfl,hb⟩ := zAp s h
 have hlt : ∀ l : List Nat,l.length = 8 → (∀ b ∈ l,b < 256) → bv l < 2 ^ 64 := by
  intro l hl hb
  match l,hl with
  |[a0,a1,a2,a3,a4,a5,a6,a7],_ =>
   have h0 := hb a0 (by simp);have h1 := hb a1 (by simp);have h2 := hb a2 (by simp);have h3 := hb a3 (by simp)
   have h4 := hb a4 (by simp);have h5 := hb a5 (by simp);have h6 := hb a6 (by simp);have h7 := hb a7 (by simp)
   simp only [bv];omega
 generalize hl : [b0,b1,b2,b3,b4,b5,b6,b7] = l at *
 have hlen : l.length = 8 := by rw [← hl];rfl
 have e1 := zCm l hb
 have hb1 : ∀ b ∈ l.map f1,b < 2 ^ 8 := fun b h=>by
  obtain ⟨x,hx,rfl⟩ := List.mem_map.1 h
  exact (zC7 x (hb x hx)).1
 have e2 := zBD (l.map f1) hb1
 have hb2 : ∀ b ∈ (l.map f1).map f2,b < 2 ^ 8 := fun b h=>by
  rw [List.map_map] at h
  obtain ⟨x,hx,rfl⟩ := List.mem_map.1 h
  exact (zC7 x (hb x hx)).2.1
 have e3 := zBA ((l.map f1).map f2) fun b h=>by
  rw [List.map_map] at h
  obtain ⟨x,hx,rfl⟩ := List.mem_map.1 h
  exact (zC7 x (hb x hx)).2.2.1
 have hc := zCI l hb
 rw [hlen] at e1 hc
 rw [List.length_map,hlen] at e2
 rw [List.length_map,List.length_map,hlen] at e3
 have hp : ((l.map f1).map f2).map f3 = l.map p8 := by
  rw [List.map_map,List.map_map]
  exact List.map_congr_left fun x hx=>(zC7 x (hb x hx)).2.2.2.1
 rw [hp] at e3
 rw [e1,e2,e3]
 have h8 : ∀ x ∈ l,p8 x ≤ 8 := fun x hx=>(zC7 x (hb x hx)).2.2.2.2
 have l1 := hlt (l.map f1) (by simp [hlen]) hb1
 have l2 := hlt ((l.map f1).map f2) (by simp [hlen]) hb2
 refine ⟨p8 b0,p8 b1,p8 b2,p8 b3,p8 b4,p8 b5,p8 b6,p8 b7,by rw [← hl];rfl,?_,?_,l1,l2⟩
 ·subst hl
  exact ⟨h8 _ (by simp),h8 _ (by simp),h8 _ (by simp),h8 _ (by simp),h8 _ (by simp),h8 _ (by simp),h8 _ (by simp),h8 _ (by simp)⟩
 ·show ((List.range (8 * 8)).filter (bv l).testBit).length = _
  rw [hc,← hl]
  simp only [List.map_cons,List.map_nil,List.sum_cons,List.sum_nil]
  omega
theorem dv {a h m : Nat} (ha : a < m) : (a + m * h) / m = h := by
 rw [Nat.add_mul_div_left _ _ (by omega),Nat.div_eq_of_lt ha,Nat.zero_add]
theorem ln1 (c0 c1 c2 c3 c4 c5 c6 c7 : Nat) : (c0 + 256 * (c1 + 256 * (c2 + 256 * (c3 + 256 * (c4 + 256 * (c5 + 256 * (c6 + 256 * c7))))))) + (c1 + 256 * (c2 + 256 * (c3 + 256 * (c4 + 256 * (c5 + 256 * (c6 + 256 * c7)))))) =
 (c0 + c1 + 256 * (c1 + c2)) + 65536 * ((c2 + c3) + 256 * (c3 + c4 + 256 * (c4 + c5 + 256 * (c5 + c6 + 256 * (c6 + c7 + 256 * c7))))) := by omega
theorem ln2 (c0 c1 c2 c3 c4 c5 c6 c7 : Nat) : ((c0 + c1 + 256 * (c1 + c2)) + 65536 * ((c2 + c3) + 256 * (c3 + c4 + 256 * (c4 + c5 + 256 * (c5 + c6 + 256 * (c6 + c7 + 256 * c7)))))) + ((c2 + c3) + 256 * (c3 + c4 + 256 * (c4 + c5 + 256 * (c5 + c6 + 256 * (c6 + c7 + 256 * c7))))) =
 ((c0 + c1 + c2 + c3) + 256 * ((c1 + c2 + c3 + c4) + 256 * ((c2 + c3 + c4 + c5) + 256 * (c3 + c4 + c5 + c6)))) + 4294967296 * ((c4 + c5 + c6 + c7) + 256 * ((c5 + c6 + c7) + 256 * ((c6 + c7) + 256 * c7))) := by omega
theorem ln3 (c0 c1 c2 c3 c4 c5 c6 c7 : Nat) : (((c0 + c1 + c2 + c3) + 256 * ((c1 + c2 + c3 + c4) + 256 * ((c2 + c3 + c4 + c5) + 256 * (c3 + c4 + c5 + c6)))) + 4294967296 * ((c4 + c5 + c6 + c7) + 256 * ((c5 + c6 + c7) + 256 * ((c6 + c7) + 256 * c7)))) + ((c4 + c5 + c6 + c7) + 256 * ((c5 + c6 + c7) + 256 * ((c6 + c7) + 256 * c7))) =
 (c0 + c1 + c2 + c3 + c4 + c5 + c6 + c7) + 128 * (2 * ((c1 + c2 + c3 + c4 + c5 + c6 + c7) + 256 * ((c2 + c3 + c4 + c5 + c6 + c7) + 256 * (c3 + c4 + c5 + c6 + c7)) + 16777216 * ((c4 + c5 + c6 + c7) + 256 * ((c5 + c6 + c7) + 256 * ((c6 + c7) + 256 * c7))))) := by omega
theorem bv8 (c0 c1 c2 c3 c4 c5 c6 c7 : Nat) : bv [c0,c1,c2,c3,c4,c5,c6,c7] = c0 + 256 * (c1 + 256 * (c2 + 256 * (c3 + 256 * (c4 + 256 * (c5 + 256 * (c6 + 256 * c7)))))) := by
 simp only [bv];omega
theorem zFV (s : Nat) (h : s < 2 ^ 64) : ∃ x y z,oc3 8 (oc2 8 (oc1 8 s)) = x ∧ x < 2 ^ 60 ∧ x + x / 256 = y ∧ y < 2 ^ 61 ∧ y + y / 65536 = z ∧ z < 2 ^ 62 ∧ z + z / 4294967296 < 2 ^ 63 ∧ (z + z / 4294967296) % 128 = zKU s ∧ zKU s ≤ 64 := by
 obtain ⟨c0,c1,c2,c3,c4,c5,c6,c7,e,⟨h0,h1,h2,h3,h4,h5,h6,h7⟩,hc,_,_⟩ := zDT s h
 have a1 := dv (a := c0) (m := 256) (h := c1 + 256 * (c2 + 256 * (c3 + 256 * (c4 + 256 * (c5 + 256 * (c6 + 256 * c7)))))) (by omega)
 have a2 := dv (a := c0 + c1 + 256 * (c1 + c2)) (m := 65536) (h := (c2 + c3) + 256 * (c3 + c4 + 256 * (c4 + c5 + 256 * (c5 + c6 + 256 * (c6 + c7 + 256 * c7))))) (by omega)
 have a3 := dv (a := (c0 + c1 + c2 + c3) + 256 * ((c1 + c2 + c3 + c4) + 256 * ((c2 + c3 + c4 + c5) + 256 * (c3 + c4 + c5 + c6)))) (m := 4294967296) (h := (c4 + c5 + c6 + c7) + 256 * ((c5 + c6 + c7) + 256 * ((c6 + c7) + 256 * c7))) (by omega)
 refine ⟨_,_,_,e.trans (bv8 ..),?_,(congrArg _ a1).trans (ln1 ..),?_,(congrArg _ a2).trans (ln2 ..),?_,?_,?_,?_⟩
 ·clear a1 a2 a3 hc;omega
 ·clear a1 a2 a3 hc;omega
 ·clear a1 a2 a3 hc;omega
 ·rw [a3];clear a1 a2 a3 hc;omega
 ·rw [a3,ln3,hc,Nat.add_mul_mod_self_left]
  exact Nat.mod_eq_of_lt (by clear a1 a2 a3 hc;omega)
 ·clear a1 a2 a3;omega
end

section
open Go.RowKit
abbrev qA (s : Nat) : AV := V (.int .u64 (s : Int))
end

end Go.Proofs.Ytaaogcnjfkgnoaa
end

