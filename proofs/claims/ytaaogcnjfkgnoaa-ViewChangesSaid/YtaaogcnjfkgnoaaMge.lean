/-
  Texts laid together, part 5 of 7: laws of a walk over data, contracts of functions, each whole by itself.
-/
import Derived.Test.YtaaogcnjfkgnoaaMgd
import Derived.WalkKit
import Derived.KernelRfl
import Derived.Test.YtaaogcnjfkgnoaaMgc
import Derived.Laws.Bits64
import Derived.Laws.Bits64b
import Derived.Laws.Bits128
set_option maxRecDepth 100000
set_option linter.unusedVariables false
set_option linter.unusedSimpArgs false
namespace Go.Proofs.Ytaaogcnjfkgnoaa
open Go.RowKit
noncomputable def z5U : Code := (Try.f43.body).getD .skip
def z5E : Hint := (.two .n (.two .n (.two .n (.two .n .n))))
noncomputable def z4U (m : Nat) : Env := [(29, .keep (z7T m))]
noncomputable abbrev zch (n0 : Nat) : KO (AV × List AObj) := z77 Try.prog n0 [.tmp 4]
noncomputable def z40 (m : Nat) (t0 t1 : AV) (H : List AObj) : RO := exec Try.prog GG (z4U m) m ⟨23,[]⟩ z5U z5E ⟨H,argsT 0 [t0,t1]⟩ (zch H.length)
theorem zdi (m : Nat) (t0 t1 : AV) (H : List AObj) : z40 m t0 t1 H =
 nilE t0 fun t10 =>
 z02 (some (0,1)) t10 fun t11 =>
 loadE 1 H t11 fun t12 =>
 keepE (z8a m t12 t1 H) fun t14 H2 =>
 extE t14 0 fun t15 =>
 extE t14 1 fun t16 =>
 extE t14 2 fun t17 =>
 nilE t0 fun t20 =>
 z02 (some (0,1)) t20 fun t21 =>
 z1e 1 H2 t21 t15 fun H3 =>
 keepK H.length H3 (ro H3 t16) := by
 refine (keepX Try.prog GG (z4U m) m ⟨23,[]⟩ H.length z5U z5E ⟨H,argsT 0 [t0,t1]⟩ [.tmp 4]).trans ?_
 kernel_rfl
noncomputable def z4i (m : Nat) : List AV → List AObj → RO|[t0,t1],H=>z40 m t0 t1 H|_,_=>none
theorem z8B (m : Nat) : ∀ args H X H',z4i m args H = some (X,H') → AC Try.prog GG 43 args H (Is X H') := by
 intro args H X H' h
 unfold z4i at h
 split at h
 ·exact z2x MIX (by
  intro f e h
  simp only [z4U,Prod.mk.injEq,List.mem_cons,List.not_mem_nil,or_false] at h
  obtain ⟨rfl,rfl⟩ := h
  ·exact zd2 m) (f := 43) (c := z5U) Try.func43 rfl (by kernel_rfl) _ rfl Try.ntmps43 (Nat.le_of_ble_eq_true rfl) z5E h
 ·cases h
noncomputable def z1d : Code := (Try.f46.body).getD .skip
def plenumref32_World_many_h : Hint := (.two .n (.two .n (.join [11] (.two .n (.one (.lp [] [0,1,3,4,7,11,12] [11] (.two (.two .n (.two .n .n)) (.join [0,1,3,4,7,11,12] (.one (.join [0,1,3,4,7,11,12,30] .n (.two .n .n))) .n))))) (.two .n .n))))
noncomputable def z0D (m : Nat) : Env := [(45, .tell (z3Q m))]
noncomputable abbrev z4u (n0 : Nat) : KO (AV × List AObj) := z77 Try.prog n0 [.tmp 10]
noncomputable def z3u (m : Nat) (n0 : Nat) (kc : ASt → RO) (kx : KO (AV × List AObj)) (s : ASt) : RO := joinW Try.prog GG (z0D m) m ⟨34,[]⟩ (cdR (cdR (cdL (cdL (cdR (cdL (cdR (cdR z1d)))))))) plenumref32_World_many_h.r.r.l.r.c.c.r.r s (backW n0 [0,1,3,4,7,11,12] [11] kc kx)
noncomputable def z4M (m : Nat) (n0 : Nat) (kc : ASt → RO) (kx : KO (AV × List AObj)) (s : ASt) : RO := joinW Try.prog GG (z0D m) m ⟨34,[]⟩ (cdR (cdL (cdL (cdR (cdL (cdL (cdR (cdL (cdR (cdR z1d)))))))))) plenumref32_World_many_h.r.r.l.r.c.c.r.l.c.r s (z3K 1 (seqX (fun s=>z3u m n0 kc kx ⟨s.H,[(0,gt s.T 0),(1,gt s.T 1),(3,gt s.T 3),(4,gt s.T 4),(7,gt s.T 7),(11,gt s.T 11),(12,gt s.T 12)]⟩) (backW n0 [0,1,3,4,7,11,12] [11] kc kx)))
noncomputable def z7N (m : Nat) (n0k : Nat) (s : ASt) : RO := joinW Try.prog GG (z0D m) m ⟨34,[]⟩ (cdR (cdR (cdR z1d))) plenumref32_World_many_h.r.r.r s (z4u n0k)
noncomputable def z7J (m : Nat) (s : ASt) (kc : ASt → RO) (kx : KO (AV × List AObj)) : RO := bodyW Try.prog GG (z0D m) m ⟨34,[]⟩ (cdL (cdL (cdR (cdL (cdR (cdR z1d)))))) plenumref32_World_many_h.r.r.l.r.c.c [0,1,3,4,7,11,12] [11] s kc kx
noncomputable def z2Q (m : Nat) (t0 t1 t2 t3 t4 : AV) (H : List AObj) : RO := exec Try.prog GG (z0D m) m ⟨34,[]⟩ z1d plenumref32_World_many_h ⟨H,argsT 0 [t0,t1,t2,t3,t4]⟩ (z4u H.length)
theorem z43 (m : Nat) (n0 : Nat) (kc : ASt → RO) (kx : KO (AV × List AObj)) (H : List AObj) (t0 t1 t3 t4 t7 t11 t12 : AV) : z3u m n0 kc kx ⟨H,[(0,t0),(1,t1),(3,t3),(4,t4),(7,t7),(11,t11),(12,t12)]⟩ =
 binE none false false .add t12 (V (.int .i64 1)) fun t17 =>
 backE n0 H [(0,t0),(1,t1),(3,t3),(4,t4),(7,t7),(11,t11),(12,t17)] kc := by
 refine (z04 _ _ _ _ _ _ _ _ _).trans ?_
 kernel_rfl
theorem z45 (m : Nat) (n0 : Nat) (kc : ASt → RO) (kx : KO (AV × List AObj)) (H : List AObj) (t0 t1 t3 t4 t7 t11 t12 t30 : AV) : z4M m n0 kc kx ⟨H,[(0,t0),(1,t1),(3,t3),(4,t4),(7,t7),(11,t11),(12,t12),(30,t30)]⟩ =
 condE t30 (
  binE none false false .add t11 (V (.int .i64 1)) fun t32 =>
  z3u m n0 kc kx ⟨H,[(0,t0),(1,t1),(3,t3),(4,t4),(7,t7),(11,t32),(12,t12)]⟩) (
  z3u m n0 kc kx ⟨H,[(0,t0),(1,t1),(3,t3),(4,t4),(7,t7),(11,t11),(12,t12)]⟩) := by
 refine (z04 _ _ _ _ _ _ _ _ _).trans ?_
 kernel_rfl
theorem zag (m : Nat) (n0k : Nat) (H : List AObj) (t11 : AV) : z7N m n0k ⟨H,[(11,t11)]⟩ =
 keepK n0k H (ro H t11) := by
 refine (z04 _ _ _ _ _ _ _ _ _).trans ?_
 kernel_rfl
theorem zab (m : Nat) (H : List AObj) (t0 t1 t3 t4 t7 t11 t12 : AV) (kc : ASt → RO) (kx : KO (AV × List AObj)) : z7J m ⟨H,[(0,t0),(1,t1),(3,t3),(4,t4),(7,t7),(11,t11),(12,t12)]⟩ kc kx =
 binE none false false .lss t12 t3 fun t15 =>
 condE t15 (
  binE none false false .neq t12 t4 fun t20 =>
  condE t20 (
   nilE t0 fun t23 =>
   z02 (some (1,5)) t23 fun t24 =>
   loadE 5 H t24 fun t25 =>
   loadE 7 H t7 fun t27 =>
   tellE (z2O m (ro H t25) (ro H t1) (ro H t27) (ro H t12)) [(ro H t25),(ro H t1),(ro H t27),(ro H t12)] fun t29 =>
   z4M m H.length kc kx ⟨H,[(0,t0),(1,t1),(3,t3),(4,t4),(7,t7),(11,t11),(12,t12),(30,t29)]⟩) (
   z4M m H.length kc kx ⟨H,[(0,t0),(1,t1),(3,t3),(4,t4),(7,t7),(11,t11),(12,t12),(30,(V (.bool false)))]⟩)) (
  kx (.exit 0) ⟨H,[(11,t11)]⟩) := by
 refine (z2i _ _ _ _ _ _ _ _ _ _ _ _).trans ?_
 kernel_rfl
theorem zbE (m : Nat) (t0 t1 t2 t3 t4 : AV) (H : List AObj) : z2Q m t0 t1 t2 t3 t4 H =
 boxE z01 H t2 fun t7 H2 =>
 iterC m (z7J m) ⟨H2,[(0,t0),(1,t1),(3,t3),(4,t4),(7,t7),(11,(V (.int .i64 0))),(12,(V (.int .i64 0)))]⟩ (z3K 0 (seqX (fun s=>z7N m H.length ⟨s.H,[(11,gt s.T 11)]⟩) (z4u H.length))) := by
 refine (keepX Try.prog GG (z0D m) m ⟨34,[]⟩ H.length z1d plenumref32_World_many_h ⟨H,argsT 0 [t0,t1,t2,t3,t4]⟩ [.tmp 10]).trans ?_
 kernel_rfl
noncomputable def z3O (m : Nat) : List AV → List AObj → RO|[t0,t1,t2,t3,t4],H=>z2Q m t0 t1 t2 t3 t4 H|_,_=>none
theorem z7H (m : Nat) : ∀ args H X H',z3O m args H = some (X,H') → AC Try.prog GG 46 args H (Is X H') := by
 intro args H X H' h
 unfold z3O at h
 split at h
 ·exact z2x MIX (by
  intro f e h
  simp only [z0D,Prod.mk.injEq,List.mem_cons,List.not_mem_nil,or_false] at h
  obtain ⟨rfl,rfl⟩ := h
  ·exact z7B m) (f := 46) (c := z1d) Try.func46 rfl (by kernel_rfl) _ rfl Try.ntmps46 (Nat.le_of_ble_eq_true rfl) plenumref32_World_many_h h
 ·cases h
noncomputable def z2s : Code := (Try.f15.body).getD .skip
def plenumref32_World_Cert_h : Hint := (.two .n (.two .n (.two (.two .n (.two (.two .n .n) .n)) (.two .n (.join [0,2,4,7] (.join [0,2,4,7,25] .n (.two (.two .n .n) .n)) (.two .n (.two .n .n)))))))
noncomputable def z2f (m : Nat) : Env := [(42, .tell (z52 m)),(43, .keep (z4i m)),(44, .tell (z6Z m)),(45, .tell (z3Q m)),(46, .keep (z3O m))]
noncomputable abbrev z4w (n0 : Nat) : KO (AV × List AObj) := z77 Try.prog n0 [.tmp 6]
noncomputable def z2S (m : Nat) (n0k : Nat) (s : ASt) : RO := joinW Try.prog GG (z2f m) m ⟨63,[]⟩ (cdR (cdR (cdR (cdR (cdR z2s))))) plenumref32_World_Cert_h.r.r.r.r.r s (z4w n0k)
noncomputable def z4O (m : Nat) (n0k : Nat) (s : ASt) : RO := joinW Try.prog GG (z2f m) m ⟨63,[]⟩ (cdR (cdL (cdR (cdR (cdR (cdR z2s)))))) plenumref32_World_Cert_h.r.r.r.r.l.r s (seqX (fun s=>z2S m n0k ⟨s.H,[(0,gt s.T 0),(2,gt s.T 2),(4,gt s.T 4),(7,gt s.T 7)]⟩) (z4w n0k))
noncomputable def z2L (m : Nat) (t0 t1 t2 : AV) (H : List AObj) : RO := exec Try.prog GG (z2f m) m ⟨63,[]⟩ z2s plenumref32_World_Cert_h ⟨H,argsT 0 [t0,t1,t2]⟩ (z4w H.length)
theorem zaB (m : Nat) (n0k : Nat) (H : List AObj) (t0 t2 t4 t7 : AV) : z2S m n0k ⟨H,[(0,t0),(2,t2),(4,t4),(7,t7)]⟩ =
 z02 (some (1,1)) t4 fun t26 =>
 loadE 1 H t26 fun t27 =>
 tellE (z5t m (ro H t27) (ro H t2)) [(ro H t27),(ro H t2)] fun t29 =>
 nilE t0 fun t31 =>
 z02 (some (1,5)) t31 fun t32 =>
 loadE 5 H t32 fun t33 =>
 z02 (some (4,1)) t4 fun t34 =>
 loadE 1 H t34 fun t35 =>
 z02 (some (1,1)) t4 fun t36 =>
 loadE 1 H t36 fun t37 =>
 z02 (some (0,1)) t4 fun t38 =>
 loadE 1 H t38 fun t39 =>
 z02 (some (2,1)) t4 fun t40 =>
 loadE 1 H t40 fun t41 =>
 z49 (some z1m) (some zc_api_Stmt) [(1,(V (.int .i64 2))),(2,t37),(3,t39),(4,t41)] fun t42 =>
 tellE (z2O m (ro H t33) (ro H t35) (ro H t42) (ro H t29)) [(ro H t33),(ro H t35),(ro H t42),(ro H t29)] fun t44 =>
 condE t44 (
  z02 (some (4,1)) t4 fun t47 =>
  loadE 1 H t47 fun t48 =>
  z02 (some (1,1)) t4 fun t49 =>
  loadE 1 H t49 fun t50 =>
  z02 (some (0,1)) t4 fun t51 =>
  loadE 1 H t51 fun t52 =>
  z02 (some (2,1)) t4 fun t53 =>
  loadE 1 H t53 fun t54 =>
  z49 (some z1m) (some zc_api_Stmt) [(1,(V (.int .i64 3))),(2,t50),(3,t52),(4,t54)] fun t55 =>
  keepE (z2Q m (ro H t0) (ro H t48) (ro H t55) (ro H t2) (ro H t29) H) fun t58 H2 =>
  binE none false false .mul (V (.int .i64 2)) t7 fun t60 =>
  binE none false false .geq t58 t60 fun t61 =>
  keepK n0k H2 (ro H2 t61)) (
  keepK n0k H (ro H (V (.bool false)))) := by
 refine (z04 _ _ _ _ _ _ _ _ _).trans ?_
 kernel_rfl
theorem z42 (m : Nat) (n0k : Nat) (H : List AObj) (t0 t2 t4 t7 t25 : AV) : z4O m n0k ⟨H,[(0,t0),(2,t2),(4,t4),(7,t7),(25,t25)]⟩ =
 condE t25 (
  keepK n0k H (ro H (V (.bool false)))) (
  z2S m n0k ⟨H,[(0,t0),(2,t2),(4,t4),(7,t7)]⟩) := by
 refine (z04 _ _ _ _ _ _ _ _ _).trans ?_
 kernel_rfl
theorem zbA (m : Nat) (t0 t1 t2 : AV) (H : List AObj) : z2L m t0 t1 t2 H =
 boxE z0a H t1 fun t4 H2 =>
 tellE (z4G m (ro H2 t2)) [(ro H2 t2)] fun t11 =>
 binE none false false .eql t11 (V (.int .i64 0)) fun t13 =>
 condE t13 (
  keepK H.length H2 (ro H2 (V (.bool false)))) (
  z02 (some (3,1)) t4 fun t15 =>
  loadE 1 H2 t15 fun t16 =>
  keepE (z40 m (ro H2 t0) (ro H2 t16) H2) fun t17 H3 =>
  binE none false false .eql t17 (V (.int .i64 0)) fun t19 =>
  condE t19 (
   z4O m H.length ⟨H3,[(0,t0),(2,t2),(4,t4),(7,t11),(25,(V (.bool true)))]⟩) (
   z02 (some (2,1)) t4 fun t22 =>
   loadE 1 H3 t22 fun t23 =>
   binE none false false .neq t17 t23 fun t24 =>
   z4O m H.length ⟨H3,[(0,t0),(2,t2),(4,t4),(7,t11),(25,t24)]⟩)) := by
 refine (keepX Try.prog GG (z2f m) m ⟨63,[]⟩ H.length z2s plenumref32_World_Cert_h ⟨H,argsT 0 [t0,t1,t2]⟩ [.tmp 6]).trans ?_
 kernel_rfl
noncomputable def z4Y (m : Nat) : List AV → List AObj → RO|[t0,t1,t2],H=>z2L m t0 t1 t2 H|_,_=>none
theorem zbN (m : Nat) : ∀ args H X H',z4Y m args H = some (X,H') → AC Try.prog GG 15 args H (Is X H') := by
 intro args H X H' h
 unfold z4Y at h
 split at h
 ·exact z2x MIX (by
  intro f e h
  simp only [z2f,Prod.mk.injEq,List.mem_cons,List.not_mem_nil,or_false] at h
  rcases h with ⟨rfl,rfl⟩|⟨rfl,rfl⟩|⟨rfl,rfl⟩|⟨rfl,rfl⟩|⟨rfl,rfl⟩
  ·exact z9M m
  ·exact z8B m
  ·exact ze0 m
  ·exact z7B m
  ·exact z7H m) (f := 15) (c := z2s) Try.func15 rfl (by kernel_rfl) _ rfl Try.ntmps15 (Nat.le_of_ble_eq_true rfl) plenumref32_World_Cert_h h
 ·cases h
noncomputable def z3F : Code := (Try.f18.body).getD .skip
def z3G : Hint := (.two .n (.two (.two .n (.two (.two .n .n) .n)) (.two .n (.two (.two .n (.two (.two .n .n) .n)) (.two .n .n)))))
noncomputable def z2B (m : Nat) : Env := [(47, .tell (z51 m)),(50, .tell (z4t m)),(43, .keep (z4i m))]
noncomputable abbrev z8G (n0 : Nat) : KO (AV × List AObj) := z77 Try.prog n0 [.cell 4 41, .tmp 5]
noncomputable def z19 (m : Nat) (t0 t1 : AV) (H : List AObj) : RO := exec Try.prog GG (z2B m) m ⟨26,[]⟩ z3F z3G ⟨H,argsT 0 [t0,t1]⟩ (z8G H.length)
theorem z9o (m : Nat) (t0 t1 : AV) (H : List AObj) : z19 m t0 t1 H =
 boxE z00 H t1 fun t3 H2 =>
 z4P (some zc_api_Stmt) z01 H2 fun t4 H3 =>
 loadE 8 H3 t3 fun t7 =>
 tellE (z3U m (ro H3 t7)) [(ro H3 t7)] fun t8 =>
 unE .not t8 fun t9 =>
 condE t9 (
  z49 (some z1m) (some zc_api_Stmt) [] fun t10 =>
  z1e 7 H3 t4 t10 fun H4 =>
  loadE 7 H4 t4 fun t9000 =>
  keepK H.length H4 (ro H4 (TU [noT t9000,noT (V (.int .i64 1))]))) (
  loadE 8 H3 t3 fun t12 =>
  tellE (z3P m (ro H3 t12)) [(ro H3 t12)] fun t13 =>
  keepE (z40 m (ro H3 t0) (ro H3 t13) H3) fun t14 H4 =>
  binE none false false .eql t14 (V (.int .i64 0)) fun t16 =>
  condE t16 (
   z49 (some z1m) (some zc_api_Stmt) [] fun t17 =>
   z1e 7 H4 t4 t17 fun H5 =>
   loadE 7 H5 t4 fun t9000 =>
   keepK H.length H5 (ro H5 (TU [noT t9000,noT (V (.int .i64 5))]))) (
   z02 (some (0,1)) t3 fun t18 =>
   loadE 1 H4 t18 fun t19 =>
   z02 (some (1,1)) t3 fun t20 =>
   loadE 1 H4 t20 fun t21 =>
   z02 (some (2,1)) t3 fun t22 =>
   loadE 1 H4 t22 fun t23 =>
   z49 (some z1m) (some zc_api_Stmt) [(0,t19),(1,(V (.int .i64 6))),(2,t21),(3,t23),(4,t14)] fun t25 =>
   z1e 7 H4 t4 t25 fun H5 =>
   loadE 7 H5 t4 fun t9000 =>
   keepK H.length H5 (ro H5 (TU [noT t9000,noT (V (.int .i64 0))])))) := by
 refine (keepX Try.prog GG (z2B m) m ⟨26,[]⟩ H.length z3F z3G ⟨H,argsT 0 [t0,t1]⟩ [.cell 4 41, .tmp 5]).trans ?_
 kernel_rfl
noncomputable def z2g (m : Nat) : List AV → List AObj → RO|[t0,t1],H=>z19 m t0 t1 H|_,_=>none
theorem z4Q (m : Nat) : ∀ args H X H',z2g m args H = some (X,H') → AC Try.prog GG 18 args H (Is X H') := by
 intro args H X H' h
 unfold z2g at h
 split at h
 ·exact z2x MIX (by
  intro f e h
  simp only [z2B,Prod.mk.injEq,List.mem_cons,List.not_mem_nil,or_false] at h
  rcases h with ⟨rfl,rfl⟩|⟨rfl,rfl⟩|⟨rfl,rfl⟩
  ·exact z9P m
  ·exact zaH m
  ·exact z8B m) (f := 18) (c := z3F) Try.func18 rfl (by kernel_rfl) _ rfl Try.ntmps18 (Nat.le_of_ble_eq_true rfl) z3G h
 ·cases h
noncomputable def z0i : Code := (Try.f17.body).getD .skip
def plenumref32_World_Change_h : Hint := (.two .n (.two .n (.join [0,2,4,7] (.join [0,2,4,7,31] .n (.two (.two .n .n) .n)) (.join [0,2,4] (.two .n (.two (.join [0,2,4,43] .n (.two (.two .n .n) .n)) (.join [0,2,4,63] .n (.two (.two .n .n) .n)))) (.join [0,4] (.two .n (.one (.lp [] [0,2,4,8] [0,4,6] (.two (.two .n (.two .n .n)) (.join [0,2,4,8] (.one (.two .n (.join [0,2,4,8,118] .n (.two (.two .n .n) .n)))) .n))))) (.two .n (.two .n .n)))))))
noncomputable def z09 (m : Nat) : Env := [(42, .tell (z52 m)),(47, .tell (z51 m)),(48, .tell (z9A m)),(46, .keep (z3O m)),(15, .keep (z4Y m)),(18, .keep (z2g m)),(49, .tell (z2K m))]
noncomputable abbrev z0t (n0 : Nat) : KO (AV × List AObj) := z77 Try.prog n0 [.tmp 6]
noncomputable def z4d (m : Nat) (n0 : Nat) (kc : ASt → RO) (kx : KO (AV × List AObj)) (s : ASt) : RO := joinW Try.prog GG (z09 m) m ⟨135,[]⟩ (cdR (cdR (cdL (cdL (cdR (cdL (cdR (cdR (cdR (cdR z0i)))))))))) plenumref32_World_Change_h.r.r.r.r.l.r.c.c.r.r s (backW n0 [0,2,4,8] [0,4,6] kc kx)
noncomputable def z0z (m : Nat) (n0 : Nat) (kc : ASt → RO) (kx : KO (AV × List AObj)) (s : ASt) : RO := joinW Try.prog GG (z09 m) m ⟨135,[]⟩ (cdR (cdR (cdL (cdL (cdR (cdL (cdL (cdR (cdL (cdR (cdR (cdR (cdR z0i))))))))))))) plenumref32_World_Change_h.r.r.r.r.l.r.c.c.r.l.c.r.r s (z3K 1 (seqX (fun s=>z4d m n0 kc kx ⟨s.H,[(0,gt s.T 0),(2,gt s.T 2),(4,gt s.T 4),(8,gt s.T 8)]⟩) (backW n0 [0,2,4,8] [0,4,6] kc kx)))
noncomputable def z4f (m : Nat) (n0k : Nat) (s : ASt) : RO := joinW Try.prog GG (z09 m) m ⟨135,[]⟩ (cdR (cdR (cdR (cdR (cdR z0i))))) plenumref32_World_Change_h.r.r.r.r.r s (z0t n0k)
noncomputable def z6Q (m : Nat) (s : ASt) (kc : ASt → RO) (kx : KO (AV × List AObj)) : RO := bodyW Try.prog GG (z09 m) m ⟨135,[]⟩ (cdL (cdL (cdR (cdL (cdR (cdR (cdR (cdR z0i)))))))) plenumref32_World_Change_h.r.r.r.r.l.r.c.c [0,2,4,8] [0,4,6] s kc kx
noncomputable def z1c (m : Nat) (n0k : Nat) (s : ASt) : RO := joinW Try.prog GG (z09 m) m ⟨135,[]⟩ (cdR (cdR (cdR (cdR z0i)))) plenumref32_World_Change_h.r.r.r.r s (z0t n0k)
noncomputable def z4g (m : Nat) (n0k : Nat) (s : ASt) : RO := joinW Try.prog GG (z09 m) m ⟨135,[]⟩ (cdR (cdR (cdR (cdL (cdR (cdR (cdR z0i))))))) plenumref32_World_Change_h.r.r.r.l.r.r.r s (seqX (fun s=>z1c m n0k ⟨s.H,[(0,gt s.T 0),(2,gt s.T 2),(4,gt s.T 4)]⟩) (z0t n0k))
noncomputable def z4e (m : Nat) (n0k : Nat) (s : ASt) : RO := joinW Try.prog GG (z09 m) m ⟨135,[]⟩ (cdR (cdL (cdR (cdL (cdR (cdR (cdR z0i))))))) plenumref32_World_Change_h.r.r.r.l.r.l.r s (seqX (fun s=>z1c m n0k ⟨s.H,[(0,gt s.T 0),(2,gt s.T 2),(4,gt s.T 4)]⟩) (z0t n0k))
noncomputable def z2y (m : Nat) (n0k : Nat) (s : ASt) : RO := joinW Try.prog GG (z09 m) m ⟨135,[]⟩ (cdR (cdR (cdR z0i))) plenumref32_World_Change_h.r.r.r s (z0t n0k)
noncomputable def z2d (m : Nat) (n0k : Nat) (s : ASt) : RO := joinW Try.prog GG (z09 m) m ⟨135,[]⟩ (cdR (cdL (cdR (cdR z0i)))) plenumref32_World_Change_h.r.r.l.r s (seqX (fun s=>z2y m n0k ⟨s.H,[(0,gt s.T 0),(2,gt s.T 2),(4,gt s.T 4),(7,gt s.T 7)]⟩) (z0t n0k))
noncomputable def z2o (m : Nat) (t0 t1 t2 : AV) (H : List AObj) : RO := exec Try.prog GG (z09 m) m ⟨135,[]⟩ z0i plenumref32_World_Change_h ⟨H,argsT 0 [t0,t1,t2]⟩ (z0t H.length)
theorem z0l (m : Nat) (n0 : Nat) (kc : ASt → RO) (kx : KO (AV × List AObj)) (H : List AObj) (t0 t2 t4 t8 : AV) : z4d m n0 kc kx ⟨H,[(0,t0),(2,t2),(4,t4),(8,t8)]⟩ =
 binE none false false .add t8 (V (.int .i64 1)) fun t70 =>
 backE n0 H [(0,t0),(2,t2),(4,t4),(8,t70)] kc := by
 refine (z04 _ _ _ _ _ _ _ _ _).trans ?_
 kernel_rfl
theorem z0m (m : Nat) (n0 : Nat) (kc : ASt → RO) (kx : KO (AV × List AObj)) (H : List AObj) (t0 t2 t4 t8 t118 : AV) : z0z m n0 kc kx ⟨H,[(0,t0),(2,t2),(4,t4),(8,t8),(118,t118)]⟩ =
 condE t118 (
  kx .ret ⟨H,[(0,t0),(4,t4),(6,(V (.bool false)))]⟩) (
  z4d m n0 kc kx ⟨H,[(0,t0),(2,t2),(4,t4),(8,t8)]⟩) := by
 refine (z04 _ _ _ _ _ _ _ _ _).trans ?_
 kernel_rfl
theorem z0j (m : Nat) (n0k : Nat) (H : List AObj) (t0 t4 : AV) : z4f m n0k ⟨H,[(0,t0),(4,t4)]⟩ =
 loadE 8 H t4 fun t121 =>
 keepE (z19 m (ro H t0) (ro H t121) H) fun t122 H2 =>
 extE t122 0 fun t123 =>
 extE t122 1 fun t124 =>
 z4P (some zc_api_Stmt) z01 H2 fun t10 H3 =>
 z1e 7 H3 t10 t123 fun H4 =>
 binE none false false .eql t124 (V (.int .i64 0)) fun t126 =>
 condE t126 (
  nilE t0 fun t129 =>
  z02 (some (1,5)) t129 fun t130 =>
  loadE 5 H4 t130 fun t131 =>
  loadE 7 H4 t10 fun t132 =>
  tellE (z2D m (ro H4 t131) (ro H4 t132)) [(ro H4 t131),(ro H4 t132)] fun t133 =>
  keepK n0k H4 (ro H4 t133)) (
  keepK n0k H4 (ro H4 (V (.bool false)))) := by
 refine (z04 _ _ _ _ _ _ _ _ _).trans ?_
 kernel_rfl
theorem z9G (m : Nat) (H : List AObj) (t0 t2 t4 t8 : AV) (kc : ASt → RO) (kx : KO (AV × List AObj)) : z6Q m ⟨H,[(0,t0),(2,t2),(4,t4),(8,t8)]⟩ kc kx =
 z02 (some (5,1)) t4 fun t65 =>
 loadE 1 H t65 fun t66 =>
 lenE false true H t66 fun t67 =>
 binE none false false .lss t8 t67 fun t68 =>
 condE t68 (
  z02 (some (5,1)) t4 fun t71 =>
  loadE 1 H t71 fun t72 =>
  idxSE 7 H t72 t8 fun t74 =>
  loadE 7 H t74 fun t75 =>
  z4P (some zc_api_Cert) z0a H fun t9 H2 =>
  z1e 7 H2 t9 t75 fun H3 =>
  z02 (some (0,1)) t9 fun t76 =>
  loadE 1 H3 t76 fun t77 =>
  z02 (some (2,1)) t4 fun t78 =>
  loadE 1 H3 t78 fun t79 =>
  binE none false false .leq t77 t79 fun t80 =>
  condE t80 (
   z0z m H.length kc kx ⟨H3,[(0,t0),(2,t2),(4,t4),(8,t8),(118,(V (.bool true)))]⟩) (
   z02 (some (0,1)) t9 fun t82 =>
   loadE 1 H3 t82 fun t83 =>
   z02 (some (2,1)) t4 fun t84 =>
   loadE 1 H3 t84 fun t85 =>
   binE none false false .add t85 (V (.int .i64 16)) fun t86 =>
   binE none false false .gtr t83 t86 fun t87 =>
   condE t87 (
   z0z m H.length kc kx ⟨H3,[(0,t0),(2,t2),(4,t4),(8,t8),(118,(V (.bool true)))]⟩) (
   binE none false false .gtr t8 (V (.int .i64 0)) fun t91 =>
   condE t91 (
   z02 (some (0,1)) t9 fun t93 =>
   loadE 1 H3 t93 fun t94 =>
   z02 (some (5,1)) t4 fun t95 =>
   loadE 1 H3 t95 fun t96 =>
   binE none false false .sub t8 (V (.int .i64 1)) fun t98 =>
   idxSE 7 H3 t96 t98 fun t99 =>
   z02 (some (0,1)) t99 fun t100 =>
   loadE 1 H3 t100 fun t101 =>
   binE none false false .leq t94 t101 fun t102 =>
   condE t102 (
   z0z m H.length kc kx ⟨H3,[(0,t0),(2,t2),(4,t4),(8,t8),(118,(V (.bool true)))]⟩) (
   z02 (some (1,1)) t9 fun t106 =>
   loadE 1 H3 t106 fun t107 =>
   z02 (some (1,1)) t4 fun t108 =>
   loadE 1 H3 t108 fun t109 =>
   binE none false false .geq t107 t109 fun t110 =>
   condE t110 (
   z0z m H.length kc kx ⟨H3,[(0,t0),(2,t2),(4,t4),(8,t8),(118,(V (.bool true)))]⟩) (
   loadE 7 H3 t9 fun t114 =>
   keepE (z2L m (ro H3 t0) (ro H3 t114) (ro H3 t2) H3) fun t116 H4 =>
   unE .not t116 fun t117 =>
   z0z m H.length kc kx ⟨H4,[(0,t0),(2,t2),(4,t4),(8,t8),(118,t117)]⟩))) (
   z02 (some (1,1)) t9 fun t106 =>
   loadE 1 H3 t106 fun t107 =>
   z02 (some (1,1)) t4 fun t108 =>
   loadE 1 H3 t108 fun t109 =>
   binE none false false .geq t107 t109 fun t110 =>
   condE t110 (
   z0z m H.length kc kx ⟨H3,[(0,t0),(2,t2),(4,t4),(8,t8),(118,(V (.bool true)))]⟩) (
   loadE 7 H3 t9 fun t114 =>
   keepE (z2L m (ro H3 t0) (ro H3 t114) (ro H3 t2) H3) fun t116 H4 =>
   unE .not t116 fun t117 =>
   z0z m H.length kc kx ⟨H4,[(0,t0),(2,t2),(4,t4),(8,t8),(118,t117)]⟩))))) (
  kx (.exit 0) ⟨H,[(0,t0),(4,t4),(6, .nil)]⟩) := by
 refine (z2i _ _ _ _ _ _ _ _ _ _ _ _).trans ?_
 kernel_rfl
theorem z0g (m : Nat) (n0k : Nat) (H : List AObj) (t0 t2 t4 : AV) : z1c m n0k ⟨H,[(0,t0),(2,t2),(4,t4)]⟩ =
 iterC m (z6Q m) ⟨H,[(0,t0),(2,t2),(4,t4),(8,(V (.int .i64 0)))]⟩ (z3K 0 (seqX (fun s=>z4f m n0k ⟨s.H,[(0,gt s.T 0),(4,gt s.T 4)]⟩) (z0t n0k))) := by
 refine (z04 _ _ _ _ _ _ _ _ _).trans ?_
 kernel_rfl
theorem z08 (m : Nat) (n0k : Nat) (H : List AObj) (t0 t2 t4 t63 : AV) : z4g m n0k ⟨H,[(0,t0),(2,t2),(4,t4),(63,t63)]⟩ =
 condE t63 (
  keepK n0k H (ro H (V (.bool false)))) (
  z1c m n0k ⟨H,[(0,t0),(2,t2),(4,t4)]⟩) := by
 refine (z04 _ _ _ _ _ _ _ _ _).trans ?_
 kernel_rfl
theorem z07 (m : Nat) (n0k : Nat) (H : List AObj) (t0 t2 t4 t43 : AV) : z4e m n0k ⟨H,[(0,t0),(2,t2),(4,t4),(43,t43)]⟩ =
 condE t43 (
  keepK n0k H (ro H (V (.bool false)))) (
  z1c m n0k ⟨H,[(0,t0),(2,t2),(4,t4)]⟩) := by
 refine (z04 _ _ _ _ _ _ _ _ _).trans ?_
 kernel_rfl
theorem z0h (m : Nat) (n0k : Nat) (H : List AObj) (t0 t2 t4 t7 : AV) : z2y m n0k ⟨H,[(0,t0),(2,t2),(4,t4),(7,t7)]⟩ =
 z02 (some (2,1)) t4 fun t32 =>
 loadE 1 H t32 fun t33 =>
 binE none false false .eql t33 (V (.int .i64 0)) fun t34 =>
 condE t34 (
  z02 (some (3,1)) t4 fun t35 =>
  loadE 1 H t35 fun t36 =>
  binE none false false .neq t36 (V (.int .i64 0)) fun t37 =>
  condE t37 (
   z4e m n0k ⟨H,[(0,t0),(2,t2),(4,t4),(43,(V (.bool true)))]⟩) (
   z02 (some (4,1)) t4 fun t39 =>
   loadE 1 H t39 fun t40 =>
   lenE false true H t40 fun t41 =>
   binE none false false .neq t41 (V (.int .i64 0)) fun t42 =>
   z4e m n0k ⟨H,[(0,t0),(2,t2),(4,t4),(43,t42)]⟩)) (
  z02 (some (2,1)) t4 fun t44 =>
  loadE 1 H t44 fun t45 =>
  tellE (z9e m (ro H t45)) [(ro H t45)] fun t46 =>
  unE .not t46 fun t47 =>
  condE t47 (
   z4g m n0k ⟨H,[(0,t0),(2,t2),(4,t4),(63,(V (.bool true)))]⟩) (
   z02 (some (4,1)) t4 fun t50 =>
   loadE 1 H t50 fun t51 =>
   z02 (some (2,1)) t4 fun t52 =>
   loadE 1 H t52 fun t53 =>
   z02 (some (3,1)) t4 fun t54 =>
   loadE 1 H t54 fun t55 =>
   z49 (some z1m) (some zc_api_Stmt) [(1,(V (.int .i64 5))),(3,t53),(4,t55)] fun t56 =>
   keepE (z2Q m (ro H t0) (ro H t51) (ro H t56) (ro H t2) (V (.int .i64 (-1))) H) fun t58 H2 =>
   binE none false false .mul (V (.int .i64 2)) t7 fun t60 =>
   binE none false false .add t60 (V (.int .i64 1)) fun t61 =>
   binE none false false .lss t58 t61 fun t62 =>
   z4g m n0k ⟨H2,[(0,t0),(2,t2),(4,t4),(63,t62)]⟩)) := by
 refine (z04 _ _ _ _ _ _ _ _ _).trans ?_
 kernel_rfl
theorem z05 (m : Nat) (n0k : Nat) (H : List AObj) (t0 t2 t4 t7 t31 : AV) : z2d m n0k ⟨H,[(0,t0),(2,t2),(4,t4),(7,t7),(31,t31)]⟩ =
 condE t31 (
  keepK n0k H (ro H (V (.bool false)))) (
  z2y m n0k ⟨H,[(0,t0),(2,t2),(4,t4),(7,t7)]⟩) := by
 refine (z04 _ _ _ _ _ _ _ _ _).trans ?_
 kernel_rfl
theorem zaF (m : Nat) (t0 t1 t2 : AV) (H : List AObj) : z2o m t0 t1 t2 H =
 boxE z00 H t1 fun t4 H2 =>
 tellE (z4G m (ro H2 t2)) [(ro H2 t2)] fun t13 =>
 binE none false false .eql t13 (V (.int .i64 0)) fun t15 =>
 condE t15 (
  z2d m H.length ⟨H2,[(0,t0),(2,t2),(4,t4),(7,t13),(31,(V (.bool true)))]⟩) (
  loadE 8 H2 t4 fun t17 =>
  tellE (z3U m (ro H2 t17)) [(ro H2 t17)] fun t18 =>
  unE .not t18 fun t19 =>
  condE t19 (
  z2d m H.length ⟨H2,[(0,t0),(2,t2),(4,t4),(7,t13),(31,(V (.bool true)))]⟩) (
  z02 (some (0,1)) t4 fun t22 =>
  loadE 1 H2 t22 fun t23 =>
  binE none false false .geq t23 t2 fun t25 =>
  condE t25 (
  z2d m H.length ⟨H2,[(0,t0),(2,t2),(4,t4),(7,t13),(31,(V (.bool true)))]⟩) (
  z02 (some (1,1)) t4 fun t28 =>
  loadE 1 H2 t28 fun t29 =>
  binE none false false .lss t29 (V (.int .i64 1)) fun t30 =>
  z2d m H.length ⟨H2,[(0,t0),(2,t2),(4,t4),(7,t13),(31,t30)]⟩))) := by
 refine (keepX Try.prog GG (z09 m) m ⟨135,[]⟩ H.length z0i plenumref32_World_Change_h ⟨H,argsT 0 [t0,t1,t2]⟩ [.tmp 6]).trans ?_
 kernel_rfl
noncomputable def z4v (m : Nat) : List AV → List AObj → RO|[t0,t1,t2],H=>z2o m t0 t1 t2 H|_,_=>none
theorem zaC (m : Nat) : ∀ args H X H',z4v m args H = some (X,H') → AC Try.prog GG 17 args H (Is X H') := by
 intro args H X H' h
 unfold z4v at h
 split at h
 ·exact z2x MIX (by
  intro f e h
  simp only [z09,Prod.mk.injEq,List.mem_cons,List.not_mem_nil,or_false] at h
  rcases h with ⟨rfl,rfl⟩|⟨rfl,rfl⟩|⟨rfl,rfl⟩|⟨rfl,rfl⟩|⟨rfl,rfl⟩|⟨rfl,rfl⟩|⟨rfl,rfl⟩
  ·exact z9M m
  ·exact z9P m
  ·exact zgW m
  ·exact z7H m
  ·exact zbN m
  ·exact z4Q m
  ·exact z5n m) (f := 17) (c := z0i) Try.func17 rfl (by kernel_rfl) _ rfl Try.ntmps17 (Nat.le_of_ble_eq_true rfl) plenumref32_World_Change_h h
 ·cases h
end Go.Proofs.Ytaaogcnjfkgnoaa

namespace Go.Proofs.Ytaaogcnjfkgnoaa
open Go.RowKit
def z2h : TypeId := 26
def z0q : TypeId := 48
def z7o : List AV := [(V (.slice none 0 0)),(V (.int .i64 0)),(V (.slice none 0 0)),(V (.slice none 0 0))]
def z83 : List (Nat × Nat) := [(0,1),(1,1),(2,1)]
def z7v : List (Nat × Nat) := [(0,1),(1,3)]
noncomputable def z2w : Code := (Try.f9.body).getD .skip
def plenumlaw32_bad_h : Hint := (.two .n (.join [] (.two .n (.one (.lp [] [1,3] [2] (.join [1,3] (.join [1,3,12] .n (.two .n .n)) (.join [1,3] (.one (.join [1,3,28] .n (.two (.two .n .n) .n))) .n))))) (.two .n .n)))
noncomputable def z2p (m : Nat) : Env := []
noncomputable abbrev z7Y : KO (AV × List AObj) := z3I Try.prog [.tmp 2]
noncomputable def z8T (m : Nat) (n0 : Nat) (kc : ASt → RO) (kx : KO (AV × List AObj)) (s : ASt) : RO := joinW Try.prog GG (z2p m) m ⟨29,[]⟩ (cdR (cdR (cdL (cdL (cdR (cdL (cdR z2w))))))) plenumlaw32_bad_h.r.l.r.c.c.r.r s (backW n0 [1,3] [2] kc kx)
noncomputable def z94 (m : Nat) (n0 : Nat) (kc : ASt → RO) (kx : KO (AV × List AObj)) (s : ASt) : RO := joinW Try.prog GG (z2p m) m ⟨29,[]⟩ (cdR (cdL (cdL (cdR (cdL (cdL (cdR (cdL (cdR z2w))))))))) plenumlaw32_bad_h.r.l.r.c.c.r.l.c.r s (z3K 1 (seqX (fun s=>z8T m n0 kc kx ⟨s.H,[(1,gt s.T 1),(3,gt s.T 3)]⟩) (backW n0 [1,3] [2] kc kx)))
noncomputable def z8V (m : Nat) (n0 : Nat) (kc : ASt → RO) (kx : KO (AV × List AObj)) (s : ASt) : RO := joinW Try.prog GG (z2p m) m ⟨29,[]⟩ (cdR (cdL (cdL (cdR (cdL (cdR z2w)))))) plenumlaw32_bad_h.r.l.r.c.c.r s (backW n0 [1,3] [2] kc kx)
noncomputable def z99 (m : Nat) (n0 : Nat) (kc : ASt → RO) (kx : KO (AV × List AObj)) (s : ASt) : RO := joinW Try.prog GG (z2p m) m ⟨29,[]⟩ (cdR (cdL (cdL (cdL (cdR (cdL (cdR z2w))))))) plenumlaw32_bad_h.r.l.r.c.c.l.r s (seqX (fun s=>z8V m n0 kc kx ⟨s.H,[(1,gt s.T 1),(3,gt s.T 3)]⟩) (backW n0 [1,3] [2] kc kx))
noncomputable def zbt (m : Nat) (s : ASt) : RO := joinW Try.prog GG (z2p m) m ⟨29,[]⟩ (cdR (cdR z2w)) plenumlaw32_bad_h.r.r s (z7Y)
noncomputable def zbw (m : Nat) (s : ASt) (kc : ASt → RO) (kx : KO (AV × List AObj)) : RO := bodyW Try.prog GG (z2p m) m ⟨29,[]⟩ (cdL (cdL (cdR (cdL (cdR z2w))))) plenumlaw32_bad_h.r.l.r.c.c [1,3] [2] s kc kx
noncomputable def z9i (m : Nat) (t0 : AV) : RO := exec Try.prog GG (z2p m) m ⟨29,[]⟩ z2w plenumlaw32_bad_h ⟨[],argsT 0 [t0]⟩ (z7Y)
theorem zey (m : Nat) (n0 : Nat) (kc : ASt → RO) (kx : KO (AV × List AObj)) (H : List AObj) (t1 t3 : AV) : z8T m n0 kc kx ⟨H,[(1,t1),(3,t3)]⟩ =
 binE none false false .add t3 (V (.int .i64 1)) fun t14 =>
 backE n0 H [(1,t1),(3,t14)] kc := by
 refine (z04 _ _ _ _ _ _ _ _ _).trans ?_
 kernel_rfl
theorem z71 (m : Nat) (n0 : Nat) (kc : ASt → RO) (kx : KO (AV × List AObj)) (H : List AObj) (t1 t3 t28 : AV) : z94 m n0 kc kx ⟨H,[(1,t1),(3,t3),(28,t28)]⟩ =
 condE t28 (
  kx .ret ⟨H,[(2,(V (.bool true)))]⟩) (
  z8T m n0 kc kx ⟨H,[(1,t1),(3,t3)]⟩) := by
 refine (z04 _ _ _ _ _ _ _ _ _).trans ?_
 kernel_rfl
theorem z6U (m : Nat) (n0 : Nat) (kc : ASt → RO) (kx : KO (AV × List AObj)) (H : List AObj) (t1 t3 : AV) : z8V m n0 kc kx ⟨H,[(1,t1),(3,t3)]⟩ =
 z02 (some (1,1)) t1 fun t15 =>
 loadE 1 H t15 fun t16 =>
 idxSE 1 H t16 t3 fun t18 =>
 loadE 1 H t18 fun t19 =>
 binE none false false .lss t19 (V (.int .i64 0)) fun t20 =>
 condE t20 (
  z94 m n0 kc kx ⟨H,[(1,t1),(3,t3),(28,(V (.bool true)))]⟩) (
  z02 (some (1,1)) t1 fun t22 =>
  loadE 1 H t22 fun t23 =>
  idxSE 1 H t23 t3 fun t25 =>
  loadE 1 H t25 fun t26 =>
  binE none false false .gtr t26 (V (.int .i64 6)) fun t27 =>
  z94 m n0 kc kx ⟨H,[(1,t1),(3,t3),(28,t27)]⟩) := by
 refine (z04 _ _ _ _ _ _ _ _ _).trans ?_
 kernel_rfl
theorem z3J (m : Nat) (n0 : Nat) (kc : ASt → RO) (kx : KO (AV × List AObj)) (H : List AObj) (t1 t3 t12 : AV) : z99 m n0 kc kx ⟨H,[(1,t1),(3,t3),(12,t12)]⟩ =
 condE t12 (
  z8V m n0 kc kx ⟨H,[(1,t1),(3,t3)]⟩) (
  kx (.exit 0) ⟨H,[(2, .nil)]⟩) := by
 refine (z04 _ _ _ _ _ _ _ _ _).trans ?_
 kernel_rfl
theorem z3L (m : Nat) (H : List AObj) : zbt m ⟨H,[]⟩ =
 tellK H (ro H (V (.bool false))) := by
 refine (z04 _ _ _ _ _ _ _ _ _).trans ?_
 kernel_rfl
theorem zeC (m : Nat) (H : List AObj) (t1 t3 : AV) (kc : ASt → RO) (kx : KO (AV × List AObj)) : zbw m ⟨H,[(1,t1),(3,t3)]⟩ kc kx =
 z02 (some (1,1)) t1 fun t5 =>
 loadE 1 H t5 fun t6 =>
 lenE false true H t6 fun t7 =>
 binE none false false .lss t3 t7 fun t8 =>
 condE t8 (
  binE none false false .lss t3 (V (.int .i64 10)) fun t11 =>
  z99 m H.length kc kx ⟨H,[(1,t1),(3,t3),(12,t11)]⟩) (
  z99 m H.length kc kx ⟨H,[(1,t1),(3,t3),(12,(V (.bool false)))]⟩) := by
 refine (z2i _ _ _ _ _ _ _ _ _ _ _ _).trans ?_
 kernel_rfl
theorem zh7 (m : Nat) (t0 : AV) : z9i m t0 =
 boxE z2h [] t0 fun t1 H1 =>
 iterC m (zbw m) ⟨H1,[(1,t1),(3,(V (.int .i64 0)))]⟩ (z3K 0 (seqX (fun s=>zbt m ⟨s.H,[]⟩) (z7Y))) := by
 refine (tellX _ _ _ _ _ _ _ _ _).trans ?_
 kernel_rfl
noncomputable def z9D (m : Nat) : List AV → RO|[t0]=>z9i m t0|_=>none
theorem zgz (m : Nat) : ∀ args X H',z9D m args = some (X,H') → ACp Try.prog GG 9 args X := by
 intro args X H' h
 unfold z9D at h
 split at h
 ·exact z0B MIX (by intro f e h;cases h) (f := 9) (c := z2w) Try.func9 rfl (by kernel_rfl) _ rfl Try.ntmps9 (Nat.le_of_ble_eq_true rfl) plenumlaw32_bad_h h
 ·cases h
noncomputable def z0s : Code := (Try.f8.body).getD .skip
def plenumlaw32_set_h : Hint := (.two .n (.join [1] (.two .n (.two .n .n)) (.two .n (.two .n (.gh (9,0,z5A,1) [1,6,7,8,9] .n (.join [1,6,7,9] (.join [1,6,7,9,42] .n (.two (.two .n .n) .n)) (.join [1,6,7,9] (.two .n (.one (.lp [] [1,6,7,9,10] [1,6,7,9] (.join [1,6,7,9,10] (.join [1,6,7,9,10,51] .n (.two .n .n)) (.join [1,6,7,9,10] (.one (.two .n (.join [1,6,7,9,10,11] (.two .n (.two .n .n)) (.two .n .n)))) .n))))) (.join [6,7,9] (.two .n (.one (.lp [] [1,6,7,9,12] [6,7,9] (.join [1,6,7,9,12] (.join [1,6,7,9,12,88] .n (.two .n .n)) (.two (.one (.two .n .n)) .n))))) (.two .n .n)))))))))
noncomputable def z0k (m : Nat) : Env := [(26, .keep (zfI m)),(27, .keep (zg3 m)),(30, .keep (z9d m)),(31, .tell (z5S m)),(28, .keep (z5i m)),(29, .keep (z7T m))]
noncomputable abbrev z1l (n0 : Nat) : KO (AV × List AObj) := zmf Try.prog n0 [.tmp 2, .tmp 3, .tmp 4, .tmp 5]
noncomputable def z5B (m : Nat) (n0 : Nat) (kc : ASt → RO) (kx : KO (AV × List AObj)) (s : ASt) : RO := joinW Try.prog GG (z0k m) m ⟨131,[]⟩ (cdR (cdR (cdL (cdL (cdR (cdL (cdR (cdR (cdR (cdR (cdR (cdR z0s)))))))))))) plenumlaw32_set_h.r.r.r.r.r.r.l.r.c.c.r.r s (backW n0 [1,6,7,9,10] [1,6,7,9] kc kx)
noncomputable def z5y (m : Nat) (n0 : Nat) (kc : ASt → RO) (kx : KO (AV × List AObj)) (s : ASt) : RO := joinW Try.prog GG (z0k m) m ⟨131,[]⟩ (cdR (cdR (cdL (cdL (cdR (cdL (cdL (cdR (cdL (cdR (cdR (cdR (cdR (cdR (cdR z0s))))))))))))))) plenumlaw32_set_h.r.r.r.r.r.r.l.r.c.c.r.l.c.r.r s (z3K 1 (seqX (fun s=>z5B m n0 kc kx ⟨s.H,[(1,gt s.T 1),(6,gt s.T 6),(7,gt s.T 7),(9,gt s.T 9),(10,gt s.T 10)]⟩) (backW n0 [1,6,7,9,10] [1,6,7,9] kc kx)))
noncomputable def z5v (m : Nat) (n0 : Nat) (kc : ASt → RO) (kx : KO (AV × List AObj)) (s : ASt) : RO := joinW Try.prog GG (z0k m) m ⟨131,[]⟩ (cdR (cdL (cdL (cdR (cdL (cdR (cdR (cdR (cdR (cdR (cdR (cdR z0s)))))))))))) plenumlaw32_set_h.r.r.r.r.r.r.r.l.r.c.c.r s (backW n0 [1,6,7,9,12] [6,7,9] kc kx)
noncomputable def z8H (m : Nat) (n0 : Nat) (kc : ASt → RO) (kx : KO (AV × List AObj)) (s : ASt) : RO := joinW Try.prog GG (z0k m) m ⟨131,[]⟩ (cdR (cdL (cdL (cdR (cdL (cdR (cdR (cdR (cdR (cdR (cdR z0s))))))))))) plenumlaw32_set_h.r.r.r.r.r.r.l.r.c.c.r s (backW n0 [1,6,7,9,10] [1,6,7,9] kc kx)
noncomputable def z91 (m : Nat) (n0 : Nat) (kc : ASt → RO) (kx : KO (AV × List AObj)) (s : ASt) : RO := joinW Try.prog GG (z0k m) m ⟨131,[]⟩ (cdR (cdL (cdL (cdL (cdR (cdL (cdR (cdR (cdR (cdR (cdR (cdR (cdR z0s))))))))))))) plenumlaw32_set_h.r.r.r.r.r.r.r.l.r.c.c.l.r s (seqX (fun s=>z5v m n0 kc kx ⟨s.H,[(1,gt s.T 1),(6,gt s.T 6),(7,gt s.T 7),(9,gt s.T 9),(12,gt s.T 12)]⟩) (backW n0 [1,6,7,9,12] [6,7,9] kc kx))
noncomputable def zbG (m : Nat) (n0k : Nat) (s : ASt) : RO := joinW Try.prog GG (z0k m) m ⟨131,[]⟩ (cdR (cdR (cdR (cdR (cdR (cdR (cdR (cdR z0s)))))))) plenumlaw32_set_h.r.r.r.r.r.r.r.r s (z1l n0k)
noncomputable def z8L (m : Nat) (n0 : Nat) (kc : ASt → RO) (kx : KO (AV × List AObj)) (s : ASt) : RO := joinW Try.prog GG (z0k m) m ⟨131,[]⟩ (cdR (cdL (cdL (cdL (cdR (cdL (cdR (cdR (cdR (cdR (cdR (cdR z0s)))))))))))) plenumlaw32_set_h.r.r.r.r.r.r.l.r.c.c.l.r s (seqX (fun s=>z8H m n0 kc kx ⟨s.H,[(1,gt s.T 1),(6,gt s.T 6),(7,gt s.T 7),(9,gt s.T 9),(10,gt s.T 10)]⟩) (backW n0 [1,6,7,9,10] [1,6,7,9] kc kx))
noncomputable def zbS (m : Nat) (s : ASt) (kc : ASt → RO) (kx : KO (AV × List AObj)) : RO := bodyW Try.prog GG (z0k m) m ⟨131,[]⟩ (cdL (cdL (cdR (cdL (cdR (cdR (cdR (cdR (cdR (cdR (cdR z0s))))))))))) plenumlaw32_set_h.r.r.r.r.r.r.r.l.r.c.c [1,6,7,9,12] [6,7,9] s kc kx
noncomputable def z96 (m : Nat) (n0k : Nat) (s : ASt) : RO := joinW Try.prog GG (z0k m) m ⟨131,[]⟩ (cdR (cdR (cdR (cdR (cdR (cdR (cdR z0s))))))) plenumlaw32_set_h.r.r.r.r.r.r.r s (z1l n0k)
noncomputable def zby (m : Nat) (s : ASt) (kc : ASt → RO) (kx : KO (AV × List AObj)) : RO := bodyW Try.prog GG (z0k m) m ⟨131,[]⟩ (cdL (cdL (cdR (cdL (cdR (cdR (cdR (cdR (cdR (cdR z0s)))))))))) plenumlaw32_set_h.r.r.r.r.r.r.l.r.c.c [1,6,7,9,10] [1,6,7,9] s kc kx
noncomputable def z6t (m : Nat) (n0k : Nat) (s : ASt) : RO := joinW Try.prog GG (z0k m) m ⟨131,[]⟩ (cdR (cdR (cdR (cdR (cdR (cdR z0s)))))) plenumlaw32_set_h.r.r.r.r.r.r s (z1l n0k)
noncomputable def z6O (m : Nat) (n0k : Nat) (s : ASt) : RO := joinW Try.prog GG (z0k m) m ⟨131,[]⟩ (cdR (cdL (cdR (cdR (cdR (cdR (cdR z0s))))))) plenumlaw32_set_h.r.r.r.r.r.l.r s (seqX (fun s=>z6t m n0k ⟨s.H,[(1,gt s.T 1),(6,gt s.T 6),(7,gt s.T 7),(9,gt s.T 9)]⟩) (z1l n0k))
noncomputable def zbX (m : Nat) (n0k : Nat) (s : ASt) : RO := joinW Try.prog GG (z0k m) m ⟨131,[]⟩ (cdR (cdR (cdR (cdR (cdR z0s))))) plenumlaw32_set_h.r.r.r.r.r s (z1l n0k)
noncomputable def z6L (m : Nat) (n0k : Nat) (s : ASt) : RO := joinW Try.prog GG (z0k m) m ⟨131,[]⟩ (cdR (cdR z0s)) plenumlaw32_set_h.r.r s (z1l n0k)
noncomputable def z3S (m : Nat) (t0 : AV) (H : List AObj) : RO := exec Try.prog GG (z0k m) m ⟨131,[]⟩ z0s plenumlaw32_set_h ⟨H,argsT 0 [t0]⟩ (z1l H.length)
theorem z9u (m : Nat) (n0 : Nat) (kc : ASt → RO) (kx : KO (AV × List AObj)) (H : List AObj) (t1 t6 t7 t9 t10 : AV) : z5B m n0 kc kx ⟨H,[(1,t1),(6,t6),(7,t7),(9,t9),(10,t10)]⟩ =
 binE none false false .add t10 (V (.int .i64 1)) fun t53 =>
 backE n0 H [(1,t1),(6,t6),(7,t7),(9,t9),(10,t53)] kc := by
 refine (z04 _ _ _ _ _ _ _ _ _).trans ?_
 kernel_rfl
theorem zdE (m : Nat) (n0 : Nat) (kc : ASt → RO) (kx : KO (AV × List AObj)) (H : List AObj) (t1 t6 t7 t9 t10 t11 : AV) : z5y m n0 kc kx ⟨H,[(1,t1),(6,t6),(7,t7),(9,t9),(10,t10),(11,t11)]⟩ =
 keepE (z7L m (ro H t6) (ro H t11) H) fun t66 H2 =>
 nilE t9 fun t70 =>
 z02 (some (0,1)) t70 fun t71 =>
 loadE 1 H2 t71 fun t72 =>
 keepE (z8a m t72 t11 H2) fun t74 H3 =>
 extE t74 0 fun t75 =>
 extE t74 1 fun t76 =>
 extE t74 2 fun t77 =>
 nilE t9 fun t78 =>
 z02 (some (0,1)) t78 fun t79 =>
 z1e 1 H3 t79 t75 fun H4 =>
 z5B m n0 kc kx ⟨H4,[(1,t1),(6,t6),(7,t7),(9,t9),(10,t10)]⟩ := by
 refine (z04 _ _ _ _ _ _ _ _ _).trans ?_
 kernel_rfl
theorem zeg (m : Nat) (n0 : Nat) (kc : ASt → RO) (kx : KO (AV × List AObj)) (H : List AObj) (t1 t6 t7 t9 t12 : AV) : z5v m n0 kc kx ⟨H,[(1,t1),(6,t6),(7,t7),(9,t9),(12,t12)]⟩ =
 z02 (some (2,1)) t1 fun t92 =>
 loadE 1 H t92 fun t93 =>
 idxSE 8 H t93 t12 fun t95 =>
 z02 (some (0,1)) t95 fun t96 =>
 loadE 1 H t96 fun t97 =>
 z02 (some (2,1)) t1 fun t98 =>
 loadE 1 H t98 fun t99 =>
 idxSE 8 H t99 t12 fun t101 =>
 z02 (some (1,7)) t101 fun t102 =>
 loadE 7 H t102 fun t103 =>
 keepE (z7E m (ro H t7) (ro H t97) (ro H t103) H) fun t104 H2 =>
 nilE t9 fun t108 =>
 z02 (some (1,5)) t108 fun t109 =>
 loadE 5 H2 t109 fun t110 =>
 z02 (some (2,1)) t1 fun t111 =>
 loadE 1 H2 t111 fun t112 =>
 idxSE 8 H2 t112 t12 fun t114 =>
 z02 (some (0,1)) t114 fun t115 =>
 loadE 1 H2 t115 fun t116 =>
 z02 (some (2,1)) t1 fun t117 =>
 loadE 1 H2 t117 fun t118 =>
 idxSE 8 H2 t118 t12 fun t120 =>
 z02 (some (1,7)) t120 fun t121 =>
 loadE 7 H2 t121 fun t122 =>
 tellE (z53 m (ro H2 t110) (ro H2 t116) (ro H2 t122)) [(ro H2 t110),(ro H2 t116),(ro H2 t122)] fun t123 =>
 extE t123 0 fun t124 =>
 extE t123 1 fun t125 =>
 nilE t9 fun t126 =>
 z02 (some (1,5)) t126 fun t127 =>
 z1e 5 H2 t127 t124 fun H3 =>
 binE none false false .add t12 (V (.int .i64 1)) fun t90 =>
 backE n0 H3 [(1,t1),(6,t6),(7,t7),(9,t9),(12,t90)] kc := by
 refine (z04 _ _ _ _ _ _ _ _ _).trans ?_
 kernel_rfl
theorem z9L (m : Nat) (n0 : Nat) (kc : ASt → RO) (kx : KO (AV × List AObj)) (H : List AObj) (t1 t6 t7 t9 t10 : AV) : z8H m n0 kc kx ⟨H,[(1,t1),(6,t6),(7,t7),(9,t9),(10,t10)]⟩ =
 z02 (some (0,1)) t1 fun t54 =>
 loadE 1 H t54 fun t55 =>
 idxSE 1 H t55 t10 fun t57 =>
 loadE 1 H t57 fun t58 =>
 lenE true false H t58 fun t60 =>
 binE none false false .gtr t60 (V (.int .i64 3000)) fun t61 =>
 condE t61 (
  zgo true none H t58 none (some (V (.int .i64 3000))) fun t63 =>
  z5y m n0 kc kx ⟨H,[(1,t1),(6,t6),(7,t7),(9,t9),(10,t10),(11,t63)]⟩) (
  z5y m n0 kc kx ⟨H,[(1,t1),(6,t6),(7,t7),(9,t9),(10,t10),(11,t58)]⟩) := by
 refine (z04 _ _ _ _ _ _ _ _ _).trans ?_
 kernel_rfl
theorem z72 (m : Nat) (n0 : Nat) (kc : ASt → RO) (kx : KO (AV × List AObj)) (H : List AObj) (t1 t6 t7 t9 t12 t88 : AV) : z91 m n0 kc kx ⟨H,[(1,t1),(6,t6),(7,t7),(9,t9),(12,t12),(88,t88)]⟩ =
 condE t88 (
  z5v m n0 kc kx ⟨H,[(1,t1),(6,t6),(7,t7),(9,t9),(12,t12)]⟩) (
  kx (.exit 2) ⟨H,[(6,t6),(7,t7),(9,t9)]⟩) := by
 refine (z04 _ _ _ _ _ _ _ _ _).trans ?_
 kernel_rfl
theorem z9Q (m : Nat) (n0k : Nat) (H : List AObj) (t6 t7 t9 : AV) : zbG m n0k ⟨H,[(6,t6),(7,t7),(9,t9)]⟩ =
 openK H (ro H (TU [noT t6,noT t7,noT t9,noT (V (.bool true))])) := by
 refine (z04 _ _ _ _ _ _ _ _ _).trans ?_
 kernel_rfl
theorem z4B (m : Nat) (n0 : Nat) (kc : ASt → RO) (kx : KO (AV × List AObj)) (H : List AObj) (t1 t6 t7 t9 t10 t51 : AV) : z8L m n0 kc kx ⟨H,[(1,t1),(6,t6),(7,t7),(9,t9),(10,t10),(51,t51)]⟩ =
 condE t51 (
  z8H m n0 kc kx ⟨H,[(1,t1),(6,t6),(7,t7),(9,t9),(10,t10)]⟩) (
  kx (.exit 0) ⟨H,[(1,t1),(6,t6),(7,t7),(9,t9)]⟩) := by
 refine (z04 _ _ _ _ _ _ _ _ _).trans ?_
 kernel_rfl
theorem zeE (m : Nat) (H : List AObj) (t1 t6 t7 t9 t12 : AV) (kc : ASt → RO) (kx : KO (AV × List AObj)) : zbS m ⟨H,[(1,t1),(6,t6),(7,t7),(9,t9),(12,t12)]⟩ kc kx =
 z02 (some (2,1)) t1 fun t81 =>
 loadE 1 H t81 fun t82 =>
 lenE false true H t82 fun t83 =>
 binE none false false .lss t12 t83 fun t84 =>
 condE t84 (
  binE none false false .lss t12 (V (.int .i64 120)) fun t87 =>
  z91 m H.length kc kx ⟨H,[(1,t1),(6,t6),(7,t7),(9,t9),(12,t12),(88,t87)]⟩) (
  z91 m H.length kc kx ⟨H,[(1,t1),(6,t6),(7,t7),(9,t9),(12,t12),(88,(V (.bool false)))]⟩) := by
 refine (z2i _ _ _ _ _ _ _ _ _ _ _ _).trans ?_
 kernel_rfl
theorem zeA (m : Nat) (n0k : Nat) (H : List AObj) (t1 t6 t7 t9 : AV) : z96 m n0k ⟨H,[(1,t1),(6,t6),(7,t7),(9,t9)]⟩ =
 iterC m (zbS m) ⟨H,[(1,t1),(6,t6),(7,t7),(9,t9),(12,(V (.int .i64 0)))]⟩ (z3K 2 (seqX (fun s=>zbG m n0k ⟨s.H,[(6,gt s.T 6),(7,gt s.T 7),(9,gt s.T 9)]⟩) (z1l n0k))) := by
 refine (z04 _ _ _ _ _ _ _ _ _).trans ?_
 kernel_rfl
theorem zeL (m : Nat) (H : List AObj) (t1 t6 t7 t9 t10 : AV) (kc : ASt → RO) (kx : KO (AV × List AObj)) : zby m ⟨H,[(1,t1),(6,t6),(7,t7),(9,t9),(10,t10)]⟩ kc kx =
 z02 (some (0,1)) t1 fun t44 =>
 loadE 1 H t44 fun t45 =>
 lenE false true H t45 fun t46 =>
 binE none false false .lss t10 t46 fun t47 =>
 condE t47 (
  binE none false false .lss t10 (V (.int .i64 80)) fun t50 =>
  z8L m H.length kc kx ⟨H,[(1,t1),(6,t6),(7,t7),(9,t9),(10,t10),(51,t50)]⟩) (
  z8L m H.length kc kx ⟨H,[(1,t1),(6,t6),(7,t7),(9,t9),(10,t10),(51,(V (.bool false)))]⟩) := by
 refine (z2i _ _ _ _ _ _ _ _ _ _ _ _).trans ?_
 kernel_rfl
theorem zez (m : Nat) (n0k : Nat) (H : List AObj) (t1 t6 t7 t9 : AV) : z6t m n0k ⟨H,[(1,t1),(6,t6),(7,t7),(9,t9)]⟩ =
 iterC m (zby m) ⟨H,[(1,t1),(6,t6),(7,t7),(9,t9),(10,(V (.int .i64 0)))]⟩ (z3K 0 (seqX (fun s=>z96 m n0k ⟨s.H,[(1,gt s.T 1),(6,gt s.T 6),(7,gt s.T 7),(9,gt s.T 9)]⟩) (z1l n0k))) := by
 refine (z04 _ _ _ _ _ _ _ _ _).trans ?_
 kernel_rfl
theorem z9N (m : Nat) (n0k : Nat) (H : List AObj) (t1 t6 t7 t9 t42 : AV) : z6O m n0k ⟨H,[(1,t1),(6,t6),(7,t7),(9,t9),(42,t42)]⟩ =
 condE t42 (
  openK H (ro H (TU [noT (V (.pointer none)),noT (V (.pointer none)),noT (V (.pointer none)),noT (V (.bool false))]))) (
  z6t m n0k ⟨H,[(1,t1),(6,t6),(7,t7),(9,t9)]⟩) := by
 refine (z04 _ _ _ _ _ _ _ _ _).trans ?_
 kernel_rfl
theorem z9V (m : Nat) (n0k : Nat) (H : List AObj) (t1 t6 t7 t8 t9 : AV) : zbX m n0k ⟨H,[(1,t1),(6,t6),(7,t7),(8,t8),(9,t9)]⟩ =
 ptrE .eql t6 (V (.pointer none)) fun t34 =>
 condE t34 (
  z6O m n0k ⟨H,[(1,t1),(6,t6),(7,t7),(9,t9),(42,(V (.bool true)))]⟩) (
  binE none false false .neq t8 (V (.int .i64 0)) fun t37 =>
  condE t37 (
  z6O m n0k ⟨H,[(1,t1),(6,t6),(7,t7),(9,t9),(42,(V (.bool true)))]⟩) (
  ptrE .eql t7 (V (.pointer none)) fun t41 =>
  z6O m n0k ⟨H,[(1,t1),(6,t6),(7,t7),(9,t9),(42,t41)]⟩)) := by
 refine (z04 _ _ _ _ _ _ _ _ _).trans ?_
 kernel_rfl
theorem z9R (m : Nat) (n0k : Nat) (H : List AObj) (t1 : AV) : z6L m n0k ⟨H,[(1,t1)]⟩ =
 keepE (zh3 m H) fun t21 H2 =>
 z02 (some (1,1)) t1 fun t23 =>
 loadE 1 H2 t23 fun t24 =>
 keepE (ze4 m (V (.int .i64 7)) (ro H2 t24) H2) fun t25 H3 =>
 extE t25 0 fun t26 =>
 extE t25 1 fun t27 =>
 z02 (some (1,1)) t1 fun t28 =>
 loadE 1 H3 t28 fun t29 =>
 z49 (some z83) (some zc_plenumref04_Ring) [(0,(V (.int .i64 7))),(1,t29)] fun t30 =>
 z49 (some z7v) (some z7o) [(1,t30)] fun t31 =>
 boxE z0q H3 t31 fun t32 H4 =>
 zbX m n0k (ghS 9 0 z5A 1 ⟨H4,[(1,t1),(6,t21),(7,t26),(8,t27),(9,t32)]⟩) := by
 refine (z04 _ _ _ _ _ _ _ _ _).trans ?_
 kernel_rfl
theorem zgN (m : Nat) (t0 : AV) (H : List AObj) : z3S m t0 H =
 boxE z2h H t0 fun t1 H2 =>
 z02 (some (1,1)) t1 fun t13 =>
 loadE 1 H2 t13 fun t14 =>
 lenE false true H2 t14 fun t15 =>
 binE none false false .gtr t15 (V (.int .i64 10)) fun t16 =>
 condE t16 (
  z02 (some (1,1)) t1 fun t17 =>
  loadE 1 H2 t17 fun t18 =>
  zgo false (some (z6Y,1)) H2 t18 none (some (V (.int .i64 10))) fun t19 =>
  z02 (some (1,1)) t1 fun t20 =>
  z1e 1 H2 t20 t19 fun H3 =>
  z6L m H.length ⟨H3,[(1,t1)]⟩) (
  z6L m H.length ⟨H2,[(1,t1)]⟩) := by
 refine (openX Try.prog GG (z0k m) m ⟨131,[]⟩ H.length z0s plenumlaw32_set_h ⟨H,argsT 0 [t0]⟩ [.tmp 2, .tmp 3, .tmp 4, .tmp 5]).trans ?_
 kernel_rfl
noncomputable def z9E (m : Nat) : List AV → List AObj → RO|[t0],H=>z3S m t0 H|_,_=>none
theorem zh4 (m : Nat) : ∀ args H X H',z9E m args H = some (X,H') → AC Try.prog GG 8 args H (Is X H') := by
 intro args H X H' h
 unfold z9E at h
 split at h
 ·exact zmZ (n := H.length) MIX (by
  intro f e h
  simp only [z0k,Prod.mk.injEq,List.mem_cons,List.not_mem_nil,or_false] at h
  rcases h with ⟨rfl,rfl⟩|⟨rfl,rfl⟩|⟨rfl,rfl⟩|⟨rfl,rfl⟩|⟨rfl,rfl⟩|⟨rfl,rfl⟩
  ·exact zjT m
  ·exact zk4 m
  ·exact zdP m
  ·exact zdg m
  ·exact z81 m
  ·exact zd2 m) (f := 8) (c := z0s) Try.func8 rfl (by kernel_rfl) _ rfl Try.ntmps8 (Nat.le_of_ble_eq_true rfl) plenumlaw32_set_h h
 ·cases h
end Go.Proofs.Ytaaogcnjfkgnoaa

namespace Go.Proofs.Ytaaogcnjfkgnoaa
open Go.RowKit
theorem z6f (k : Nat) : ((k : Int)).toNat = k := Int.toNat_natCast k
theorem ztd {R : Type} {X : AV} {Y H : List AObj} {K : AV → List AObj → Option R} : addE (some (X,Y)) H K = K X (H ++ Y) := _root_.id rfl
theorem u_bi1 {R : Type} {t : TypeId} {a : Int} {K1 : AV → Option R} : z1a (some (t,1)) 1 [(0,V (.int .i64 a))] K1 = K1 (SL [nA a]) := by
 first|rfl|(simp [z1a,whenE];rfl)|simp [z1a,whenE]
theorem u_bi2 {R : Type} {t : TypeId} {a b : Int} {K1 : AV → Option R} : z1a (some (t,1)) 2 [(0,V (.int .i64 a)),(1,V (.int .i64 b))] K1 = K1 (SL [nA a,nA b]) := by
 first|rfl|(simp [z1a,whenE];rfl)|simp [z1a,whenE]
theorem u_bi3 {R : Type} {t : TypeId} {a b c : Int} {K1 : AV → Option R} : z1a (some (t,1)) 3 [(0,V (.int .i64 a)),(1,V (.int .i64 b)),(2,V (.int .i64 c))] K1 = K1 (SL [nA a,nA b,nA c]) := by
 first|rfl|(simp [z1a,whenE];rfl)|simp [z1a,whenE]
theorem u_bi4 {R : Type} {t : TypeId} {a b c d : Int} {K1 : AV → Option R} : z1a (some (t,1)) 4 [(0,V (.int .i64 a)),(1,V (.int .i64 b)),(2,V (.int .i64 c)),(3,V (.int .i64 d))] K1 = K1 (SL [nA a,nA b,nA c,nA d]) := by
 first|rfl|(simp [z1a,whenE];rfl)|simp [z1a,whenE]
theorem u_bi5 {R : Type} {t : TypeId} {a b c d e : Int} {K1 : AV → Option R} : z1a (some (t,1)) 5 [(0,V (.int .i64 a)),(1,V (.int .i64 b)),(2,V (.int .i64 c)),(3,V (.int .i64 d)),(4,V (.int .i64 e))] K1 = K1 (SL [nA a,nA b,nA c,nA d,nA e]) := by
 first|rfl|(simp [z1a,whenE];rfl)|simp [z1a,whenE]
theorem u_bi6 {R : Type} {t : TypeId} {a b c d e f : Int} {K1 : AV → Option R} : z1a (some (t,1)) 6 [(0,V (.int .i64 a)),(1,V (.int .i64 b)),(2,V (.int .i64 c)),(3,V (.int .i64 d)),(4,V (.int .i64 e)),(5,V (.int .i64 f))] K1 = K1 (SL [nA a,nA b,nA c,nA d,nA e,nA f]) := by
 first|rfl|(simp [z1a,whenE];rfl)|simp [z1a,whenE]
theorem u_bi7 {R : Type} {t : TypeId} {a b c d e f g : Int} {K1 : AV → Option R} : z1a (some (t,1)) 7 [(0,V (.int .i64 a)),(1,V (.int .i64 b)),(2,V (.int .i64 c)),(3,V (.int .i64 d)),(4,V (.int .i64 e)),(5,V (.int .i64 f)),(6,V (.int .i64 g))] K1 = K1 (SL [nA a,nA b,nA c,nA d,nA e,nA f,nA g]) := by
 first|rfl|(simp [z1a,whenE];rfl)|simp [z1a,whenE]
theorem u_bz {R : Type} {t : TypeId} {z : Nat} {K1 : AV → Option R} : z1a (some (t,z)) 0 [] K1 = K1 ZV := by
 first|rfl|(simp [z1a,whenE];rfl)|simp [z1a,whenE]
structure Sm where
 fr : Int
 kd : Int
 vw : Int
 sq : Int
 tm : Int
deriving DecidableEq
def Sm.zero : Sm := ⟨0,0,0,0,0⟩
def smC (x : Sm) : List AV := [nA x.fr,nA x.kd,nA x.vw,nA x.sq,nA x.tm]
def smE (x : Sm) : AV := .agg (smC x)
structure Ce where
 sq : Int
 vw : Int
 tm : Int
 body : List UInt8
 vs : List Sm
deriving DecidableEq
def Ce.zero : Ce := ⟨0,0,0,[],[]⟩
def ceC (x : Ce) : List AV := [nA x.sq,nA x.vw,nA x.tm,sA x.body,SL (x.vs.map smE)]
def ceE (x : Ce) : AV := .agg (ceC x)
structure Ch where
 fr : Int
 vw : Int
 st : Int
 rt : Int
 pf : List Sm
 cs : List Ce
deriving DecidableEq
def Ch.zero : Ch := ⟨0,0,0,0,[],[]⟩
def cgC (x : Ch) : List AV := [nA x.fr,nA x.vw,nA x.st,nA x.rt,SL (x.pf.map smE),SL (x.cs.map ceE)]
def cgE (x : Ch) : AV := .agg (cgC x)
structure Ms where
 kd : Int
 fr : Int
 vw : Int
 sq : Int
 tm : Int
 body : List UInt8
 vs : List Sm
 chs : List Ch
deriving DecidableEq
def Ms.zero : Ms := ⟨0,0,0,0,0,[],[],[]⟩
def msC (x : Ms) : List AV := [nA x.kd,nA x.fr,nA x.vw,nA x.sq,nA x.tm,sA x.body,SL (x.vs.map smE),SL (x.chs.map cgE)]
def msE (x : Ms) : AV := .agg (msC x)
structure Co where
 sq : Int
 tm : Int
 body : List UInt8
 nl : Bool
deriving DecidableEq
def Co.zero : Co := ⟨0,0,[],false⟩
def coC (x : Co) : List AV := [nA x.sq,nA x.tm,sA x.body,bA x.nl]
def coE (x : Co) : AV := .agg (coC x)
structure Sd where
 wh : Int
 fr : Int
 kd : Int
 vw : Int
 sq : Int
 tm : Int
deriving DecidableEq
def Sd.zero : Sd := ⟨0,0,0,0,0,0⟩
def sdC (x : Sd) : List AV := [nA x.wh,nA x.fr,nA x.kd,nA x.vw,nA x.sq,nA x.tm]
def sdE (x : Sd) : AV := .agg (sdC x)
section
variable {R : Type} {n : Nat} {H : List AObj} {K1 : AV → Option R}
theorem sm_it (x : Sm) : smE x = .agg (smC x) := _root_.id rfl
theorem z6A {x : Sm} : (smC x).length = 5 := _root_.id rfl
theorem z37 {x : Sm} : (smC x).all sure = true := _root_.id rfl
theorem z5m {x : Sm} : (smC x).all (ltA n) = true := _root_.id rfl
theorem z6p {x : Sm} : (smC x).all (lt1 n) = true := _root_.id rfl
theorem z3d {x : Sm} : ((smC x).all fun y=>lt1 n (ro1 H y)) = true := _root_.id rfl
theorem sm_ro {x : Sm} : (smC x).map (ro1 H) = smC x := _root_.id rfl
theorem z3i {x : Sm} : (smC x).take 5 = smC x := _root_.id rfl
theorem sm_sl {x : Sm} : ((smC x).all fun y=>sure y && lt1 n y) = true := _root_.id rfl
theorem z6a {x y : Sm} : z06 (smC y) 0 (smC x) = smC x := _root_.id rfl
theorem z69 {x : Sm} : noT (.agg (smC x)) = .agg (smC x) := _root_.id rfl
theorem sm_fr {x : Sm} : nthE (smC x) 0 K1 = K1 (nA x.fr) := _root_.id rfl
theorem z1F {x : Sm} {q : Int} : (smC x).set 0 (nA q) = smC { x with fr := q } := _root_.id rfl
theorem z13 {x : Sm} {q : Int} : z06 (smC x) 0 [nA q] = smC { x with fr := q } := _root_.id rfl
theorem sm_kd {x : Sm} : nthE (smC x) 1 K1 = K1 (nA x.kd) := _root_.id rfl
theorem z28 {x : Sm} {q : Int} : (smC x).set 1 (nA q) = smC { x with kd := q } := _root_.id rfl
theorem z12 {x : Sm} {q : Int} : z06 (smC x) 1 [nA q] = smC { x with kd := q } := _root_.id rfl
theorem sm_vw {x : Sm} : nthE (smC x) 2 K1 = K1 (nA x.vw) := _root_.id rfl
theorem z1u {x : Sm} {q : Int} : (smC x).set 2 (nA q) = smC { x with vw := q } := _root_.id rfl
theorem z0P {x : Sm} {q : Int} : z06 (smC x) 2 [nA q] = smC { x with vw := q } := _root_.id rfl
theorem sm_sq {x : Sm} : nthE (smC x) 3 K1 = K1 (nA x.sq) := _root_.id rfl
theorem z1R {x : Sm} {q : Int} : (smC x).set 3 (nA q) = smC { x with sq := q } := _root_.id rfl
theorem z0S {x : Sm} {q : Int} : z06 (smC x) 3 [nA q] = smC { x with sq := q } := _root_.id rfl
theorem sm_tm {x : Sm} : nthE (smC x) 4 K1 = K1 (nA x.tm) := _root_.id rfl
theorem z1q {x : Sm} {q : Int} : (smC x).set 4 (nA q) = smC { x with tm := q } := _root_.id rfl
theorem z0L {x : Sm} {q : Int} : z06 (smC x) 4 [nA q] = smC { x with tm := q } := _root_.id rfl
theorem z2R : zc_api_Stmt.length = 5 := _root_.id rfl
theorem z2b : zc_api_Stmt.all sure = true := _root_.id rfl
theorem z3k : zc_api_Stmt.all (lt1 n) = true := _root_.id rfl
theorem z63 : (zc_api_Stmt.all fun y=>sure y && lt1 n y) = true := _root_.id rfl
theorem z64 : zc_api_Stmt.map (ro1 H) = smC Sm.zero := _root_.id rfl
theorem z29 : z06 zc_api_Stmt 0 zc_api_Stmt = zc_api_Stmt := _root_.id rfl
theorem z3g {x : Sm} : z06 zc_api_Stmt 0 (smC x) = smC x := _root_.id rfl
theorem z1p {x : Sm} : z06 (smC x) 0 zc_api_Stmt = zc_api_Stmt := _root_.id rfl
theorem z1y : zc_api_Stmt.take 5 = zc_api_Stmt := _root_.id rfl
theorem z2F {l : List Sm} : (l.all fun x=>ltA n (smE x)) = true := List.all_eq_true.2 fun _ _=>rfl
theorem z39 {l : List Sm} : (l.all fun x=>decide ((cellsOf (smE x)).length = 5)) = true := List.all_eq_true.2 fun _ _=>rfl
theorem ce_it (x : Ce) : ceE x = .agg (ceC x) := _root_.id rfl
theorem z6J {x : Ce} : (ceC x).length = 5 := _root_.id rfl
theorem z31 {x : Ce} : (ceC x).all sure = true := _root_.id rfl
theorem z4Z {x : Ce} : (ceC x).all (ltA n) = true := _root_.id rfl
theorem z6x {x : Ce} : (ceC x).all (lt1 n) = true := _root_.id rfl
theorem z3A {x : Ce} : ((ceC x).all fun y=>lt1 n (ro1 H y)) = true := _root_.id rfl
theorem ce_ro {x : Ce} : (ceC x).map (ro1 H) = ceC x := _root_.id rfl
theorem z3t {x : Ce} : (ceC x).take 5 = ceC x := _root_.id rfl
theorem ce_sl {x : Ce} : ((ceC x).all fun y=>sure y && lt1 n y) = true := _root_.id rfl
theorem z6d {x y : Ce} : z06 (ceC y) 0 (ceC x) = ceC x := _root_.id rfl
theorem z6g {x : Ce} : noT (.agg (ceC x)) = .agg (ceC x) := _root_.id rfl
theorem ce_sq {x : Ce} : nthE (ceC x) 0 K1 = K1 (nA x.sq) := _root_.id rfl
theorem z1X {x : Ce} {q : Int} : (ceC x).set 0 (nA q) = ceC { x with sq := q } := _root_.id rfl
theorem z14 {x : Ce} {q : Int} : z06 (ceC x) 0 [nA q] = ceC { x with sq := q } := _root_.id rfl
theorem ce_vw {x : Ce} : nthE (ceC x) 1 K1 = K1 (nA x.vw) := _root_.id rfl
theorem z1C {x : Ce} {q : Int} : (ceC x).set 1 (nA q) = ceC { x with vw := q } := _root_.id rfl
theorem z0H {x : Ce} {q : Int} : z06 (ceC x) 1 [nA q] = ceC { x with vw := q } := _root_.id rfl
theorem ce_tm {x : Ce} : nthE (ceC x) 2 K1 = K1 (nA x.tm) := _root_.id rfl
theorem z1U {x : Ce} {q : Int} : (ceC x).set 2 (nA q) = ceC { x with tm := q } := _root_.id rfl
theorem z0W {x : Ce} {q : Int} : z06 (ceC x) 2 [nA q] = ceC { x with tm := q } := _root_.id rfl
theorem z33 {x : Ce} : nthE (ceC x) 3 K1 = K1 (sA x.body) := _root_.id rfl
theorem z0v {x : Ce} {q : List UInt8} : (ceC x).set 3 (sA q) = ceC { x with body := q } := _root_.id rfl
theorem z0n {x : Ce} {q : List UInt8} : z06 (ceC x) 3 [sA q] = ceC { x with body := q } := _root_.id rfl
theorem ce_vs {x : Ce} : nthE (ceC x) 4 K1 = K1 (SL (x.vs.map smE)) := _root_.id rfl
theorem z1P {x : Ce} {q : List Sm} : (ceC x).set 4 (SL (q.map smE)) = ceC { x with vs := q } := _root_.id rfl
theorem z0X {x : Ce} {q : List Sm} : z06 (ceC x) 4 [SL (q.map smE)] = ceC { x with vs := q } := _root_.id rfl
theorem z36 : zc_api_Cert.length = 5 := _root_.id rfl
theorem z1t : zc_api_Cert.all sure = true := _root_.id rfl
theorem z3r : zc_api_Cert.all (lt1 n) = true := _root_.id rfl
theorem z6F : (zc_api_Cert.all fun y=>sure y && lt1 n y) = true := _root_.id rfl
theorem z6H : zc_api_Cert.map (ro1 H) = ceC Ce.zero := _root_.id rfl
theorem z1T : z06 zc_api_Cert 0 zc_api_Cert = zc_api_Cert := _root_.id rfl
theorem z2X {x : Ce} : z06 zc_api_Cert 0 (ceC x) = ceC x := _root_.id rfl
theorem z1z {x : Ce} : z06 (ceC x) 0 zc_api_Cert = zc_api_Cert := _root_.id rfl
theorem z2c : zc_api_Cert.take 5 = zc_api_Cert := _root_.id rfl
theorem z2M {l : List Ce} : (l.all fun x=>ltA n (ceE x)) = true := List.all_eq_true.2 fun _ _=>rfl
theorem z2V {l : List Ce} : (l.all fun x=>decide ((cellsOf (ceE x)).length = 5)) = true := List.all_eq_true.2 fun _ _=>rfl
theorem cg_it (x : Ch) : cgE x = .agg (cgC x) := _root_.id rfl
theorem z67 {x : Ch} : (cgC x).length = 6 := _root_.id rfl
theorem z3s {x : Ch} : (cgC x).all sure = true := _root_.id rfl
theorem z61 {x : Ch} : (cgC x).all (ltA n) = true := _root_.id rfl
theorem z6n {x : Ch} : (cgC x).all (lt1 n) = true := _root_.id rfl
theorem z2U {x : Ch} : ((cgC x).all fun y=>lt1 n (ro1 H y)) = true := _root_.id rfl
theorem cg_ro {x : Ch} : (cgC x).map (ro1 H) = cgC x := _root_.id rfl
theorem z3E {x : Ch} : (cgC x).take 6 = cgC x := _root_.id rfl
theorem cg_sl {x : Ch} : ((cgC x).all fun y=>sure y && lt1 n y) = true := _root_.id rfl
theorem z6b {x y : Ch} : z06 (cgC y) 0 (cgC x) = cgC x := _root_.id rfl
theorem z6u {x : Ch} : noT (.agg (cgC x)) = .agg (cgC x) := _root_.id rfl
theorem cg_fr {x : Ch} : nthE (cgC x) 0 K1 = K1 (nA x.fr) := _root_.id rfl
theorem z1J {x : Ch} {q : Int} : (cgC x).set 0 (nA q) = cgC { x with fr := q } := _root_.id rfl
theorem z0N {x : Ch} {q : Int} : z06 (cgC x) 0 [nA q] = cgC { x with fr := q } := _root_.id rfl
theorem cg_vw {x : Ch} : nthE (cgC x) 1 K1 = K1 (nA x.vw) := _root_.id rfl
theorem z1Q {x : Ch} {q : Int} : (cgC x).set 1 (nA q) = cgC { x with vw := q } := _root_.id rfl
theorem z11 {x : Ch} {q : Int} : z06 (cgC x) 1 [nA q] = cgC { x with vw := q } := _root_.id rfl
theorem cg_st {x : Ch} : nthE (cgC x) 2 K1 = K1 (nA x.st) := _root_.id rfl
theorem z1M {x : Ch} {q : Int} : (cgC x).set 2 (nA q) = cgC { x with st := q } := _root_.id rfl
theorem z0G {x : Ch} {q : Int} : z06 (cgC x) 2 [nA q] = cgC { x with st := q } := _root_.id rfl
theorem cg_rt {x : Ch} : nthE (cgC x) 3 K1 = K1 (nA x.rt) := _root_.id rfl
theorem z1H {x : Ch} {q : Int} : (cgC x).set 3 (nA q) = cgC { x with rt := q } := _root_.id rfl
theorem z17 {x : Ch} {q : Int} : z06 (cgC x) 3 [nA q] = cgC { x with rt := q } := _root_.id rfl
theorem cg_pf {x : Ch} : nthE (cgC x) 4 K1 = K1 (SL (x.pf.map smE)) := _root_.id rfl
theorem z1Z {x : Ch} {q : List Sm} : (cgC x).set 4 (SL (q.map smE)) = cgC { x with pf := q } := _root_.id rfl
theorem z0E {x : Ch} {q : List Sm} : z06 (cgC x) 4 [SL (q.map smE)] = cgC { x with pf := q } := _root_.id rfl
theorem cg_cs {x : Ch} : nthE (cgC x) 5 K1 = K1 (SL (x.cs.map ceE)) := _root_.id rfl
theorem z1N {x : Ch} {q : List Ce} : (cgC x).set 5 (SL (q.map ceE)) = cgC { x with cs := q } := _root_.id rfl
theorem z0I {x : Ch} {q : List Ce} : z06 (cgC x) 5 [SL (q.map ceE)] = cgC { x with cs := q } := _root_.id rfl
theorem z32 : zc_api_Change.length = 6 := _root_.id rfl
theorem z1I : zc_api_Change.all sure = true := _root_.id rfl
theorem z3b : zc_api_Change.all (lt1 n) = true := _root_.id rfl
theorem z6y : (zc_api_Change.all fun y=>sure y && lt1 n y) = true := _root_.id rfl
theorem z6c : zc_api_Change.map (ro1 H) = cgC Ch.zero := _root_.id rfl
theorem z1V : z06 zc_api_Change 0 zc_api_Change = zc_api_Change := _root_.id rfl
theorem z3v {x : Ch} : z06 zc_api_Change 0 (cgC x) = cgC x := _root_.id rfl
theorem z23 {x : Ch} : z06 (cgC x) 0 zc_api_Change = zc_api_Change := _root_.id rfl
theorem z1L : zc_api_Change.take 6 = zc_api_Change := _root_.id rfl
theorem z35 {l : List Ch} : (l.all fun x=>ltA n (cgE x)) = true := List.all_eq_true.2 fun _ _=>rfl
theorem z3p {l : List Ch} : (l.all fun x=>decide ((cellsOf (cgE x)).length = 6)) = true := List.all_eq_true.2 fun _ _=>rfl
theorem ms_it (x : Ms) : msE x = .agg (msC x) := _root_.id rfl
theorem z6o {x : Ms} : (msC x).length = 8 := _root_.id rfl
theorem z3n {x : Ms} : (msC x).all sure = true := _root_.id rfl
theorem z6C {x : Ms} : (msC x).all (ltA n) = true := _root_.id rfl
theorem z6h {x : Ms} : (msC x).all (lt1 n) = true := _root_.id rfl
theorem z3h {x : Ms} : ((msC x).all fun y=>lt1 n (ro1 H y)) = true := _root_.id rfl
theorem ms_ro {x : Ms} : (msC x).map (ro1 H) = msC x := _root_.id rfl
theorem z3e {x : Ms} : (msC x).take 8 = msC x := _root_.id rfl
theorem ms_sl {x : Ms} : ((msC x).all fun y=>sure y && lt1 n y) = true := _root_.id rfl
theorem z6E {x y : Ms} : z06 (msC y) 0 (msC x) = msC x := _root_.id rfl
theorem z6r {x : Ms} : noT (.agg (msC x)) = .agg (msC x) := _root_.id rfl
theorem ms_kd {x : Ms} : nthE (msC x) 0 K1 = K1 (nA x.kd) := _root_.id rfl
theorem z1S {x : Ms} {q : Int} : (msC x).set 0 (nA q) = msC { x with kd := q } := _root_.id rfl
theorem z0R {x : Ms} {q : Int} : z06 (msC x) 0 [nA q] = msC { x with kd := q } := _root_.id rfl
theorem ms_fr {x : Ms} : nthE (msC x) 1 K1 = K1 (nA x.fr) := _root_.id rfl
theorem z1v {x : Ms} {q : Int} : (msC x).set 1 (nA q) = msC { x with fr := q } := _root_.id rfl
theorem z0O {x : Ms} {q : Int} : z06 (msC x) 1 [nA q] = msC { x with fr := q } := _root_.id rfl
theorem ms_vw {x : Ms} : nthE (msC x) 2 K1 = K1 (nA x.vw) := _root_.id rfl
theorem z25 {x : Ms} {q : Int} : (msC x).set 2 (nA q) = msC { x with vw := q } := _root_.id rfl
theorem z0U {x : Ms} {q : Int} : z06 (msC x) 2 [nA q] = msC { x with vw := q } := _root_.id rfl
theorem ms_sq {x : Ms} : nthE (msC x) 3 K1 = K1 (nA x.sq) := _root_.id rfl
theorem z1s {x : Ms} {q : Int} : (msC x).set 3 (nA q) = msC { x with sq := q } := _root_.id rfl
theorem z0Z {x : Ms} {q : Int} : z06 (msC x) 3 [nA q] = msC { x with sq := q } := _root_.id rfl
theorem ms_tm {x : Ms} : nthE (msC x) 4 K1 = K1 (nA x.tm) := _root_.id rfl
theorem z1G {x : Ms} {q : Int} : (msC x).set 4 (nA q) = msC { x with tm := q } := _root_.id rfl
theorem z0F {x : Ms} {q : Int} : z06 (msC x) 4 [nA q] = msC { x with tm := q } := _root_.id rfl
theorem z3c {x : Ms} : nthE (msC x) 5 K1 = K1 (sA x.body) := _root_.id rfl
theorem z0u {x : Ms} {q : List UInt8} : (msC x).set 5 (sA q) = msC { x with body := q } := _root_.id rfl
theorem z0o {x : Ms} {q : List UInt8} : z06 (msC x) 5 [sA q] = msC { x with body := q } := _root_.id rfl
theorem ms_vs {x : Ms} : nthE (msC x) 6 K1 = K1 (SL (x.vs.map smE)) := _root_.id rfl
theorem z1E {x : Ms} {q : List Sm} : (msC x).set 6 (SL (q.map smE)) = msC { x with vs := q } := _root_.id rfl
theorem z0Y {x : Ms} {q : List Sm} : z06 (msC x) 6 [SL (q.map smE)] = msC { x with vs := q } := _root_.id rfl
theorem z68 {x : Ms} : nthE (msC x) 7 K1 = K1 (SL (x.chs.map cgE)) := _root_.id rfl
theorem z0Q {x : Ms} {q : List Ch} : (msC x).set 7 (SL (q.map cgE)) = msC { x with chs := q } := _root_.id rfl
theorem z0x {x : Ms} {q : List Ch} : z06 (msC x) 7 [SL (q.map cgE)] = msC { x with chs := q } := _root_.id rfl
theorem z3C : zc_api_Msg.length = 8 := _root_.id rfl
theorem z1W : zc_api_Msg.all sure = true := _root_.id rfl
theorem z3x : zc_api_Msg.all (lt1 n) = true := _root_.id rfl
theorem z65 : (zc_api_Msg.all fun y=>sure y && lt1 n y) = true := _root_.id rfl
theorem z6K : zc_api_Msg.map (ro1 H) = msC Ms.zero := _root_.id rfl
theorem z20 : z06 zc_api_Msg 0 zc_api_Msg = zc_api_Msg := _root_.id rfl
theorem z3D {x : Ms} : z06 zc_api_Msg 0 (msC x) = msC x := _root_.id rfl
theorem z24 {x : Ms} : z06 (msC x) 0 zc_api_Msg = zc_api_Msg := _root_.id rfl
theorem z27 : zc_api_Msg.take 8 = zc_api_Msg := _root_.id rfl
theorem z3q {l : List Ms} : (l.all fun x=>ltA n (msE x)) = true := List.all_eq_true.2 fun _ _=>rfl
theorem z2Y {l : List Ms} : (l.all fun x=>decide ((cellsOf (msE x)).length = 8)) = true := List.all_eq_true.2 fun _ _=>rfl
theorem co_it (x : Co) : coE x = .agg (coC x) := _root_.id rfl
theorem z6M {x : Co} : (coC x).length = 4 := _root_.id rfl
theorem z2W {x : Co} : (coC x).all sure = true := _root_.id rfl
theorem z6D {x : Co} : (coC x).all (ltA n) = true := _root_.id rfl
theorem z6m {x : Co} : (coC x).all (lt1 n) = true := _root_.id rfl
theorem z3m {x : Co} : ((coC x).all fun y=>lt1 n (ro1 H y)) = true := _root_.id rfl
theorem co_ro {x : Co} : (coC x).map (ro1 H) = coC x := _root_.id rfl
theorem z3o {x : Co} : (coC x).take 4 = coC x := _root_.id rfl
theorem co_sl {x : Co} : ((coC x).all fun y=>sure y && lt1 n y) = true := _root_.id rfl
theorem z6w {x y : Co} : z06 (coC y) 0 (coC x) = coC x := _root_.id rfl
theorem z66 {x : Co} : noT (.agg (coC x)) = .agg (coC x) := _root_.id rfl
theorem co_sq {x : Co} : nthE (coC x) 0 K1 = K1 (nA x.sq) := _root_.id rfl
theorem z26 {x : Co} {q : Int} : (coC x).set 0 (nA q) = coC { x with sq := q } := _root_.id rfl
theorem z0V {x : Co} {q : Int} : z06 (coC x) 0 [nA q] = coC { x with sq := q } := _root_.id rfl
theorem co_tm {x : Co} : nthE (coC x) 1 K1 = K1 (nA x.tm) := _root_.id rfl
theorem z1B {x : Co} {q : Int} : (coC x).set 1 (nA q) = coC { x with tm := q } := _root_.id rfl
theorem z0K {x : Co} {q : Int} : z06 (coC x) 1 [nA q] = coC { x with tm := q } := _root_.id rfl
theorem z3z {x : Co} : nthE (coC x) 2 K1 = K1 (sA x.body) := _root_.id rfl
theorem z0y {x : Co} {q : List UInt8} : (coC x).set 2 (sA q) = coC { x with body := q } := _root_.id rfl
theorem z0p {x : Co} {q : List UInt8} : z06 (coC x) 2 [sA q] = coC { x with body := q } := _root_.id rfl
theorem co_nl {x : Co} : nthE (coC x) 3 K1 = K1 (bA x.nl) := _root_.id rfl
theorem z1w {x : Co} {q : Bool} : (coC x).set 3 (bA q) = coC { x with nl := q } := _root_.id rfl
theorem z0M {x : Co} {q : Bool} : z06 (coC x) 3 [bA q] = coC { x with nl := q } := _root_.id rfl
theorem z3y : zc_api_Choice.length = 4 := _root_.id rfl
theorem z1o : zc_api_Choice.all sure = true := _root_.id rfl
theorem z3l : zc_api_Choice.all (lt1 n) = true := _root_.id rfl
theorem z6N : (zc_api_Choice.all fun y=>sure y && lt1 n y) = true := _root_.id rfl
theorem z6v : zc_api_Choice.map (ro1 H) = coC Co.zero := _root_.id rfl
theorem z1K : z06 zc_api_Choice 0 zc_api_Choice = zc_api_Choice := _root_.id rfl
theorem z3j {x : Co} : z06 zc_api_Choice 0 (coC x) = coC x := _root_.id rfl
theorem z1Y {x : Co} : z06 (coC x) 0 zc_api_Choice = zc_api_Choice := _root_.id rfl
theorem z1O : zc_api_Choice.take 4 = zc_api_Choice := _root_.id rfl
theorem z2N {l : List Co} : (l.all fun x=>ltA n (coE x)) = true := List.all_eq_true.2 fun _ _=>rfl
theorem z2Z {l : List Co} : (l.all fun x=>decide ((cellsOf (coE x)).length = 4)) = true := List.all_eq_true.2 fun _ _=>rfl
theorem sd_it (x : Sd) : sdE x = .agg (sdC x) := _root_.id rfl
theorem z6e {x : Sd} : (sdC x).length = 6 := _root_.id rfl
theorem z3B {x : Sd} : (sdC x).all sure = true := _root_.id rfl
theorem z6z {x : Sd} : (sdC x).all (ltA n) = true := _root_.id rfl
theorem z6G {x : Sd} : (sdC x).all (lt1 n) = true := _root_.id rfl
theorem z3a {x : Sd} : ((sdC x).all fun y=>lt1 n (ro1 H y)) = true := _root_.id rfl
theorem sd_ro {x : Sd} : (sdC x).map (ro1 H) = sdC x := _root_.id rfl
theorem z2T {x : Sd} : (sdC x).take 6 = sdC x := _root_.id rfl
theorem sd_sl {x : Sd} : ((sdC x).all fun y=>sure y && lt1 n y) = true := _root_.id rfl
theorem z6I {x y : Sd} : z06 (sdC y) 0 (sdC x) = sdC x := _root_.id rfl
theorem z6i {x : Sd} : noT (.agg (sdC x)) = .agg (sdC x) := _root_.id rfl
theorem sd_wh {x : Sd} : nthE (sdC x) 0 K1 = K1 (nA x.wh) := _root_.id rfl
theorem z21 {x : Sd} {q : Int} : (sdC x).set 0 (nA q) = sdC { x with wh := q } := _root_.id rfl
theorem z15 {x : Sd} {q : Int} : z06 (sdC x) 0 [nA q] = sdC { x with wh := q } := _root_.id rfl
theorem sd_fr {x : Sd} : nthE (sdC x) 1 K1 = K1 (nA x.fr) := _root_.id rfl
theorem z1x {x : Sd} {q : Int} : (sdC x).set 1 (nA q) = sdC { x with fr := q } := _root_.id rfl
theorem z0T {x : Sd} {q : Int} : z06 (sdC x) 1 [nA q] = sdC { x with fr := q } := _root_.id rfl
theorem sd_kd {x : Sd} : nthE (sdC x) 2 K1 = K1 (nA x.kd) := _root_.id rfl
theorem z1D {x : Sd} {q : Int} : (sdC x).set 2 (nA q) = sdC { x with kd := q } := _root_.id rfl
theorem z18 {x : Sd} {q : Int} : z06 (sdC x) 2 [nA q] = sdC { x with kd := q } := _root_.id rfl
theorem sd_vw {x : Sd} : nthE (sdC x) 3 K1 = K1 (nA x.vw) := _root_.id rfl
theorem z1A {x : Sd} {q : Int} : (sdC x).set 3 (nA q) = sdC { x with vw := q } := _root_.id rfl
theorem z0J {x : Sd} {q : Int} : z06 (sdC x) 3 [nA q] = sdC { x with vw := q } := _root_.id rfl
theorem sd_sq {x : Sd} : nthE (sdC x) 4 K1 = K1 (nA x.sq) := _root_.id rfl
theorem z22 {x : Sd} {q : Int} : (sdC x).set 4 (nA q) = sdC { x with sq := q } := _root_.id rfl
theorem z16 {x : Sd} {q : Int} : z06 (sdC x) 4 [nA q] = sdC { x with sq := q } := _root_.id rfl
theorem sd_tm {x : Sd} : nthE (sdC x) 5 K1 = K1 (nA x.tm) := _root_.id rfl
theorem z1r {x : Sd} {q : Int} : (sdC x).set 5 (nA q) = sdC { x with tm := q } := _root_.id rfl
theorem z10 {x : Sd} {q : Int} : z06 (sdC x) 5 [nA q] = sdC { x with tm := q } := _root_.id rfl
theorem z30 {l : List Sd} : (l.all fun x=>ltA n (sdE x)) = true := List.all_eq_true.2 fun _ _=>rfl
theorem z38 {l : List Sd} : (l.all fun x=>decide ((cellsOf (sdE x)).length = 6)) = true := List.all_eq_true.2 fun _ _=>rfl
end
end Go.Proofs.Ytaaogcnjfkgnoaa

namespace Go.Proofs.Ytaaogcnjfkgnoaa
open Go.RowKit
attribute [local go_sem] Nat.zero_add Nat.add_zero Nat.mul_one Int.toNat_natCast Int.natCast_zero Int.cast_ofNat_Int or_false false_or or_true true_or Nat.sub_zero Int.natCast_nonneg Int.toNat_zero Bool.true_and Bool.and_true Bool.false_and Bool.and_false Bool.true_or Bool.or_true Bool.false_or Bool.or_false Bool.not_true Bool.not_false Bool.not_not true_and and_true false_and and_false not_true_eq_false not_false_eq_true eq_self decide_true decide_false ne_eq implies_true forall_const true_implies false_implies Bool.true_eq_false Bool.false_eq_true List.map_cons List.map_nil List.all_cons List.all_nil List.length_cons List.length_nil List.length_map List.length_append List.nil_append List.cons_append List.set_cons_zero List.set_cons_succ List.set_nil List.drop_zero List.drop_succ_cons List.drop_nil List.take_zero List.take_succ_cons List.take_nil Option.map_some Option.map_none Option.isSome_some List.all_append List.all_map Function.comp_def decide_eq_true_eq Bool.and_eq_true beq_self_eq_true or_self and_self ite_true ite_false Nat.le_refl Bool.not_eq_true decide_not Bool.not_eq_true' decide_eq_false_iff_not Bool.not_eq_false Bool.or_eq_true if_true if_false ite_self u_roF u_cvF u_cvC u_ceT u_ceK z2m sm_it z6A z37 z5m z6p z3d sm_ro z3i sm_sl z6a z69 sm_fr z1F z13 sm_kd z28 z12 sm_vw z1u z0P sm_sq z1R z0S sm_tm z1q z0L z2R z2b z3k z63 z64 z29 z3g z1p z1y z2F z39 ce_it z6J z31 z4Z z6x z3A ce_ro z3t ce_sl z6d z6g ce_sq z1X z14 ce_vw z1C z0H ce_tm z1U z0W z33 z0v z0n ce_vs z1P z0X z36 z1t z3r z6F z6H z1T z2X z1z z2c z2M z2V cg_it z67 z3s z61 z6n z2U cg_ro z3E cg_sl z6b z6u cg_fr z1J z0N cg_vw z1Q z11 cg_st z1M z0G cg_rt z1H z17 cg_pf z1Z z0E cg_cs z1N z0I z32 z1I z3b z6y z6c z1V z3v z23 z1L z35 z3p ms_it z6o z3n z6C z6h z3h ms_ro z3e ms_sl z6E z6r ms_kd z1S z0R ms_fr z1v z0O ms_vw z25 z0U ms_sq z1s z0Z ms_tm z1G z0F z3c z0u z0o ms_vs z1E z0Y z68 z0Q z0x z3C z1W z3x z65 z6K z20 z3D z24 z27 z3q z2Y co_it z6M z2W z6D z6m z3m co_ro z3o co_sl z6w z66 co_sq z26 z0V co_tm z1B z0K z3z z0y z0p co_nl z1w z0M z3y z1o z3l z6N z6v z1K z3j z1Y z1O z2N z2Z sd_it z6e z3B z6z z6G z3a sd_ro z2T sd_sl z6I z6i sd_wh z21 z15 sd_fr z1x z0T sd_kd z1D z18 sd_vw z1A z0J sd_sq z22 z16 sd_tm z1r z10 z30 z38 z6f z5O u_bz u_bi1 u_bi2 u_bi3 u_bi4 u_bi5 u_bi6 u_bi7
attribute [local go_sem_proc] Nat.reduceAdd Nat.reduceSub Nat.reduceMul Nat.reduceLeDiff Nat.reduceLT Int.reduceEq Int.reduceNe Int.reduceLT Int.reduceLE Int.reduceAdd Int.reduceSub Int.reduceMul Int.reduceNeg Int.reduceToNat reduceCtorEq Nat.reduceEqDiff Nat.reduceBEq Nat.reduceGT
attribute [local go_sem_proc ↓] reduceIte
def numB (v : Int) : Bool := decide (0 ≤ v) && decide (v ≤ 2147483647)
def parB (v : Int) : Bool := decide (0 ≤ v) && decide (v ≤ 63)
def smB (x : Sm) : Bool := parB x.fr && [x.kd,x.vw,x.sq,x.tm].all numB
def smsB (l : List Sm) : Bool := decide (l.length ≤ 64) && l.all smB
def ceB (x : Ce) : Bool := [x.sq,x.vw,x.tm].all numB && (decide (x.body.length ≤ 65536) && smsB x.vs)
def cesB (l : List Ce) : Bool := decide (l.length ≤ 64) && l.all ceB
def cgB (x : Ch) : Bool := parB x.fr && ([x.vw,x.st,x.rt].all numB && (smsB x.pf && cesB x.cs))
theorem zmg (m : Nat) (l : List Int) (hm : l.length < m) (hl : l.length ≤ 34359738367) : zaa m (SL (l.map nA)) = some (bA (l.all numB),[]) := by
 rw [zkj]
 simp (config := {maxSteps := 4000000,implicitDefEqProofs := false}) (disch := omega) only [go_sem,]
 generalize hg : l.all numB = g
 refine z4a (ι := {k : Nat // k ≤ l.length ∧ (l.drop k).all numB = g}) (fun k=>⟨[],[(5,SL (l.map nA)),(6,nA l.length),(7,nA k.1)]⟩) (fun k=>l.length - k.1) (fun _=>some (bA g,[])) ?_ ⟨0,Nat.zero_le _,hg⟩ (by dsimp only;omega)
 rintro kx hkx ⟨k,hk,hG⟩ kc hkc
 dsimp only at hkc hG ⊢
 rw [zhQ]
 by_cases hlt : k < l.length
 ·have hlt' : (k : Int) < (l.length : Int) := by omega
  rw [List.drop_eq_getElem_cons hlt,List.all_cons] at hG
  by_cases h1 : l[k] < 0
  ·have e : numB l[k] = false := by unfold numB;rw [decide_eq_false (by omega)];rfl
   rw [e] at hG
   have hG2 : false = g := hG
   subst hG2
   simp (config := {maxSteps := 4000000,implicitDefEqProofs := false}) (disch := omega) only [go_sem,hlt',h1,w_i64,hkx,z7h,z7i,z7e]
  ·by_cases h2 : l[k] > 2147483647
   ·have e : numB l[k] = false := by unfold numB;rw [decide_eq_false (p := l[k] ≤ 2147483647) (by omega)];simp
    rw [e] at hG
    have hG2 : false = g := hG
    subst hG2
    simp (config := {maxSteps := 4000000,implicitDefEqProofs := false}) (disch := omega) only [go_sem,hlt',h1,h2,w_i64,hkx,z7h,z7i,z7e]
   ·have e : numB l[k] = true := by unfold numB;rw [decide_eq_true (by omega),decide_eq_true (by omega)];rfl
    rw [e] at hG
    have step := hkc ⟨k + 1,by omega,hG⟩ (by dsimp only;omega)
    simp (config := {maxSteps := 4000000,implicitDefEqProofs := false}) (disch := omega) only [go_sem,hlt',h1,h2,w_i64,z7h,z7i,z7e]
    exact step
 ·have hlt' : ¬ (k : Int) < (l.length : Int) := by omega
  rw [List.drop_of_length_le (by omega)] at hG
  have hG2 : true = g := hG
  subst hG2
  simp (config := {maxSteps := 4000000,implicitDefEqProofs := false}) (disch := omega) only [go_sem,hlt',hkx,z7h,z7i,z7e]
theorem zro (m : Nat) (v : Int) : zdW m (nA v) = some (bA (parB v),[]) := by
 rw [zkP]
 unfold parB
 have e : decide (v ≤ 63) = decide (v < 64) := by apply decide_eq_decide.2;omega
 rw [e]
 by_cases h1 : 0 ≤ v
 ·simp (config := {maxSteps := 4000000,implicitDefEqProofs := false}) (disch := omega) only [go_sem,h1]
 ·simp (config := {maxSteps := 4000000,implicitDefEqProofs := false}) (disch := omega) only [go_sem,h1]
theorem zyB (m : Nat) (x : Sm) (hm : 4 < m) : zi9 m (smE x) = some (bA (smB x),[]) := by
 have hN := zmg m [x.kd,x.vw,x.sq,x.tm] hm (by simp only [List.length_cons,List.length_nil];omega)
 have hP := zro m x.fr
 rw [zlW,sm_it]
 unfold smB
 generalize [x.kd,x.vw,x.sq,x.tm].all numB = gn at hN ⊢
 simp only [List.map_cons,List.map_nil] at hN
 cases h : parB x.fr with
 |false=>rw [h] at hP;simp (config := {maxSteps := 4000000,implicitDefEqProofs := false}) (disch := omega) only [go_sem,hP,hN]
 |true=>rw [h] at hP;simp (config := {maxSteps := 4000000,implicitDefEqProofs := false}) (disch := omega) only [go_sem,hP,hN]
theorem zkX (m : Nat) (l : List Sm) (hm : 70 < m) : z8h m (SL (l.map smE)) (V (.func (.func 82) #[] #[])) = some (bA (smsB l),[]) := by
 rw [zhJ]
 unfold smsB
 by_cases h64 : l.length ≤ 64
 rotate_left
 ·have h64' : (l.length : Int) > 64 := by omega
  simp (config := {maxSteps := 4000000,implicitDefEqProofs := false}) (disch := omega) only [go_sem,h64',h64]
 have h64' : ¬ (l.length : Int) > 64 := by omega
 simp (config := {maxSteps := 4000000,implicitDefEqProofs := false}) (disch := omega) only [go_sem,h64',h64]
 generalize hg : l.all smB = g
 refine z4a (ι := {k : Nat // k ≤ l.length ∧ (l.drop k).all smB = g}) (fun k=>⟨[],[(1,V (.func (.func 82) #[] #[])),(10,SL (l.map smE)),(11,nA l.length),(12,nA k.1)]⟩) (fun k=>l.length - k.1) (fun _=>some (bA g,[])) ?_ ⟨0,Nat.zero_le _,hg⟩ (by dsimp only;omega)
 rintro kx hkx ⟨k,hk,hG⟩ kc hkc
 dsimp only at hkc hG ⊢
 rw [zf4]
 by_cases hlt : k < l.length
 ·have hlt' : (k : Int) < (l.length : Int) := by omega
  rw [List.drop_eq_getElem_cons hlt,List.all_cons] at hG
  have hV := zyB m l[k] (by omega)
  rw [sm_it] at hV
  have hF : findE (z3X m) 82 = some (.tell (zbK m)) := rfl
  have hT : zbK m [.agg (smC l[k])] = zi9 m (.agg (smC l[k])) := rfl
  cases h1 : smB l[k] with
  |false =>
   rw [h1] at hG hV
   have hG2 : false = g := hG
   subst hG2
   simp (config := {maxSteps := 4000000,implicitDefEqProofs := false}) (disch := omega) only [go_sem,hlt',hF,hT,hV,w_i64,hkx,z7k]
  |true =>
   rw [h1] at hG hV
   have step := hkc ⟨k + 1,by omega,hG⟩ (by dsimp only;omega)
   simp (config := {maxSteps := 4000000,implicitDefEqProofs := false}) (disch := omega) only [go_sem,hlt',hF,hT,hV,w_i64,z7k]
   exact step
 ·have hlt' : ¬ (k : Int) < (l.length : Int) := by omega
  rw [List.drop_of_length_le (by omega)] at hG
  have hG2 : true = g := hG
  subst hG2
  simp (config := {maxSteps := 4000000,implicitDefEqProofs := false}) (disch := omega) only [go_sem,hlt',hkx,z7k]
theorem zz5 (m : Nat) (x : Ce) (hm : 70 < m) : zid m (ceE x) = some (bA (ceB x),[]) := by
 have hN := zmg m [x.sq,x.vw,x.tm] (by simp only [List.length_cons,List.length_nil];omega) (by simp only [List.length_cons,List.length_nil];omega)
 have hL := zkX m x.vs hm
 rw [zmd,ce_it]
 unfold ceB
 simp only [List.map_cons,List.map_nil] at hN
 cases h : [x.sq,x.vw,x.tm].all numB with
 |false=>rw [h] at hN;simp (config := {maxSteps := 4000000,implicitDefEqProofs := false}) (disch := omega) only [go_sem,hN]
 |true =>
  rw [h] at hN
  by_cases h1 : x.body.length ≤ 65536
  ·have h1' : (x.body.length : Int) ≤ 65536 := by omega
   simp (config := {maxSteps := 4000000,implicitDefEqProofs := false}) (disch := omega) only [go_sem,hN,h1,h1',hL]
  ·have h1' : ¬ (x.body.length : Int) ≤ 65536 := by omega
   simp (config := {maxSteps := 4000000,implicitDefEqProofs := false}) (disch := omega) only [go_sem,hN,h1,h1',hL]
theorem zoi (m : Nat) (l : List Ce) (hm : 70 < m) : za0 m (SL (l.map ceE)) (V (.func (.func 84) #[] #[])) = some (bA (cesB l),[]) := by
 rw [zhM]
 unfold cesB
 by_cases h64 : l.length ≤ 64
 rotate_left
 ·have h64' : (l.length : Int) > 64 := by omega
  simp (config := {maxSteps := 4000000,implicitDefEqProofs := false}) (disch := omega) only [go_sem,h64',h64]
 have h64' : ¬ (l.length : Int) > 64 := by omega
 simp (config := {maxSteps := 4000000,implicitDefEqProofs := false}) (disch := omega) only [go_sem,h64',h64]
 generalize hg : l.all ceB = g
 refine z4a (ι := {k : Nat // k ≤ l.length ∧ (l.drop k).all ceB = g}) (fun k=>⟨[],[(1,V (.func (.func 84) #[] #[])),(10,SL (l.map ceE)),(11,nA l.length),(12,nA k.1)]⟩) (fun k=>l.length - k.1) (fun _=>some (bA g,[])) ?_ ⟨0,Nat.zero_le _,hg⟩ (by dsimp only;omega)
 rintro kx hkx ⟨k,hk,hG⟩ kc hkc
 dsimp only at hkc hG ⊢
 rw [zfv]
 by_cases hlt : k < l.length
 ·have hlt' : (k : Int) < (l.length : Int) := by omega
  rw [List.drop_eq_getElem_cons hlt,List.all_cons] at hG
  have hV := zz5 m l[k] hm
  rw [ce_it] at hV
  have hF : findE (z3Y m) 84 = some (.tell (zbU m)) := rfl
  have hT : zbU m [.agg (ceC l[k])] = zid m (.agg (ceC l[k])) := rfl
  cases h1 : ceB l[k] with
  |false =>
   rw [h1] at hG hV
   have hG2 : false = g := hG
   subst hG2
   simp (config := {maxSteps := 4000000,implicitDefEqProofs := false}) (disch := omega) only [go_sem,hlt',hF,hT,hV,w_i64,hkx,z7m]
  |true =>
   rw [h1] at hG hV
   have step := hkc ⟨k + 1,by omega,hG⟩ (by dsimp only;omega)
   simp (config := {maxSteps := 4000000,implicitDefEqProofs := false}) (disch := omega) only [go_sem,hlt',hF,hT,hV,w_i64,z7m]
   exact step
 ·have hlt' : ¬ (k : Int) < (l.length : Int) := by omega
  rw [List.drop_of_length_le (by omega)] at hG
  have hG2 : true = g := hG
  subst hG2
  simp (config := {maxSteps := 4000000,implicitDefEqProofs := false}) (disch := omega) only [go_sem,hlt',hkx,z7m]
theorem zsm (m : Nat) (x : Ch) (hm : 70 < m) : zes m (cgE x) = some (bA (cgB x),[]) := by
 have hN := zmg m [x.vw,x.st,x.rt] (by simp only [List.length_cons,List.length_nil];omega) (by simp only [List.length_cons,List.length_nil];omega)
 have hP := zro m x.fr
 have hL := zkX m x.pf hm
 have hC := zoi m x.cs hm
 rw [zke,cg_it]
 unfold cgB
 simp only [List.map_cons,List.map_nil] at hN
 cases h0 : parB x.fr with
 |false=>rw [h0] at hP;simp (config := {maxSteps := 4000000,implicitDefEqProofs := false}) (disch := omega) only [go_sem,hP]
 |true =>
  rw [h0] at hP
  cases h : [x.vw,x.st,x.rt].all numB with
  |false=>rw [h] at hN;simp (config := {maxSteps := 4000000,implicitDefEqProofs := false}) (disch := omega) only [go_sem,hP,hN]
  |true =>
   rw [h] at hN
   cases h1 : smsB x.pf with
   |false=>rw [h1] at hL;simp (config := {maxSteps := 4000000,implicitDefEqProofs := false}) (disch := omega) only [go_sem,hP,hN,hL]
   |true=>rw [h1] at hL;simp (config := {maxSteps := 4000000,implicitDefEqProofs := false}) (disch := omega) only [go_sem,hP,hN,hL,hC]
end Go.Proofs.Ytaaogcnjfkgnoaa

namespace Go.Proofs.Ytaaogcnjfkgnoaa
open Go.RowKit
theorem ztp {n : Nat} {l : List UInt8} : (bC l).all (ltA n) = true := List.all_eq_true.2 fun d hd=>by
 obtain ⟨b,_,rfl⟩ := List.mem_map.1 hd;rfl
theorem ztv {l : List UInt8} : ((bC l).all fun d=>decide ((cellsOf d).length = 1)) = true := List.all_eq_true.2 fun d hd=>by
 obtain ⟨b,_,rfl⟩ := List.mem_map.1 hd;rfl
theorem nthOL {R : Type} {o : AObj} {Y : List AObj} {K : AObj → Option R} : nthOE (Y ++ [o]) Y.length K = K o := by simp [nthOE]
theorem ltO_o {n e z : Nat} {c : List AV} : ltO n ⟨1,e,z,c⟩ = c.all (ltA n) := _root_.id rfl
theorem ltO_r {n e z : Nat} {c : List AV} : ltO n ⟨2,e,z,c⟩ = c.all (ltA n) := _root_.id rfl
theorem takeL {Y Z : List AObj} : (Y ++ Z).take Y.length = Y := List.take_left
theorem put_i (m n : Nat) (v : Int) (h0 : 0 ≤ v) (h1 : v < 18446744073709551616) : z5T m [V (.int .u64 v)] n = some (OW n (put v.toNat).length,[⟨2,z2C,1,bC (put v.toNat)⟩]) := by
 have := zmt m n v.toNat (by omega)
 rw [Int.toNat_of_nonneg h0] at this
 exact this
def putsL (l : List Int) : List UInt8 := l.flatMap fun v=>put v.toNat
theorem zfy (v : Int) (l : List Int) : putsL (v :: l) = put v.toNat ++ putsL l := rfl
theorem zkD : putsL [] = [] := rfl
theorem zj2 (a b : List Int) : putsL (a ++ b) = putsL a ++ putsL b := by simp [putsL]
def inI (l : List Int) : Prop := ∀ v ∈ l,0 ≤ v ∧ v < 9223372036854775808
theorem z9h : ∀ {l : List Int},inI l → (putsL l).length ≤ 10 * l.length
 |[],_=>Nat.le_refl _
 |v :: r,h=>by
  have h1 := z9h (l := r) (fun x hx=>h x (List.mem_cons_of_mem _ hx))
  have h2 := h v (List.mem_cons_self ..)
  have h3 := zc5 v.toNat (by omega)
  rw [zfy,List.length_append,List.length_cons];omega
theorem inI.take {l : List Int} (h : inI l) (k : Nat) : inI (l.take k) := fun v hv=>h v (List.mem_of_mem_take hv)
attribute [local go_sem] Nat.zero_add Nat.add_zero Nat.mul_one Int.toNat_natCast Int.natCast_zero Int.cast_ofNat_Int or_false false_or or_true true_or Nat.sub_zero Int.natCast_nonneg Int.toNat_zero Bool.true_and Bool.and_true Bool.false_and Bool.and_false Bool.true_or Bool.or_true Bool.false_or Bool.or_false Bool.not_true Bool.not_false Bool.not_not true_and and_true false_and and_false not_true_eq_false not_false_eq_true eq_self decide_true decide_false ne_eq implies_true forall_const true_implies false_implies Bool.true_eq_false Bool.false_eq_true List.map_cons List.map_nil List.all_cons List.all_nil List.length_cons List.length_nil List.length_map List.length_append List.nil_append List.cons_append List.set_cons_zero List.set_cons_succ List.set_nil List.drop_zero List.drop_succ_cons List.drop_nil List.take_zero List.take_succ_cons List.take_nil Option.map_some Option.map_none Option.isSome_some List.all_append List.all_map Function.comp_def decide_eq_true_eq Bool.and_eq_true beq_self_eq_true or_self and_self ite_true ite_false Nat.le_refl Bool.not_eq_true decide_not Bool.not_eq_true' decide_eq_false_iff_not Bool.not_eq_false Bool.or_eq_true if_true if_false ite_self u_roF u_cvF u_cvC u_ceT u_ceK z2m sm_it z6A z37 z5m z6p z3d sm_ro z3i sm_sl z6a z69 sm_fr z1F z13 sm_kd z28 z12 sm_vw z1u z0P sm_sq z1R z0S sm_tm z1q z0L z2R z2b z3k z63 z64 z29 z3g z1p z1y z2F z39 ce_it z6J z31 z4Z z6x z3A ce_ro z3t ce_sl z6d z6g ce_sq z1X z14 ce_vw z1C z0H ce_tm z1U z0W z33 z0v z0n ce_vs z1P z0X z36 z1t z3r z6F z6H z1T z2X z1z z2c z2M z2V cg_it z67 z3s z61 z6n z2U cg_ro z3E cg_sl z6b z6u cg_fr z1J z0N cg_vw z1Q z11 cg_st z1M z0G cg_rt z1H z17 cg_pf z1Z z0E cg_cs z1N z0I z32 z1I z3b z6y z6c z1V z3v z23 z1L z35 z3p ms_it z6o z3n z6C z6h z3h ms_ro z3e ms_sl z6E z6r ms_kd z1S z0R ms_fr z1v z0O ms_vw z25 z0U ms_sq z1s z0Z ms_tm z1G z0F z3c z0u z0o ms_vs z1E z0Y z68 z0Q z0x z3C z1W z3x z65 z6K z20 z3D z24 z27 z3q z2Y co_it z6M z2W z6D z6m z3m co_ro z3o co_sl z6w z66 co_sq z26 z0V co_tm z1B z0K z3z z0y z0p co_nl z1w z0M z3y z1o z3l z6N z6v z1K z3j z1Y z1O z2N z2Z sd_it z6e z3B z6z z6G z3a sd_ro z2T sd_sl z6I z6i sd_wh z21 z15 sd_fr z1x z0T sd_kd z1D z18 sd_vw z1A z0J sd_sq z22 z16 sd_tm z1r z10 z30 z38 z6f z5O u_bz u_bi1 u_bi2 u_bi3 u_bi4 u_bi5 u_bi6 u_bi7 z5z ztp ztv nthOL ltO_o ltO_r takeL z5x ztd List.take_length
attribute [local go_sem_proc] Nat.reduceAdd Nat.reduceSub Nat.reduceMul Nat.reduceLeDiff Nat.reduceLT Int.reduceEq Int.reduceNe Int.reduceLT Int.reduceLE Int.reduceAdd Int.reduceSub Int.reduceMul Int.reduceNeg Int.reduceToNat reduceCtorEq Nat.reduceEqDiff Nat.reduceBEq Nat.reduceGT
attribute [local go_sem_proc ↓] reduceIte
theorem znH (m : Nat) (X : AObj) (B : List UInt8) (Y : List AObj) (l : List Int) (hX : ∀ n,ltO n X = true) (hY : ∀ n,Y.all (ltO n) = true) (hl : inI l) (hm : l.length < m) (hB : B.length + 10 * l.length ≤ 34359738368) :
  z2n m (OP 1 0) (SL (l.map nA)) (X :: ⟨1,z0r,0,[OW 2 B.length]⟩ :: ⟨2,z2C,1,bC B⟩ :: Y) = some (TU [],(X :: ⟨1,z0r,0,[OW 2 (B ++ putsL l).length]⟩ :: ⟨2,z2C,1,bC (B ++ putsL l)⟩ :: Y)) := by
 obtain ⟨r,hr⟩ : ∃ r,r = some (TU [],(X :: ⟨1,z0r,0,[OW 2 (B ++ putsL l).length]⟩ :: ⟨2,z2C,1,bC (B ++ putsL l)⟩ :: Y)) := ⟨_,rfl⟩
 have hY2 : 2 < Y.length + 1 + 1 + 1 := by omega
 rw [← hr,zfA]
 simp (config := {maxSteps := 4000000,implicitDefEqProofs := false}) (disch := omega) only [go_sem,]
 have e0 : B = B ++ putsL (l.take 0) := by simp [putsL]
 have hr' := hr
 clear hr
 rw [e0]
 refine z4a (ι := {k : Nat // k ≤ l.length}) (fun k=>⟨(X :: ⟨1,z0r,0,[OW 2 (B ++ putsL (l.take k.1)).length]⟩ :: ⟨2,z2C,1,bC (B ++ putsL (l.take k.1))⟩ :: Y),[(0,OP 1 0),(6,SL (l.map nA)),(7,nA l.length),(8,nA k.1)]⟩) (fun k=>l.length - k.1) (fun _=>r) ?_ ⟨0,Nat.zero_le _⟩ (by dsimp only;omega)
 rintro kx hkx ⟨k,hk⟩ kc hkc
 dsimp only at hkc ⊢
 have hlen := z9h (hl.take k)
 rw [List.length_take,Nat.min_eq_left hk] at hlen
 rw [zdQ]
 by_cases hlt : k < l.length
 ·have hlt' : (k : Int) < (l.length : Int) := by omega
  obtain ⟨hv0,hv1⟩ := hl l[k] (List.getElem_mem hlt)
  have hp := zc5 l[k].toNat (by omega)
  have hP := put_i m (Y.length + 3) l[k] hv0 (by omega)
  have hw : IntKind.u64.wrap l[k] = l[k] := by rw [w_u64 (by omega) (by omega)]
  have step := hkc ⟨k + 1,by omega⟩ (by dsimp only;omega)
  dsimp only at step
  rw [List.take_succ_eq_append_getElem hlt,zj2,zfy,zkD,List.append_nil,← List.append_assoc] at step
  generalize putsL (l.take k) = B1 at hlen step ⊢
  have hs : B.length + B1.length + (put l[k].toNat).length ≤ 34359738368 := by omega
  have hY3 : Y.length ≤ Y.length + 1 := Nat.le_succ _
  simp only [List.length_append,z5x] at step
  simp (config := {maxSteps := 4000000,implicitDefEqProofs := false}) (disch := omega) only [go_sem,hlt',hw,hP,hX,hY,hY2,hY3,hs,w_i64]
  exact step
 ·have hlt' : ¬ (k : Int) < (l.length : Int) := by omega
  have hk2 : l.take k = l := List.take_of_length_le (by omega)
  rw [hk2] at hlen ⊢
  rw [hr']
  generalize putsL l = B1 at hlen ⊢
  simp (config := {maxSteps := 4000000,implicitDefEqProofs := false}) (disch := omega) only [go_sem,hlt',hkx,hX,hY,hY2]
theorem setLw {o o' : AObj} {Y : List AObj} : (Y ++ [o]).set Y.length o' = Y ++ [o'] := by simp
def textB (s : List UInt8) : List UInt8 := put s.length ++ s
theorem zg5 (n : Nat) : putsL [(n : Int)] = put n := by simp [putsL]
theorem ro_cl {H : List AObj} {fn : Fn} {i : Nat} : ro H (CL fn 1 [OP i 0]) = CL fn 1 [OP i 0] := _root_.id rfl
theorem zxK (m : Nat) (X : AObj) (B : List UInt8) (Y : List AObj) (s : List UInt8) (hX : ∀ n,ltO n X = true) (hY : ∀ n,Y.all (ltO n) = true) (hm : 70 < m) (hB : B.length + 10 + s.length ≤ 34359738368) :
  z86 m (OP 1 0) (sA s) (X :: ⟨1,z0r,0,[OW 2 B.length]⟩ :: ⟨2,z2C,1,bC B⟩ :: Y) = some (TU [],(X :: ⟨1,z0r,0,[OW 2 (B ++ textB s).length]⟩ :: ⟨2,z2C,1,bC (B ++ textB s)⟩ :: Y)) := by
 have hN := znH m X B Y [(s.length : Int)] hX hY (by intro v hv;simp at hv;omega) (by simp;omega) (by simp;omega)
 rw [zg5] at hN
 simp only [List.map_cons,List.map_nil,List.length_append,z5x] at hN
 have hp := zc5 s.length (by omega)
 have hY2 : 2 < Y.length + 1 + 1 + 1 := by omega
 have hs : B.length + ((put s.length).length + s.length) ≤ 34359738368 := by omega
 rw [zgj]
 unfold textB
 simp (config := {maxSteps := 4000000,implicitDefEqProofs := false}) (disch := omega) only [go_sem,hN,hX,hY,hY2,hs,zuf,List.append_assoc,Nat.add_assoc]
theorem zng {x : Sm} (h : smB x = true) : inI [x.fr,x.kd,x.vw,x.sq,x.tm] := by
 unfold smB parB at h
 simp only [Bool.and_eq_true,decide_eq_true_eq,List.all_eq_true] at h
 obtain ⟨h1,h2⟩ := h
 intro v hv
 rcases List.mem_cons.1 hv with rfl|hv
 ·omega
 ·have := h2 v hv
  unfold numB at this
  simp only [Bool.and_eq_true,decide_eq_true_eq] at this
  omega
theorem zlb {l : List Int} (h : l.all numB = true) : inI l := by
 intro v hv
 have := List.all_eq_true.1 h v hv
 unfold numB at this
 simp only [Bool.and_eq_true,decide_eq_true_eq] at this
 omega
def encSm (x : Sm) : List UInt8 := putsL [x.fr,x.kd,x.vw,x.sq,x.tm]
theorem zmY {x : Sm} (h : smB x = true) : (encSm x).length ≤ 50 := z9h (zng h)
theorem zxn (m : Nat) (X : AObj) (B : List UInt8) (Y : List AObj) (x : Sm) (hX : ∀ n,ltO n X = true) (hY : ∀ n,Y.all (ltO n) = true) (hx : smB x = true) (hm : 70 < m) (hB : B.length + 50 ≤ 34359738368) :
  z88 m (OP 1 0) (smE x) (X :: ⟨1,z0r,0,[OW 2 B.length]⟩ :: ⟨2,z2C,1,bC B⟩ :: Y) = some (TU [],(X :: ⟨1,z0r,0,[OW 2 (B ++ encSm x).length]⟩ :: ⟨2,z2C,1,bC (B ++ encSm x)⟩ :: Y)) := by
 have hN := znH m X B (Y ++ [⟨1,z01,0,smC x⟩]) [x.fr,x.kd,x.vw,x.sq,x.tm] hX (fun n=>by rw [List.all_append,hY];rfl) (zng hx) (by simp;omega) (by simpa using hB)
 simp only [List.map_cons,List.map_nil,List.length_append,z5x] at hN
 have hY2 : 2 < Y.length + 1 + 1 + 1 := by omega
 have hY3 : Y.length ≤ Y.length + 1 := Nat.le_succ _
 rw [zgc,sm_it]
 unfold encSm
 simp (config := {maxSteps := 4000000,implicitDefEqProofs := false}) (disch := omega) only [go_sem,hN,hX,hY,hY2,hY3]
theorem zyF {m : Nat} {a b : AV} {H : List AObj} : z4J m [a,b] H = z88 m a b H := _root_.id rfl
theorem zyc {m : Nat} : findE (z3W m) 87 = some (.keep (z4J m)) := _root_.id rfl
def z5L (l : List Sm) : List UInt8 := put l.length ++ l.flatMap encSm
theorem zce : ∀ {l : List Sm},l.all smB = true → (l.flatMap encSm).length ≤ 50 * l.length
 |[],_=>Nat.le_refl _
 |x :: r,h=>by
  rw [List.all_cons,Bool.and_eq_true] at h
  have h1 := zce h.2
  have h2 := zmY h.1
  rw [List.flatMap_cons,List.length_append,List.length_cons];omega
theorem zl3 (m : Nat) (X : AObj) (B : List UInt8) (Y : List AObj) (l : List Sm) (hX : ∀ n,ltO n X = true) (hY : ∀ n,Y.all (ltO n) = true) (hx : l.all smB = true) (h64 : l.length ≤ 64) (hm : 70 < m) (hB : B.length + 10 + 50 * l.length ≤ 34359738368) :
  z8o m (OP 1 0) (SL (l.map smE)) (CL (.func 87) 1 [OP 1 0]) (X :: ⟨1,z0r,0,[OW 2 B.length]⟩ :: ⟨2,z2C,1,bC B⟩ :: Y) = some (TU [],(X :: ⟨1,z0r,0,[OW 2 (B ++ z5L l).length]⟩ :: ⟨2,z2C,1,bC (B ++ z5L l)⟩ :: Y)) := by
 have hp := zc5 l.length (by omega)
 obtain ⟨r,hr⟩ : ∃ r,r = some (TU [],(X :: ⟨1,z0r,0,[OW 2 (B ++ z5L l).length]⟩ :: ⟨2,z2C,1,bC (B ++ z5L l)⟩ :: Y)) := ⟨_,rfl⟩
 have hY2 : 2 < Y.length + 1 + 1 + 1 := by omega
 have hY3 : Y.length ≤ Y.length + 1 := Nat.le_succ _
 have hN := znH m X B Y [(l.length : Int)] hX hY (by intro v hv;simp at hv;omega) (by simp;omega) (by simp;omega)
 rw [zg5] at hN
 simp only [List.map_cons,List.map_nil] at hN
 rw [← hr,zi1]
 rw [show put l.length = put l.length ++ (l.take 0).flatMap encSm by simp] at hN
 generalize hz : (l.take 0).flatMap encSm = Z at hN
 simp only [List.length_append,z5x] at hN
 simp (config := {maxSteps := 4000000,implicitDefEqProofs := false}) (disch := omega) only [go_sem,hN]
 subst hz
 simp only [← z5x,← List.length_append]
 refine z4a (ι := {k : Nat // k ≤ l.length}) (fun k=>⟨(X :: ⟨1,z0r,0,[OW 2 (B ++ (put l.length ++ (l.take k.1).flatMap encSm)).length]⟩ :: ⟨2,z2C,1,bC (B ++ (put l.length ++ (l.take k.1).flatMap encSm))⟩ :: Y),[(2,CL (.func 87) 1 [OP 1 0]),(13,SL (l.map smE)),(14,nA l.length),(15,nA k.1)]⟩) (fun k=>l.length - k.1) (fun _=>r) ?_ ⟨0,Nat.zero_le _⟩ (by dsimp only;omega)
 rintro kx hkx ⟨k,hk⟩ kc hkc
 dsimp only at hkc ⊢
 rw [zfk]
 by_cases hlt : k < l.length
 ·have hlt' : (k : Int) < (l.length : Int) := by omega
  have hv := List.all_eq_true.1 hx l[k] (List.getElem_mem hlt)
  have hlen := zce (l := l.take k) (List.all_eq_true.2 fun y hy=>List.all_eq_true.1 hx y (List.mem_of_mem_take hy))
  rw [List.length_take,Nat.min_eq_left hk] at hlen
  have step := hkc ⟨k + 1,by omega⟩ (by dsimp only;omega)
  dsimp only at step
  rw [List.take_succ_eq_append_getElem hlt,List.flatMap_append,List.flatMap_cons,List.flatMap_nil,List.append_nil] at step
  generalize (l.take k).flatMap encSm = B1 at hlen step ⊢
  have hV := zxn m X (B ++ (put l.length ++ B1)) (Y ++ [⟨1,z01,0,smC l[k]⟩]) l[k] hX (fun n=>by rw [List.all_append,hY];rfl) hv hm (by simp only [List.length_append];omega)
  rw [sm_it] at hV
  simp only [List.length_append,z5x,List.append_assoc,Nat.add_assoc] at hV step
  simp (config := {maxSteps := 4000000,implicitDefEqProofs := false}) (disch := omega) only [go_sem,hlt',hV,hX,hY,hY2,hY3,w_i64,setLw,zyF,zyc,List.append_assoc,Nat.add_assoc]
  exact step
 ·have hlt' : ¬ (k : Int) < (l.length : Int) := by omega
  have hk2 : l.take k = l := List.take_of_length_le (by omega)
  rw [hk2,hr]
  unfold z5L
  generalize l.flatMap encSm = B1
  simp (config := {maxSteps := 4000000,implicitDefEqProofs := false}) (disch := omega) only [go_sem,hlt',hkx,hX,hY,hY2]
theorem zjO {l : List Sm} (h : smsB l = true) : l.length ≤ 64 ∧ l.all smB = true := by
 unfold smsB at h
 simpa [Bool.and_eq_true] using h
theorem zn0 (s : List UInt8) (h : s.length ≤ 65536) : (textB s).length ≤ 65546 := by
 have := zc5 s.length (by omega)
 unfold textB;rw [List.length_append];omega
theorem z8F {l : List Sm} (h : smsB l = true) : (z5L l).length ≤ 3210 := by
 obtain ⟨h1,h2⟩ := zjO h
 have h3 := zce h2
 have := zc5 l.length (by omega)
 unfold z5L;rw [List.length_append];omega
theorem zpy {x : Ce} (h : ceB x = true) : [x.sq,x.vw,x.tm].all numB = true ∧ x.body.length ≤ 65536 ∧ smsB x.vs = true := by
 unfold ceB at h
 rw [Bool.and_eq_true,Bool.and_eq_true,decide_eq_true_eq] at h
 exact h
def encCe (x : Ce) : List UInt8 := putsL [x.sq,x.vw,x.tm] ++ (textB x.body ++ z5L x.vs)
theorem zq7 {x : Ce} (h : ceB x = true) : (encCe x).length ≤ 70000 := by
 obtain ⟨h1,h2,h3⟩ := zpy h
 have e1 := z9h (zlb h1)
 have e2 := zn0 x.body h2
 have e3 := z8F h3
 unfold encCe
 rw [List.length_append,List.length_append]
 simp only [List.length_cons,List.length_nil] at e1
 omega
theorem zxs (m : Nat) (X : AObj) (B : List UInt8) (Y : List AObj) (x : Ce) (hX : ∀ n,ltO n X = true) (hY : ∀ n,Y.all (ltO n) = true) (hx : ceB x = true) (hm : 70 < m) (hB : B.length + 70000 ≤ 34359738368) :
  z8j m (OP 1 0) (ceE x) (X :: ⟨1,z0r,0,[OW 2 B.length]⟩ :: ⟨2,z2C,1,bC B⟩ :: Y) = some (TU [],(X :: ⟨1,z0r,0,[OW 2 (B ++ encCe x).length]⟩ :: ⟨2,z2C,1,bC (B ++ encCe x)⟩ :: Y)) := by
 obtain ⟨h1,h2,h3⟩ := zpy hx
 obtain ⟨h4,h5⟩ := zjO h3
 have e1 := z9h (zlb h1)
 have e2 := zn0 x.body h2
 have e3 := z8F h3
 simp only [List.length_cons,List.length_nil] at e1
 have hY' : ∀ n,(Y ++ [(⟨1,z0a,0,ceC x⟩ : AObj)]).all (ltO n) = true := fun n=>by rw [List.all_append,hY];rfl
 have hN := znH m X B (Y ++ [⟨1,z0a,0,ceC x⟩]) [x.sq,x.vw,x.tm] hX hY' (zlb h1) (by simp;omega) (by simp;omega)
 have hT := zxK m X (B ++ putsL [x.sq,x.vw,x.tm]) (Y ++ [⟨1,z0a,0,ceC x⟩]) x.body hX hY' hm (by rw [List.length_append];omega)
 have hE := zl3 m X (B ++ putsL [x.sq,x.vw,x.tm] ++ textB x.body) (Y ++ [⟨1,z0a,0,ceC x⟩]) x.vs hX hY' h5 h4 hm (by rw [List.length_append,List.length_append];omega)
 simp only [List.map_cons,List.map_nil,List.length_append,z5x,List.append_assoc,Nat.add_assoc] at hN hT hE
 have hY2 : 2 < Y.length + 1 + 1 + 1 := by omega
 have hY3 : Y.length ≤ Y.length + 1 := Nat.le_succ _
 rw [zg0,ce_it]
 unfold encCe
 simp (config := {maxSteps := 4000000,implicitDefEqProofs := false}) (disch := omega) only [go_sem,hN,hT,hE,ro_cl,hX,hY,hY2,hY3,List.append_assoc,Nat.add_assoc]
theorem zyO {m : Nat} {a b : AV} {H : List AObj} : z4N m [a,b] H = z8j m a b H := _root_.id rfl
theorem zxN {m : Nat} : findE (z3V m) 89 = some (.keep (z4N m)) := _root_.id rfl
def zcv (l : List Ce) : List UInt8 := put l.length ++ l.flatMap encCe
theorem zci : ∀ {l : List Ce},l.all ceB = true → (l.flatMap encCe).length ≤ 70000 * l.length
 |[],_=>Nat.le_refl _
 |x :: r,h=>by
  rw [List.all_cons,Bool.and_eq_true] at h
  have h1 := zci h.2
  have h2 := zq7 h.1
  rw [List.flatMap_cons,List.length_append,List.length_cons];omega
theorem zoG (m : Nat) (X : AObj) (B : List UInt8) (Y : List AObj) (l : List Ce) (hX : ∀ n,ltO n X = true) (hY : ∀ n,Y.all (ltO n) = true) (hx : l.all ceB = true) (h64 : l.length ≤ 64) (hm : 70 < m) (hB : B.length + 10 + 70000 * l.length ≤ 34359738368) :
  za5 m (OP 1 0) (SL (l.map ceE)) (CL (.func 89) 1 [OP 1 0]) (X :: ⟨1,z0r,0,[OW 2 B.length]⟩ :: ⟨2,z2C,1,bC B⟩ :: Y) = some (TU [],(X :: ⟨1,z0r,0,[OW 2 (B ++ zcv l).length]⟩ :: ⟨2,z2C,1,bC (B ++ zcv l)⟩ :: Y)) := by
 have hp := zc5 l.length (by omega)
 obtain ⟨r,hr⟩ : ∃ r,r = some (TU [],(X :: ⟨1,z0r,0,[OW 2 (B ++ zcv l).length]⟩ :: ⟨2,z2C,1,bC (B ++ zcv l)⟩ :: Y)) := ⟨_,rfl⟩
 have hY2 : 2 < Y.length + 1 + 1 + 1 := by omega
 have hY3 : Y.length ≤ Y.length + 1 := Nat.le_succ _
 have hN := znH m X B Y [(l.length : Int)] hX hY (by intro v hv;simp at hv;omega) (by simp;omega) (by simp;omega)
 rw [zg5] at hN
 simp only [List.map_cons,List.map_nil] at hN
 rw [← hr,zhE]
 rw [show put l.length = put l.length ++ (l.take 0).flatMap encCe by simp] at hN
 generalize hz : (l.take 0).flatMap encCe = Z at hN
 simp only [List.length_append,z5x] at hN
 simp (config := {maxSteps := 4000000,implicitDefEqProofs := false}) (disch := omega) only [go_sem,hN]
 subst hz
 simp only [← z5x,← List.length_append]
 refine z4a (ι := {k : Nat // k ≤ l.length}) (fun k=>⟨(X :: ⟨1,z0r,0,[OW 2 (B ++ (put l.length ++ (l.take k.1).flatMap encCe)).length]⟩ :: ⟨2,z2C,1,bC (B ++ (put l.length ++ (l.take k.1).flatMap encCe))⟩ :: Y),[(2,CL (.func 89) 1 [OP 1 0]),(13,SL (l.map ceE)),(14,nA l.length),(15,nA k.1)]⟩) (fun k=>l.length - k.1) (fun _=>r) ?_ ⟨0,Nat.zero_le _⟩ (by dsimp only;omega)
 rintro kx hkx ⟨k,hk⟩ kc hkc
 dsimp only at hkc ⊢
 rw [zfe]
 by_cases hlt : k < l.length
 ·have hlt' : (k : Int) < (l.length : Int) := by omega
  have hv := List.all_eq_true.1 hx l[k] (List.getElem_mem hlt)
  have hlen := zci (l := l.take k) (List.all_eq_true.2 fun y hy=>List.all_eq_true.1 hx y (List.mem_of_mem_take hy))
  rw [List.length_take,Nat.min_eq_left hk] at hlen
  have step := hkc ⟨k + 1,by omega⟩ (by dsimp only;omega)
  dsimp only at step
  rw [List.take_succ_eq_append_getElem hlt,List.flatMap_append,List.flatMap_cons,List.flatMap_nil,List.append_nil] at step
  generalize (l.take k).flatMap encCe = B1 at hlen step ⊢
  have hV := zxs m X (B ++ (put l.length ++ B1)) (Y ++ [⟨1,z0a,0,ceC l[k]⟩]) l[k] hX (fun n=>by rw [List.all_append,hY];rfl) hv hm (by simp only [List.length_append];omega)
  rw [ce_it] at hV
  simp only [List.length_append,z5x,List.append_assoc,Nat.add_assoc] at hV step
  simp (config := {maxSteps := 4000000,implicitDefEqProofs := false}) (disch := omega) only [go_sem,hlt',hV,hX,hY,hY2,hY3,w_i64,setLw,zyO,zxN,List.append_assoc,Nat.add_assoc]
  exact step
 ·have hlt' : ¬ (k : Int) < (l.length : Int) := by omega
  have hk2 : l.take k = l := List.take_of_length_le (by omega)
  rw [hk2,hr]
  unfold zcv
  generalize l.flatMap encCe = B1
  simp (config := {maxSteps := 4000000,implicitDefEqProofs := false}) (disch := omega) only [go_sem,hlt',hkx,hX,hY,hY2]
theorem zmM {l : List Ce} (h : cesB l = true) : l.length ≤ 64 ∧ l.all ceB = true := by
 unfold cesB at h
 simpa [Bool.and_eq_true] using h
theorem zfm {l : List Ce} (h : cesB l = true) : (zcv l).length ≤ 4480010 := by
 obtain ⟨h1,h2⟩ := zmM h
 have h3 := zci h2
 have := zc5 l.length (by omega)
 unfold zcv;rw [List.length_append];omega
theorem zps {x : Ch} (h : cgB x = true) : parB x.fr = true ∧ [x.vw,x.st,x.rt].all numB = true ∧ smsB x.pf = true ∧ cesB x.cs = true := by
 unfold cgB at h
 rw [Bool.and_eq_true,Bool.and_eq_true,Bool.and_eq_true] at h
 exact h
theorem zp1 {v : Int} (h : parB v = true) : numB v = true := by
 unfold parB at h
 unfold numB
 simp only [Bool.and_eq_true,decide_eq_true_eq] at h ⊢
 omega
def encCg (x : Ch) : List UInt8 := putsL [x.fr,x.vw,x.st,x.rt] ++ (z5L x.pf ++ zcv x.cs)
theorem zlO {x : Ch} (h : cgB x = true) : inI [x.fr,x.vw,x.st,x.rt] := by
 obtain ⟨h0,h1,_,_⟩ := zps h
 exact zlb (by rw [List.all_cons,zp1 h0,h1];rfl)
theorem zfE {x : Ch} (h : cgB x = true) : (encCg x).length ≤ 4500000 := by
 obtain ⟨h0,h1,h2,h3⟩ := zps h
 have e1 := z9h (zlO h)
 have e2 := z8F h2
 have e3 := zfm h3
 unfold encCg
 rw [List.length_append,List.length_append]
 simp only [List.length_cons,List.length_nil] at e1
 omega
theorem zq5 (m : Nat) (X : AObj) (B : List UInt8) (Y : List AObj) (x : Ch) (hX : ∀ n,ltO n X = true) (hY : ∀ n,Y.all (ltO n) = true) (hx : cgB x = true) (hm : 70 < m) (hB : B.length + 4500000 ≤ 34359738368) :
  z6l m (OP 1 0) (cgE x) (X :: ⟨1,z0r,0,[OW 2 B.length]⟩ :: ⟨2,z2C,1,bC B⟩ :: Y) = some (TU [],(X :: ⟨1,z0r,0,[OW 2 (B ++ encCg x).length]⟩ :: ⟨2,z2C,1,bC (B ++ encCg x)⟩ :: Y)) := by
 obtain ⟨h0,h1,h2,h3⟩ := zps hx
 obtain ⟨h4,h5⟩ := zjO h2
 obtain ⟨h6,h7⟩ := zmM h3
 have e1 := z9h (zlO hx)
 have e2 := z8F h2
 have e3 := zfm h3
 simp only [List.length_cons,List.length_nil] at e1
 have hY' : ∀ n,(Y ++ [(⟨1,z00,0,cgC x⟩ : AObj)]).all (ltO n) = true := fun n=>by rw [List.all_append,hY];rfl
 have hN := znH m X B (Y ++ [⟨1,z00,0,cgC x⟩]) [x.fr,x.vw,x.st,x.rt] hX hY' (zlO hx) (by simp;omega) (by simp;omega)
 have hT := zl3 m X (B ++ putsL [x.fr,x.vw,x.st,x.rt]) (Y ++ [⟨1,z00,0,cgC x⟩]) x.pf hX hY' h5 h4 hm (by rw [List.length_append];omega)
 have hE := zoG m X (B ++ putsL [x.fr,x.vw,x.st,x.rt] ++ z5L x.pf) (Y ++ [⟨1,z00,0,cgC x⟩]) x.cs hX hY' h7 h6 hm (by rw [List.length_append,List.length_append];omega)
 simp only [List.map_cons,List.map_nil,List.length_append,z5x,List.append_assoc,Nat.add_assoc] at hN hT hE
 have hY2 : 2 < Y.length + 1 + 1 + 1 := by omega
 have hY3 : Y.length ≤ Y.length + 1 := Nat.le_succ _
 rw [zeM,cg_it]
 unfold encCg
 simp (config := {maxSteps := 4000000,implicitDefEqProofs := false}) (disch := omega) only [go_sem,hN,hT,hE,ro_cl,hX,hY,hY2,hY3,List.append_assoc,Nat.add_assoc]
theorem gh_it {X : AObj} {T : Tm} (h : get T 3 = OP 1 0) : ghS 3 0 z2C 1 ⟨[X,⟨1,z0r,0,[V (.slice none 0 0)]⟩],T⟩ = ⟨[X,⟨1,z0r,0,[OW 2 0]⟩,⟨2,z2C,1,[]⟩],T⟩ := by
 unfold ghS
 rw [h]
 rfl
theorem zw_b {R : Type} {K1 : AV → Option R} : z49 (some zgp) (some zg1) [] K1 = K1 (.agg [V (.slice none 0 0)]) := _root_.id rfl
theorem zfU (m : Nat) (x : Ch) (hm : 70 < m) : z5f m (cgE x) = some (SL (bC (if cgB x = true then encCg x else [])),[]) := by
 have hC := zsm m x hm
 rw [cg_it] at hC
 rw [zf5,cg_it]
 cases h : cgB x with
 |false=>rw [h] at hC;have hz : bC [] = [] := rfl;simp (config := {maxSteps := 4000000,implicitDefEqProofs := false}) (disch := omega) only [go_sem,hC,hz]
 |true =>
  rw [h] at hC
  have hW := zq5 m ⟨1,z00,0,cgC x⟩ [] [] x (fun n=>rfl) (fun n=>rfl) h hm (by simp)
  rw [cg_it] at hW
  simp only [List.length_nil,List.nil_append,List.length_append] at hW
  have hz : bC [] = [] := rfl
  rw [hz] at hW
  simp (config := {maxSteps := 4000000,implicitDefEqProofs := false}) (disch := omega) only [go_sem,hC,zw_b]
  rw [gh_it (by rfl),zdm]
  simp (config := {maxSteps := 4000000,implicitDefEqProofs := false}) (disch := omega) only [go_sem,hW]
end Go.Proofs.Ytaaogcnjfkgnoaa

namespace Go.Proofs.Ytaaogcnjfkgnoaa
open Go.RowKit
attribute [local go_sem] Nat.zero_add Nat.add_zero Nat.mul_one Int.toNat_natCast Int.natCast_zero Int.cast_ofNat_Int or_false false_or or_true true_or Nat.sub_zero Int.natCast_nonneg Int.toNat_zero Bool.true_and Bool.and_true Bool.false_and Bool.and_false Bool.true_or Bool.or_true Bool.false_or Bool.or_false Bool.not_true Bool.not_false Bool.not_not true_and and_true false_and and_false not_true_eq_false not_false_eq_true eq_self decide_true decide_false ne_eq implies_true forall_const true_implies false_implies Bool.true_eq_false Bool.false_eq_true List.map_cons List.map_nil List.all_cons List.all_nil List.length_cons List.length_nil List.length_map List.length_append List.nil_append List.cons_append List.set_cons_zero List.set_cons_succ List.set_nil List.drop_zero List.drop_succ_cons List.drop_nil List.take_zero List.take_succ_cons List.take_nil Option.map_some Option.map_none Option.isSome_some List.all_append List.all_map Function.comp_def decide_eq_true_eq Bool.and_eq_true beq_self_eq_true or_self and_self ite_true ite_false Nat.le_refl Bool.not_eq_true decide_not Bool.not_eq_true' decide_eq_false_iff_not Bool.not_eq_false Bool.or_eq_true if_true if_false ite_self u_roF u_cvF u_cvC u_ceT u_ceK z2m sm_it z6A z37 z5m z6p z3d sm_ro z3i sm_sl z6a z69 sm_fr z1F z13 sm_kd z28 z12 sm_vw z1u z0P sm_sq z1R z0S sm_tm z1q z0L z2R z2b z3k z63 z64 z29 z3g z1p z1y z2F z39 ce_it z6J z31 z4Z z6x z3A ce_ro z3t ce_sl z6d z6g ce_sq z1X z14 ce_vw z1C z0H ce_tm z1U z0W z33 z0v z0n ce_vs z1P z0X z36 z1t z3r z6F z6H z1T z2X z1z z2c z2M z2V cg_it z67 z3s z61 z6n z2U cg_ro z3E cg_sl z6b z6u cg_fr z1J z0N cg_vw z1Q z11 cg_st z1M z0G cg_rt z1H z17 cg_pf z1Z z0E cg_cs z1N z0I z32 z1I z3b z6y z6c z1V z3v z23 z1L z35 z3p ms_it z6o z3n z6C z6h z3h ms_ro z3e ms_sl z6E z6r ms_kd z1S z0R ms_fr z1v z0O ms_vw z25 z0U ms_sq z1s z0Z ms_tm z1G z0F z3c z0u z0o ms_vs z1E z0Y z68 z0Q z0x z3C z1W z3x z65 z6K z20 z3D z24 z27 z3q z2Y co_it z6M z2W z6D z6m z3m co_ro z3o co_sl z6w z66 co_sq z26 z0V co_tm z1B z0K z3z z0y z0p co_nl z1w z0M z3y z1o z3l z6N z6v z1K z3j z1Y z1O z2N z2Z sd_it z6e z3B z6z z6G z3a sd_ro z2T sd_sl z6I z6i sd_wh z21 z15 sd_fr z1x z0T sd_kd z1D z18 sd_vw z1A z0J sd_sq z22 z16 sd_tm z1r z10 z30 z38 z6f z5O u_bz u_bi1 u_bi2 u_bi3 u_bi4 u_bi5 u_bi6 u_bi7 z5z ztp ztv nthOL ltO_o ltO_r takeL z5x ztd List.take_length
attribute [local go_sem_proc] Nat.reduceAdd Nat.reduceSub Nat.reduceMul Nat.reduceLeDiff Nat.reduceLT Int.reduceEq Int.reduceNe Int.reduceLT Int.reduceLE Int.reduceAdd Int.reduceSub Int.reduceMul Int.reduceNeg Int.reduceToNat reduceCtorEq Nat.reduceEqDiff Nat.reduceBEq Nat.reduceGT
attribute [local go_sem_proc ↓] reduceIte
theorem in_s (m : Nat) (v : Int) : z6B m (nA v) (nA 63) = some (bA (parB v),[]) := by
 rw [zcX]
 unfold parB
 by_cases h1 : 0 ≤ v
 ·simp (config := {maxSteps := 4000000,implicitDefEqProofs := false}) (disch := omega) only [go_sem,h1]
 ·simp (config := {maxSteps := 4000000,implicitDefEqProofs := false}) (disch := omega) only [go_sem,h1]
theorem num_s (m : Nat) (v : Int) : z1f m (nA v) = some (bA (numB v),[]) := by
 rw [zgw,zcX]
 unfold numB
 by_cases h1 : 0 ≤ v
 ·simp (config := {maxSteps := 4000000,implicitDefEqProofs := false}) (disch := omega) only [go_sem,h1]
 ·simp (config := {maxSteps := 4000000,implicitDefEqProofs := false}) (disch := omega) only [go_sem,h1]
theorem zo1 (m : Nat) (l : List Sm) (hm : l.length < m) (hl : l.length ≤ 34359738367) : z5g m (SL (l.map smE)) = some (bA (smsB l),[]) := by
 rw [zfp]
 simp (config := {maxSteps := 4000000,implicitDefEqProofs := false}) (disch := omega) only [go_sem,]
 generalize hg : smsB l = g
 refine z4a (ι := {k : Nat // k ≤ l.length ∧ (decide (l.length ≤ 64) && (l.drop k).all smB) = g}) (fun k=>⟨[],[(0,SL (l.map smE)),(3,nA k.1)]⟩) (fun k=>l.length - k.1) (fun _=>some (bA g,[])) ?_ ⟨0,Nat.zero_le _,hg⟩ (by dsimp only;omega)
 rintro kx hkx ⟨k,hk,hG⟩ kc hkc
 dsimp only at hkc hG ⊢
 rw [zdo]
 by_cases hlt : k < l.length
 ·have hlt' : (k : Int) < (l.length : Int) := by omega
  rw [List.drop_eq_getElem_cons hlt,List.all_cons] at hG
  have q0 := in_s m l[k].fr
  have q1 := num_s m l[k].kd
  have q2 := num_s m l[k].vw
  have q3 := num_s m l[k].sq
  have q4 := num_s m l[k].tm
  cases c0 : parB l[k].fr with
  |false =>
   rw [c0] at q0
   have e : smB l[k] = false := by simp [smB,c0]
   rw [e] at hG
   have hG2 : false = g := by rw [← hG];simp
   subst hG2
   simp (config := {maxSteps := 4000000,implicitDefEqProofs := false}) (disch := omega) only [go_sem,hlt',q0,q1,q2,q3,q4,w_i64,hkx,z1k,z1j,z1i]
  |true =>
   rw [c0] at q0
   cases c1 : numB l[k].kd with
   |false =>
    rw [c1] at q1
    have e : smB l[k] = false := by simp [smB,c0,c1]
    rw [e] at hG
    have hG2 : false = g := by rw [← hG];simp
    subst hG2
    simp (config := {maxSteps := 4000000,implicitDefEqProofs := false}) (disch := omega) only [go_sem,hlt',q0,q1,q2,q3,q4,w_i64,hkx,z1k,z1j,z1i]
   |true =>
    rw [c1] at q1
    cases c2 : numB l[k].vw with
    |false =>
     rw [c2] at q2
     have e : smB l[k] = false := by simp [smB,c0,c1,c2]
     rw [e] at hG
     have hG2 : false = g := by rw [← hG];simp
     subst hG2
     simp (config := {maxSteps := 4000000,implicitDefEqProofs := false}) (disch := omega) only [go_sem,hlt',q0,q1,q2,q3,q4,w_i64,hkx,z1k,z1j,z1i]
    |true =>
     rw [c2] at q2
     cases c3 : numB l[k].sq with
     |false =>
      rw [c3] at q3
      have e : smB l[k] = false := by simp [smB,c0,c1,c2,c3]
      rw [e] at hG
      have hG2 : false = g := by rw [← hG];simp
      subst hG2
      simp (config := {maxSteps := 4000000,implicitDefEqProofs := false}) (disch := omega) only [go_sem,hlt',q0,q1,q2,q3,q4,w_i64,hkx,z1k,z1j,z1i]
     |true =>
      rw [c3] at q3
      cases c4 : numB l[k].tm with
      |false =>
       rw [c4] at q4
       have e : smB l[k] = false := by simp [smB,c0,c1,c2,c3,c4]
       rw [e] at hG
       have hG2 : false = g := by rw [← hG];simp
       subst hG2
       simp (config := {maxSteps := 4000000,implicitDefEqProofs := false}) (disch := omega) only [go_sem,hlt',q0,q1,q2,q3,q4,w_i64,hkx,z1k,z1j,z1i]
      |true =>
       rw [c4] at q4
       have e : smB l[k] = true := by simp [smB,c0,c1,c2,c3,c4]
       rw [e] at hG
       have step := hkc ⟨k + 1,by omega,hG⟩ (by dsimp only;omega)
       simp (config := {maxSteps := 4000000,implicitDefEqProofs := false}) (disch := omega) only [go_sem,hlt',q0,q1,q2,q3,q4,w_i64,z1k,z1j,z1i]
       exact step
 ·have hlt' : ¬ (k : Int) < (l.length : Int) := by omega
  rw [List.drop_of_length_le (by omega)] at hG
  have hG2 : decide (l.length ≤ 64) = g := by rw [← hG];simp
  subst hG2
  have e : decide ((l.length : Int) ≤ 64) = decide (l.length ≤ 64) := by apply decide_eq_decide.2;omega
  simp (config := {maxSteps := 4000000,implicitDefEqProofs := false}) (disch := omega) only [go_sem,hlt',e,hkx,z1k,z1j,z1i]
theorem zqx (m : Nat) (x : Ch) (hp : x.pf.length < m) (hp2 : x.pf.length ≤ 34359738367) (hc : x.cs.length < m) (hc2 : x.cs.length ≤ 34359738367) (hv : ∀ y ∈ x.cs,y.vs.length < m ∧ y.vs.length ≤ 34359738367) : z3U m (cgE x) = some (bA (cgB x),[]) := by
 have q0 := in_s m x.fr
 have q1 := num_s m x.vw
 have q2 := num_s m x.st
 have q3 := num_s m x.rt
 have q4 := zo1 m x.pf hp hp2
 have E : cgB x = (parB x.fr && ([x.vw,x.st,x.rt].all numB && (smsB x.pf && (decide (x.cs.length ≤ 64) && x.cs.all ceB)))) := rfl
 rw [zeH,cg_it]
 cases c0 : parB x.fr with
 |false =>
  rw [c0] at q0
  have e : cgB x = false := by simp [E,c0]
  rw [e]
  simp (config := {maxSteps := 4000000,implicitDefEqProofs := false}) (disch := omega) only [go_sem,q0,q1,q2,q3,q4,z0c,z0e,z0f,z0d,z0b]
 |true =>
  rw [c0] at q0
  cases c1 : numB x.vw with
  |false =>
   rw [c1] at q1
   have e : cgB x = false := by simp [E,c0,c1]
   rw [e]
   simp (config := {maxSteps := 4000000,implicitDefEqProofs := false}) (disch := omega) only [go_sem,q0,q1,q2,q3,q4,z0c,z0e,z0f,z0d,z0b]
  |true =>
   rw [c1] at q1
   cases c2 : numB x.st with
   |false =>
    rw [c2] at q2
    have e : cgB x = false := by simp [E,c0,c1,c2]
    rw [e]
    simp (config := {maxSteps := 4000000,implicitDefEqProofs := false}) (disch := omega) only [go_sem,q0,q1,q2,q3,q4,z0c,z0e,z0f,z0d,z0b]
   |true =>
    rw [c2] at q2
    cases c3 : numB x.rt with
    |false =>
     rw [c3] at q3
     have e : cgB x = false := by simp [E,c0,c1,c2,c3]
     rw [e]
     simp (config := {maxSteps := 4000000,implicitDefEqProofs := false}) (disch := omega) only [go_sem,q0,q1,q2,q3,q4,z0c,z0e,z0f,z0d,z0b]
    |true =>
     rw [c3] at q3
     cases c4 : smsB x.pf with
     |false =>
      rw [c4] at q4
      have e : cgB x = false := by simp [E,c0,c1,c2,c3,c4]
      rw [e]
      simp (config := {maxSteps := 4000000,implicitDefEqProofs := false}) (disch := omega) only [go_sem,q0,q1,q2,q3,q4,z0c,z0e,z0f,z0d,z0b]
     |true =>
      rw [c4] at q4
      by_cases h64 : x.cs.length ≤ 64
      rotate_left
      ·have h64' : (x.cs.length : Int) > 64 := by omega
       have e : cgB x = false := by rw [E,decide_eq_false h64];simp
       rw [e]
       simp (config := {maxSteps := 4000000,implicitDefEqProofs := false}) (disch := omega) only [go_sem,q0,q1,q2,q3,q4,h64',z0c,z0e,z0f,z0d,z0b]
      have h64' : ¬ (x.cs.length : Int) > 64 := by omega
      have e : cgB x = x.cs.all ceB := by rw [E,decide_eq_true h64];simp [c0,c1,c2,c3,c4]
      rw [e]
      simp (config := {maxSteps := 4000000,implicitDefEqProofs := false}) (disch := omega) only [go_sem,q0,q1,q2,q3,q4,h64',z0c,z0e,z0f,z0d,z0b]
      generalize hg : x.cs.all ceB = g
      refine z4a (ι := {k : Nat // k ≤ x.cs.length ∧ (x.cs.drop k).all ceB = g}) (fun k=>⟨[⟨1,z00,0,cgC x⟩],[(1,OP 0 0),(3,nA k.1)]⟩) (fun k=>x.cs.length - k.1) (fun _=>some (bA g,[])) ?_ ⟨0,Nat.zero_le _,hg⟩ (by dsimp only;omega)
      clear q0 q1 q2 q3 q4
      rintro kx hkx ⟨k,hk,hG⟩ kc hkc
      dsimp only at hkc hG ⊢
      rw [zcM]
      by_cases hlt : k < x.cs.length
      rotate_left
      ·have hlt' : ¬ (k : Int) < (x.cs.length : Int) := by omega
       rw [List.drop_of_length_le (by omega)] at hG
       have hG2 : true = g := hG
       subst hG2
       simp (config := {maxSteps := 4000000,implicitDefEqProofs := false}) (disch := omega) only [go_sem,hlt',hkx,z0c,z0e,z0f,z0d,z0b]
      have hlt' : (k : Int) < (x.cs.length : Int) := by omega
      rw [List.drop_eq_getElem_cons hlt,List.all_cons] at hG
      obtain ⟨v1,v2⟩ := hv x.cs[k] (List.getElem_mem hlt)
      have q0 := num_s m x.cs[k].sq
      have q1 := num_s m x.cs[k].vw
      have q2 := num_s m x.cs[k].tm
      have q4 := zo1 m x.cs[k].vs v1 v2
      generalize hy : x.cs[k] = y at *
      cases d0 : numB y.sq with
      |false =>
       rw [d0] at q0
       have e : ceB y = false := by simp [ceB,d0]
       rw [e] at hG
       have hG2 : false = g := by rw [← hG];simp
       subst hG2
       simp (config := {maxSteps := 4000000,implicitDefEqProofs := false}) (disch := omega) only [go_sem,hlt',hy,q0,q1,q2,q4,w_i64,hkx,z0c,z0e,z0f,z0d,z0b]
      |true =>
       rw [d0] at q0
       cases d1 : numB y.vw with
       |false =>
        rw [d1] at q1
        have e : ceB y = false := by simp [ceB,d0,d1]
        rw [e] at hG
        have hG2 : false = g := by rw [← hG];simp
        subst hG2
        simp (config := {maxSteps := 4000000,implicitDefEqProofs := false}) (disch := omega) only [go_sem,hlt',hy,q0,q1,q2,q4,w_i64,hkx,z0c,z0e,z0f,z0d,z0b]
       |true =>
        rw [d1] at q1
        cases d2 : numB y.tm with
        |false =>
         rw [d2] at q2
         have e : ceB y = false := by simp [ceB,d0,d1,d2]
         rw [e] at hG
         have hG2 : false = g := by rw [← hG];simp
         subst hG2
         simp (config := {maxSteps := 4000000,implicitDefEqProofs := false}) (disch := omega) only [go_sem,hlt',hy,q0,q1,q2,q4,w_i64,hkx,z0c,z0e,z0f,z0d,z0b]
        |true =>
         rw [d2] at q2
         by_cases hb : y.body.length ≤ 65536
         rotate_left
         ·have hb' : (y.body.length : Int) > 65536 := by omega
          have e : ceB y = false := by simp [ceB,d0,d1,d2,hb]
          rw [e] at hG
          have hG2 : false = g := by rw [← hG];simp
          subst hG2
          simp (config := {maxSteps := 4000000,implicitDefEqProofs := false}) (disch := omega) only [go_sem,hlt',hy,hb',q0,q1,q2,q4,w_i64,hkx,z0c,z0e,z0f,z0d,z0b]
         have hb' : ¬ (y.body.length : Int) > 65536 := by omega
         cases d4 : smsB y.vs with
         |false =>
          rw [d4] at q4
          have e : ceB y = false := by simp [ceB,d0,d1,d2,hb,d4]
          rw [e] at hG
          have hG2 : false = g := by rw [← hG];simp
          subst hG2
          simp (config := {maxSteps := 4000000,implicitDefEqProofs := false}) (disch := omega) only [go_sem,hlt',hy,hb',q0,q1,q2,q4,w_i64,hkx,z0c,z0e,z0f,z0d,z0b]
         |true =>
          rw [d4] at q4
          have e : ceB y = true := by simp [ceB,d0,d1,d2,hb,d4]
          rw [e] at hG
          have step := hkc ⟨k + 1,by omega,hG⟩ (by dsimp only;omega)
          simp (config := {maxSteps := 4000000,implicitDefEqProofs := false}) (disch := omega) only [go_sem,hlt',hy,hb',q0,q1,q2,q4,w_i64,z0c,z0e,z0f,z0d,z0b]
          exact step
end Go.Proofs.Ytaaogcnjfkgnoaa

namespace Go.Proofs.Ytaaogcnjfkgnoaa
open Go.RowKit
attribute [local go_sem] Nat.zero_add Nat.add_zero Nat.mul_one Int.toNat_natCast Int.natCast_zero Int.cast_ofNat_Int or_false false_or or_true true_or Nat.sub_zero Int.natCast_nonneg Int.toNat_zero Bool.true_and Bool.and_true Bool.false_and Bool.and_false Bool.true_or Bool.or_true Bool.false_or Bool.or_false Bool.not_true Bool.not_false Bool.not_not true_and and_true false_and and_false not_true_eq_false not_false_eq_true eq_self decide_true decide_false ne_eq implies_true forall_const true_implies false_implies Bool.true_eq_false Bool.false_eq_true List.map_cons List.map_nil List.all_cons List.all_nil List.length_cons List.length_nil List.length_map List.length_append List.nil_append List.cons_append List.set_cons_zero List.set_cons_succ List.set_nil List.drop_zero List.drop_succ_cons List.drop_nil List.take_zero List.take_succ_cons List.take_nil Option.map_some Option.map_none Option.isSome_some List.all_append List.all_map Function.comp_def decide_eq_true_eq Bool.and_eq_true beq_self_eq_true or_self and_self ite_true ite_false Nat.le_refl Bool.not_eq_true decide_not Bool.not_eq_true' decide_eq_false_iff_not Bool.not_eq_false Bool.or_eq_true if_true if_false ite_self u_roF u_cvF u_cvC u_ceT u_ceK z2m sm_it z6A z37 z5m z6p z3d sm_ro z3i sm_sl z6a z69 sm_fr z1F z13 sm_kd z28 z12 sm_vw z1u z0P sm_sq z1R z0S sm_tm z1q z0L z2R z2b z3k z63 z64 z29 z3g z1p z1y z2F z39 ce_it z6J z31 z4Z z6x z3A ce_ro z3t ce_sl z6d z6g ce_sq z1X z14 ce_vw z1C z0H ce_tm z1U z0W z33 z0v z0n ce_vs z1P z0X z36 z1t z3r z6F z6H z1T z2X z1z z2c z2M z2V cg_it z67 z3s z61 z6n z2U cg_ro z3E cg_sl z6b z6u cg_fr z1J z0N cg_vw z1Q z11 cg_st z1M z0G cg_rt z1H z17 cg_pf z1Z z0E cg_cs z1N z0I z32 z1I z3b z6y z6c z1V z3v z23 z1L z35 z3p ms_it z6o z3n z6C z6h z3h ms_ro z3e ms_sl z6E z6r ms_kd z1S z0R ms_fr z1v z0O ms_vw z25 z0U ms_sq z1s z0Z ms_tm z1G z0F z3c z0u z0o ms_vs z1E z0Y z68 z0Q z0x z3C z1W z3x z65 z6K z20 z3D z24 z27 z3q z2Y co_it z6M z2W z6D z6m z3m co_ro z3o co_sl z6w z66 co_sq z26 z0V co_tm z1B z0K z3z z0y z0p co_nl z1w z0M z3y z1o z3l z6N z6v z1K z3j z1Y z1O z2N z2Z sd_it z6e z3B z6z z6G z3a sd_ro z2T sd_sl z6I z6i sd_wh z21 z15 sd_fr z1x z0T sd_kd z1D z18 sd_vw z1A z0J sd_sq z22 z16 sd_tm z1r z10 z30 z38 z6f z5O u_bz u_bi1 u_bi2 u_bi3 u_bi4 u_bi5 u_bi6 u_bi7 z5z ztp ztv nthOL ltO_o ltO_r takeL z5x ztd List.take_length
attribute [local go_sem_proc] Nat.reduceAdd Nat.reduceSub Nat.reduceMul Nat.reduceLeDiff Nat.reduceLT Int.reduceEq Int.reduceNe Int.reduceLT Int.reduceLE Int.reduceAdd Int.reduceSub Int.reduceMul Int.reduceNeg Int.reduceToNat reduceCtorEq Nat.reduceEqDiff Nat.reduceBEq Nat.reduceGT
attribute [local go_sem_proc ↓] reduceIte
theorem zxQ (m : Nat) (v : Int) (h0 : 0 ≤ v) (h1 : v < 18446744073709551616) : z5c m [V (.int .u64 v)] = some (sA (put v.toNat),[]) := by
 have := zhF m v.toNat (by omega)
 rw [Int.toNat_of_nonneg h0] at this
 exact this
theorem zlv (m : Nat) (l : List Int) (hl : inI l) (hm : l.length < m) (hm2 : l.length ≤ 1000) : z2I m (SL (l.map nA)) = some (sA (putsL l),[]) := by
 rw [zgv]
 refine z4a (ι := {k : Nat // k ≤ l.length}) (fun k=>⟨[],[(0,SL (l.map nA)),(3,sA (putsL (l.take k.1))),(4,nA k.1)]⟩) (fun k=>l.length - k.1) (fun _=>some (sA (putsL l),[])) ?_ ⟨0,Nat.zero_le _⟩ (by dsimp only;omega)
 rintro kx hkx ⟨k,hk⟩ kc hkc
 dsimp only at hkc ⊢
 have hlen := z9h (hl.take k)
 rw [List.length_take,Nat.min_eq_left hk] at hlen
 rw [zeJ]
 by_cases hlt : k < l.length
 ·have hlt' : (k : Int) < (l.length : Int) := by omega
  obtain ⟨hv0,hv1⟩ := hl l[k] (List.getElem_mem hlt)
  have hp := zc5 l[k].toNat (by omega)
  have hP := zxQ m l[k] hv0 (by omega)
  have hw : IntKind.u64.wrap l[k] = l[k] := by rw [w_u64 (by omega) (by omega)]
  have step := hkc ⟨k + 1,by omega⟩ (by dsimp only;omega)
  dsimp only at step
  rw [List.take_succ_eq_append_getElem hlt,zj2,zfy,zkD,List.append_nil] at step
  generalize putsL (l.take k) = B1 at hlen step ⊢
  have hs : ((B1.length + (put l[k].toNat).length : Nat) : Int) ≤ 9223372036854775807 := by omega
  simp (config := {maxSteps := 4000000,implicitDefEqProofs := false}) (disch := omega) only [go_sem,hlt',hw,hP,hs,w_i64]
  exact step
 ·have hlt' : ¬ (k : Int) < (l.length : Int) := by omega
  have hk2 : l.take k = l := List.take_of_length_le (by omega)
  rw [hk2] at hlen ⊢
  simp (config := {maxSteps := 4000000,implicitDefEqProofs := false}) (disch := omega) only [go_sem,hlt',hkx,zex]
theorem zn1 (m : Nat) (l : List Sm) (h : smsB l = true) (hm : 70 < m) : z4L m (SL (l.map smE)) = some (sA (z5L l),[]) := by
 obtain ⟨h64,hx⟩ := zjO h
 have hN := zlv m [(l.length : Int)] (by intro v hv;simp at hv;omega) (by simp;omega) (by simp)
 rw [zg5] at hN
 simp only [List.map_cons,List.map_nil] at hN
 have hp := zc5 l.length (by omega)
 rw [zeI]
 rw [show put l.length = put l.length ++ (l.take 0).flatMap encSm by simp] at hN
 simp (config := {maxSteps := 4000000,implicitDefEqProofs := false}) (disch := omega) only [go_sem,hN]
 refine z4a (ι := {k : Nat // k ≤ l.length}) (fun k=>⟨[],[(0,SL (l.map smE)),(3,sA (put l.length ++ (l.take k.1).flatMap encSm)),(4,nA k.1)]⟩) (fun k=>l.length - k.1) (fun _=>some (sA (z5L l),[])) ?_ ⟨0,Nat.zero_le _⟩ (by dsimp only;omega)
 rintro kx hkx ⟨k,hk⟩ kc hkc
 dsimp only at hkc ⊢
 rw [zc7]
 by_cases hlt : k < l.length
 ·have hlt' : (k : Int) < (l.length : Int) := by omega
  have hv := List.all_eq_true.1 hx l[k] (List.getElem_mem hlt)
  have hlen := zce (l := l.take k) (List.all_eq_true.2 fun y hy=>List.all_eq_true.1 hx y (List.mem_of_mem_take hy))
  rw [List.length_take,Nat.min_eq_left hk] at hlen
  have step := hkc ⟨k + 1,by omega⟩ (by dsimp only;omega)
  dsimp only at step
  rw [List.take_succ_eq_append_getElem hlt,List.flatMap_append,List.flatMap_cons,List.flatMap_nil,List.append_nil,← List.append_assoc] at step
  generalize (l.take k).flatMap encSm = B1 at hlen step ⊢
  have hV := zlv m [l[k].fr,l[k].kd,l[k].vw,l[k].sq,l[k].tm] (zng hv) (by simp;omega) (by simp)
  have hV2 := zmY hv
  change z2I m _ = some (sA (encSm l[k]),[]) at hV
  simp only [List.map_cons,List.map_nil] at hV
  generalize encSm l[k] = E at hV hV2 step
  have hs : (((put l.length).length + B1.length + E.length : Nat) : Int) ≤ 9223372036854775807 := by omega
  simp (config := {maxSteps := 4000000,implicitDefEqProofs := false}) (disch := omega) only [go_sem,hlt',hV,hs,w_i64]
  exact step
 ·have hlt' : ¬ (k : Int) < (l.length : Int) := by omega
  have hk2 : l.take k = l := List.take_of_length_le (by omega)
  rw [hk2]
  unfold z5L
  simp (config := {maxSteps := 4000000,implicitDefEqProofs := false}) (disch := omega) only [go_sem,hlt',hkx,zc6]
theorem zsz {x : Ce} : encCe x = putsL [x.sq,x.vw,x.tm,(x.body.length : Int)] ++ x.body ++ z5L x.vs := by
 unfold encCe textB
 simp only [zfy,zkD,List.append_nil,List.append_assoc,Int.toNat_natCast]
theorem zjx (m : Nat) (x : Ch) (h : cgB x = true) (hm : 70 < m) : z3P m (cgE x) = some (sA (encCg x),[]) := by
 obtain ⟨h0,h1,h2,h3⟩ := zps h
 obtain ⟨h6,h7⟩ := zmM h3
 have e1 := z9h (zlO h)
 have e2 := z8F h2
 have e3 := zfm h3
 have hN := zlv m [x.fr,x.vw,x.st,x.rt] (zlO h) (by simp;omega) (by simp)
 have hV := zn1 m x.pf h2 hm
 have hN2 := zlv m [(x.cs.length : Int)] (by intro v hv;simp at hv;omega) (by simp;omega) (by simp)
 rw [zg5] at hN2
 have hp := zc5 x.cs.length (by omega)
 simp only [List.map_cons,List.map_nil] at hN hN2
 simp only [List.length_cons,List.length_nil] at e1
 rw [zaG,cg_it]
 have E : encCg x = putsL [x.fr,x.vw,x.st,x.rt] ++ z5L x.pf ++ put x.cs.length ++ x.cs.flatMap encCe := by
  unfold encCg zcv
  simp only [List.append_assoc]
 rw [E]
 generalize putsL [x.fr,x.vw,x.st,x.rt] = A1 at *
 generalize z5L x.pf = A2 at *
 generalize put x.cs.length = A3 at *
 have s1 : ((A1.length + A2.length : Nat) : Int) ≤ 9223372036854775807 := by omega
 have s2 : ((A1.length + A2.length + A3.length : Nat) : Int) ≤ 9223372036854775807 := by omega
 simp (config := {maxSteps := 4000000,implicitDefEqProofs := false}) (disch := omega) only [go_sem,hN,hV,hN2,s1,s2]
 rw [show A1 ++ A2 ++ A3 = A1 ++ A2 ++ A3 ++ (x.cs.take 0).flatMap encCe by simp]
 obtain ⟨r,hr⟩ : ∃ r,r = some (sA (A1 ++ A2 ++ A3 ++ (x.cs.take 0).flatMap encCe ++ x.cs.flatMap encCe),([] : List AObj)) := ⟨_,rfl⟩
 rw [← hr]
 refine z4a (ι := {k : Nat // k ≤ x.cs.length}) (fun k=>⟨[⟨1,z00,0,cgC x⟩],[(1,OP 0 0),(3,sA (A1 ++ A2 ++ A3 ++ (x.cs.take k.1).flatMap encCe)),(4,nA k.1)]⟩) (fun k=>x.cs.length - k.1) (fun _=>r) ?_ ⟨0,Nat.zero_le _⟩ (by dsimp only;omega)
 simp only [List.take_zero,List.flatMap_nil,List.append_nil] at hr
 rintro kx hkx ⟨k,hk⟩ kc hkc
 dsimp only at hkc ⊢
 rw [z9z]
 by_cases hlt : k < x.cs.length
 ·have hlt' : (k : Int) < (x.cs.length : Int) := by omega
  have hv := List.all_eq_true.1 h7 x.cs[k] (List.getElem_mem hlt)
  have hlen := zci (l := x.cs.take k) (List.all_eq_true.2 fun y hy=>List.all_eq_true.1 h7 y (List.mem_of_mem_take hy))
  rw [List.length_take,Nat.min_eq_left hk] at hlen
  have step := hkc ⟨k + 1,by omega⟩ (by dsimp only;omega)
  dsimp only at step
  rw [List.take_succ_eq_append_getElem hlt,List.flatMap_append,List.flatMap_cons,List.flatMap_nil,List.append_nil,zsz,← List.append_assoc] at step
  generalize (x.cs.take k).flatMap encCe = B1 at hlen step ⊢
  obtain ⟨v1,v2,v3⟩ := zpy hv
  have hi : inI [x.cs[k].sq,x.cs[k].vw,x.cs[k].tm,(x.cs[k].body.length : Int)] := by
   have := zlb v1
   intro v hv
   simp only [List.mem_cons,List.not_mem_nil,or_false] at hv
   rcases hv with rfl|rfl|rfl|rfl
   ·exact this _ (by simp)
   ·exact this _ (by simp)
   ·exact this _ (by simp)
   ·omega
  have hM := zlv m [x.cs[k].sq,x.cs[k].vw,x.cs[k].tm,(x.cs[k].body.length : Int)] hi (by simp;omega) (by simp)
  have hM2 := z9h hi
  have hW := zn1 m x.cs[k].vs v3 hm
  have hW2 := z8F v3
  simp only [List.map_cons,List.map_nil] at hM
  simp only [List.length_cons,List.length_nil] at hM2
  generalize putsL [x.cs[k].sq,x.cs[k].vw,x.cs[k].tm,(x.cs[k].body.length : Int)] = C1 at *
  generalize z5L x.cs[k].vs = C2 at *
  clear hN hV hN2
  have s1 : ((C1.length + x.cs[k].body.length : Nat) : Int) ≤ 9223372036854775807 := by omega
  have s2 : ((C1.length + x.cs[k].body.length + C2.length : Nat) : Int) ≤ 9223372036854775807 := by omega
  have s3 : ((A1.length + A2.length + A3.length + B1.length + (C1.length + x.cs[k].body.length + C2.length) : Nat) : Int) ≤ 9223372036854775807 := by omega
  simp (config := {maxSteps := 4000000,implicitDefEqProofs := false}) (disch := omega) only [go_sem,hlt',hM,hW,s1,s2,s3,w_i64]
  simp only [List.append_assoc] at step ⊢
  exact step
 ·have hlt' : ¬ (k : Int) < (x.cs.length : Int) := by omega
  have hk2 : x.cs.take k = x.cs := List.take_of_length_le (by omega)
  rw [hk2,hr]
  simp (config := {maxSteps := 4000000,implicitDefEqProofs := false}) (disch := omega) only [go_sem,hlt',hkx,z9y]
end Go.Proofs.Ytaaogcnjfkgnoaa

namespace Go.Proofs.Ytaaogcnjfkgnoaa
def setL (s : Nat) : List Nat := (List.range 64).filter s.testBit
def cntS (s : Nat) : Nat := (setL s).length
def bv : List Nat → Nat
 |[]=>0
 |b :: r=>2 ^ 8 * bv r + b
theorem zlQ {h b m c : Nat} (hb : b < 2 ^ 8) (hc : c < 2 ^ 8) : (2 ^ 8 * h + b) &&& (2 ^ 8 * m + c) = 2 ^ 8 * (h &&& m) + (b &&& c) := by
 have hbc : b &&& c < 2 ^ 8 := Nat.lt_of_le_of_lt Nat.and_le_left hb
 refine Nat.eq_of_testBit_eq fun j=>?_
 rw [Nat.testBit_and,Nat.testBit_two_pow_mul_add _ hb,Nat.testBit_two_pow_mul_add _ hc,Nat.testBit_two_pow_mul_add _ hbc]
 split
 ·rw [Nat.testBit_and]
 ·rw [Nat.testBit_and]
theorem zj3 {h b m c k : Nat} (hk : k ≤ 8) (hb : b < 2 ^ 8) (hc : c < 2 ^ (8 - k)) : (2 ^ 8 * h + b) / 2 ^ k &&& (2 ^ 8 * m + c) = 2 ^ 8 * (h / 2 ^ k &&& m) + (b / 2 ^ k &&& c) := by
 have hc8 : c < 2 ^ 8 := Nat.lt_of_lt_of_le hc (Nat.pow_le_pow_right (by decide) (by omega))
 have hbc : b / 2 ^ k &&& c < 2 ^ 8 := Nat.lt_of_le_of_lt Nat.and_le_right hc8
 refine Nat.eq_of_testBit_eq fun j=>?_
 rw [Nat.testBit_and,Nat.testBit_div_two_pow,Nat.testBit_two_pow_mul_add _ hb,Nat.testBit_two_pow_mul_add _ hc8,Nat.testBit_two_pow_mul_add _ hbc]
 by_cases hj : j < 8
 ·rw [if_pos hj,if_pos hj,Nat.testBit_and,Nat.testBit_div_two_pow]
  by_cases hjk : j + k < 8
  ·rw [if_pos hjk]
  ·have : c.testBit j = false := Nat.testBit_lt_two_pow (Nat.lt_of_lt_of_le hc (Nat.pow_le_pow_right (by decide) (by omega)))
   rw [this,Bool.and_false,Bool.and_false]
 ·rw [if_neg hj,if_neg hj,if_neg (by omega),Nat.testBit_and,Nat.testBit_div_two_pow]
  congr 2
  omega
def msk (c w : Nat) : Nat := bv (List.replicate w c)
def oc1 (w x : Nat) : Nat := (x / 2 ^ 1 &&& msk 85 w) + (x &&& msk 85 w)
def oc2 (w x : Nat) : Nat := (x / 2 ^ 2 &&& msk 51 w) + (x &&& msk 51 w)
def oc3 (w x : Nat) : Nat := (x / 2 ^ 4 + x) &&& msk 15 w
def f1 (b : Nat) : Nat := (b / 2 ^ 1 &&& 85) + (b &&& 85)
def f2 (b : Nat) : Nat := (b / 2 ^ 2 &&& 51) + (b &&& 51)
def f3 (b : Nat) : Nat := (b / 16 + b) &&& 15
theorem zm8 (c w : Nat) : msk c (w + 1) = 2 ^ 8 * msk c w + c := rfl
theorem zxv : ∀ (l : List Nat),(∀ b ∈ l,b < 2 ^ 8) → oc1 l.length (bv l) = bv (l.map f1)
 |[],_=>rfl
 |b :: r,h=>by
  have ih := zxv r fun x hx=>h x (List.mem_cons_of_mem _ hx)
  have hb := h b (List.mem_cons_self ..)
  simp only [List.map_cons,bv,List.length_cons]
  rw [← ih]
  unfold oc1
  rw [zm8,zj3 (by decide) hb (by decide),zlQ hb (by decide)]
  unfold f1
  omega
theorem zuG : ∀ (l : List Nat),(∀ b ∈ l,b < 2 ^ 8) → oc2 l.length (bv l) = bv (l.map f2)
 |[],_=>rfl
 |b :: r,h=>by
  have ih := zuG r fun x hx=>h x (List.mem_cons_of_mem _ hx)
  have hb := h b (List.mem_cons_self ..)
  simp only [List.map_cons,bv,List.length_cons]
  rw [← ih]
  unfold oc2
  rw [zm8,zj3 (by decide) hb (by decide),zlQ hb (by decide)]
  unfold f2
  omega
def q4 (b : Nat) : Bool := decide (b % 16 ≤ 4) && decide (b / 16 ≤ 4)
theorem and15 (x : Nat) : x &&& 15 = x % 16 := Nat.and_two_pow_sub_one_eq_mod x 4
theorem zvJ : ∀ (l : List Nat),(∀ b ∈ l,q4 b = true) → oc3 l.length (bv l) = bv (l.map f3)
 |[],_=>rfl
 |b :: r,h=>by
  have ih := zvJ r fun x hx=>h x (List.mem_cons_of_mem _ hx)
  have hb := h b (List.mem_cons_self ..)
  unfold q4 at hb
  simp only [Bool.and_eq_true,decide_eq_true_eq] at hb
  have hr : bv r % 16 ≤ 4 := by
   cases r with
   |nil=>exact Nat.zero_le _
   |cons c r' =>
    have hc := h c (List.mem_cons_of_mem _ (List.mem_cons_self ..))
    unfold q4 at hc
    simp only [Bool.and_eq_true,decide_eq_true_eq] at hc
    simp only [bv]
    omega
  simp only [List.map_cons,bv,List.length_cons]
  rw [← ih]
  unfold oc3
  rw [zm8]
  have e : (2 ^ 8 * bv r + b) / 2 ^ 4 + (2 ^ 8 * bv r + b) = 2 ^ 8 * (bv r / 2 ^ 4 + bv r) + (16 * (bv r % 16) + b / 16 + b) := by omega
  rw [e,zlQ (by omega) (by decide)]
  unfold f3
  rw [and15,and15]
  omega
def p8 (b : Nat) : Nat := ((List.range 8).filter b.testBit).length
theorem f_all : ∀ b,b < 256 → f1 b < 256 ∧ f2 (f1 b) < 256 ∧ q4 (f2 (f1 b)) = true ∧ f3 (f2 (f1 b)) = p8 b ∧ p8 b ≤ 8 := by decide +kernel
theorem zkB (n : Nat) : ∀ k,List.range (n + k) = List.range n ++ (List.range k).map (n + ·)
 |0=>by simp
 |k + 1=>by rw [← Nat.add_assoc,List.range_succ,zkB n k,List.range_succ,List.map_append,← List.append_assoc];rfl
theorem zuQ : ∀ (l : List Nat),(∀ b ∈ l,b < 2 ^ 8) → ((List.range (8 * l.length)).filter (bv l).testBit).length = (l.map p8).sum
 |[],_=>rfl
 |b :: r,h=>by
  have ih := zuQ r fun x hx=>h x (List.mem_cons_of_mem _ hx)
  have hb := h b (List.mem_cons_self ..)
  simp only [List.length_cons,List.map_cons,List.sum_cons,bv]
  rw [show 8 * (r.length + 1) = 8 + 8 * r.length by omega,zkB,List.filter_append,List.length_append,List.filter_map,List.length_map]
  congr 1
  ·unfold p8
   congr 1
   refine List.filter_congr fun i hi=>?_
   rw [Nat.testBit_two_pow_mul_add _ hb,if_pos (List.mem_range.1 hi)]
  ·rw [← ih]
   congr 1
   refine List.filter_congr fun i hi=>?_
   show (2 ^ 8 * bv r + b).testBit (8 + i) = _
   rw [Nat.testBit_two_pow_mul_add _ hb,if_neg (by omega)]
   congr 1;omega
theorem zsT (s : Nat) (h : s < 2 ^ 64) : ∃ b0 b1 b2 b3 b4 b5 b6 b7 : Nat,s = bv [b0,b1,b2,b3,b4,b5,b6,b7] ∧ ∀ b ∈ [b0,b1,b2,b3,b4,b5,b6,b7],b < 2 ^ 8 := by
 refine ⟨s % 256,s / 256 % 256,s / 65536 % 256,s / 16777216 % 256,s / 4294967296 % 256,s / 1099511627776 % 256,s / 281474976710656 % 256,s / 72057594037927936 % 256,?_,?_⟩
 ·simp only [bv];omega
 ·intro b hb
  simp only [List.mem_cons,List.not_mem_nil,or_false] at hb
  omega
theorem msk85 : msk 85 8 = 6148914691236517205 := by decide
theorem msk51 : msk 51 8 = 3689348814741910323 := by decide
theorem msk15 : msk 15 8 = 1085102592571150095 := by decide
theorem zw2 (s : Nat) (h : s < 2 ^ 64) : ∃ c0 c1 c2 c3 c4 c5 c6 c7 : Nat,oc3 8 (oc2 8 (oc1 8 s)) = bv [c0,c1,c2,c3,c4,c5,c6,c7] ∧ (c0 ≤ 8 ∧ c1 ≤ 8 ∧ c2 ≤ 8 ∧ c3 ≤ 8 ∧ c4 ≤ 8 ∧ c5 ≤ 8 ∧ c6 ≤ 8 ∧ c7 ≤ 8) ∧ cntS s = c0 + c1 + c2 + c3 + c4 + c5 + c6 + c7 ∧ oc1 8 s < 2 ^ 64 ∧ oc2 8 (oc1 8 s) < 2 ^ 64 := by
 obtain ⟨b0,b1,b2,b3,b4,b5,b6,b7,rfl,hb⟩ := zsT s h
 have hlt : ∀ l : List Nat,l.length = 8 → (∀ b ∈ l,b < 256) → bv l < 2 ^ 64 := by
  intro l hl hb
  match l,hl with
  |[a0,a1,a2,a3,a4,a5,a6,a7],_ =>
   have h0 := hb a0 (by simp);have h1 := hb a1 (by simp);have h2 := hb a2 (by simp);have h3 := hb a3 (by simp)
   have h4 := hb a4 (by simp);have h5 := hb a5 (by simp);have h6 := hb a6 (by simp);have h7 := hb a7 (by simp)
   simp only [bv];omega
 generalize hl : [b0,b1,b2,b3,b4,b5,b6,b7] = l at *
 have hlen : l.length = 8 := by rw [← hl];rfl
 have e1 := zxv l hb
 have hb1 : ∀ b ∈ l.map f1,b < 2 ^ 8 := fun b h=>by
  obtain ⟨x,hx,rfl⟩ := List.mem_map.1 h
  exact (f_all x (hb x hx)).1
 have e2 := zuG (l.map f1) hb1
 have hb2 : ∀ b ∈ (l.map f1).map f2,b < 2 ^ 8 := fun b h=>by
  rw [List.map_map] at h
  obtain ⟨x,hx,rfl⟩ := List.mem_map.1 h
  exact (f_all x (hb x hx)).2.1
 have e3 := zvJ ((l.map f1).map f2) fun b h=>by
  rw [List.map_map] at h
  obtain ⟨x,hx,rfl⟩ := List.mem_map.1 h
  exact (f_all x (hb x hx)).2.2.1
 have hc := zuQ l hb
 rw [hlen] at e1 hc
 rw [List.length_map,hlen] at e2
 rw [List.length_map,List.length_map,hlen] at e3
 have hp : ((l.map f1).map f2).map f3 = l.map p8 := by
  rw [List.map_map,List.map_map]
  exact List.map_congr_left fun x hx=>(f_all x (hb x hx)).2.2.2.1
 rw [hp] at e3
 rw [e1,e2,e3]
 have h8 : ∀ x ∈ l,p8 x ≤ 8 := fun x hx=>(f_all x (hb x hx)).2.2.2.2
 have l1 := hlt (l.map f1) (by simp [hlen]) hb1
 have l2 := hlt ((l.map f1).map f2) (by simp [hlen]) hb2
 refine ⟨p8 b0,p8 b1,p8 b2,p8 b3,p8 b4,p8 b5,p8 b6,p8 b7,by rw [← hl];rfl,?_,?_,l1,l2⟩
 ·subst hl
  exact ⟨h8 _ (by simp),h8 _ (by simp),h8 _ (by simp),h8 _ (by simp),h8 _ (by simp),h8 _ (by simp),h8 _ (by simp),h8 _ (by simp)⟩
 ·show ((List.range (8 * 8)).filter (bv l).testBit).length = _
  rw [hc,← hl]
  simp only [List.map_cons,List.map_nil,List.sum_cons,List.sum_nil]
  omega
theorem dv {a h m : Nat} (ha : a < m) : (a + m * h) / m = h := by
 rw [Nat.add_mul_div_left _ _ (by omega),Nat.div_eq_of_lt ha,Nat.zero_add]
theorem ln1 (c0 c1 c2 c3 c4 c5 c6 c7 : Nat) : (c0 + 256 * (c1 + 256 * (c2 + 256 * (c3 + 256 * (c4 + 256 * (c5 + 256 * (c6 + 256 * c7))))))) + (c1 + 256 * (c2 + 256 * (c3 + 256 * (c4 + 256 * (c5 + 256 * (c6 + 256 * c7)))))) =
 (c0 + c1 + 256 * (c1 + c2)) + 65536 * ((c2 + c3) + 256 * (c3 + c4 + 256 * (c4 + c5 + 256 * (c5 + c6 + 256 * (c6 + c7 + 256 * c7))))) := by omega
theorem ln2 (c0 c1 c2 c3 c4 c5 c6 c7 : Nat) : ((c0 + c1 + 256 * (c1 + c2)) + 65536 * ((c2 + c3) + 256 * (c3 + c4 + 256 * (c4 + c5 + 256 * (c5 + c6 + 256 * (c6 + c7 + 256 * c7)))))) + ((c2 + c3) + 256 * (c3 + c4 + 256 * (c4 + c5 + 256 * (c5 + c6 + 256 * (c6 + c7 + 256 * c7))))) =
 ((c0 + c1 + c2 + c3) + 256 * ((c1 + c2 + c3 + c4) + 256 * ((c2 + c3 + c4 + c5) + 256 * (c3 + c4 + c5 + c6)))) + 4294967296 * ((c4 + c5 + c6 + c7) + 256 * ((c5 + c6 + c7) + 256 * ((c6 + c7) + 256 * c7))) := by omega
theorem ln3 (c0 c1 c2 c3 c4 c5 c6 c7 : Nat) : (((c0 + c1 + c2 + c3) + 256 * ((c1 + c2 + c3 + c4) + 256 * ((c2 + c3 + c4 + c5) + 256 * (c3 + c4 + c5 + c6)))) + 4294967296 * ((c4 + c5 + c6 + c7) + 256 * ((c5 + c6 + c7) + 256 * ((c6 + c7) + 256 * c7)))) + ((c4 + c5 + c6 + c7) + 256 * ((c5 + c6 + c7) + 256 * ((c6 + c7) + 256 * c7))) =
 (c0 + c1 + c2 + c3 + c4 + c5 + c6 + c7) + 128 * (2 * ((c1 + c2 + c3 + c4 + c5 + c6 + c7) + 256 * ((c2 + c3 + c4 + c5 + c6 + c7) + 256 * (c3 + c4 + c5 + c6 + c7)) + 16777216 * ((c4 + c5 + c6 + c7) + 256 * ((c5 + c6 + c7) + 256 * ((c6 + c7) + 256 * c7))))) := by omega
theorem bv8 (c0 c1 c2 c3 c4 c5 c6 c7 : Nat) : bv [c0,c1,c2,c3,c4,c5,c6,c7] = c0 + 256 * (c1 + 256 * (c2 + 256 * (c3 + 256 * (c4 + 256 * (c5 + 256 * (c6 + 256 * c7)))))) := by
 simp only [bv];omega
theorem zz7 (s : Nat) (h : s < 2 ^ 64) : ∃ x y z,oc3 8 (oc2 8 (oc1 8 s)) = x ∧ x < 2 ^ 60 ∧ x + x / 256 = y ∧ y < 2 ^ 61 ∧ y + y / 65536 = z ∧ z < 2 ^ 62 ∧ z + z / 4294967296 < 2 ^ 63 ∧ (z + z / 4294967296) % 128 = cntS s ∧ cntS s ≤ 64 := by
 obtain ⟨c0,c1,c2,c3,c4,c5,c6,c7,e,⟨h0,h1,h2,h3,h4,h5,h6,h7⟩,hc,_,_⟩ := zw2 s h
 have a1 := dv (a := c0) (m := 256) (h := c1 + 256 * (c2 + 256 * (c3 + 256 * (c4 + 256 * (c5 + 256 * (c6 + 256 * c7)))))) (by omega)
 have a2 := dv (a := c0 + c1 + 256 * (c1 + c2)) (m := 65536) (h := (c2 + c3) + 256 * (c3 + c4 + 256 * (c4 + c5 + 256 * (c5 + c6 + 256 * (c6 + c7 + 256 * c7))))) (by omega)
 have a3 := dv (a := (c0 + c1 + c2 + c3) + 256 * ((c1 + c2 + c3 + c4) + 256 * ((c2 + c3 + c4 + c5) + 256 * (c3 + c4 + c5 + c6)))) (m := 4294967296) (h := (c4 + c5 + c6 + c7) + 256 * ((c5 + c6 + c7) + 256 * ((c6 + c7) + 256 * c7))) (by omega)
 refine ⟨_,_,_,e.trans (bv8 ..),?_,(congrArg _ a1).trans (ln1 ..),?_,(congrArg _ a2).trans (ln2 ..),?_,?_,?_,?_⟩
 ·clear a1 a2 a3 hc;omega
 ·clear a1 a2 a3 hc;omega
 ·clear a1 a2 a3 hc;omega
 ·rw [a3];clear a1 a2 a3 hc;omega
 ·rw [a3,ln3,hc,Nat.add_mul_mod_self_left]
  exact Nat.mod_eq_of_lt (by clear a1 a2 a3 hc;omega)
 ·clear a1 a2 a3;omega
end Go.Proofs.Ytaaogcnjfkgnoaa

namespace Go.Proofs.Ytaaogcnjfkgnoaa
open Go.RowKit
abbrev qA (s : Nat) : AV := V (.int .u64 (s : Int))
end Go.Proofs.Ytaaogcnjfkgnoaa

namespace Go.Proofs.Ytaaogcnjfkgnoaa
open Go.RowKit
theorem zkf (a : Nat) (h : a < 2 ^ 64) : IntKind.u64.wrap (a : Int) = (a : Int) := by
 rw [IntKind.wrap_u64];omega
theorem ztj (a n : Nat) : (a : Int).fdiv (2 ^ n) = ((a / 2 ^ n : Nat) : Int) := by
 have e : (2 : Int) ^ n = ((2 ^ n : Nat) : Int) := by norm_cast
 rw [e,Int.fdiv_eq_ediv_of_nonneg _ (Int.natCast_nonneg _),Int.natCast_ediv]
section
variable {R : Type} {K : AV → Option R} {k : IntKind}
theorem q_shr {a n : Nat} {b : Int} (hb : b = (n : Int)) (hn : n ≤ 64) : binE none false false .shr (qA a) (V (.int k b)) K = K (qA (a / 2 ^ n)) := by
 subst hb
 rw [u_shr,show min (n : Int).toNat IntKind.u64.bits = n by show min (n : Int).toNat 64 = n;rw [Int.toNat_natCast];omega,ztj,show decide (0 ≤ (n : Int)) = true by simp]
 rfl
theorem q_and {a b : Nat} {c : Int} (hc : c = (b : Int)) (ha : a < 2 ^ 64) (hb : b < 2 ^ 64) : binE none false false .and (qA a) (V (.int .u64 c)) K = K (qA (a &&& b)) := by
 subst hc
 rw [u_and,bits_and_u64_nat a b ha hb]
theorem q_or {a b : Nat} (ha : a < 2 ^ 64) (hb : b < 2 ^ 64) : binE none false false .or (qA a) (qA b) K = K (qA (a ||| b)) := by
 rw [u_or,bits_or_u64_nat a b ha hb]
theorem q_add {a b : Nat} (h : a + b < 2 ^ 64) : binE none false false .add (qA a) (qA b) K = K (qA (a + b)) := by
 rw [u_add,show ((a : Int) + (b : Int)) = ((a + b : Nat) : Int) by omega,zkf _ h]
end
theorem ztr {R : Type} {K : AV → Option R} {X d : AV} {H' : List AObj} (h : ltT 0 d = true) : tellE (some (X,H')) [d] K = K X := by
 rw [zsY,show List.all [d] (ltT 0) = true by simp [h]];rfl
theorem dlt {a n m : Nat} (h : a < m) : a / n < m := Nat.lt_of_le_of_lt (Nat.div_le_self ..) h
theorem zya (m s : Nat) (h : s < 2 ^ 64) : z4A m (qA s) = some (nA (cntS s),[]) := by
 obtain ⟨x,y,z,e1,hx,e2,hy,e3,hz,hw,hm,hc⟩ := zz7 s h
 obtain ⟨_,_,_,_,_,_,_,_,_,_,_,l1,l2⟩ := zw2 s h
 have b85 : msk 85 8 < 2 ^ 64 := by rw [msk85];decide
 have b51 : msk 51 8 < 2 ^ 64 := by rw [msk51];decide
 have b15 : msk 15 8 < 2 ^ 64 := by rw [msk15];decide
 have c85 : (6148914691236517205 : Int) = ((msk 85 8 : Nat) : Int) := by rw [msk85];rfl
 have c51 : (3689348814741910323 : Int) = ((msk 51 8 : Nat) : Int) := by rw [msk51];rfl
 have c15 : (1085102592571150095 : Int) = ((msk 15 8 : Nat) : Int) := by rw [msk15];rfl
 have l3 : oc2 8 (oc1 8 s) < 2 ^ 63 := by
  unfold oc2
  have a1 : oc1 8 s / 2 ^ 2 &&& msk 51 8 ≤ msk 51 8 := Nat.and_le_right
  have a2 : oc1 8 s &&& msk 51 8 ≤ msk 51 8 := Nat.and_le_right
  rw [msk51] at a1 a2 ⊢
  omega
 have l4 : oc2 8 (oc1 8 s) / 2 ^ 4 + oc2 8 (oc1 8 s) < 2 ^ 64 := by omega
 rw [zco]
 rw [q_shr (a := s) (b := 1) (n := 1) rfl (by decide),q_and c85 (dlt h) b85,q_and c85 h b85,q_add (a := s / 2 ^ 1 &&& msk 85 8) (b := s &&& msk 85 8) l1]
 rw [show (s / 2 ^ 1 &&& msk 85 8) + (s &&& msk 85 8) = oc1 8 s from rfl]
 rw [q_shr (b := 2) (n := 2) rfl (by decide),q_and c51 (dlt l1) b51,q_and c51 l1 b51,q_add (a := oc1 8 s / 2 ^ 2 &&& msk 51 8) (b := oc1 8 s &&& msk 51 8) l2]
 rw [show (oc1 8 s / 2 ^ 2 &&& msk 51 8) + (oc1 8 s &&& msk 51 8) = oc2 8 (oc1 8 s) from rfl]
 rw [q_shr (b := 4) (n := 4) rfl (by decide),q_add l4,q_and c15 l4 b15]
 rw [show (oc2 8 (oc1 8 s) / 2 ^ 4 + oc2 8 (oc1 8 s)) &&& msk 15 8 = x from e1]
 rw [q_shr (b := 8) (n := 8) rfl (by decide),q_add (by rw [show 2 ^ 8 = 256 from rfl,e2];omega),show x + x / 2 ^ 8 = y from e2]
 rw [q_shr (b := 16) (n := 16) rfl (by decide),q_add (by rw [show 2 ^ 16 = 65536 from rfl,e3];omega),show y + y / 2 ^ 16 = z from e3]
 rw [q_shr (b := 32) (n := 32) rfl (by decide),q_add (by rw [show 2 ^ 32 = 4294967296 from rfl];omega),show z + z / 2 ^ 32 = z + z / 4294967296 from rfl]
 rw [show (ro [] (qA (z + z / 4294967296))) = qA (z + z / 4294967296) from rfl,zmB,w_i64 (by omega) (by omega),u_and,i64_and127,show (((z + z / 4294967296 : Nat) : Int) % 128) = (cntS s : Int) by omega]
 rfl
def qb (i : Int) : Nat := if 0 ≤ i ∧ i ≤ 63 then 2 ^ i.toNat else 0
theorem qb_lt (i : Int) : qb i < 2 ^ 64 := by
 unfold qb
 split
 ·exact Nat.pow_lt_pow_right (by decide) (by omega)
 ·decide
theorem bit_s (m : Nat) (i : Int) : zar m (nA i) = some (qA (qb i),[]) := by
 rw [zlB]
 by_cases h0 : i < 0
 ·rw [u_lss,show decide (i < 0) = true by simpa using h0,zjR]
  unfold qb
  rw [if_neg (by omega)]
  rfl
 ·rw [u_lss,show decide (i < 0) = false by simpa using h0,zjc]
  by_cases h9 : 63 < i
  ·rw [u_gtr,show decide (63 < i) = true by simpa using h9,zjR]
   unfold qb
   rw [if_neg (by omega)]
   rfl
  ·rw [u_gtr,show decide (63 < i) = false by simpa using h9,zjc,show (ro [] (nA i)) = nA i from rfl,zmB,w_u64 (by omega) (by omega)]
   obtain ⟨n,rfl⟩ : ∃ n : Nat,i = n := ⟨i.toNat,by omega⟩
   have e : qb n = 2 ^ n := by unfold qb;rw [if_pos (by omega)];simp
   have hlt := qb_lt n
   rw [e] at hlt
   rw [u_shl,show min (n : Int).toNat IntKind.u64.bits = n by show min (n : Int).toNat 64 = n;rw [Int.toNat_natCast];omega,show decide (0 ≤ (n : Int)) = true by simp,e]
   rw [show ((1 : Int) * 2 ^ n) = ((2 ^ n : Nat) : Int) by rw [Int.one_mul];norm_cast,zkf _ hlt]
   rfl
theorem zvl (m s : Nat) (i : Int) (h : s < 2 ^ 64) : zbL m (qA s) (nA i) = some (qA (s ||| qb i),[]) := by
 have hb := bit_s m i
 rw [zkq]
 rw [show (ro [] (nA i)) = nA i from rfl,hb,ztr rfl]
 rw [q_or h (qb_lt i)]
 rfl
theorem zqN (m s : Nat) (h : s < 2 ^ 64) : zaj m (qA s) = some (nA (cntS s),[]) := by
 have hb := zya m s h
 rw [zju]
 rw [show (ro [] (qA s)) = qA s from rfl,hb,ztr rfl]
 rfl
theorem bitw {s : Nat} {i : Int} {j : Nat} (hj : j < 64) : (s ||| qb i).testBit j = (s.testBit j || decide (i = j)) := by
 rw [Nat.testBit_or]
 congr 1
 unfold qb
 split
 ·rw [Nat.testBit_two_pow]
  rw [Bool.eq_iff_iff];simp;omega
 ·rw [Nat.zero_testBit,eq_comm,decide_eq_false_iff_not];omega
end Go.Proofs.Ytaaogcnjfkgnoaa

namespace Go.Proofs.Ytaaogcnjfkgnoaa
open Go.RowKit
def allN (n : Int) : Nat := if n < 1 then 0 else if 63 < n then 2 ^ 64 - 1 else 2 ^ n.toNat - 1
theorem zr4 (n : Int) : allN n < 2 ^ 64 := by
 unfold allN
 split
 ·decide
 ·split
  ·decide
  ·have : 2 ^ n.toNat < 2 ^ 64 := Nat.pow_lt_pow_right (by decide) (by omega)
   omega
theorem zp5 {n : Int} {j : Nat} (hj : j < 64) : (allN n).testBit j = decide ((j : Int) < n) := by
 unfold allN
 split
 ·rw [Nat.zero_testBit,eq_comm,decide_eq_false_iff_not];omega
 ·split
  ·rw [Nat.testBit_two_pow_sub_one,decide_eq_decide];omega
  ·rw [Nat.testBit_two_pow_sub_one,decide_eq_decide];omega
theorem zyN {R : Type} {K : AV → Option R} {a : Nat} (h : 1 ≤ a) (ha : a < 2 ^ 64) : binE none false false .sub (qA a) (V (.int .u64 1)) K = K (qA (a - 1)) := by
 rw [u_sub,show ((a : Int) - 1) = ((a - 1 : Nat) : Int) by omega,zkf _ (by omega)]
theorem all_s (m : Nat) (n : Int) : zdI m (nA n) = some (qA (allN n),[]) := by
 have hb := bit_s m n
 rw [zl1,show (ro [] (nA n)) = nA n from rfl,hb]
 unfold allN
 by_cases h0 : n < 1
 ·rw [u_lss,show decide (n < 1) = true by simpa using h0,zjR,if_pos h0]
  rfl
 ·rw [u_lss,show decide (n < 1) = false by simpa using h0,zjc,if_neg h0]
  by_cases h9 : 63 < n
  ·rw [u_gtr,show decide (63 < n) = true by simpa using h9,zjR,if_pos h9]
   rfl
  ·have hp : 1 ≤ qb n := by unfold qb;rw [if_pos (by omega)];exact Nat.one_le_two_pow
   rw [u_gtr,show decide (63 < n) = false by simpa using h9,zjc,if_neg h9,ztr rfl,zyN hp (qb_lt n)]
   unfold qb
   rw [if_pos (by omega)]
   rfl
def okN (n : Int) : Bool := decide (n.tmod 3 = 1) && !decide (n < 4) && !decide (16 < n)
theorem okN_iff {n : Int} : okN n = true ↔ n = 4 ∨ n = 7 ∨ n = 10 ∨ n = 13 ∨ n = 16 := by
 unfold okN
 simp only [Bool.and_eq_true,decide_eq_true_eq,Bool.not_eq_true',decide_eq_false_iff_not]
 constructor
 ·rintro ⟨⟨h1,h2⟩,h3⟩
  rw [Int.tmod_eq_emod_of_nonneg (by omega)] at h1
  omega
 ·rintro (rfl|rfl|rfl|rfl|rfl) <;> decide
def fN (n : Int) : Nat := if okN n then (n / 3).toNat else 0
theorem fN_le (n : Int) : fN n ≤ 5 := by
 unfold fN
 split
 ·rename_i h;have := okN_iff.1 h;omega
 ·decide
theorem ziy (m : Nat) (n : Int) : z4R m (nA n) = some (TU [nA (fN n),nA (if okN n then 0 else 1)],[]) := by
 rw [zig]
 unfold fN okN
 by_cases h1 : n.tmod 3 = 1
 ·by_cases h2 : n < 4
  ·simp (config := {maxSteps := 4000000,implicitDefEqProofs := false}) only [go_sem,↓reduceIte,Nat.reduceAdd,Nat.reduceSub,Nat.reduceMul,Nat.reduceLeDiff,Nat.reduceLT,Int.reduceEq,Int.reduceNe,Int.reduceLT,Int.reduceLE,Int.reduceAdd,Int.reduceSub,Int.reduceMul,Int.reduceNeg,Nat.zero_add,Nat.add_zero,Nat.mul_one,Int.toNat_natCast,Int.natCast_zero,Int.cast_ofNat_Int,or_false,false_or,or_true,true_or,Int.reduceToNat,Nat.sub_zero,Int.natCast_nonneg,Int.toNat_zero,Bool.true_and,Bool.and_true,Bool.false_and,Bool.and_false,Bool.true_or,Bool.or_true,Bool.false_or,Bool.or_false,Bool.not_true,Bool.not_false,Bool.not_not,true_and,and_true,false_and,and_false,not_true_eq_false,not_false_eq_true,eq_self,decide_true,decide_false,ne_eq,implies_true,forall_const,true_implies,false_implies,Bool.true_eq_false,Bool.false_eq_true,reduceCtorEq,List.map_cons,List.map_nil,List.all_cons,List.all_nil,List.length_cons,List.length_nil,List.length_map,List.length_append,List.nil_append,List.cons_append,List.set_cons_zero,List.set_cons_succ,List.set_nil,List.drop_zero,List.drop_succ_cons,List.drop_nil,List.take_zero,List.take_succ_cons,List.take_nil,Option.map_some,Option.map_none,Option.isSome_some,Nat.reduceEqDiff,Nat.reduceBEq,Nat.reduceGT,List.all_append,List.all_map,Function.comp_def,decide_eq_true_eq,Bool.and_eq_true,beq_self_eq_true,or_self,and_self,ite_true,ite_false,Nat.le_refl,Bool.not_eq_true,decide_not,Bool.not_eq_true',decide_eq_false_iff_not,Bool.not_eq_false,Bool.or_eq_true,if_true,if_false,ite_self,u_roF,u_cvF,u_cvC,u_ceT,u_ceK,z2m,h1,h2]
  ·by_cases h3 : 16 < n
   ·simp (config := {maxSteps := 4000000,implicitDefEqProofs := false}) only [go_sem,↓reduceIte,Nat.reduceAdd,Nat.reduceSub,Nat.reduceMul,Nat.reduceLeDiff,Nat.reduceLT,Int.reduceEq,Int.reduceNe,Int.reduceLT,Int.reduceLE,Int.reduceAdd,Int.reduceSub,Int.reduceMul,Int.reduceNeg,Nat.zero_add,Nat.add_zero,Nat.mul_one,Int.toNat_natCast,Int.natCast_zero,Int.cast_ofNat_Int,or_false,false_or,or_true,true_or,Int.reduceToNat,Nat.sub_zero,Int.natCast_nonneg,Int.toNat_zero,Bool.true_and,Bool.and_true,Bool.false_and,Bool.and_false,Bool.true_or,Bool.or_true,Bool.false_or,Bool.or_false,Bool.not_true,Bool.not_false,Bool.not_not,true_and,and_true,false_and,and_false,not_true_eq_false,not_false_eq_true,eq_self,decide_true,decide_false,ne_eq,implies_true,forall_const,true_implies,false_implies,Bool.true_eq_false,Bool.false_eq_true,reduceCtorEq,List.map_cons,List.map_nil,List.all_cons,List.all_nil,List.length_cons,List.length_nil,List.length_map,List.length_append,List.nil_append,List.cons_append,List.set_cons_zero,List.set_cons_succ,List.set_nil,List.drop_zero,List.drop_succ_cons,List.drop_nil,List.take_zero,List.take_succ_cons,List.take_nil,Option.map_some,Option.map_none,Option.isSome_some,Nat.reduceEqDiff,Nat.reduceBEq,Nat.reduceGT,List.all_append,List.all_map,Function.comp_def,decide_eq_true_eq,Bool.and_eq_true,beq_self_eq_true,or_self,and_self,ite_true,ite_false,Nat.le_refl,Bool.not_eq_true,decide_not,Bool.not_eq_true',decide_eq_false_iff_not,Bool.not_eq_false,Bool.or_eq_true,if_true,if_false,ite_self,u_roF,u_cvF,u_cvC,u_ceT,u_ceK,z2m,h1,h2,h3]
   ·have e : n.tdiv 3 = ((n / 3).toNat : Int) := by rw [Int.tdiv_eq_ediv_of_nonneg (by omega)];omega
    have e2 : IntKind.i64.wrap (n.tdiv 3) = ((n / 3).toNat : Int) := by rw [w_i64 (by omega) (by omega),e]
    simp (config := {maxSteps := 4000000,implicitDefEqProofs := false}) only [go_sem,↓reduceIte,Nat.reduceAdd,Nat.reduceSub,Nat.reduceMul,Nat.reduceLeDiff,Nat.reduceLT,Int.reduceEq,Int.reduceNe,Int.reduceLT,Int.reduceLE,Int.reduceAdd,Int.reduceSub,Int.reduceMul,Int.reduceNeg,Nat.zero_add,Nat.add_zero,Nat.mul_one,Int.toNat_natCast,Int.natCast_zero,Int.cast_ofNat_Int,or_false,false_or,or_true,true_or,Int.reduceToNat,Nat.sub_zero,Int.natCast_nonneg,Int.toNat_zero,Bool.true_and,Bool.and_true,Bool.false_and,Bool.and_false,Bool.true_or,Bool.or_true,Bool.false_or,Bool.or_false,Bool.not_true,Bool.not_false,Bool.not_not,true_and,and_true,false_and,and_false,not_true_eq_false,not_false_eq_true,eq_self,decide_true,decide_false,ne_eq,implies_true,forall_const,true_implies,false_implies,Bool.true_eq_false,Bool.false_eq_true,reduceCtorEq,List.map_cons,List.map_nil,List.all_cons,List.all_nil,List.length_cons,List.length_nil,List.length_map,List.length_append,List.nil_append,List.cons_append,List.set_cons_zero,List.set_cons_succ,List.set_nil,List.drop_zero,List.drop_succ_cons,List.drop_nil,List.take_zero,List.take_succ_cons,List.take_nil,Option.map_some,Option.map_none,Option.isSome_some,Nat.reduceEqDiff,Nat.reduceBEq,Nat.reduceGT,List.all_append,List.all_map,Function.comp_def,decide_eq_true_eq,Bool.and_eq_true,beq_self_eq_true,or_self,and_self,ite_true,ite_false,Nat.le_refl,Bool.not_eq_true,decide_not,Bool.not_eq_true',decide_eq_false_iff_not,Bool.not_eq_false,Bool.or_eq_true,if_true,if_false,ite_self,u_roF,u_cvF,u_cvC,u_ceT,u_ceK,z2m,h1,h2,h3,e2]
 ·simp (config := {maxSteps := 4000000,implicitDefEqProofs := false}) only [go_sem,↓reduceIte,Nat.reduceAdd,Nat.reduceSub,Nat.reduceMul,Nat.reduceLeDiff,Nat.reduceLT,Int.reduceEq,Int.reduceNe,Int.reduceLT,Int.reduceLE,Int.reduceAdd,Int.reduceSub,Int.reduceMul,Int.reduceNeg,Nat.zero_add,Nat.add_zero,Nat.mul_one,Int.toNat_natCast,Int.natCast_zero,Int.cast_ofNat_Int,or_false,false_or,or_true,true_or,Int.reduceToNat,Nat.sub_zero,Int.natCast_nonneg,Int.toNat_zero,Bool.true_and,Bool.and_true,Bool.false_and,Bool.and_false,Bool.true_or,Bool.or_true,Bool.false_or,Bool.or_false,Bool.not_true,Bool.not_false,Bool.not_not,true_and,and_true,false_and,and_false,not_true_eq_false,not_false_eq_true,eq_self,decide_true,decide_false,ne_eq,implies_true,forall_const,true_implies,false_implies,Bool.true_eq_false,Bool.false_eq_true,reduceCtorEq,List.map_cons,List.map_nil,List.all_cons,List.all_nil,List.length_cons,List.length_nil,List.length_map,List.length_append,List.nil_append,List.cons_append,List.set_cons_zero,List.set_cons_succ,List.set_nil,List.drop_zero,List.drop_succ_cons,List.drop_nil,List.take_zero,List.take_succ_cons,List.take_nil,Option.map_some,Option.map_none,Option.isSome_some,Nat.reduceEqDiff,Nat.reduceBEq,Nat.reduceGT,List.all_append,List.all_map,Function.comp_def,decide_eq_true_eq,Bool.and_eq_true,beq_self_eq_true,or_self,and_self,ite_true,ite_false,Nat.le_refl,Bool.not_eq_true,decide_not,Bool.not_eq_true',decide_eq_false_iff_not,Bool.not_eq_false,Bool.or_eq_true,if_true,if_false,ite_self,u_roF,u_cvF,u_cvC,u_ceT,u_ceK,z2m,h1]
theorem zsk (m : Nat) (n : Int) : zaJ m (nA n) = some (nA (if okN n then 2 * (fN n : Int) + 1 else 0),[]) := by
 have h := ziy m n
 have hl := fN_le n
 rw [ziX]
 have e1 : IntKind.i64.wrap (2 * (fN n : Int)) = 2 * (fN n : Int) := w_i64 (by omega) (by omega)
 have e2 : IntKind.i64.wrap (2 * (fN n : Int) + 1) = 2 * (fN n : Int) + 1 := w_i64 (by omega) (by omega)
 cases ho : okN n with
 |true=>rw [ho] at h;simp (config := {maxSteps := 4000000,implicitDefEqProofs := false}) only [go_sem,↓reduceIte,Nat.reduceAdd,Nat.reduceSub,Nat.reduceMul,Nat.reduceLeDiff,Nat.reduceLT,Int.reduceEq,Int.reduceNe,Int.reduceLT,Int.reduceLE,Int.reduceAdd,Int.reduceSub,Int.reduceMul,Int.reduceNeg,Nat.zero_add,Nat.add_zero,Nat.mul_one,Int.toNat_natCast,Int.natCast_zero,Int.cast_ofNat_Int,or_false,false_or,or_true,true_or,Int.reduceToNat,Nat.sub_zero,Int.natCast_nonneg,Int.toNat_zero,Bool.true_and,Bool.and_true,Bool.false_and,Bool.and_false,Bool.true_or,Bool.or_true,Bool.false_or,Bool.or_false,Bool.not_true,Bool.not_false,Bool.not_not,true_and,and_true,false_and,and_false,not_true_eq_false,not_false_eq_true,eq_self,decide_true,decide_false,ne_eq,implies_true,forall_const,true_implies,false_implies,Bool.true_eq_false,Bool.false_eq_true,reduceCtorEq,List.map_cons,List.map_nil,List.all_cons,List.all_nil,List.length_cons,List.length_nil,List.length_map,List.length_append,List.nil_append,List.cons_append,List.set_cons_zero,List.set_cons_succ,List.set_nil,List.drop_zero,List.drop_succ_cons,List.drop_nil,List.take_zero,List.take_succ_cons,List.take_nil,Option.map_some,Option.map_none,Option.isSome_some,Nat.reduceEqDiff,Nat.reduceBEq,Nat.reduceGT,List.all_append,List.all_map,Function.comp_def,decide_eq_true_eq,Bool.and_eq_true,beq_self_eq_true,or_self,and_self,ite_true,ite_false,Nat.le_refl,Bool.not_eq_true,decide_not,Bool.not_eq_true',decide_eq_false_iff_not,Bool.not_eq_false,Bool.or_eq_true,if_true,if_false,ite_self,u_roF,u_cvF,u_cvC,u_ceT,u_ceK,z2m,h,ho,e1,e2]
 |false=>rw [ho] at h;simp (config := {maxSteps := 4000000,implicitDefEqProofs := false}) only [go_sem,↓reduceIte,Nat.reduceAdd,Nat.reduceSub,Nat.reduceMul,Nat.reduceLeDiff,Nat.reduceLT,Int.reduceEq,Int.reduceNe,Int.reduceLT,Int.reduceLE,Int.reduceAdd,Int.reduceSub,Int.reduceMul,Int.reduceNeg,Nat.zero_add,Nat.add_zero,Nat.mul_one,Int.toNat_natCast,Int.natCast_zero,Int.cast_ofNat_Int,or_false,false_or,or_true,true_or,Int.reduceToNat,Nat.sub_zero,Int.natCast_nonneg,Int.toNat_zero,Bool.true_and,Bool.and_true,Bool.false_and,Bool.and_false,Bool.true_or,Bool.or_true,Bool.false_or,Bool.or_false,Bool.not_true,Bool.not_false,Bool.not_not,true_and,and_true,false_and,and_false,not_true_eq_false,not_false_eq_true,eq_self,decide_true,decide_false,ne_eq,implies_true,forall_const,true_implies,false_implies,Bool.true_eq_false,Bool.false_eq_true,reduceCtorEq,List.map_cons,List.map_nil,List.all_cons,List.all_nil,List.length_cons,List.length_nil,List.length_map,List.length_append,List.nil_append,List.cons_append,List.set_cons_zero,List.set_cons_succ,List.set_nil,List.drop_zero,List.drop_succ_cons,List.drop_nil,List.take_zero,List.take_succ_cons,List.take_nil,Option.map_some,Option.map_none,Option.isSome_some,Nat.reduceEqDiff,Nat.reduceBEq,Nat.reduceGT,List.all_append,List.all_map,Function.comp_def,decide_eq_true_eq,Bool.and_eq_true,beq_self_eq_true,or_self,and_self,ite_true,ite_false,Nat.le_refl,Bool.not_eq_true,decide_not,Bool.not_eq_true',decide_eq_false_iff_not,Bool.not_eq_false,Bool.or_eq_true,if_true,if_false,ite_self,u_roF,u_cvF,u_cvC,u_ceT,u_ceK,z2m,h,ho]
theorem zsS (m s : Nat) (n k : Int) (h : s < 2 ^ 64) : zaT m (qA s) (nA n) (nA k) = some (bA (decide (0 < k) && decide (k ≤ (cntS (s &&& allN n) : Int))),[]) := by
 have hlt := zr4 n
 have ha := all_s m n
 have hc := zqN m (s &&& allN n) (Nat.lt_of_le_of_lt Nat.and_le_left h)
 have hb := bits_and_u64_nat s (allN n) h hlt
 rw [zj9]
 by_cases h0 : 0 < k
 ·simp (config := {maxSteps := 4000000,implicitDefEqProofs := false}) only [go_sem,↓reduceIte,Nat.reduceAdd,Nat.reduceSub,Nat.reduceMul,Nat.reduceLeDiff,Nat.reduceLT,Int.reduceEq,Int.reduceNe,Int.reduceLT,Int.reduceLE,Int.reduceAdd,Int.reduceSub,Int.reduceMul,Int.reduceNeg,Nat.zero_add,Nat.add_zero,Nat.mul_one,Int.toNat_natCast,Int.natCast_zero,Int.cast_ofNat_Int,or_false,false_or,or_true,true_or,Int.reduceToNat,Nat.sub_zero,Int.natCast_nonneg,Int.toNat_zero,Bool.true_and,Bool.and_true,Bool.false_and,Bool.and_false,Bool.true_or,Bool.or_true,Bool.false_or,Bool.or_false,Bool.not_true,Bool.not_false,Bool.not_not,true_and,and_true,false_and,and_false,not_true_eq_false,not_false_eq_true,eq_self,decide_true,decide_false,ne_eq,implies_true,forall_const,true_implies,false_implies,Bool.true_eq_false,Bool.false_eq_true,reduceCtorEq,List.map_cons,List.map_nil,List.all_cons,List.all_nil,List.length_cons,List.length_nil,List.length_map,List.length_append,List.nil_append,List.cons_append,List.set_cons_zero,List.set_cons_succ,List.set_nil,List.drop_zero,List.drop_succ_cons,List.drop_nil,List.take_zero,List.take_succ_cons,List.take_nil,Option.map_some,Option.map_none,Option.isSome_some,Nat.reduceEqDiff,Nat.reduceBEq,Nat.reduceGT,List.all_append,List.all_map,Function.comp_def,decide_eq_true_eq,Bool.and_eq_true,beq_self_eq_true,or_self,and_self,ite_true,ite_false,Nat.le_refl,Bool.not_eq_true,decide_not,Bool.not_eq_true',decide_eq_false_iff_not,Bool.not_eq_false,Bool.or_eq_true,if_true,if_false,ite_self,u_roF,u_cvF,u_cvC,u_ceT,u_ceK,z2m,h0,ha,hc,hb]
 ·simp (config := {maxSteps := 4000000,implicitDefEqProofs := false}) only [go_sem,↓reduceIte,Nat.reduceAdd,Nat.reduceSub,Nat.reduceMul,Nat.reduceLeDiff,Nat.reduceLT,Int.reduceEq,Int.reduceNe,Int.reduceLT,Int.reduceLE,Int.reduceAdd,Int.reduceSub,Int.reduceMul,Int.reduceNeg,Nat.zero_add,Nat.add_zero,Nat.mul_one,Int.toNat_natCast,Int.natCast_zero,Int.cast_ofNat_Int,or_false,false_or,or_true,true_or,Int.reduceToNat,Nat.sub_zero,Int.natCast_nonneg,Int.toNat_zero,Bool.true_and,Bool.and_true,Bool.false_and,Bool.and_false,Bool.true_or,Bool.or_true,Bool.false_or,Bool.or_false,Bool.not_true,Bool.not_false,Bool.not_not,true_and,and_true,false_and,and_false,not_true_eq_false,not_false_eq_true,eq_self,decide_true,decide_false,ne_eq,implies_true,forall_const,true_implies,false_implies,Bool.true_eq_false,Bool.false_eq_true,reduceCtorEq,List.map_cons,List.map_nil,List.all_cons,List.all_nil,List.length_cons,List.length_nil,List.length_map,List.length_append,List.nil_append,List.cons_append,List.set_cons_zero,List.set_cons_succ,List.set_nil,List.drop_zero,List.drop_succ_cons,List.drop_nil,List.take_zero,List.take_succ_cons,List.take_nil,Option.map_some,Option.map_none,Option.isSome_some,Nat.reduceEqDiff,Nat.reduceBEq,Nat.reduceGT,List.all_append,List.all_map,Function.comp_def,decide_eq_true_eq,Bool.and_eq_true,beq_self_eq_true,or_self,and_self,ite_true,ite_false,Nat.le_refl,Bool.not_eq_true,decide_not,Bool.not_eq_true',decide_eq_false_iff_not,Bool.not_eq_false,Bool.or_eq_true,if_true,if_false,ite_self,u_roF,u_cvF,u_cvC,u_ceT,u_ceK,z2m,h0]
theorem zkT (m s : Nat) (n : Int) (h : s < 2 ^ 64) : z79 m (qA s) (nA n) = some (bA (okN n && decide (2 * (fN n : Int) + 1 ≤ (cntS (s &&& allN n) : Int))),[]) := by
 have h1 := zsk m n
 have h2 := zsS m s n (if okN n then 2 * (fN n : Int) + 1 else 0) h
 rw [zh9]
 cases ho : okN n with
 |true =>
  simp only [ho,if_true] at h1 h2
  have h0 : (0 : Int) < 2 * (fN n : Int) + 1 := by omega
  simp (config := {maxSteps := 4000000,implicitDefEqProofs := false}) only [go_sem,↓reduceIte,Nat.reduceAdd,Nat.reduceSub,Nat.reduceMul,Nat.reduceLeDiff,Nat.reduceLT,Int.reduceEq,Int.reduceNe,Int.reduceLT,Int.reduceLE,Int.reduceAdd,Int.reduceSub,Int.reduceMul,Int.reduceNeg,Nat.zero_add,Nat.add_zero,Nat.mul_one,Int.toNat_natCast,Int.natCast_zero,Int.cast_ofNat_Int,or_false,false_or,or_true,true_or,Int.reduceToNat,Nat.sub_zero,Int.natCast_nonneg,Int.toNat_zero,Bool.true_and,Bool.and_true,Bool.false_and,Bool.and_false,Bool.true_or,Bool.or_true,Bool.false_or,Bool.or_false,Bool.not_true,Bool.not_false,Bool.not_not,true_and,and_true,false_and,and_false,not_true_eq_false,not_false_eq_true,eq_self,decide_true,decide_false,ne_eq,implies_true,forall_const,true_implies,false_implies,Bool.true_eq_false,Bool.false_eq_true,reduceCtorEq,List.map_cons,List.map_nil,List.all_cons,List.all_nil,List.length_cons,List.length_nil,List.length_map,List.length_append,List.nil_append,List.cons_append,List.set_cons_zero,List.set_cons_succ,List.set_nil,List.drop_zero,List.drop_succ_cons,List.drop_nil,List.take_zero,List.take_succ_cons,List.take_nil,Option.map_some,Option.map_none,Option.isSome_some,Nat.reduceEqDiff,Nat.reduceBEq,Nat.reduceGT,List.all_append,List.all_map,Function.comp_def,decide_eq_true_eq,Bool.and_eq_true,beq_self_eq_true,or_self,and_self,ite_true,ite_false,Nat.le_refl,Bool.not_eq_true,decide_not,Bool.not_eq_true',decide_eq_false_iff_not,Bool.not_eq_false,Bool.or_eq_true,if_true,if_false,ite_self,u_roF,u_cvF,u_cvC,u_ceT,u_ceK,z2m,h1,h2,h0]
 |false =>
  simp only [ho,Bool.false_eq_true,if_false] at h1 h2
  simp (config := {maxSteps := 4000000,implicitDefEqProofs := false}) only [go_sem,↓reduceIte,Nat.reduceAdd,Nat.reduceSub,Nat.reduceMul,Nat.reduceLeDiff,Nat.reduceLT,Int.reduceEq,Int.reduceNe,Int.reduceLT,Int.reduceLE,Int.reduceAdd,Int.reduceSub,Int.reduceMul,Int.reduceNeg,Nat.zero_add,Nat.add_zero,Nat.mul_one,Int.toNat_natCast,Int.natCast_zero,Int.cast_ofNat_Int,or_false,false_or,or_true,true_or,Int.reduceToNat,Nat.sub_zero,Int.natCast_nonneg,Int.toNat_zero,Bool.true_and,Bool.and_true,Bool.false_and,Bool.and_false,Bool.true_or,Bool.or_true,Bool.false_or,Bool.or_false,Bool.not_true,Bool.not_false,Bool.not_not,true_and,and_true,false_and,and_false,not_true_eq_false,not_false_eq_true,eq_self,decide_true,decide_false,ne_eq,implies_true,forall_const,true_implies,false_implies,Bool.true_eq_false,Bool.false_eq_true,reduceCtorEq,List.map_cons,List.map_nil,List.all_cons,List.all_nil,List.length_cons,List.length_nil,List.length_map,List.length_append,List.nil_append,List.cons_append,List.set_cons_zero,List.set_cons_succ,List.set_nil,List.drop_zero,List.drop_succ_cons,List.drop_nil,List.take_zero,List.take_succ_cons,List.take_nil,Option.map_some,Option.map_none,Option.isSome_some,Nat.reduceEqDiff,Nat.reduceBEq,Nat.reduceGT,List.all_append,List.all_map,Function.comp_def,decide_eq_true_eq,Bool.and_eq_true,beq_self_eq_true,or_self,and_self,ite_true,ite_false,Nat.le_refl,Bool.not_eq_true,decide_not,Bool.not_eq_true',decide_eq_false_iff_not,Bool.not_eq_false,Bool.or_eq_true,if_true,if_false,ite_self,u_roF,u_cvF,u_cvC,u_ceT,u_ceK,z2m,h1,h2]
end Go.Proofs.Ytaaogcnjfkgnoaa

namespace Go.Proofs.Ytaaogcnjfkgnoaa
open Go.RowKit
end Go.Proofs.Ytaaogcnjfkgnoaa

namespace Go.Proofs.Ytaaogcnjfkgnoaa
open Go.RowKit
attribute [local go_sem] Nat.zero_add Nat.add_zero Nat.mul_one Int.toNat_natCast Int.natCast_zero Int.cast_ofNat_Int or_false false_or or_true true_or Nat.sub_zero Int.natCast_nonneg Int.toNat_zero Bool.true_and Bool.and_true Bool.false_and Bool.and_false Bool.true_or Bool.or_true Bool.false_or Bool.or_false Bool.not_true Bool.not_false Bool.not_not true_and and_true false_and and_false not_true_eq_false not_false_eq_true eq_self decide_true decide_false ne_eq implies_true forall_const true_implies false_implies Bool.true_eq_false Bool.false_eq_true List.map_cons List.map_nil List.all_cons List.all_nil List.length_cons List.length_nil List.length_map List.length_append List.nil_append List.cons_append List.set_cons_zero List.set_cons_succ List.set_nil List.drop_zero List.drop_succ_cons List.drop_nil List.take_zero List.take_succ_cons List.take_nil Option.map_some Option.map_none Option.isSome_some List.all_append List.all_map Function.comp_def decide_eq_true_eq Bool.and_eq_true beq_self_eq_true or_self and_self ite_true ite_false Nat.le_refl Bool.not_eq_true decide_not Bool.not_eq_true' decide_eq_false_iff_not Bool.not_eq_false Bool.or_eq_true if_true if_false ite_self u_roF u_cvF u_cvC u_ceT u_ceK z2m sm_it z6A z37 z5m z6p z3d sm_ro z3i sm_sl z6a z69 sm_fr z1F z13 sm_kd z28 z12 sm_vw z1u z0P sm_sq z1R z0S sm_tm z1q z0L z2R z2b z3k z63 z64 z29 z3g z1p z1y z2F z39 ce_it z6J z31 z4Z z6x z3A ce_ro z3t ce_sl z6d z6g ce_sq z1X z14 ce_vw z1C z0H ce_tm z1U z0W z33 z0v z0n ce_vs z1P z0X z36 z1t z3r z6F z6H z1T z2X z1z z2c z2M z2V cg_it z67 z3s z61 z6n z2U cg_ro z3E cg_sl z6b z6u cg_fr z1J z0N cg_vw z1Q z11 cg_st z1M z0G cg_rt z1H z17 cg_pf z1Z z0E cg_cs z1N z0I z32 z1I z3b z6y z6c z1V z3v z23 z1L z35 z3p ms_it z6o z3n z6C z6h z3h ms_ro z3e ms_sl z6E z6r ms_kd z1S z0R ms_fr z1v z0O ms_vw z25 z0U ms_sq z1s z0Z ms_tm z1G z0F z3c z0u z0o ms_vs z1E z0Y z68 z0Q z0x z3C z1W z3x z65 z6K z20 z3D z24 z27 z3q z2Y co_it z6M z2W z6D z6m z3m co_ro z3o co_sl z6w z66 co_sq z26 z0V co_tm z1B z0K z3z z0y z0p co_nl z1w z0M z3y z1o z3l z6N z6v z1K z3j z1Y z1O z2N z2Z sd_it z6e z3B z6z z6G z3a sd_ro z2T sd_sl z6I z6i sd_wh z21 z15 sd_fr z1x z0T sd_kd z1D z18 sd_vw z1A z0J sd_sq z22 z16 sd_tm z1r z10 z30 z38 z6f z5O u_bz u_bi1 u_bi2 u_bi3 u_bi4 u_bi5 u_bi6 u_bi7 ltO_o ltO_r List.take_length u_eqE
attribute [local go_sem_proc] Nat.reduceAdd Nat.reduceSub Nat.reduceMul Nat.reduceLeDiff Nat.reduceLT Int.reduceEq Int.reduceNe Int.reduceLT Int.reduceLE Int.reduceAdd Int.reduceSub Int.reduceMul Int.reduceNeg Int.reduceToNat reduceCtorEq Nat.reduceEqDiff Nat.reduceBEq Nat.reduceGT
attribute [local go_sem_proc ↓] reduceIte
theorem ztf {x0 x1 x2 x3 x4 x5 : AV} : z06 zc_api_Change 0 [x0,x1,x2,x3,x4,x5] = [x0,x1,x2,x3,x4,x5] := _root_.id rfl
theorem zxo {x0 x1 x2 x3 : Int} {x4 : List Sm} {x5 : List Ce} : cgC ⟨x0,x1,x2,x3,x4,x5⟩ = [nA x0,nA x1,nA x2,nA x3,SL (x4.map smE),SL (x5.map ceE)] := _root_.id rfl
end Go.Proofs.Ytaaogcnjfkgnoaa

namespace Go.Proofs.Ytaaogcnjfkgnoaa
open Go.RowKit
attribute [local go_sem] Nat.zero_add Nat.add_zero Nat.mul_one Int.toNat_natCast Int.natCast_zero Int.cast_ofNat_Int or_false false_or or_true true_or Nat.sub_zero Int.natCast_nonneg Int.toNat_zero Bool.true_and Bool.and_true Bool.false_and Bool.and_false Bool.true_or Bool.or_true Bool.false_or Bool.or_false Bool.not_true Bool.not_false Bool.not_not true_and and_true false_and and_false not_true_eq_false not_false_eq_true eq_self decide_true decide_false ne_eq implies_true forall_const true_implies false_implies Bool.true_eq_false Bool.false_eq_true List.map_cons List.map_nil List.all_cons List.all_nil List.length_cons List.length_nil List.length_map List.length_append List.nil_append List.cons_append List.set_cons_zero List.set_cons_succ List.set_nil List.drop_zero List.drop_succ_cons List.drop_nil List.take_zero List.take_succ_cons List.take_nil Option.map_some Option.map_none Option.isSome_some List.all_append List.all_map Function.comp_def decide_eq_true_eq Bool.and_eq_true beq_self_eq_true or_self and_self ite_true ite_false Nat.le_refl Bool.not_eq_true decide_not Bool.not_eq_true' decide_eq_false_iff_not Bool.not_eq_false Bool.or_eq_true if_true if_false ite_self u_roF u_cvF u_cvC u_ceT u_ceK z2m sm_it z6A z37 z5m z6p z3d sm_ro z3i sm_sl z6a z69 sm_fr z1F z13 sm_kd z28 z12 sm_vw z1u z0P sm_sq z1R z0S sm_tm z1q z0L z2R z2b z3k z63 z64 z29 z3g z1p z1y z2F z39 ce_it z6J z31 z4Z z6x z3A ce_ro z3t ce_sl z6d z6g ce_sq z1X z14 ce_vw z1C z0H ce_tm z1U z0W z33 z0v z0n ce_vs z1P z0X z36 z1t z3r z6F z6H z1T z2X z1z z2c z2M z2V cg_it z67 z3s z61 z6n z2U cg_ro z3E cg_sl z6b z6u cg_fr z1J z0N cg_vw z1Q z11 cg_st z1M z0G cg_rt z1H z17 cg_pf z1Z z0E cg_cs z1N z0I z32 z1I z3b z6y z6c z1V z3v z23 z1L z35 z3p ms_it z6o z3n z6C z6h z3h ms_ro z3e ms_sl z6E z6r ms_kd z1S z0R ms_fr z1v z0O ms_vw z25 z0U ms_sq z1s z0Z ms_tm z1G z0F z3c z0u z0o ms_vs z1E z0Y z68 z0Q z0x z3C z1W z3x z65 z6K z20 z3D z24 z27 z3q z2Y co_it z6M z2W z6D z6m z3m co_ro z3o co_sl z6w z66 co_sq z26 z0V co_tm z1B z0K z3z z0y z0p co_nl z1w z0M z3y z1o z3l z6N z6v z1K z3j z1Y z1O z2N z2Z sd_it z6e z3B z6z z6G z3a sd_ro z2T sd_sl z6I z6i sd_wh z21 z15 sd_fr z1x z0T sd_kd z1D z18 sd_vw z1A z0J sd_sq z22 z16 sd_tm z1r z10 z30 z38 z6f z5O u_bz u_bi1 u_bi2 u_bi3 u_bi4 u_bi5 u_bi6 u_bi7 z5z ltO_o ltO_r List.take_length u_eqE
attribute [local go_sem_proc] Nat.reduceAdd Nat.reduceSub Nat.reduceMul Nat.reduceLeDiff Nat.reduceLT Int.reduceEq Int.reduceNe Int.reduceLT Int.reduceLE Int.reduceAdd Int.reduceSub Int.reduceMul Int.reduceNeg Int.reduceToNat reduceCtorEq Nat.reduceEqDiff Nat.reduceBEq Nat.reduceGT
attribute [local go_sem_proc ↓] reduceIte
def txF (s : List UInt8) : List UInt8 := if 3000 < s.length ∧ s.length ≤ 65536 then s.take 3000 else if 65540 < s.length then s.take 65540 else s
def ceF (x : Ce) : Ce := { x with body := txF x.body,vs := x.vs.take 66 }
def cgF (x : Ch) : Ch := { x with pf := x.pf.take 66,cs := (x.cs.take 66).map ceF }
theorem zxh (m : Nat) (s : List UInt8) (h : s.length ≤ 9223372036854775807) : z8c m (sA s) = some (sA (txF s),[]) := by
 rw [zg2]
 unfold txF
 by_cases h1 : 3000 < s.length
 ·have h1' : (s.length : Int) > 3000 := by omega
  by_cases h2 : s.length ≤ 65536
  ·have h2' : (s.length : Int) ≤ 65536 := by omega
   have h3' : (3000 : Int) ≤ (s.length : Int) := by omega
   simp (config := {maxSteps := 4000000,implicitDefEqProofs := false}) (disch := omega) only [go_sem,h1,h2,h1',h2',h3',z4h,z4n]
  ·have h2' : ¬ (s.length : Int) ≤ 65536 := by omega
   by_cases h4 : 65540 < s.length
   ·have h4' : (s.length : Int) > 65540 := by omega
    have h3' : (65540 : Int) ≤ (s.length : Int) := by omega
    simp (config := {maxSteps := 4000000,implicitDefEqProofs := false}) (disch := omega) only [go_sem,h1,h2,h1',h2',h4,h4',h3',z4h,z4n]
   ·have h4' : ¬ (s.length : Int) > 65540 := by omega
    simp (config := {maxSteps := 4000000,implicitDefEqProofs := false}) (disch := omega) only [go_sem,h1,h2,h1',h2',h4,h4',z4h,z4n]
 ·have h1' : ¬ (s.length : Int) > 3000 := by omega
  have h4 : ¬ 65540 < s.length := by omega
  have h4' : ¬ (s.length : Int) > 65540 := by omega
  simp (config := {maxSteps := 4000000,implicitDefEqProofs := false}) (disch := omega) only [go_sem,h1,h1',h4,h4',z4h,z4n]
theorem cutM {α : Type} {f : α → AV} {l : List α} {n : Nat} : cutE (l.map f) 0 n = (l.take n).map f := by
 unfold cutE
 simp [List.map_take]
theorem zxr {α : Type} {f : α → AV} {l : List α} : cutE (l.map f) 0 66 = (l.take 66).map f := cutM (n := 66)
theorem zpe (m : Nat) (l : List Sm) (h : l.length ≤ 9223372036854775807) : z59 m (SL (l.map smE)) = some (SL ((l.take 66).map smE),[]) := by
 rw [zf3]
 by_cases h1 : 66 < l.length
 ·have h1' : (l.length : Int) > 66 := by omega
  have h3' : (66 : Int) ≤ (l.length : Int) := by omega
  simp (config := {maxSteps := 4000000,implicitDefEqProofs := false}) (disch := omega) only [go_sem,h1',h3',zxr]
 ·have h1' : ¬ (l.length : Int) > 66 := by omega
  rw [List.take_of_length_le (show l.length ≤ 66 by omega)]
  simp (config := {maxSteps := 4000000,implicitDefEqProofs := false}) (disch := omega) only [go_sem,h1']
theorem zyU {x : Ce} : ceC ⟨x.sq,x.vw,x.tm,txF x.body,x.vs.take 66⟩ = ceC (ceF x) := rfl
theorem ro1_2 {A0 A1 : AObj} {e z m : Nat} {c : List AV} {Y : List AObj} : ro1 (A0 :: A1 :: ⟨2,e,z,c⟩ :: Y) (OW 2 m) = if m = c.length then SL c else OW 2 m := by simp [ro1]
theorem fewC1 (m : Nat) (x0 x1 x2 x3 : Int) (pf : List Sm) (cs : List Ce) (hm : 70 < m) (hc : cs.length ≤ 66) (hv : ∀ y ∈ cs,y.body.length ≤ 9223372036854775807 ∧ y.vs.length ≤ 9223372036854775807) :
  z3M m ⟨[⟨1,z00,0,[nA x0,nA x1,nA x2,nA x3,SL (pf.map smE),SL (cs.map ceE)]⟩,⟨1,z00,0,zc_api_Change⟩],[(1,OP 0 0),(2,OP 1 0)]⟩ = some (.agg (cgC ⟨x0,x1,x2,x3,pf,cs.map ceF⟩),[]) := by
 rw [z4c,zxo]
 simp (config := {maxSteps := 4000000,implicitDefEqProofs := false}) (disch := omega) only [go_sem,]
 refine z4a (m := m) (ι := {k : Nat // k ≤ cs.length}) (fun k=>⟨[⟨1,z00,0,[nA x0,nA x1,nA x2,nA x3,SL (pf.map smE),SL (cs.map ceE)]⟩,⟨1,z00,0,zc_api_Change⟩,⟨2,z0a,5,((cs.take k.1).map ceF).map ceE⟩],[(1,OP 0 0),(2,OP 1 0),(3,OW 2 k.1),(4,nA k.1)]⟩) (fun k=>cs.length - k.1) (fun _=>some (DataW.agg [nA x0,nA x1,nA x2,nA x3,SL (pf.map smE),SL ((cs.map ceF).map ceE)],[])) ?_ ⟨0,Nat.zero_le _⟩ (by dsimp only;omega)
 rintro kx hkx ⟨k,hk⟩ kc hkc
 dsimp only at hkc ⊢
 rw [zaE]
 have hxs : ∀ n,(((cs.take k).map ceF).map ceE).all (ltA n) = true := fun n=>by rw [List.all_map];exact z2M
 have hlen : (((cs.take k).map ceF).map ceE).length = k := by simp;omega
 by_cases hlt : k < cs.length
 ·have hlt' : (k : Int) < (cs.length : Int) := by omega
  obtain ⟨v1,v2⟩ := hv cs[k] (List.getElem_mem hlt)
  have g1 := zxh m cs[k].body v1
  have g2 := zpe m cs[k].vs v2
  have step := hkc ⟨k + 1,by omega⟩ (by dsimp only;omega)
  dsimp only at step
  rw [List.take_succ_eq_append_getElem hlt] at step
  simp only [List.map_append,List.map_cons,List.map_nil,ce_it] at step
  generalize hX : ((cs.take k).map ceF).map ceE = XS at *
  have hroom : k + 1 ≤ 34359738368 := by omega
  simp (config := {maxSteps := 4000000,implicitDefEqProofs := false}) (disch := omega) only [go_sem,hlt',g1,g2,zyU,hxs,hlen,hroom,w_i64,z6R,z4c]
  exact step
 ·obtain rfl : k = cs.length := by omega
  have hlt' : ¬ (cs.length : Int) < (cs.length : Int) := Int.lt_irrefl _
  have hk2 : cs.take cs.length = cs := List.take_of_length_le (Nat.le_refl _)
  rw [hk2] at hxs ⊢
  simp (config := {maxSteps := 4000000,implicitDefEqProofs := false}) (disch := omega) only [go_sem,hlt',hkx,hxs,ztf,ro1_2,z6R,z4c]
theorem znB (m : Nat) (x : Ch) (hm : 70 < m) (hp : x.pf.length ≤ 9223372036854775807) (hc : x.cs.length ≤ 9223372036854775807) (hv : ∀ y ∈ x.cs,y.body.length ≤ 9223372036854775807 ∧ y.vs.length ≤ 9223372036854775807) : z4D m (cgE x) = some (cgE (cgF x),[]) := by
 obtain ⟨x0,x1,x2,x3,pf,cs⟩ := x
 dsimp only at hp hc hv
 have g1 := zpe m pf hp
 rw [zcH,cg_it,cg_it,zxo]
 unfold cgF
 dsimp only
 by_cases h1 : 66 < cs.length
 ·have h1' : (cs.length : Int) > 66 := by omega
  have h3' : (66 : Int) ≤ (cs.length : Int) := by omega
  have hF := fewC1 m x0 x1 x2 x3 (pf.take 66) (cs.take 66) hm (by simp;omega) (fun y hy=>hv y (List.mem_of_mem_take hy))
  simp (config := {maxSteps := 4000000,implicitDefEqProofs := false}) (disch := omega) only [go_sem,g1,h1',h3',zxr,hF]
 ·have h1' : ¬ (cs.length : Int) > 66 := by omega
  have hF := fewC1 m x0 x1 x2 x3 (pf.take 66) cs hm (by omega) hv
  rw [List.take_of_length_le (show cs.length ≤ 66 by omega)]
  simp (config := {maxSteps := 4000000,implicitDefEqProofs := false}) (disch := omega) only [go_sem,g1,h1',hF]
def BigC (x : Ch) : Prop := x.pf.length ≤ 9223372036854775807 ∧ x.cs.length ≤ 9223372036854775807 ∧ ∀ y ∈ x.cs,y.body.length ≤ 9223372036854775807 ∧ y.vs.length ≤ 9223372036854775807
def BigM (x : Ms) : Prop := x.body.length ≤ 9223372036854775807 ∧ x.vs.length ≤ 9223372036854775807 ∧ x.chs.length ≤ 9223372036854775807 ∧ ∀ y ∈ x.chs,BigC y
end Go.Proofs.Ytaaogcnjfkgnoaa

namespace Go.Proofs.Ytaaogcnjfkgnoaa
open Go.RowKit
noncomputable def ItA_c : Code := farC 1 (endC 0 ((Try.f93.body).getD .skip)) .skip
def ItA_h : Hint := (.two .n .n)
noncomputable def zqS (m : Nat) : Env := []
noncomputable abbrev zvd (n0 : Nat) : KO (AV × List AObj) := nslFK [0,7,8,9]
noncomputable def ItA (m : Nat) (D : List Deferred) (t0 t1 : AV) (H : List AObj) : RO := exec Try.prog GG (zqS m) m ⟨26,D⟩ ItA_c ItA_h ⟨H,[(0,t0),(1,t1)]⟩ (zvd H.length)
theorem zxA (m : Nat) (D : List Deferred) (t0 t1 : AV) (H : List AObj) : ItA m D t0 t1 H =
 loadE 1 H t1 fun t7 =>
 lenE false true H t7 fun t8 =>
 some (TU [t0,t7,t8,(V (.int .i64 0))],H) := by
 refine (nslX _ _ _ _ _ _ _ _ _).trans ?_
 kernel_rfl
theorem zxH (m : Nat) : EnvOk Try.prog GG (zqS m) := (by intro f e h;cases h)
end Go.Proofs.Ytaaogcnjfkgnoaa

namespace Go.Proofs.Ytaaogcnjfkgnoaa
open Go.RowKit
noncomputable def ItB_c : Code := (cdL (cdL (cdL (endC 1 ((Try.f93.body).getD .skip)))))
def ItB_h : Hint := .n
noncomputable def zrq (m : Nat) : Env := []
noncomputable abbrev zub (n0 : Nat) : KO (AV × List AObj) := nslFK [0,7,8,9,10]
noncomputable def ItB (m : Nat) (D : List Deferred) (t0 t7 t8 t9 : AV) (H : List AObj) : RO := exec Try.prog GG (zrq m) m ⟨26,D⟩ ItB_c ItB_h ⟨H,[(0,t0),(7,t7),(8,t8),(9,t9)]⟩ (zub H.length)
theorem zzt (m : Nat) (D : List Deferred) (t0 t7 t8 t9 : AV) (H : List AObj) : ItB m D t0 t7 t8 t9 H =
 binE none false false .lss t9 t8 fun t10 =>
 some (TU [t0,t7,t8,t9,t10],H) := by
 refine (nslX _ _ _ _ _ _ _ _ _).trans ?_
 kernel_rfl
theorem zyr (m : Nat) : EnvOk Try.prog GG (zrq m) := (by intro f e h;cases h)
end Go.Proofs.Ytaaogcnjfkgnoaa

namespace Go.Proofs.Ytaaogcnjfkgnoaa
open Go.RowKit
noncomputable def ItC_c : Code := (cdL (cdL (cdL (cdR (cdR (cdL (cdL (endC 1 ((Try.f93.body).getD .skip)))))))))
def ItC_h : Hint := .n
noncomputable def zrC (m : Nat) : Env := []
noncomputable abbrev zwn (n0 : Nat) : KO (AV × List AObj) := nslFK [0,4,7,8,9]
noncomputable def ItC (m : Nat) (D : List Deferred) (t0 t7 t8 t9 : AV) (H : List AObj) : RO := exec Try.prog GG (zrC m) m ⟨26,D⟩ ItC_c ItC_h ⟨H,[(0,t0),(7,t7),(8,t8),(9,t9)]⟩ (zwn H.length)
theorem zxz (m : Nat) (D : List Deferred) (t0 t7 t8 t9 : AV) (H : List AObj) : ItC m D t0 t7 t8 t9 H =
 idxSE 8 H t7 t9 fun t11 =>
 loadE 8 H t11 fun t12 =>
 z4P (some zc_api_Change) z00 H fun t4 H2 =>
 z1e 8 H2 t4 t12 fun H3 =>
 some (TU [t0,t4,t7,t8,t9],H3) := by
 refine (nslX _ _ _ _ _ _ _ _ _).trans ?_
 kernel_rfl
theorem zxR (m : Nat) : EnvOk Try.prog GG (zrC m) := (by intro f e h;cases h)
end Go.Proofs.Ytaaogcnjfkgnoaa

namespace Go.Proofs.Ytaaogcnjfkgnoaa
open Go.RowKit
noncomputable def ItD_c : Code := (cdL (cdR (cdL (cdL (cdR (cdR (cdL (cdL (endC 1 ((Try.f93.body).getD .skip))))))))))
def ItD_h : Hint := .n
noncomputable def zrQ (m : Nat) : Env := []
noncomputable abbrev zvF (n0 : Nat) : KO (AV × List AObj) := nslFK [0,7,8,9,14,15,16]
noncomputable def ItD (m : Nat) (D : List Deferred) (t0 t4 t7 t8 t9 : AV) (H : List AObj) : RO := exec Try.prog GG (zrQ m) m ⟨26,D⟩ ItD_c ItD_h ⟨H,[(0,t0),(4,t4),(7,t7),(8,t8),(9,t9)]⟩ (zvF H.length)
theorem zyX (m : Nat) (D : List Deferred) (t0 t4 t7 t8 t9 : AV) (H : List AObj) : ItD m D t0 t4 t7 t8 t9 H =
 z02 (some (5,1)) t4 fun t13 =>
 loadE 1 H t13 fun t14 =>
 lenE false true H t14 fun t15 =>
 some (TU [t0,t7,t8,t9,t14,t15,(V (.int .i64 0))],H) := by
 refine (nslX _ _ _ _ _ _ _ _ _).trans ?_
 kernel_rfl
theorem zyC (m : Nat) : EnvOk Try.prog GG (zrQ m) := (by intro f e h;cases h)
end Go.Proofs.Ytaaogcnjfkgnoaa

namespace Go.Proofs.Ytaaogcnjfkgnoaa
open Go.RowKit
noncomputable def ItE_c : Code := (cdL (cdL (cdL (cdR (cdR (cdL (cdL (cdR (cdR (cdL (cdL (endC 1 ((Try.f93.body).getD .skip)))))))))))))
def ItE_h : Hint := .n
noncomputable def zr0 (m : Nat) : Env := []
noncomputable abbrev zwd (n0 : Nat) : KO (AV × List AObj) := nslFK [0,7,8,9,14,15,16,17]
noncomputable def ItE (m : Nat) (D : List Deferred) (t0 t7 t8 t9 t14 t15 t16 : AV) (H : List AObj) : RO := exec Try.prog GG (zr0 m) m ⟨26,D⟩ ItE_c ItE_h ⟨H,[(0,t0),(7,t7),(8,t8),(9,t9),(14,t14),(15,t15),(16,t16)]⟩ (zwd H.length)
theorem zzI (m : Nat) (D : List Deferred) (t0 t7 t8 t9 t14 t15 t16 : AV) (H : List AObj) : ItE m D t0 t7 t8 t9 t14 t15 t16 H =
 binE none false false .lss t16 t15 fun t17 =>
 some (TU [t0,t7,t8,t9,t14,t15,t16,t17],H) := by
 refine (nslX _ _ _ _ _ _ _ _ _).trans ?_
 kernel_rfl
theorem zz6 (m : Nat) : EnvOk Try.prog GG (zr0 m) := (by intro f e h;cases h)
end Go.Proofs.Ytaaogcnjfkgnoaa

namespace Go.Proofs.Ytaaogcnjfkgnoaa
open Go.RowKit
noncomputable def ItF_c : Code := (cdL (cdL (cdL (cdR (cdR (cdL (cdL (cdR (cdR (cdL (cdL (cdR (cdR (cdL (cdL (endC 1 ((Try.f93.body).getD .skip)))))))))))))))))
def ItF_h : Hint := .n
noncomputable def zrT (m : Nat) : Env := []
noncomputable abbrev zuB (n0 : Nat) : KO (AV × List AObj) := nslFK [0,6,7,8,9,14,15,16]
noncomputable def ItF (m : Nat) (D : List Deferred) (t0 t7 t8 t9 t14 t15 t16 : AV) (H : List AObj) : RO := exec Try.prog GG (zrT m) m ⟨26,D⟩ ItF_c ItF_h ⟨H,[(0,t0),(7,t7),(8,t8),(9,t9),(14,t14),(15,t15),(16,t16)]⟩ (zuB H.length)
theorem zzi (m : Nat) (D : List Deferred) (t0 t7 t8 t9 t14 t15 t16 : AV) (H : List AObj) : ItF m D t0 t7 t8 t9 t14 t15 t16 H =
 idxSE 7 H t14 t16 fun t18 =>
 loadE 7 H t18 fun t19 =>
 z4P (some zc_api_Cert) z0a H fun t6 H2 =>
 z1e 7 H2 t6 t19 fun H3 =>
 some (TU [t0,t6,t7,t8,t9,t14,t15,t16],H3) := by
 refine (nslX _ _ _ _ _ _ _ _ _).trans ?_
 kernel_rfl
theorem zxV (m : Nat) : EnvOk Try.prog GG (zrT m) := (by intro f e h;cases h)
end Go.Proofs.Ytaaogcnjfkgnoaa

namespace Go.Proofs.Ytaaogcnjfkgnoaa
open Go.RowKit
noncomputable def ItG_c : Code := (regP 2 (cdL (cdR (cdL (cdL (cdR (cdR (cdL (cdL (cdR (cdR (cdL (cdL (cdR (cdR (cdL (cdL (endC 1 ((Try.f93.body).getD .skip)))))))))))))))))))
def ItG_h : Hint := .n
noncomputable def zr9 (m : Nat) : Env := []
noncomputable abbrev zvo (n0 : Nat) : KO (AV × List AObj) := nslFK [0,7,8,9,14,15,16,20,21]
noncomputable def ItG (m : Nat) (D : List Deferred) (t0 t6 t7 t8 t9 t14 t15 t16 : AV) (H : List AObj) : RO := exec Try.prog GG (zr9 m) m ⟨26,D⟩ ItG_c ItG_h ⟨H,[(0,t0),(6,t6),(7,t7),(8,t8),(9,t9),(14,t14),(15,t15),(16,t16)]⟩ (zvo H.length)
theorem zy3 (m : Nat) (D : List Deferred) (t0 t6 t7 t8 t9 t14 t15 t16 : AV) (H : List AObj) : ItG m D t0 t6 t7 t8 t9 t14 t15 t16 H =
 loadE 7 H t6 fun t21 =>
 some (TU [t0,t7,t8,t9,t14,t15,t16,t0,t21],H) := by
 refine (nslX _ _ _ _ _ _ _ _ _).trans ?_
 kernel_rfl
theorem zxy (m : Nat) : EnvOk Try.prog GG (zr9 m) := (by intro f e h;cases h)
end Go.Proofs.Ytaaogcnjfkgnoaa

namespace Go.Proofs.Ytaaogcnjfkgnoaa
open Go.RowKit
noncomputable def ItH_c : Code := (regD 3 (cdL (cdR (cdL (cdL (cdR (cdR (cdL (cdL (cdR (cdR (cdL (cdL (cdR (cdR (cdL (cdL (endC 1 ((Try.f93.body).getD .skip)))))))))))))))))))
def ItH_h : Hint := .n
noncomputable def zrF (m : Nat) : Env := []
noncomputable abbrev zug (n0 : Nat) : KO (AV × List AObj) := nslFK [0,7,8,9,14,15,16,23]
noncomputable def ItH (m : Nat) (D : List Deferred) (t0 t7 t8 t9 t14 t15 t16 t22 : AV) (H : List AObj) : RO := exec Try.prog GG (zrF m) m ⟨26,D⟩ ItH_c ItH_h ⟨H,[(0,t0),(7,t7),(8,t8),(9,t9),(14,t14),(15,t15),(16,t16),(22,t22)]⟩ (zug H.length)
theorem zy8 (m : Nat) (D : List Deferred) (t0 t7 t8 t9 t14 t15 t16 t22 : AV) (H : List AObj) : ItH m D t0 t7 t8 t9 t14 t15 t16 t22 H =
 unE .not t22 fun t23 =>
 some (TU [t0,t7,t8,t9,t14,t15,t16,t23],H) := by
 refine (nslX _ _ _ _ _ _ _ _ _).trans ?_
 kernel_rfl
theorem zzg (m : Nat) : EnvOk Try.prog GG (zrF m) := (by intro f e h;cases h)
end Go.Proofs.Ytaaogcnjfkgnoaa

namespace Go.Proofs.Ytaaogcnjfkgnoaa
open Go.RowKit
noncomputable def ItI_c : Code := (cdR (cdR (cdR (cdL (cdL (cdR (cdR (cdL (cdL (cdR (cdR (cdL (cdL (endC 1 ((Try.f93.body).getD .skip)))))))))))))))
def ItI_h : Hint := .n
noncomputable def zr8 (m : Nat) : Env := []
noncomputable abbrev zws (n0 : Nat) : KO (AV × List AObj) := nslFK [0,7,8,9,14,15,16]
noncomputable def ItI (m : Nat) (D : List Deferred) (t0 t7 t8 t9 t14 t15 t16 : AV) (H : List AObj) : RO := exec Try.prog GG (zr8 m) m ⟨26,D⟩ ItI_c ItI_h ⟨H,[(0,t0),(7,t7),(8,t8),(9,t9),(14,t14),(15,t15),(16,t16)]⟩ (zws H.length)
theorem zyv (m : Nat) (D : List Deferred) (t0 t7 t8 t9 t14 t15 t16 : AV) (H : List AObj) : ItI m D t0 t7 t8 t9 t14 t15 t16 H =
 binE none false false .add t16 (V (.int .i64 1)) fun t24 =>
 some (TU [t0,t7,t8,t9,t14,t15,t24],H) := by
 refine (nslX _ _ _ _ _ _ _ _ _).trans ?_
 kernel_rfl
theorem zyH (m : Nat) : EnvOk Try.prog GG (zr8 m) := (by intro f e h;cases h)
end Go.Proofs.Ytaaogcnjfkgnoaa

namespace Go.Proofs.Ytaaogcnjfkgnoaa
open Go.RowKit
noncomputable def ItJ_c : Code := (cdR (cdR (cdR (cdL (cdL (endC 1 ((Try.f93.body).getD .skip)))))))
def ItJ_h : Hint := .n
noncomputable def zrp (m : Nat) : Env := []
noncomputable abbrev zwH (n0 : Nat) : KO (AV × List AObj) := nslFK [0,7,8,9]
noncomputable def ItJ (m : Nat) (D : List Deferred) (t0 t7 t8 t9 : AV) (H : List AObj) : RO := exec Try.prog GG (zrp m) m ⟨26,D⟩ ItJ_c ItJ_h ⟨H,[(0,t0),(7,t7),(8,t8),(9,t9)]⟩ (zwH H.length)
theorem zyl (m : Nat) (D : List Deferred) (t0 t7 t8 t9 : AV) (H : List AObj) : ItJ m D t0 t7 t8 t9 H =
 binE none false false .add t9 (V (.int .i64 1)) fun t25 =>
 some (TU [t0,t7,t8,t25],H) := by
 refine (nslX _ _ _ _ _ _ _ _ _).trans ?_
 kernel_rfl
theorem zxB (m : Nat) : EnvOk Try.prog GG (zrp m) := (by intro f e h;cases h)
end Go.Proofs.Ytaaogcnjfkgnoaa

namespace Go.Proofs.Ytaaogcnjfkgnoaa
open Go.RowKit
def zcV : TypeId := 147
def zhI : List AV := [(V .nilFunc)]
def zvz : List AV := [(V (.int .i64 0))]
noncomputable def AtA_c : Code := farC 4 (endC 0 ((Try.f78.body).getD .skip)) .skip
def AtA_h : Hint := (.two .n (.two .n (.two .n (.two .n .n))))
noncomputable def zrG (m : Nat) : Env := []
noncomputable abbrev zxw (n0 : Nat) : KO (AV × List AObj) := nslFK [0,3,4,5,6,7]
noncomputable def AtA (m : Nat) (D : List Deferred) (t0 t1 : AV) (H : List AObj) : RO := exec Try.prog GG (zrG m) m ⟨19,D⟩ AtA_c AtA_h ⟨H,[(0,t0),(1,t1)]⟩ (zxw H.length)
theorem zzA (m : Nat) (D : List Deferred) (t0 t1 : AV) (H : List AObj) : AtA m D t0 t1 H =
 boxE z6Y H t1 fun t3 H2 =>
 z4P (some zc_api_Choice) z2v H2 fun t4 H3 =>
 loadE 1 H3 t3 fun t9 =>
 z49 (some zaO) (some zc_api_Choice) [(0,t9),(3,(V (.bool true)))] fun t10 =>
 z4P (some zc_api_Choice) z2v H3 fun t5 H4 =>
 z1e 6 H4 t5 t10 fun H5 =>
 z4P (some zvz) z6Y H5 fun t6 H6 =>
 z1e 1 H6 t6 (V (.int .i64 (-1))) fun H7 =>
 whenE (([t3,t6,t5] : List AV).all cap0) (
 z4P (some zhI) zcV H7 fun t7 H8 =>
 z1e 1 H8 t7 (CL (.func 94) 0 [t3,t6,t5]) fun H9 =>
 some (TU [t0,t3,t4,t5,t6,t7],H9)) := by
 refine (nslX _ _ _ _ _ _ _ _ _).trans ?_
 kernel_rfl
theorem zxE (m : Nat) : EnvOk Try.prog GG (zrG m) := (by intro f e h;cases h)
end Go.Proofs.Ytaaogcnjfkgnoaa

namespace Go.Proofs.Ytaaogcnjfkgnoaa
open Go.RowKit
noncomputable def AtB_c : Code := (cdL (cdL (endC 4 ((Try.f78.body).getD .skip))))
def AtB_h : Hint := .n
noncomputable def zpp (m : Nat) : Env := [(77, .keep (zcn m))]
noncomputable abbrev zwq (n0 : Nat) : KO (AV × List AObj) := nslFK [3,4,5,6,7,13]
noncomputable def AtB (m : Nat) (D : List Deferred) (t0 t3 t4 t5 t6 t7 : AV) (H : List AObj) : RO := exec Try.prog GG (zpp m) m ⟨19,D⟩ AtB_c AtB_h ⟨H,[(0,t0),(3,t3),(4,t4),(5,t5),(6,t6),(7,t7)]⟩ (zwq H.length)
theorem zz3 (m : Nat) (D : List Deferred) (t0 t3 t4 t5 t6 t7 : AV) (H : List AObj) : AtB m D t0 t3 t4 t5 t6 t7 H =
 keepE (zfX m (ro H t0) H) fun t13 H2 =>
 some (TU [t3,t4,t5,t6,t7,t13],H2) := by
 refine (nslX _ _ _ _ _ _ _ _ _).trans ?_
 kernel_rfl
theorem zzw (m : Nat) : EnvOk Try.prog GG (zpp m) := (by
 intro f e h
 simp only [zpp,Prod.mk.injEq,List.mem_cons,List.not_mem_nil,or_false] at h
 obtain ⟨rfl,rfl⟩ := h
 ·exact zhA m)
end Go.Proofs.Ytaaogcnjfkgnoaa

namespace Go.Proofs.Ytaaogcnjfkgnoaa
open Go.RowKit
noncomputable def AtR_c : Code := (rfS (cdL (cdR (cdL (endC 4 ((Try.f78.body).getD .skip))))))
def AtR_h : Hint := (.two .n (.one .n))
noncomputable def zjX (m : Nat) : Env := [(94, .keep (z9j m))]
noncomputable abbrev zv7 (n0 : Nat) : KO (AV × List AObj) := rndFK n0
noncomputable def AtR (m : Nat) (D : List Deferred) (t14 t3 t4 t5 t6 t7 : AV) (H : List AObj) : RO := exec Try.prog GG (zjX m) m ⟨19,D⟩ AtR_c AtR_h ⟨H,[(14,t14),(3,t3),(4,t4),(5,t5),(6,t6),(7,t7)]⟩ (zv7 H.length)
theorem zy7 (m : Nat) (D : List Deferred) (t14 t3 t4 t5 t6 t7 : AV) (H : List AObj) : AtR m D t14 t3 t4 t5 t6 t7 H =
 z4P (some zc_api_Cert) z0a H fun t8 H2 =>
 z1e 7 H2 t8 t14 fun H3 =>
 loadE 1 H3 t7 fun t15 =>
 loadE 7 H3 t8 fun t16 =>
 zec (zjX m) t15 [t16] H3 fun t17 H4 =>
 zmo H.length H4 (V (.bool true)) := by
 refine (rndX Try.prog GG (zjX m) m ⟨19,D⟩ H.length AtR_c AtR_h ⟨H,[(14,t14),(3,t3),(4,t4),(5,t5),(6,t6),(7,t7)]⟩ ).trans ?_
 kernel_rfl
theorem zym (m : Nat) : EnvOk Try.prog GG (zjX m) := (by
 intro f e h
 simp only [zjX,Prod.mk.injEq,List.mem_cons,List.not_mem_nil,or_false] at h
 obtain ⟨rfl,rfl⟩ := h
 ·exact zkl m)
end Go.Proofs.Ytaaogcnjfkgnoaa

namespace Go.Proofs.Ytaaogcnjfkgnoaa
open Go.RowKit
noncomputable def AtC_c : Code := (endC 5 ((Try.f78.body).getD .skip))
def AtC_h : Hint := (.two .n .n)
noncomputable def zob (m : Nat) : Env := []
noncomputable abbrev zvb (n0 : Nat) : KO (AV × List AObj) := rawFK Try.prog n0 [.cell 4 73]
noncomputable def AtC (m : Nat) (D : List Deferred) (t4 t5 : AV) (H : List AObj) : RO := exec Try.prog GG (zob m) m ⟨19,D⟩ AtC_c AtC_h ⟨H,[(4,t4),(5,t5)]⟩ (zvb H.length)
theorem zy4 (m : Nat) (D : List Deferred) (t4 t5 : AV) (H : List AObj) : AtC m D t4 t5 H =
 loadE 6 H t5 fun t18 =>
 z1e 6 H t4 t18 fun H2 =>
 loadE 6 H2 t4 fun t9000 =>
 some (ro H2 t9000,H2) := by
 refine (rawX Try.prog GG (zob m) m ⟨19,D⟩ H.length AtC_c AtC_h ⟨H,[(4,t4),(5,t5)]⟩ [.cell 4 73]).trans ?_
 kernel_rfl
theorem zy2 (m : Nat) : EnvOk Try.prog GG (zob m) := (by intro f e h;cases h)
end Go.Proofs.Ytaaogcnjfkgnoaa

namespace Go.Proofs.Ytaaogcnjfkgnoaa
open Go.RowKit
attribute [local go_sem] Nat.zero_add Nat.add_zero Nat.mul_one Int.toNat_natCast Int.natCast_zero Int.cast_ofNat_Int or_false false_or or_true true_or Nat.sub_zero Int.natCast_nonneg Int.toNat_zero Bool.true_and Bool.and_true Bool.false_and Bool.and_false Bool.true_or Bool.or_true Bool.false_or Bool.or_false Bool.not_true Bool.not_false Bool.not_not true_and and_true false_and and_false not_true_eq_false not_false_eq_true eq_self decide_true decide_false ne_eq implies_true forall_const true_implies false_implies Bool.true_eq_false Bool.false_eq_true List.map_cons List.map_nil List.all_cons List.all_nil List.length_cons List.length_nil List.length_map List.length_append List.nil_append List.cons_append List.set_cons_zero List.set_cons_succ List.set_nil List.drop_zero List.drop_succ_cons List.drop_nil List.take_zero List.take_succ_cons List.take_nil Option.map_some Option.map_none Option.isSome_some List.all_append List.all_map Function.comp_def decide_eq_true_eq Bool.and_eq_true beq_self_eq_true or_self and_self ite_true ite_false Nat.le_refl Bool.not_eq_true decide_not Bool.not_eq_true' decide_eq_false_iff_not Bool.not_eq_false Bool.or_eq_true if_true if_false ite_self u_roF u_cvF u_cvC u_ceT u_ceK z2m sm_it z6A z37 z5m z6p z3d sm_ro z3i sm_sl z6a z69 sm_fr z1F z13 sm_kd z28 z12 sm_vw z1u z0P sm_sq z1R z0S sm_tm z1q z0L z2R z2b z3k z63 z64 z29 z3g z1p z1y z2F z39 ce_it z6J z31 z4Z z6x z3A ce_ro z3t ce_sl z6d z6g ce_sq z1X z14 ce_vw z1C z0H ce_tm z1U z0W z33 z0v z0n ce_vs z1P z0X z36 z1t z3r z6F z6H z1T z2X z1z z2c z2M z2V cg_it z67 z3s z61 z6n z2U cg_ro z3E cg_sl z6b z6u cg_fr z1J z0N cg_vw z1Q z11 cg_st z1M z0G cg_rt z1H z17 cg_pf z1Z z0E cg_cs z1N z0I z32 z1I z3b z6y z6c z1V z3v z23 z1L z35 z3p ms_it z6o z3n z6C z6h z3h ms_ro z3e ms_sl z6E z6r ms_kd z1S z0R ms_fr z1v z0O ms_vw z25 z0U ms_sq z1s z0Z ms_tm z1G z0F z3c z0u z0o ms_vs z1E z0Y z68 z0Q z0x z3C z1W z3x z65 z6K z20 z3D z24 z27 z3q z2Y co_it z6M z2W z6D z6m z3m co_ro z3o co_sl z6w z66 co_sq z26 z0V co_tm z1B z0K z3z z0y z0p co_nl z1w z0M z3y z1o z3l z6N z6v z1K z3j z1Y z1O z2N z2Z sd_it z6e z3B z6z z6G z3a sd_ro z2T sd_sl z6I z6i sd_wh z21 z15 sd_fr z1x z0T sd_kd z1D z18 sd_vw z1A z0J sd_sq z22 z16 sd_tm z1r z10 z30 z38 z6f z5O u_bz u_bi1 u_bi2 u_bi3 u_bi4 u_bi5 u_bi6 u_bi7 ltO_o ltO_r u_eqE
attribute [local go_sem_proc] Nat.reduceAdd Nat.reduceSub Nat.reduceMul Nat.reduceLeDiff Nat.reduceLT Int.reduceEq Int.reduceNe Int.reduceLT Int.reduceLE Int.reduceAdd Int.reduceSub Int.reduceMul Int.reduceNeg Int.reduceToNat reduceCtorEq Nat.reduceEqDiff Nat.reduceBEq Nat.reduceGT
attribute [local go_sem_proc ↓] reduceIte
theorem zkJ {R : Type} {H : List AObj} {o : AObj} {K : AObj → Option R} : nthOE (H ++ [o]) H.length K = K o := by
 unfold nthOE;simp
theorem zvh {R : Type} {H : List AObj} {o : AObj} {b : Nat} {K : AObj → Option R} (h : H[b]? = some o) : nthOE H b K = K o := by
 unfold nthOE;rw [h]
theorem zmR {H : List AObj} {o o' : AObj} : (H ++ [o]).set H.length o' = H ++ [o'] := by
 simp
def chO (x : Ch) : AObj := ⟨1,z00,0,cgC x⟩
def ceO (x : Ce) : AObj := ⟨1,z0a,0,ceC x⟩
def chsA (l : List Ch) : AV := SL (l.map cgE)
def cesA (l : List Ce) : AV := SL (l.map ceE)
section
variable {H : List AObj} {l : List Ch} {cs : List Ce} {Y a7 a8 a9 a14 a15 : AV}
theorem itA_s (m b : Nat) (hb : H[b]? = some ⟨1,z44,0,[chsA l]⟩) : ItA m [] Y (OP b 0) H = some (TU [Y,chsA l,nA l.length,nA 0],H) := by
 rw [zxA]
 unfold chsA at hb ⊢
 rw [u_ldO,zvh hb]
 simp (config := {maxSteps := 4000000,implicitDefEqProofs := false}) (disch := omega) only [go_sem,]
theorem itB_s (m : Nat) (a b : Int) : ItB m [] Y a7 (nA b) (nA a) H = some (TU [Y,a7,nA b,nA a,bA (decide (a < b))],H) := by
 rw [zzt]
 simp (config := {maxSteps := 4000000,implicitDefEqProofs := false}) (disch := omega) only [go_sem,]
theorem itC_s (m k : Nat) (hk : k < l.length) : ItC m [] Y (chsA l) a8 (nA k) H = some (TU [Y,OP H.length 0,chsA l,a8,nA k],H ++ [chO l[k]]) := by
 rw [zxz]
 unfold chsA chO
 simp (config := {maxSteps := 4000000,implicitDefEqProofs := false}) (disch := omega) only [go_sem,hk,zkJ,zmR]
theorem itD_s (m : Nat) (x : Ch) : ItD m [] Y (OP H.length 0) a7 a8 a9 (H ++ [chO x]) = some (TU [Y,a7,a8,a9,cesA x.cs,nA x.cs.length,nA 0],H ++ [chO x]) := by
 rw [zyX]
 unfold chO cesA
 simp (config := {maxSteps := 4000000,implicitDefEqProofs := false}) (disch := omega) only [go_sem,zkJ,zmR]
theorem itE_s (m : Nat) (a b : Int) : ItE m [] Y a7 a8 a9 a14 (nA b) (nA a) H = some (TU [Y,a7,a8,a9,a14,nA b,nA a,bA (decide (a < b))],H) := by
 rw [zzI]
 simp (config := {maxSteps := 4000000,implicitDefEqProofs := false}) (disch := omega) only [go_sem,]
theorem itF_s (m k : Nat) (hk : k < cs.length) : ItF m [] Y a7 a8 a9 (cesA cs) a15 (nA k) H = some (TU [Y,OP H.length 0,a7,a8,a9,cesA cs,a15,nA k],H ++ [ceO cs[k]]) := by
 rw [zzi]
 unfold cesA ceO
 simp (config := {maxSteps := 4000000,implicitDefEqProofs := false}) (disch := omega) only [go_sem,hk,zkJ,zmR]
theorem itG_s (m : Nat) (x : Ce) (a16 : AV) : ItG m [] Y (OP H.length 0) a7 a8 a9 a14 a15 a16 (H ++ [ceO x]) = some (TU [Y,a7,a8,a9,a14,a15,a16,Y,ceE x],H ++ [ceO x]) := by
 rw [zy3]
 unfold ceO
 simp (config := {maxSteps := 4000000,implicitDefEqProofs := false}) (disch := omega) only [go_sem,zkJ,zmR]
theorem itH_s (m : Nat) (a16 : AV) (v : Bool) : ItH m [] Y a7 a8 a9 a14 a15 a16 (bA v) H = some (TU [Y,a7,a8,a9,a14,a15,a16,bA (!v)],H) := by
 rw [zy8]
 simp (config := {maxSteps := 4000000,implicitDefEqProofs := false}) (disch := omega) only [go_sem,]
theorem itI_s (m : Nat) (a : Int) (h : 0 ≤ a) (h2 : a < 1000000000) : ItI m [] Y a7 a8 a9 a14 a15 (nA a) H = some (TU [Y,a7,a8,a9,a14,a15,nA (a + 1)],H) := by
 rw [zyv]
 simp (config := {maxSteps := 4000000,implicitDefEqProofs := false}) (disch := omega) only [go_sem,w_i64]
theorem itJ_s (m : Nat) (a : Int) (h : 0 ≤ a) (h2 : a < 1000000000) : ItJ m [] Y a7 a8 (nA a) H = some (TU [Y,a7,a8,nA (a + 1)],H) := by
 rw [zyl]
 simp (config := {maxSteps := 4000000,implicitDefEqProofs := false}) (disch := omega) only [go_sem,w_i64]
end
def atB (q : Int) (v : Int) (o : Co) : List AObj := [⟨1,z6Y,0,[nA q]⟩,⟨1,z2v,0,zc_api_Choice⟩,⟨1,z2v,0,coC o⟩,⟨1,z6Y,0,[nA v]⟩,⟨1,zcV,0,[CL (.func 94) 0 [OP 0 0,OP 3 0,OP 2 0]]⟩]
def atH (q : Int) (l : List Ch) (v : Int) (o : Co) : List AObj := atB q v o ++ [⟨1,z44,0,[chsA l]⟩]
def co0 (q : Int) : Co := ⟨q,0,[],true⟩
theorem atA_s (m : Nat) (q : Int) (a : AV) : AtA m [] a (nA q) [] = some (TU [a,OP 0 0,OP 1 0,OP 2 0,OP 3 0,OP 4 0],atB q (-1) (co0 q)) := by
 rw [zzA]
 have hb : ∀ {K1 : AV → RO},z49 (some zaO) (some zc_api_Choice) [(0,nA q),(3,V (.bool true))] K1 = K1 (.agg (coC (co0 q))) := _root_.id rfl
 unfold atB
 simp (config := {maxSteps := 4000000,implicitDefEqProofs := false}) (disch := omega) only [go_sem,hb]
 rfl
theorem atB_s (m : Nat) (q v : Int) (o : Co) (l : List Ch) : AtB m [] (chsA l) (OP 0 0) (OP 1 0) (OP 2 0) (OP 3 0) (OP 4 0) (atB q v o) = some (TU [OP 0 0,OP 1 0,OP 2 0,OP 3 0,OP 4 0,CL (.func 93) 0 [OP 5 0]],atH q l v o) := by
 rw [zz3]
 unfold atB atH atB chsA
 simp (config := {maxSteps := 4000000,implicitDefEqProofs := false}) (disch := omega) only [go_sem,zhr]
 rfl
theorem atC_s (m : Nat) (q v : Int) (o : Co) (l : List Ch) (D : List Deferred) : AtC m D (OP 1 0) (OP 2 0) (atH q l v o) = some (.agg (coC o),(atH q l v o).set 1 ⟨1,z2v,0,coC o⟩) := by
 rw [zy4]
 unfold atH atB chsA
 simp (config := {maxSteps := 4000000,implicitDefEqProofs := false}) (disch := omega) only [go_sem,]
def keepC (q : Int) (a : Int × Co) (x : Ce) : Int × Co := if x.sq = q ∧ a.1 < x.vw then (x.vw,⟨q,x.tm,x.body,false⟩) else a
theorem at1_s (m : Nat) (q v : Int) (o : Co) (l : List Ch) (x : Ce) (Y : List AObj) : zh0 m (ceE x) (OP 0 0) (OP 3 0) (OP 2 0) (atH q l v o ++ [ceO x]) = some (TU [],atH q l (keepC q (v,o) x).1 (keepC q (v,o) x).2 ++ [ceO x]) := by
 rw [zky]
 unfold atH atB chsA ceO keepC
 have hb : ∀ {a b : Int} {s : List UInt8} {K1 : AV → RO},z49 (some zaO) (some zc_api_Choice) [(0,nA a),(1,nA b),(2,sA s)] K1 = K1 (.agg (coC ⟨a,b,s,false⟩)) := _root_.id rfl
 by_cases h1 : x.sq = q
 ·by_cases h2 : v < x.vw
  ·rw [if_pos ⟨h1,h2⟩]
   simp (config := {maxSteps := 4000000,implicitDefEqProofs := false}) (disch := omega) only [go_sem,h1,h2,hb,z9I]
   rfl
  ·rw [if_neg (fun h=>h2 h.2)]
   simp (config := {maxSteps := 4000000,implicitDefEqProofs := false}) (disch := omega) only [go_sem,h1,h2,hb,z9I]
   rfl
 ·rw [if_neg (fun h=>h1 h.1)]
  simp (config := {maxSteps := 4000000,implicitDefEqProofs := false}) (disch := omega) only [go_sem,h1,hb,z9I]
  rfl
theorem zwp (m : Nat) : findE (zjX m) 94 = some (.keep (z9j m)) := _root_.id rfl
theorem atR_s (m : Nat) (q v : Int) (o : Co) (l : List Ch) (x : Ce) : AtR m [] (ceE x) (OP 0 0) (OP 1 0) (OP 2 0) (OP 3 0) (OP 4 0) (atH q l v o) = some (bA true,atH q l (keepC q (v,o) x).1 (keepC q (v,o) x).2) := by
 rw [zy7]
 have h1 := at1_s m q v o l x []
 have he := zwp m
 unfold ceO at h1
 unfold atH atB chsA at h1 ⊢
 rw [ce_it] at h1 ⊢
 dsimp only [List.cons_append,List.nil_append] at h1
 simp (config := {maxSteps := 4000000,implicitDefEqProofs := false}) (disch := omega) only [go_sem,he,z9j,h1]
 rfl
end Go.Proofs.Ytaaogcnjfkgnoaa

