/-
  Texts laid together, part 7 of 7: laws of a walk over data, contracts of functions, each whole by itself.
-/
import Derived.Test.YtaplemeamcgpkaaDoorMgf
import Derived.Test.YtaplemeamcgpkaaDoorMgb
set_option maxRecDepth 100000
noncomputable section
set_option linter.unusedVariables false
set_option linter.unusedSimpArgs false
namespace Go.Proofs.YtaplemeamcgpkaaDoor
open Go.RowKit
def z0m : TypeId := 47
def z0O : TypeId := 42
def z0S : TypeId := 55
def z41 : TypeId := 89
def zc_api_Crate : List AV := [(V (.int .i64 0)),(V (.int .i64 0)),(V (.int .i64 0)),(V (.int .i64 0)),(V (.int .i64 0)),(V (.int .i64 0)),(V (.int .i64 0)),(V (.int .i64 0)),(V (.int .i64 0)),(V (.int .i64 0)),(V (.int .i64 0)),(V (.int .i64 0)),(V (.int .i64 0)),(V (.int .i64 0)),(V (.int .i64 0)),(V (.int .i64 0)),(V (.int .i64 0)),(V (.int .i64 0)),(V (.int .i64 0)),(V (.bool false)),(V (.bool false)),(V (.bool false)),(V (.bool false)),(V (.bool false)),(V (.bool false)),(V (.bool false)),(V (.bool false)),(V (.bool false)),(V (.bool false)),(V (.bool false)),(V (.bool false)),(V (.bool false)),(V (.bool false)),(V (.bool false)),(V (.bool false)),(V (.slice none 0 0)),(V (.slice none 0 0)),(V (.slice none 0 0)),(V (.slice none 0 0)),(V (.slice none 0 0)),(V (.slice none 0 0)),(V (.slice none 0 0)),(V (.slice none 0 0)),(V (.slice none 0 0)),(V (.slice none 0 0)),(V (.slice none 0 0)),(V (.slice none 0 0)),(V (.slice none 0 0)),(V (.slice none 0 0)),(V (.slice none 0 0)),(V (.slice none 0 0)),(V (.int .i64 0)),(V (.int .i64 0)),(V (.int .i64 0)),(V (.int .i64 0)),(V (.int .i64 0)),(V (.int .i64 0)),(V (.int .i64 0)),(V (.int .i64 0)),(V (.int .i64 0)),(V (.int .i64 0)),(V (.int .i64 0)),(V (.int .i64 0)),(V (.int .i64 0)),(V (.int .i64 0)),(V (.int .i64 0)),(V (.int .i64 0))]
def z14 : List AV := [(V (.int .i64 0)),(V (.int .i64 0)),(V (.int .i64 0)),(V (.int .i64 0)),(V (.int .i64 0)),(V (.int .i64 0)),(V (.int .i64 0)),(V (.int .i64 0)),(V (.int .i64 0)),(V (.int .i64 0)),(V (.int .i64 0)),(V (.int .i64 0)),(V (.int .i64 0)),(V (.int .i64 0)),(V (.int .i64 0)),(V (.int .i64 0)),(V (.int .i64 0)),(V (.int .i64 0)),(V (.int .i64 0))]
def z1H : List AV := [(V (.int .i64 0)),(V (.int .i64 0)),(V (.slice none 0 0))]
def z0V : List (Nat × Nat) := [(0,19),(19,16),(35,32)]
def z31 : List (Nat × Nat) := [(0,1),(1,1),(2,1),(3,16)]
def z4p : List (Nat × Nat) := [(0,1),(1,1),(2,1)]
def z52 : Code := (Tryd.f10.body).getD .skip
def parcel_Of_h : Hint := (.two .n (.two (.two .n (.two (.two .n .n) .n)) (.two .n (.join [4,6] (.two .n (.one (.lp [] [0,3,4,6,24,25] [4,5,6] (.two .n (.two (.two .n .n) (.two (.one (.two .n (.two .n (.two (.two .n (.two (.two .n .n) .n)) .n)))) .n)))))) (.two .n .n)))))
def z3j (m : Nat) : Env := [(18, .tell (z2R m)),(29, .keep (z11 m))]
abbrev z6e (n0 : Nat) : KO (AV × List AObj) := zbr Tryd.prog n0 [.cell 4 42, .tmp 5]
def zb5 (m : Nat) (n0k : Nat) (s : ASt) : RO := z3n Tryd.prog GG (z3j m) m ⟨50,[]⟩ (cdR (cdR (cdR (cdR z52)))) parcel_Of_h.r.r.r.r s (z6e n0k)
def zbG (m : Nat) (s : ASt) (kc : ASt → RO) (kx : KO (AV × List AObj)) : RO := zdP Tryd.prog GG (z3j m) m ⟨50,[]⟩ (cdL (cdL (cdR (cdL (cdR (cdR (cdR z52))))))) parcel_Of_h.r.r.r.l.r.c.c [0,3,4,6,24,25] [4,5,6] s kc kx
def zaY (m : Nat) (t0 t1 : AV) (H : List AObj) : RO := zF9 Tryd.prog GG (z3j m) m ⟨50,[]⟩ z52 parcel_Of_h ⟨H,z2t 0 [t0,t1]⟩ (z6e H.length)
theorem zct (m : Nat) (n0k : Nat) (H : List AObj) (t4 t6 : AV) : zb5 m n0k ⟨H,[(4,t4),(6,t6)]⟩ =
 z0l 21 H t6 fun t49 =>
 z0s 21 H t4 t49 fun H2 =>
 z0l 21 H2 t4 fun t9000 =>
 z84 n0k H2 (ro H2 (TU [noT t9000,noT (V (.int .i64 0))])) := by
 refine (z0o _ _ _ _ _ _ _ _ _).trans ?_
 kernel_rfl
theorem zcm (m : Nat) (H : List AObj) (t0 t3 t4 t6 t24 t25 : AV) (kc : ASt → RO) (kx : KO (AV × List AObj)) : zbG m ⟨H,[(0,t0),(3,t3),(4,t4),(6,t6),(24,t24),(25,t25)]⟩ kc kx =
 zED none false false .lss t25 (V (.int .i64 16)) fun t26 =>
 z0U t26 (
  zla false (some (16,1)) t24 t25 fun t28 =>
  z0b (some (0,34)) t3 fun t33 =>
  z0b (some (16,18)) t33 fun t34 =>
  zbF 16 1 t34 t25 fun t35 =>
  z0l 1 H t35 fun t36 =>
  zaG (z11 m [(ro H t0),(ro H t28),(ro H t36)] H) fun t37 H2 =>
  zEN t37 0 fun t38 =>
  zEN t37 1 fun t39 =>
  zED none false false .neq t39 (V (.int .i64 0)) fun t41 =>
  z0U t41 (
   z0X (some z31) (some z14) [] fun t42 =>
   z0s 21 H2 t4 t42 fun H3 =>
   kx .ret ⟨H3,[(4,t4),(5,t39),(6,t6)]⟩) (
   z0b (some (3,18)) t6 fun t46 =>
   zbF 16 1 t46 t25 fun t47 =>
   z0s 1 H2 t47 t38 fun H3 =>
   zED none false false .add t25 (V (.int .i64 1)) fun t48 =>
   zd5 H.length H3 [(0,t0),(3,t3),(4,t4),(6,t6),(24,t24),(25,t48)] kc)) (
  kx (.exit 0) ⟨H,[(4,t4),(5, .nil),(6,t6)]⟩) := by
 refine (z2v _ _ _ _ _ _ _ _ _ _ _ _).trans ?_
 kernel_rfl
theorem zgu (m : Nat) (t0 t1 : AV) (H : List AObj) : zaY m t0 t1 H =
 zE6 z03 H t1 fun t3 H2 =>
 z1G (some z14) z0O H2 fun t4 H3 =>
 z0l 37 H3 t3 fun t11 =>
 z3o (z4n m (ro H3 t11)) [(ro H3 t11)] fun t12 =>
 unE .not t12 fun t13 =>
 z0U t13 (
  z0X (some z31) (some z14) [] fun t14 =>
  z0s 21 H3 t4 t14 fun H4 =>
  z0l 21 H4 t4 fun t9000 =>
  z84 H.length H4 (ro H4 (TU [noT t9000,noT (V (.int .i64 1))]))) (
  z0b (some (32,1)) t3 fun t15 =>
  z0l 1 H3 t15 fun t16 =>
  z0b (some (33,1)) t3 fun t17 =>
  z0l 1 H3 t17 fun t18 =>
  z0b (some (34,1)) t3 fun t19 =>
  z0l 1 H3 t19 fun t20 =>
  z0X (some z31) (some z14) [(0,t16),(1,t18),(2,t20)] fun t21 =>
  z1G (some z14) z0O H3 fun t6 H4 =>
  z0s 21 H4 t6 t21 fun H5 =>
  z0b (some (0,34)) t3 fun t22 =>
  z0b (some (0,18)) t22 fun t23 =>
  z0l 18 H5 t23 fun t24 =>
  zc7 m (zbG m) ⟨H5,[(0,t0),(3,t3),(4,t4),(6,t6),(24,t24),(25,(V (.int .i64 0)))]⟩ (z4k 0 (zCu (fun s=>zb5 m H.length ⟨s.H,[(4,gt s.T 4),(6,gt s.T 6)]⟩) (z6e H.length)))) := by
 refine (zsU Tryd.prog GG (z3j m) m ⟨50,[]⟩ H.length z52 parcel_Of_h ⟨H,z2t 0 [t0,t1]⟩ [.cell 4 42, .tmp 5]).trans ?_
 kernel_rfl
def z92 (m : Nat) : List AV → List AObj → RO|[t0,t1],H=>zaY m t0 t1 H|_,_=>none
theorem zgN (m : Nat) : ∀ args H X H',z92 m args H = some (X,H') → AC Tryd.prog GG 10 args H (Is X H') := by
 intro args H X H' h
 unfold z92 at h
 split at h
 ·exact z7O MIX (by
  intro f e h
  simp only [z3j,Prod.mk.injEq,List.mem_cons,List.not_mem_nil,or_false] at h
  rcases h with ⟨rfl,rfl⟩|⟨rfl,rfl⟩
  ·exact z4b m
  ·exact z5v m) (f := 10) (c := z52) Tryd.func10 rfl (by kernel_rfl) _ rfl Tryd.ntmps10 (Nat.le_of_ble_eq_true rfl) parcel_Of_h h
 ·cases h
def z1W : Code := (Tryd.f11.body).getD .skip
def parcel_Begin_h : Hint := (.two .n (.two (.two .n (.two (.two .n .n) .n)) (.two .n (.join [6,8] (.two .n (.one (.lp [] [2,3,4,6,8,20,21] [6,7,8] (.two .n (.two (.two .n .n) (.gh (8,0,z2J,0) [2,3,4,6,8,20,21] (.one (.two .n (.two .n (.two (.two .n (.two (.two .n .n) .n)) (.two .n (.two (.two .n .n) .n)))))) .n)))))) (.two .n .n)))))
def z1e (m : Nat) : Env := [(28, .tell (z2p m)),(29, .keep (z11 m))]
abbrev z4c (n0 : Nat) : KO (AV × List AObj) := zbr Tryd.prog n0 [.cell 6 47, .tmp 7]
def z4L (m : Nat) (n0 : Nat) (kc : ASt → RO) (kx : KO (AV × List AObj)) (s : ASt) : RO := z3n Tryd.prog GG (z1e m) m ⟨64,[]⟩ (cdR (cdR (cdR (cdL (cdL (cdR (cdL (cdR (cdR (cdR z1W)))))))))) parcel_Begin_h.r.r.r.l.r.c.c.r.r.r s (zfV n0 [2,3,4,6,8,20,21] [6,7,8] kc kx)
def z7y (m : Nat) (n0k : Nat) (s : ASt) : RO := z3n Tryd.prog GG (z1e m) m ⟨64,[]⟩ (cdR (cdR (cdR (cdR z1W)))) parcel_Begin_h.r.r.r.r s (z4c n0k)
def z7w (m : Nat) (s : ASt) (kc : ASt → RO) (kx : KO (AV × List AObj)) : RO := zdP Tryd.prog GG (z1e m) m ⟨64,[]⟩ (cdL (cdL (cdR (cdL (cdR (cdR (cdR z1W))))))) parcel_Begin_h.r.r.r.l.r.c.c [2,3,4,6,8,20,21] [6,7,8] s kc kx
def z5Q (m : Nat) (t0 t1 t2 : AV) (H : List AObj) : RO := zF9 Tryd.prog GG (z1e m) m ⟨64,[]⟩ z1W parcel_Begin_h ⟨H,z2t 0 [t0,t1,t2]⟩ (z4c H.length)
theorem z57 (m : Nat) (n0 : Nat) (kc : ASt → RO) (kx : KO (AV × List AObj)) (H : List AObj) (t2 t3 t4 t6 t8 t20 t21 : AV) : z4L m n0 kc kx ⟨H,[(2,t2),(3,t3),(4,t4),(6,t6),(8,t8),(20,t20),(21,t21)]⟩ =
 zED none false false .add t21 (V (.int .i64 1)) fun t62 =>
 zd5 n0 H [(2,t2),(3,t3),(4,t4),(6,t6),(8,t8),(20,t20),(21,t62)] kc := by
 refine (z0o _ _ _ _ _ _ _ _ _).trans ?_
 kernel_rfl
theorem z9k (m : Nat) (n0k : Nat) (H : List AObj) (t6 t8 : AV) : z7y m n0k ⟨H,[(6,t6),(8,t8)]⟩ =
 z0l 69 H t8 fun t63 =>
 z0s 69 H t6 t63 fun H2 =>
 z0l 69 H2 t6 fun t9000 =>
 z84 n0k H2 (ro H2 (TU [noT t9000,noT (V (.int .i64 0))])) := by
 refine (z0o _ _ _ _ _ _ _ _ _).trans ?_
 kernel_rfl
theorem z9h (m : Nat) (H : List AObj) (t2 t3 t4 t6 t8 t20 t21 : AV) (kc : ASt → RO) (kx : KO (AV × List AObj)) : z7w m ⟨H,[(2,t2),(3,t3),(4,t4),(6,t6),(8,t8),(20,t20),(21,t21)]⟩ kc kx =
 zED none false false .lss t21 (V (.int .i64 16)) fun t22 =>
 z0U t22 (
  zla false (some (16,1)) t20 t21 fun t24 =>
  z0b (some (16,18)) t4 fun t29 =>
  zbF 16 1 t29 t21 fun t30 =>
  z0l 1 H t30 fun t31 =>
  zaG (z11 m [(ro H t2),(ro H t24),(ro H t31)] H) fun t32 H2 =>
  zEN t32 0 fun t33 =>
  zEN t32 1 fun t34 =>
  zED none false false .neq t34 (V (.int .i64 0)) fun t36 =>
  z0U t36 (
   z0X (some z0V) (some zc_api_Crate) [] fun t37 =>
   z0s 69 H2 t6 t37 fun H3 =>
   kx .ret ⟨H3,[(6,t6),(7,t34),(8,t8)]⟩) (
   z0b (some (3,18)) t3 fun t41 =>
   zbF 16 1 t41 t21 fun t42 =>
   z0l 1 H2 t42 fun t43 =>
   zED none false false .eql t33 t43 fun t44 =>
   z0U t44 (
    z0b (some (19,18)) t8 fun t46 =>
    zbF 16 1 t46 t21 fun t47 =>
    z0s 1 H2 t47 (V (.bool true)) fun H3 =>
    zF4 (some (z2j,5)) H3 (V (.slice none 0 0)) t24 fun t51 H4 =>
    z0b (some (16,18)) t4 fun t53 =>
    zbF 16 1 t53 t21 fun t54 =>
    z0l 1 H4 t54 fun t55 =>
    z0l 1 H3 t54 fun t8033 =>
    eqE t55 t8033 (
    z0b (some (35,34)) t8 fun t56 =>
    z0b (some (0,18)) t56 fun t57 =>
    zbF 16 1 t57 t21 fun t58 =>
    z0s 1 H4 t58 t51 fun H5 =>
    z0l 1 H5 t54 fun t8038 =>
    eqE t55 t8038 (
    z0b (some (35,34)) t8 fun t59 =>
    z0b (some (16,18)) t59 fun t60 =>
    zbF 16 1 t60 t21 fun t61 =>
    z0s 1 H5 t61 t55 fun H6 =>
    z4L m H.length kc kx (ghS 8 0 z2J 0 ⟨H6,[(2,t2),(3,t3),(4,t4),(6,t6),(8,t8),(20,t20),(21,t21)]⟩)))) (
    z4L m H.length kc kx (ghS 8 0 z2J 0 ⟨H2,[(2,t2),(3,t3),(4,t4),(6,t6),(8,t8),(20,t20),(21,t21)]⟩)))) (
  kx (.exit 0) ⟨H,[(6,t6),(7, .nil),(8,t8)]⟩) := by
 refine (z2v _ _ _ _ _ _ _ _ _ _ _ _).trans ?_
 kernel_rfl
theorem zcp (m : Nat) (t0 t1 t2 : AV) (H : List AObj) : z5Q m t0 t1 t2 H =
 zE6 z0O H t0 fun t3 H2 =>
 zE6 z0A H2 t1 fun t4 H3 =>
 z1G (some zc_api_Crate) z0m H3 fun t6 H4 =>
 z0l 34 H4 t4 fun t13 =>
 z3o (z2p m [(ro H4 t13)]) [(ro H4 t13)] fun t14 =>
 unE .not t14 fun t15 =>
 z0U t15 (
  z0X (some z0V) (some zc_api_Crate) [] fun t16 =>
  z0s 69 H4 t6 t16 fun H5 =>
  z0l 69 H5 t6 fun t9000 =>
  z84 H.length H5 (ro H5 (TU [noT t9000,noT (V (.int .i64 1))]))) (
  z0l 21 H4 t3 fun t17 =>
  z0X (some z0V) (some zc_api_Crate) [(0,t17)] fun t18 =>
  z1G (some zc_api_Crate) z0m H4 fun t8 H5 =>
  z0s 69 H5 t8 t18 fun H6 =>
  z0b (some (0,18)) t4 fun t19 =>
  z0l 18 H6 t19 fun t20 =>
  zc7 m (z7w m) ⟨H6,[(2,t2),(3,t3),(4,t4),(6,t6),(8,t8),(20,t20),(21,(V (.int .i64 0)))]⟩ (z4k 0 (zCu (fun s=>z7y m H.length ⟨s.H,[(6,gt s.T 6),(8,gt s.T 8)]⟩) (z4c H.length)))) := by
 refine (zsU Tryd.prog GG (z1e m) m ⟨64,[]⟩ H.length z1W parcel_Begin_h ⟨H,z2t 0 [t0,t1,t2]⟩ [.cell 6 47, .tmp 7]).trans ?_
 kernel_rfl
def z5R (m : Nat) : List AV → List AObj → RO|[t0,t1,t2],H=>z5Q m t0 t1 t2 H|_,_=>none
theorem zcb (m : Nat) : ∀ args H X H',z5R m args H = some (X,H') → AC Tryd.prog GG 11 args H (Is X H') := by
 intro args H X H' h
 unfold z5R at h
 split at h
 ·exact z7O MIX (by
  intro f e h
  simp only [z1e,Prod.mk.injEq,List.mem_cons,List.not_mem_nil,or_false] at h
  rcases h with ⟨rfl,rfl⟩|⟨rfl,rfl⟩
  ·exact z7L m
  ·exact z5v m) (f := 11) (c := z1W) Tryd.func11 rfl (by kernel_rfl) _ rfl Tryd.ntmps11 (Nat.le_of_ble_eq_true rfl) parcel_Begin_h h
 ·cases h
def z3h : Code := (Tryd.f13.body).getD .skip
def parcel_Need_h : Hint := (.two .n (.two .n (.join [3] (.two .n (.one (.lp [(3,z2J,1)] [3,7,8] [3] (.two .n (.two (.two .n .n) (.join [3,7,8] (.one (.two .n (.two .n (.two .n .n)))) .n)))))) (.two .n .n))))
def z30 (m : Nat) : Env := []
abbrev z4Q : KO (AV × List AObj) := z69 Tryd.prog [.tmp 2]
def z5U (m : Nat) (n0 : Nat) (kc : ASt → RO) (kx : KO (AV × List AObj)) (s : ASt) : RO := z3n Tryd.prog GG (z30 m) m ⟨20,[]⟩ (cdR (cdR (cdR (cdL (cdL (cdR (cdL (cdR (cdR z3h))))))))) parcel_Need_h.r.r.l.r.c.c.r.r.r s (zfV n0 [3,7,8] [3] kc kx)
def z8F (m : Nat) (s : ASt) : RO := z3n Tryd.prog GG (z30 m) m ⟨20,[]⟩ (cdR (cdR (cdR z3h))) parcel_Need_h.r.r.r s (z4Q)
def z8Z (m : Nat) (s : ASt) (kc : ASt → RO) (kx : KO (AV × List AObj)) : RO := zdP Tryd.prog GG (z30 m) m ⟨20,[]⟩ (cdL (cdL (cdR (cdL (cdR (cdR z3h)))))) parcel_Need_h.r.r.l.r.c.c [3,7,8] [3] s kc kx
def z59 (m : Nat) (t0 : AV) : RO := zF9 Tryd.prog GG (z30 m) m ⟨20,[]⟩ z3h parcel_Need_h ⟨[],z2t 0 [t0]⟩ (z4Q)
theorem z62 (m : Nat) (n0 : Nat) (kc : ASt → RO) (kx : KO (AV × List AObj)) (H : List AObj) (t3 t7 t8 : AV) : z5U m n0 kc kx ⟨H,[(3,t3),(7,t7),(8,t8)]⟩ =
 zED none false false .add t8 (V (.int .i64 1)) fun t18 =>
 zd5 n0 H [(3,t3),(7,t7),(8,t18)] kc := by
 refine (z0o _ _ _ _ _ _ _ _ _).trans ?_
 kernel_rfl
theorem zav (m : Nat) (H : List AObj) (t3 : AV) : z8F m ⟨H,[(3,t3)]⟩ =
 z4l H (ro H t3) := by
 refine (z0o _ _ _ _ _ _ _ _ _).trans ?_
 kernel_rfl
theorem zaM (m : Nat) (H : List AObj) (t3 t7 t8 : AV) (kc : ASt → RO) (kx : KO (AV × List AObj)) : z8Z m ⟨H,[(3,t3),(7,t7),(8,t8)]⟩ kc kx =
 zED none false false .lss t8 (V (.int .i64 16)) fun t9 =>
 z0U t9 (
  zla false (some (16,1)) t7 t8 fun t11 =>
  unE .not t11 fun t13 =>
  z0U t13 (
   z3z (some (z2J,1)) 1 [(0,t8)] fun t16 =>
   zF4 (some (z2J,1)) H t3 t16 fun t17 H2 =>
   z5U m H.length kc kx ⟨H2,[(3,t17),(7,t7),(8,t8)]⟩) (
   z5U m H.length kc kx ⟨H,[(3,t3),(7,t7),(8,t8)]⟩)) (
  kx (.exit 0) ⟨H,[(3,t3)]⟩) := by
 refine (z2v _ _ _ _ _ _ _ _ _ _ _ _).trans ?_
 kernel_rfl
theorem zdM (m : Nat) (t0 : AV) : z59 m t0 =
 zE6 z0m [] t0 fun t1 H1 =>
 z0b (some (19,18)) t1 fun t6 =>
 z0l 18 H1 t6 fun t7 =>
 zFn (V (.slice none 0 0)) z2J 1 H1 fun t3 H2 =>
 zc7 m (z8Z m) ⟨H2,[(3,t3),(7,t7),(8,(V (.int .i64 0)))]⟩ (z4k 0 (zCu (fun s=>z8F m ⟨s.H,[(3,gt s.T 3)]⟩) (z4Q))) := by
 refine (zhg _ _ _ _ _ _ _ _ _).trans ?_
 kernel_rfl
def z4G (m : Nat) : List AV → RO|[t0]=>z59 m t0|_=>none
theorem z8w (m : Nat) : ∀ args X H',z4G m args = some (X,H') → ACp Tryd.prog GG 13 args X := by
 intro args X H' h
 unfold z4G at h
 split at h
 ·exact z2A MIX (by intro f e h;cases h) (f := 13) (c := z3h) Tryd.func13 rfl (by kernel_rfl) _ rfl Tryd.ntmps13 (Nat.le_of_ble_eq_true rfl) parcel_Need_h h
 ·cases h
def z3H : Code := (Tryd.f32.body).getD .skip
def parcel_items_h : Hint := (.two .n (.two .n (.join [1,4] (.two .n (.one (.lp [(4,z41,1)] [1,4,11,12,13] [1,4] (.two .n (.two (.two .n .n) (.two (.one (.two .n .n)) .n)))))) (.two .n (.two .n .n)))))
def z2z (m : Nat) : Env := [(51, .tell (zaZ m))]
abbrev z4h : KO (AV × List AObj) := z69 Tryd.prog [.tmp 2, .tmp 3]
def z7u (m : Nat) (s : ASt) : RO := z3n Tryd.prog GG (z2z m) m ⟨42,[]⟩ (cdR (cdR (cdR z3H))) parcel_items_h.r.r.r s (z4h)
def z7v (m : Nat) (s : ASt) (kc : ASt → RO) (kx : KO (AV × List AObj)) : RO := zdP Tryd.prog GG (z2z m) m ⟨42,[]⟩ (cdL (cdL (cdR (cdL (cdR (cdR z3H)))))) parcel_items_h.r.r.l.r.c.c [1,4,11,12,13] [1,4] s kc kx
def z5B (m : Nat) (t0 : AV) : RO := zF9 Tryd.prog GG (z2z m) m ⟨42,[]⟩ z3H parcel_items_h ⟨[],z2t 0 [t0]⟩ (z4h)
theorem z9n (m : Nat) (H : List AObj) (t1 t4 : AV) : z7u m ⟨H,[(1,t1),(4,t4)]⟩ =
 z3o (zaZ m [(ro H t4)]) [(ro H t4)] fun t25 =>
 zEN t25 0 fun t26 =>
 zEN t25 1 fun t27 =>
 zEN t25 2 fun t28 =>
 zED none false false .eql t27 (V (.int .i64 0)) fun t31 =>
 z0U t31 (
  z0b (some (1,1)) t1 fun t33 =>
  z0l 1 H t33 fun t34 =>
  zED none false false .geq t34 (V (.int .i64 0)) fun t35 =>
  z0U t35 (
  z0b (some (1,1)) t1 fun t38 =>
  z0l 1 H t38 fun t39 =>
  zED none false false .leq t39 (V (.int .i64 2147483647)) fun t40 =>
  z4l H (ro H (TU [noT t26,noT t40]))) (
  z4l H (ro H (TU [noT t26,noT (V (.bool false))])))) (
  z4l H (ro H (TU [noT t26,noT (V (.bool false))]))) := by
 refine (z0o _ _ _ _ _ _ _ _ _).trans ?_
 kernel_rfl
theorem z9g (m : Nat) (H : List AObj) (t1 t4 t11 t12 t13 : AV) (kc : ASt → RO) (kx : KO (AV × List AObj)) : z7v m ⟨H,[(1,t1),(4,t4),(11,t11),(12,t12),(13,t13)]⟩ kc kx =
 zED none false false .lss t13 t12 fun t14 =>
 z0U t14 (
  zcV 1 H t11 t13 fun t15 =>
  z0l 1 H t15 fun t16 =>
  zkv false none true false true (ro H t16) fun t19 =>
  z3z (some (z41,1)) 1 [(0,t19)] fun t20 =>
  zF4 (some (z41,1)) H t4 t20 fun t21 H2 =>
  zED none false false .add t13 (V (.int .i64 1)) fun t22 =>
  zd5 H.length H2 [(1,t1),(4,t21),(11,t11),(12,t12),(13,t22)] kc) (
  kx (.exit 0) ⟨H,[(1,t1),(4,t4)]⟩) := by
 refine (z2v _ _ _ _ _ _ _ _ _ _ _ _).trans ?_
 kernel_rfl
theorem zcl (m : Nat) (t0 : AV) : z5B m t0 =
 zE6 z0S [] t0 fun t1 H1 =>
 z0b (some (2,1)) t1 fun t10 =>
 z0l 1 H1 t10 fun t11 =>
 zEU false true H1 t11 fun t12 =>
 zFn (V (.slice none 0 0)) z41 1 H1 fun t4 H2 =>
 zc7 m (z7v m) ⟨H2,[(1,t1),(4,t4),(11,t11),(12,t12),(13,(V (.int .i64 0)))]⟩ (z4k 0 (zCu (fun s=>z7u m ⟨s.H,[(1,gt s.T 1),(4,gt s.T 4)]⟩) (z4h))) := by
 refine (zhg _ _ _ _ _ _ _ _ _).trans ?_
 kernel_rfl
def z5s (m : Nat) : List AV → RO|[t0]=>z5B m t0|_=>none
theorem zco (m : Nat) : ∀ args X H',z5s m args = some (X,H') → ACp Tryd.prog GG 32 args X := by
 intro args X H' h
 unfold z5s at h
 split at h
 ·exact z2A MIX (by
  intro f e h
  simp only [z2z,Prod.mk.injEq,List.mem_cons,List.not_mem_nil,or_false] at h
  obtain ⟨rfl,rfl⟩ := h
  ·exact zk3 m) (f := 32) (c := z3H) Tryd.func32 rfl (by kernel_rfl) _ rfl Tryd.ntmps32 (Nat.le_of_ble_eq_true rfl) parcel_items_h h
 ·cases h
def z2g : Code := (Tryd.f14.body).getD .skip
def parcel_Cut_h : Hint := (.two .n (.join [1,2,4] (.one (.two .n (.two (.two .n .n) (.join [1,2,4,14] .n (.two (.two .n .n) .n))))) (.gh (6,2,z1b,1) [1,2,4,6] .n (.join [4,6] (.two .n (.one (.lp [] [4,6,34,35,36] [4,6] (.two .n (.two (.two .n .n) (.two (.one (.two .n .n)) .n)))))) (.two .n .n)))))
def z1m (m : Nat) : Env := [(18, .tell (z2R m)),(31, .tell (z2k m))]
abbrev z1T : KO (AV × List AObj) := z69 Tryd.prog [.cell 4 55, .tmp 5]
def za6 (m : Nat) (s : ASt) : RO := z3n Tryd.prog GG (z1m m) m ⟨49,[]⟩ (cdR (cdR (cdR (cdR z2g)))) parcel_Cut_h.r.r.r.r s (z1T)
def z9Y (m : Nat) (s : ASt) (kc : ASt → RO) (kx : KO (AV × List AObj)) : RO := zdP Tryd.prog GG (z1m m) m ⟨49,[]⟩ (cdL (cdL (cdR (cdL (cdR (cdR (cdR z2g))))))) parcel_Cut_h.r.r.r.l.r.c.c [4,6,34,35,36] [4,6] s kc kx
def z9E (m : Nat) (s : ASt) : RO := z3n Tryd.prog GG (z1m m) m ⟨49,[]⟩ (cdR (cdR (cdR z2g))) parcel_Cut_h.r.r.r s (z1T)
def z6Z (m : Nat) (s : ASt) : RO := z3n Tryd.prog GG (z1m m) m ⟨49,[]⟩ (cdR (cdR z2g)) parcel_Cut_h.r.r s (z1T)
def z6W (m : Nat) (s : ASt) : RO := z3n Tryd.prog GG (z1m m) m ⟨49,[]⟩ (cdR (cdR (cdR (cdL (cdL (cdR z2g)))))) parcel_Cut_h.r.l.c.r.r.r s (z4k 0 (zCu (fun s=>z6Z m ⟨s.H,[(1,gt s.T 1),(2,gt s.T 2),(4,gt s.T 4)]⟩) (z1T)))
def z8G (m : Nat) (t0 t1 : AV) : RO := zF9 Tryd.prog GG (z1m m) m ⟨49,[]⟩ z2g parcel_Cut_h ⟨[],z2t 0 [t0,t1]⟩ (z1T)
theorem zbw (m : Nat) (H : List AObj) (t4 t6 : AV) : za6 m ⟨H,[(4,t4),(6,t6)]⟩ =
 z0l 5 H t6 fun t48 =>
 z0s 5 H t4 t48 fun H2 =>
 z0l 5 H2 t4 fun t9000 =>
 z4l H2 (ro H2 (TU [noT t9000,noT (V (.int .i64 0))])) := by
 refine (z0o _ _ _ _ _ _ _ _ _).trans ?_
 kernel_rfl
theorem zbA (m : Nat) (H : List AObj) (t4 t6 t34 t35 t36 : AV) (kc : ASt → RO) (kx : KO (AV × List AObj)) : z9Y m ⟨H,[(4,t4),(6,t6),(34,t34),(35,t35),(36,t36)]⟩ kc kx =
 zED none false false .lss t36 t35 fun t37 =>
 z0U t37 (
  zcV 1 H t34 t36 fun t38 =>
  z0l 1 H t38 fun t39 =>
  z0b (some (2,1)) t6 fun t40 =>
  z0l 1 H t40 fun t41 =>
  zkv false none true true false (ro H t39) fun t43 =>
  z3z (some (z1b,1)) 1 [(0,t43)] fun t44 =>
  zF4 (some (z1b,1)) H t41 t44 fun t45 H2 =>
  z0b (some (2,1)) t6 fun t46 =>
  z0s 1 H2 t46 t45 fun H3 =>
  zED none false false .add t36 (V (.int .i64 1)) fun t47 =>
  zd5 H.length H3 [(4,t4),(6,t6),(34,t34),(35,t35),(36,t47)] kc) (
  kx (.exit 1) ⟨H,[(4,t4),(6,t6)]⟩) := by
 refine (z2v _ _ _ _ _ _ _ _ _ _ _ _).trans ?_
 kernel_rfl
theorem zbK (m : Nat) (H : List AObj) (t1 t2 t4 t6 : AV) : z9E m ⟨H,[(1,t1),(2,t2),(4,t4),(6,t6)]⟩ =
 z0b (some (0,34)) t2 fun t30 =>
 z0b (some (0,18)) t30 fun t31 =>
 zbF 16 1 t31 t1 fun t32 =>
 z0l 1 H t32 fun t33 =>
 z3o (z2k m [(ro H t33)]) [(ro H t33)] fun t34 =>
 zEU false true H t34 fun t35 =>
 zc7 m (z9Y m) ⟨H,[(4,t4),(6,t6),(34,t34),(35,t35),(36,(V (.int .i64 0)))]⟩ (z4k 1 (zCu (fun s=>za6 m ⟨s.H,[(4,gt s.T 4),(6,gt s.T 6)]⟩) (z1T))) := by
 refine (z0o _ _ _ _ _ _ _ _ _).trans ?_
 kernel_rfl
theorem zbH (m : Nat) (H : List AObj) (t1 t2 t4 : AV) : z6Z m ⟨H,[(1,t1),(2,t2),(4,t4)]⟩ =
 z0b (some (0,34)) t2 fun t24 =>
 z0b (some (16,18)) t24 fun t25 =>
 zbF 16 1 t25 t1 fun t26 =>
 z0l 1 H t26 fun t27 =>
 z0X (some z4p) (some z1H) [(0,t1),(1,t27)] fun t28 =>
 z1G (some z1H) z0S H fun t6 H2 =>
 z0s 5 H2 t6 t28 fun H3 =>
 z9E m (ghS 6 2 z1b 1 ⟨H3,[(1,t1),(2,t2),(4,t4),(6,t6)]⟩) := by
 refine (z0o _ _ _ _ _ _ _ _ _).trans ?_
 kernel_rfl
theorem zby (m : Nat) (H : List AObj) (t1 t2 t4 t14 : AV) : z6W m ⟨H,[(1,t1),(2,t2),(4,t4),(14,t14)]⟩ =
 z0U t14 (
  z0X (some z4p) (some z1H) [] fun t21 =>
  z0s 5 H t4 t21 fun H2 =>
  z0l 5 H2 t4 fun t9000 =>
  z4l H2 (ro H2 (TU [noT t9000,noT (V (.int .i64 4))]))) (
  z6Z m ⟨H,[(1,t1),(2,t2),(4,t4)]⟩) := by
 refine (z0o _ _ _ _ _ _ _ _ _).trans ?_
 kernel_rfl
theorem zeT (m : Nat) (t0 t1 : AV) : z8G m t0 t1 =
 zE6 z03 [] t0 fun t2 H1 =>
 z1G (some z1H) z0S H1 fun t4 H2 =>
 z0l 37 H2 t2 fun t10 =>
 z3o (z4n m (ro H2 t10)) [(ro H2 t10)] fun t11 =>
 unE .not t11 fun t12 =>
 z0U t12 (
  z0X (some z4p) (some z1H) [] fun t13 =>
  z0s 5 H2 t4 t13 fun H3 =>
  z0l 5 H3 t4 fun t9000 =>
  z4l H3 (ro H3 (TU [noT t9000,noT (V (.int .i64 1))]))) (
  zED none false false .lss t1 (V (.int .i64 0)) fun t16 =>
  z0U t16 (
   z6W m ⟨H2,[(1,t1),(2,t2),(4,t4),(14,(V (.bool true)))]⟩) (
   zED none false false .geq t1 (V (.int .i64 16)) fun t19 =>
   z6W m ⟨H2,[(1,t1),(2,t2),(4,t4),(14,t19)]⟩)) := by
 refine (zhg _ _ _ _ _ _ _ _ _).trans ?_
 kernel_rfl
def z81 (m : Nat) : List AV → RO|[t0,t1]=>z8G m t0 t1|_=>none
theorem zf4 (m : Nat) : ∀ args X H',z81 m args = some (X,H') → ACp Tryd.prog GG 14 args X := by
 intro args X H' h
 unfold z81 at h
 split at h
 ·exact z2A MIX (by
  intro f e h
  simp only [z1m,Prod.mk.injEq,List.mem_cons,List.not_mem_nil,or_false] at h
  rcases h with ⟨rfl,rfl⟩|⟨rfl,rfl⟩
  ·exact z4b m
  ·exact z8z m) (f := 14) (c := z2g) Tryd.func14 rfl (by kernel_rfl) _ rfl Tryd.ntmps14 (Nat.le_of_ble_eq_true rfl) parcel_Cut_h h
 ·cases h
def z3b : Code := (Tryd.f15.body).getD .skip
def parcel_Take_h : Hint := (.two .n (.join [1,3,5,6] (.join [1,3,5,6,20] .n (.two (.two .n .n) .n)) (.two (.two .n (.two (.two .n .n) .n)) (.two .n (.two (.two .n (.two (.two .n .n) .n)) (.two .n (.two (.one (.two .n (.two (.two .n .n) (.two .n (.two (.two .n .n) .n))))) (.two .n (.two (.two .n (.two (.two .n .n) .n)) (.two .n (.two .n (.two .n .n))))))))))))
def z23 (m : Nat) : Env := [(32, .tell (z5s m)),(29, .keep (z11 m)),(33, .tell (z2Y m))]
abbrev z4O (n0 : Nat) : KO (AV × List AObj) := zbr Tryd.prog n0 [.cell 6 47, .tmp 7]
def z5V (m : Nat) (n0k : Nat) (s : ASt) : RO := z3n Tryd.prog GG (z23 m) m ⟨81,[]⟩ (cdR (cdR z3b)) parcel_Take_h.r.r s (z4O n0k)
def z5C (m : Nat) (n0k : Nat) (s : ASt) : RO := z3n Tryd.prog GG (z23 m) m ⟨81,[]⟩ (cdR (cdL (cdR z3b))) parcel_Take_h.r.l.r s (zCu (fun s=>z5V m n0k ⟨s.H,[(1,gt s.T 1),(3,gt s.T 3),(5,gt s.T 5),(6,gt s.T 6)]⟩) (z4O n0k))
def z7h (m : Nat) (t0 t1 t2 : AV) (H : List AObj) : RO := zF9 Tryd.prog GG (z23 m) m ⟨81,[]⟩ z3b parcel_Take_h ⟨H,z2t 0 [t0,t1,t2]⟩ (z4O H.length)
theorem zaI (m : Nat) (n0k : Nat) (H : List AObj) (t1 t3 t5 t6 : AV) : z5V m n0k ⟨H,[(1,t1),(3,t3),(5,t5),(6,t6)]⟩ =
 z0b (some (0,1)) t5 fun t22 =>
 z0l 1 H t22 fun t23 =>
 z0b (some (19,18)) t3 fun t24 =>
 zbF 16 1 t24 t23 fun t25 =>
 z0l 1 H t25 fun t26 =>
 z0U t26 (
  z0X (some z0V) (some zc_api_Crate) [] fun t27 =>
  z0s 69 H t6 t27 fun H2 =>
  z0l 69 H2 t6 fun t9000 =>
  z84 n0k H2 (ro H2 (TU [noT t9000,noT (V (.int .i64 16))]))) (
  z0l 5 H t5 fun t29 =>
  z3o (z5B m (ro H t29)) [(ro H t29)] fun t30 =>
  zEN t30 0 fun t31 =>
  zEN t30 1 fun t32 =>
  unE .not t32 fun t34 =>
  z0U t34 (
   z0X (some z0V) (some zc_api_Crate) [] fun t35 =>
   z0s 69 H t6 t35 fun H2 =>
   z0l 69 H2 t6 fun t9000 =>
   z84 n0k H2 (ro H2 (TU [noT t9000,noT (V (.int .i64 3))]))) (
   z0b (some (1,1)) t5 fun t39 =>
   z0l 1 H t39 fun t40 =>
   zaG (z11 m [(ro H t1),(ro H t31),(ro H t40)] H) fun t41 H2 =>
   zEN t41 0 fun t42 =>
   zEN t41 1 fun t43 =>
   zED none false false .neq t43 (V (.int .i64 0)) fun t46 =>
   z0U t46 (
    z0X (some z0V) (some zc_api_Crate) [] fun t47 =>
    z0s 69 H2 t6 t47 fun H3 =>
    z0l 69 H3 t6 fun t9000 =>
    z84 n0k H3 (ro H3 (TU [noT t9000,noT t43]))) (
    z0b (some (0,1)) t5 fun t51 =>
    z0l 1 H2 t51 fun t52 =>
    z0b (some (0,21)) t3 fun t53 =>
    z0b (some (3,18)) t53 fun t54 =>
    zbF 16 1 t54 t52 fun t55 =>
    z0l 1 H2 t55 fun t56 =>
    zED none false false .neq t42 t56 fun t57 =>
    z0U t57 (
     z0X (some z0V) (some zc_api_Crate) [] fun t58 =>
     z0s 69 H2 t6 t58 fun H3 =>
     z0l 69 H3 t6 fun t9000 =>
     z84 n0k H3 (ro H3 (TU [noT t9000,noT (V (.int .i64 19))]))) (
     z0b (some (35,34)) t3 fun t60 =>
     z0l 34 H2 t60 fun t61 =>
     z0b (some (0,1)) t5 fun t62 =>
     z0l 1 H2 t62 fun t63 =>
     z0b (some (1,1)) t5 fun t65 =>
     z0l 1 H2 t65 fun t66 =>
     z3o (z2Y m [(ro H2 t61),(ro H2 t63),(ro H2 t31),(ro H2 t66)]) [(ro H2 t61),(ro H2 t63),(ro H2 t31),(ro H2 t66)] fun t67 =>
     zEN t67 0 fun t68 =>
     zEN t67 1 fun t69 =>
     z1G (some z2W) z0A H2 fun t12 H3 =>
     z0s 34 H3 t12 t68 fun H4 =>
     zED none false false .neq t69 (V (.int .i64 0)) fun t71 =>
     z0U t71 (
      z0X (some z0V) (some zc_api_Crate) [] fun t72 =>
      z0s 69 H4 t6 t72 fun H5 =>
      z0l 69 H5 t6 fun t9000 =>
      z84 n0k H5 (ro H5 (TU [noT t9000,noT t69]))) (
      z0l 34 H4 t12 fun t74 =>
      z0b (some (35,34)) t3 fun t75 =>
      z0s 34 H4 t75 t74 fun H5 =>
      z0b (some (0,1)) t5 fun t76 =>
      z0l 1 H5 t76 fun t77 =>
      z0b (some (19,18)) t3 fun t78 =>
      zbF 16 1 t78 t77 fun t79 =>
      z0s 1 H5 t79 (V (.bool true)) fun H6 =>
      z0l 69 H6 t3 fun t80 =>
      z0s 69 H6 t6 t80 fun H7 =>
      z0l 69 H7 t6 fun t9000 =>
      z84 n0k H7 (ro H7 (TU [noT t9000,noT (V (.int .i64 0))]))))))) := by
 refine (z0o _ _ _ _ _ _ _ _ _).trans ?_
 kernel_rfl
theorem zax (m : Nat) (n0k : Nat) (H : List AObj) (t1 t3 t5 t6 t20 : AV) : z5C m n0k ⟨H,[(1,t1),(3,t3),(5,t5),(6,t6),(20,t20)]⟩ =
 z0U t20 (
  z0X (some z0V) (some zc_api_Crate) [] fun t21 =>
  z0s 69 H t6 t21 fun H2 =>
  z0l 69 H2 t6 fun t9000 =>
  z84 n0k H2 (ro H2 (TU [noT t9000,noT (V (.int .i64 4))]))) (
  z5V m n0k ⟨H,[(1,t1),(3,t3),(5,t5),(6,t6)]⟩) := by
 refine (z0o _ _ _ _ _ _ _ _ _).trans ?_
 kernel_rfl
theorem zej (m : Nat) (t0 t1 t2 : AV) (H : List AObj) : z7h m t0 t1 t2 H =
 zE6 z0m H t0 fun t3 H2 =>
 zE6 z0S H2 t2 fun t5 H3 =>
 z1G (some zc_api_Crate) z0m H3 fun t6 H4 =>
 z0b (some (0,1)) t5 fun t13 =>
 z0l 1 H4 t13 fun t14 =>
 zED none false false .lss t14 (V (.int .i64 0)) fun t15 =>
 z0U t15 (
  z5C m H.length ⟨H4,[(1,t1),(3,t3),(5,t5),(6,t6),(20,(V (.bool true)))]⟩) (
  z0b (some (0,1)) t5 fun t17 =>
  z0l 1 H4 t17 fun t18 =>
  zED none false false .geq t18 (V (.int .i64 16)) fun t19 =>
  z5C m H.length ⟨H4,[(1,t1),(3,t3),(5,t5),(6,t6),(20,t19)]⟩) := by
 refine (zsU Tryd.prog GG (z23 m) m ⟨81,[]⟩ H.length z3b parcel_Take_h ⟨H,z2t 0 [t0,t1,t2]⟩ [.cell 6 47, .tmp 7]).trans ?_
 kernel_rfl
def z6N (m : Nat) : List AV → List AObj → RO|[t0,t1,t2],H=>z7h m t0 t1 t2 H|_,_=>none
theorem zdf (m : Nat) : ∀ args H X H',z6N m args H = some (X,H') → AC Tryd.prog GG 15 args H (Is X H') := by
 intro args H X H' h
 unfold z6N at h
 split at h
 ·exact z7O MIX (by
  intro f e h
  simp only [z23,Prod.mk.injEq,List.mem_cons,List.not_mem_nil,or_false] at h
  rcases h with ⟨rfl,rfl⟩|⟨rfl,rfl⟩|⟨rfl,rfl⟩
  ·exact zco m
  ·exact z5v m
  ·exact zbI m) (f := 15) (c := z3b) Tryd.func15 rfl (by kernel_rfl) _ rfl Tryd.ntmps15 (Nat.le_of_ble_eq_true rfl) parcel_Take_h h
 ·cases h
def zai : Code := (Tryd.f16.body).getD .skip
def z9J : Hint := (.two .n (.two (.two .n (.two (.two .n .n) .n)) (.two .n (.two (.two .n (.two (.two .n .n) .n)) (.two .n .n)))))
def z7z (m : Nat) : Env := [(13, .tell (z4G m)),(18, .tell (z2R m))]
abbrev zcn : KO (AV × List AObj) := z69 Tryd.prog [.cell 2 28, .tmp 3]
def z7g (m : Nat) (t0 : AV) : RO := zF9 Tryd.prog GG (z7z m) m ⟨27,[]⟩ zai z9J ⟨[],z2t 0 [t0]⟩ (zcn)
theorem zdS (m : Nat) (t0 : AV) : z7g m t0 =
 zE6 z0m [] t0 fun t1 H1 =>
 z1G (some zc_api_Store) z03 H1 fun t2 H2 =>
 z0l 69 H2 t1 fun t5 =>
 z3o (z59 m (ro H2 t5)) [(ro H2 t5)] fun t6 =>
 zEU false true H2 t6 fun t7 =>
 zED none false false .gtr t7 (V (.int .i64 0)) fun t8 =>
 z0U t8 (
  z0X (some z0B) (some zc_api_Store) [] fun t9 =>
  z0s 37 H2 t2 t9 fun H3 =>
  z0l 37 H3 t2 fun t9000 =>
  z4l H3 (ro H3 (TU [noT t9000,noT (V (.int .i64 20))]))) (
  z0b (some (35,34)) t1 fun t10 =>
  z0l 34 H2 t10 fun t11 =>
  z0b (some (0,21)) t1 fun t12 =>
  z0b (some (0,1)) t12 fun t13 =>
  z0l 1 H2 t13 fun t14 =>
  z0b (some (0,21)) t1 fun t15 =>
  z0b (some (1,1)) t15 fun t16 =>
  z0l 1 H2 t16 fun t17 =>
  z0b (some (0,21)) t1 fun t18 =>
  z0b (some (2,1)) t18 fun t19 =>
  z0l 1 H2 t19 fun t20 =>
  z0X (some z0B) (some zc_api_Store) [(0,t11),(1,t14),(2,t17),(3,t20)] fun t21 =>
  z1G (some zc_api_Store) z03 H2 fun t4 H3 =>
  z0s 37 H3 t4 t21 fun H4 =>
  z0l 37 H4 t4 fun t22 =>
  z3o (z4n m (ro H4 t22)) [(ro H4 t22)] fun t23 =>
  unE .not t23 fun t24 =>
  z0U t24 (
   z0X (some z0B) (some zc_api_Store) [] fun t25 =>
   z0s 37 H4 t2 t25 fun H5 =>
   z0l 37 H5 t2 fun t9000 =>
   z4l H5 (ro H5 (TU [noT t9000,noT (V (.int .i64 1))]))) (
   z0l 37 H4 t4 fun t26 =>
   z0s 37 H4 t2 t26 fun H5 =>
   z0l 37 H5 t2 fun t9000 =>
   z4l H5 (ro H5 (TU [noT t9000,noT (V (.int .i64 0))])))) := by
 refine (zhg _ _ _ _ _ _ _ _ _).trans ?_
 kernel_rfl
def z6C (m : Nat) : List AV → RO|[t0]=>z7g m t0|_=>none
theorem zdF (m : Nat) : ∀ args X H',z6C m args = some (X,H') → ACp Tryd.prog GG 16 args X := by
 intro args X H' h
 unfold z6C at h
 split at h
 ·exact z2A MIX (by
  intro f e h
  simp only [z7z,Prod.mk.injEq,List.mem_cons,List.not_mem_nil,or_false] at h
  rcases h with ⟨rfl,rfl⟩|⟨rfl,rfl⟩
  ·exact z8w m
  ·exact z4b m) (f := 16) (c := zai) Tryd.func16 rfl (by kernel_rfl) _ rfl Tryd.ntmps16 (Nat.le_of_ble_eq_true rfl) z9J h
 ·cases h
end Go.Proofs.YtaplemeamcgpkaaDoor

section
namespace Go.Proofs.YtaplemeamcgpkaaDoor
attribute [local go_sem] Nat.zero_add Nat.add_zero Nat.mul_one Int.toNat_natCast Int.natCast_zero Int.cast_ofNat_Int or_false false_or or_true true_or Nat.sub_zero Int.natCast_nonneg Int.toNat_zero Bool.true_and Bool.and_true Bool.false_and Bool.and_false Bool.true_or Bool.or_true Bool.false_or Bool.or_false Bool.not_true Bool.not_false Bool.not_not true_and and_true false_and and_false not_true_eq_false not_false_eq_true eq_self decide_true decide_false ne_eq implies_true forall_const true_implies false_implies Bool.true_eq_false Bool.false_eq_true List.map_cons List.map_nil List.all_cons List.all_nil List.length_cons List.length_nil List.length_map List.length_append List.nil_append List.cons_append List.set_cons_zero List.set_cons_succ List.set_nil List.drop_zero List.drop_succ_cons List.drop_nil List.take_zero List.take_succ_cons List.take_nil Option.map_some Option.map_none Option.isSome_some List.all_append List.all_map Function.comp_def decide_eq_true_eq Bool.and_eq_true beq_self_eq_true or_self and_self ite_true ite_false Nat.le_refl Bool.not_eq_true decide_not Bool.not_eq_true' decide_eq_false_iff_not Bool.not_eq_false Bool.or_eq_true if_true if_false ite_self zx9 ztP zv9 zuP ztK zjS z0E z47 z7R z8E zgo z4K z6a z7q z8e z99 z4y zhO z56 z0d z0c zjo zjA zjy zje ziV z2a z5m zcg zDv zF7 zFz zEf zt0 zzX zkk zf6 zhp z6o List.append_assoc
attribute [local go_sem_proc] Nat.reduceAdd Nat.reduceSub Nat.reduceMul Nat.reduceLeDiff Nat.reduceLT Int.reduceEq Int.reduceNe Int.reduceLT Int.reduceLE Int.reduceAdd Int.reduceSub Int.reduceMul Int.reduceNeg Int.reduceToNat reduceCtorEq Nat.reduceEqDiff Nat.reduceBEq Nat.reduceGT
attribute [local go_sem_proc ↓] reduceIte
section
open Go.RowKit
def zFu (l : List Nat) : List Nat := l ++ List.replicate (16 - l.length) 0
theorem zkU {l : List Nat} (h : l.length ≤ 16) : (zFu l).length = 16 := by simp [zFu];omega
theorem zrE {l : List Nat} {x : Nat} (h : l.length < 16) : (zFu l).set l.length x = zFu (l ++ [x]) := by
 unfold zFu
 rw [List.set_append_right _ _ (Nat.le_refl _),Nat.sub_self,show 16 - l.length = (16 - (l ++ [x]).length) + 1 by simp;omega,List.replicate_succ,List.set_cons_zero,List.append_assoc]
 rfl
def mfC (s : St) (l : List Nat) : List AV := nA s.ver :: nA s.bytes :: nA s.keys :: (zFu l).map fun n : Nat=>nA (n : Int)
def mfA (s : St) (l : List Nat) : AV := .agg (mfC s l)
theorem zk7 (s : St) (l : List Nat) : mfA s l = .agg (mfC s l) := _root_.id rfl
theorem z1q {s : St} {l : List Nat} (h : l.length ≤ 16) : (mfC s l).length = 19 := by simp [mfC,zkU h]
theorem zf8 {s : St} {l : List Nat} {p : AV → Bool} (h : ∀ i : Int,p (nA i) = true) : (mfC s l).all p = true := List.all_eq_true.2 fun d hd=>by
 unfold mfC at hd
 simp only [List.mem_cons] at hd
 rcases hd with rfl|rfl|rfl|hd
 ·exact h _
 ·exact h _
 ·exact h _
 ·obtain ⟨n,_,rfl⟩ := List.mem_map.1 hd
  exact h _
section
variable {R : Type} {K1 : AV → Option R} {s : St} {l : List Nat} {n i : Nat} {H : List AObj}
theorem zbV : (mfC s l).all zCU = true := zf8 fun _=>rfl
theorem zlP : (mfC s l).all (lt1 n) = true := zf8 fun _=>rfl
theorem zvE : ((mfC s l).all fun x=>lt1 n (ro1 H x)) = true := zf8 fun _=>rfl
theorem zjE : (mfC s l).all (ltA n) = true := zf8 fun _=>rfl
theorem zr7 : (mfC s l).map (ro1 H) = mfC s l := by
 unfold mfC
 rw [List.map_cons,List.map_cons,List.map_cons,List.map_map]
 congr 3
theorem zml (h : l.length ≤ 16) : (mfC s l).take 19 = mfC s l := List.take_of_length_le (by rw [z1q h];exact Nat.le_refl _)
theorem ztF (hl : l.length ≤ 16) (h : i < 16) : zCG (mfC s l) (3 + i) K1 = K1 (nA (((zFu l).getD i 0 : Nat) : Int)) := by
 rw [show 3 + i = i + 1 + 1 + 1 by omega]
 show zCG ((zFu l).map fun n : Nat=>nA (n : Int)) i K1 = _
 exact zoE _ (by rw [zkU hl];exact h)
theorem zzk (h : l.length < 16) {x : Nat} : (mfC s l).set (3 + l.length) (nA (x : Int)) = mfC s (l ++ [x]) := by
 unfold mfC
 rw [show 3 + l.length = l.length + 1 + 1 + 1 by omega,List.set_cons_succ,List.set_cons_succ,List.set_cons_succ,← zrE h,List.map_set]
end
def mfO (s : St) (l : List Nat) : AObj := ⟨1,z0O,0,mfC s l⟩
theorem ze2 {s : St} {l : List Nat} {n : Nat} : ltO n (mfO s l) = true := by unfold ltO mfO;rw [zjE];rfl
def stO (s : St) : AObj := ⟨1,z03,0,stC s⟩
theorem zh4 {s : St} {n : Nat} : ltO n (stO s) = true := by unfold ltO stO;rw [z7Q];rfl
def zM : St := ⟨Tr.zero,0,0,0⟩
theorem ztY : z14 = mfC zM [] := _root_.id rfl
theorem bM_s {R : Type} {K : AV → Option R} {s : St} : z0X (some z31) (some (mfC zM [])) [(0,nA s.ver),(1,nA s.bytes),(2,nA s.keys)] K = K (mfA s []) := _root_.id rfl
theorem zBD {s s' : St} {l l' : List Nat} (h : l.length ≤ 16) (h' : l'.length ≤ 16) : z0e (mfC s l) 0 (mfC s' l') = mfC s' l' := z2f (by rw [z1q h,z1q h'])
theorem zkX {s : St} : (mfC s []).length = 19 := _root_.id rfl
theorem zum {s s' : St} {l' : List Nat} (h' : l'.length ≤ 16) : z0e (mfC s []) 0 (mfC s' l') = mfC s' l' := zBD (Nat.zero_le _) h'
theorem zuj {s s' : St} : z0e (mfC s []) 0 (mfC s' []) = mfC s' [] := zBD (Nat.zero_le _) (Nat.zero_le _)
theorem zo8 {s : St} : (stC s).take 16 = leC s.t := by
 unfold stC tC
 rw [List.append_assoc,List.take_left' z3C]
attribute [local go_sem] ztY zbV zlP zjE zr7
theorem zBQ (m : Nat) (A B : List AObj) (T : Tbl) (s : St) (hG : GB A B) (hT : TbOk T 145) (h : TInv s.t) (hs : zEB s = true) (hm : 1000000 < m) :
  zaY m (OP (A.length + 1) 0) (stA s) (tb A B T) = some (TU [mfA s (lvP T s.t 16).1,nA 0],tb A B (lvP T s.t 16).2) := by
 rw [zgu]
 have hM := zjp m s hm h.ok
 rw [hs] at hM
 rw [z2w] at hM ⊢
 simp (config := {maxSteps := 4000000,implicitDefEqProofs := false}) (disch := omega) only [go_sem,hM,z1a,z3l,zfl,zpg,z4t,z4i,z7P,z5A,z88,zo8,bM_s,zk7,zkX,zuj]
 refine z65 (m := m) (ι := {k : Nat // k ≤ 16}) (fun k=>⟨tb A B (lvP T s.t k.1).2 ++ [⟨1,z03,0,stC s⟩,⟨1,z0O,0,mfC zM []⟩,⟨1,z0O,0,mfC s (lvP T s.t k.1).1⟩],[(0,OP (A.length + 1) 0),(3,OP (nT A B) 0),(4,OP (nT A B + 1) 0),(6,OP (nT A B + 2) 0),(24, .agg (leC s.t)),(25,nA k.1)]⟩) (fun k=>16 - k.1) (fun _=>some (TU [mfA s (lvP T s.t 16).1,nA 0],tb A B (lvP T s.t 16).2)) ?_ ⟨0,Nat.zero_le _⟩ (by dsimp only;omega)
 rintro kx hkx ⟨k,hk⟩ kc hkc
 dsimp only at hkc ⊢
 rw [zcm]
 obtain ⟨h1,h2,h3⟩ := zdC h (n := 1) k hk hT
 by_cases hlt : k < 16
 ·have hlt' : (k : Int) < 16 := by omega
  have step := hkc ⟨k + 1,by omega⟩ (by dsimp only;omega)
  dsimp only at step
  rw [z7Y] at step
  have hf := h.fit hlt
  generalize hp : lvP T s.t k = p at *
  obtain ⟨acc,U⟩ := p
  dsimp only at h1 h2 h3 step ⊢
  have hL := z7a m A (B ++ [stO s,mfO zM [],mfO s acc]) U (s.t.leaf k) (s.t.ver k).toNat (hG.app fun n _=>by simp [zh4,ze2]) (h1.less (by omega)) hf.lf hf.nm hf.v1
  rw [z8M,z8M,← hf.v0] at hL
  have hT2 := fun n=>zh4 (s := s) (n := n)
  have hT3 := fun (s : St) (l : List Nat) n=>ze2 (s := s) (l := l) (n := n)
  unfold stO mfO at hL
  unfold stO at hT2
  unfold mfO at hT3
  have hw1 : IntKind.i64.wrap ((k : Int) + 1) = (k : Int) + 1 := z0C (by omega) (by omega)
  unfold lvS at step
  dsimp only at step
  generalize hq : z7H U (s.t.leaf k) (s.t.ver k).toNat = q at *
  have hset := zzk (s := s) (l := acc) (x := q.1) (by omega)
  rw [h2] at hset
  have hlt2 := zjt (T := q.2) hG (n := nT A B + 3) (by omega)
  have h4 : A.length + 1 < nT A B + 3 := by unfold nT;omega
  have h5 : nT A B < nT A B + 3 := by omega
  have h6 : nT A B + 1 < nT A B + 3 := by omega
  have h7 : nT A B + 2 < nT A B + 3 := by omega
  have h8 : 3 + k ≤ 18 := by omega
  have h9 : acc.length ≤ 16 := by omega
  rw [z5m] at hL
  simp (config := {maxSteps := 4000000,implicitDefEqProofs := false}) (disch := omega) only [go_sem,hlt,hlt',zEg,zjF,hL,hw1,hlt2,hT2,hT3,hset,z1q,h9,zBy,z1a,h4,h5,h6,h7,h8,Nat.add_lt_add_iff_left]
  exact step
 ·have hlt' : ¬ (k : Int) < 16 := by omega
  obtain rfl : k = 16 := by omega
  have hlt2 := zjt (T := (lvP T s.t 16).2) hG (Nat.le_refl _)
  have h7 : nT A B ≤ nT A B + 3 := by omega
  simp (config := {maxSteps := 4000000,implicitDefEqProofs := false}) (disch := omega) only [go_sem,hlt',hkx,zct,zkX,zum,z1q,zml,h2,zvE,hlt2,h7]
  rfl
end

section
open Go.RowKit
def gC (g : Nat → Bool) : List AV := (List.range 16).map fun i=>bA (g i)
theorem zce {g : Nat → Bool} : (gC g).length = 16 := by simp [gC]
def crC (s : St) (l : List Nat) (g : Nat → Bool) (u : Tr) : List AV := mfC s l ++ (gC g ++ tC u)
def crA (s : St) (l : List Nat) (g : Nat → Bool) (u : Tr) : AV := .agg (crC s l g u)
theorem zad (s : St) (l : List Nat) (g : Nat → Bool) (u : Tr) : crA s l g u = .agg (crC s l g u) := _root_.id rfl
theorem zhY {s : St} {l : List Nat} {g : Nat → Bool} {u : Tr} {p : AV → Bool} (h1 : ∀ i : Int,p (nA i) = true) (h2 : ∀ b : Bool,p (bA b) = true) (h3 : ∀ l : List Item,p (lA l) = true) : (crC s l g u).all p = true := by
 unfold crC
 rw [List.all_append,List.all_append,zf8 h1,zlg h3 h1,Bool.and_true,Bool.true_and]
 refine List.all_eq_true.2 fun d hd=>?_
 obtain ⟨i,_,rfl⟩ := List.mem_map.1 hd
 exact h2 _
section
variable {R : Type} {K1 : AV → Option R} {s : St} {l : List Nat} {g : Nat → Bool} {u : Tr} {n i : Nat} {H : List AObj}
theorem z4E (h : l.length ≤ 16) : (crC s l g u).length = 67 := by
 unfold crC
 rw [List.length_append,List.length_append,z1q h,zce,z0E]
theorem z8t : (crC s l g u).all zCU = true := zhY (fun _=>rfl) (fun _=>rfl) fun _=>rfl
theorem zjG : (crC s l g u).all (lt1 n) = true := zhY (fun _=>rfl) (fun _=>rfl) fun _=>rfl
theorem zjr : (crC s l g u).all (ltA n) = true := zhY (fun _=>rfl) (fun _=>rfl) fun _=>rfl
theorem zpX : ((crC s l g u).all fun x=>lt1 n (ro1 H x)) = true := zhY (fun _=>rfl) (fun _=>rfl) fun _=>rfl
theorem zAR : (gC g).map (ro1 H) = gC g := by unfold gC;rw [List.map_map];rfl
theorem zmF : (crC s l g u).map (ro1 H) = crC s l g u := by unfold crC;rw [List.map_append,List.map_append,zr7,zAR,zgo]
theorem z8S (h : l.length ≤ 16) : (crC s l g u).take 67 = crC s l g u := List.take_of_length_le (by rw [z4E h];exact Nat.le_refl _)
theorem zyB : zCG (crC s l g u) 0 K1 = K1 (nA s.ver) := _root_.id rfl
theorem zrR : zCG (crC s l g u) 1 K1 = K1 (nA s.bytes) := _root_.id rfl
theorem zuJ : zCG (crC s l g u) 2 K1 = K1 (nA s.keys) := _root_.id rfl
theorem zBN (hl : l.length ≤ 16) (h : i < 16) : zCG (crC s l g u) (3 + i) K1 = K1 (nA (((zFu l).getD i 0 : Nat) : Int)) := by
 refine Eq.trans ?_ (ztF (s := s) hl h)
 unfold zCG crC
 rw [List.getElem?_append_left (by rw [z1q hl];omega)]
theorem zA5 (hl : l.length ≤ 16) (h : i < 16) : zCG (crC s l g u) (19 + i) K1 = K1 (bA (g i)) := by
 unfold zCG crC
 rw [List.getElem?_append_right (by rw [z1q hl];omega),z1q hl,Nat.add_sub_cancel_left,List.getElem?_append_left (by rw [zce];exact h)]
 unfold gC
 rw [List.getElem?_map,List.getElem?_range h];rfl
theorem zAM (hl : l.length ≤ 16) : ((crC s l g u).drop 35).take 32 = tC u := by
 unfold crC
 rw [← List.append_assoc,List.drop_left' (by rw [List.length_append,z1q hl,zce]),z4K]
theorem zuV (hl : l.length ≤ 16) : ((crC s l g u).drop 19).take 16 = gC g := by
 unfold crC
 rw [List.drop_left' (z1q hl),List.take_left' zce]
theorem zzh (h : i < 16) {b : Bool} : (gC g).set i (bA b) = gC fun j=>if j = i then b else g j := by
 unfold gC
 refine List.ext_getElem (by simp) fun j h1 h2=>?_
 rw [List.getElem_set]
 simp only [List.getElem_map,List.getElem_range]
 by_cases e : i = j
 ·subst e;simp
 ·rw [if_neg e,if_neg fun q=>e q.symm]
theorem zpJ (hl : l.length ≤ 16) (h : i < 16) {b : Bool} : (crC s l g u).set (19 + i) (bA b) = crC s l (fun j=>if j = i then b else g j) u := by
 unfold crC
 rw [List.set_append_right _ _ (by rw [z1q hl];omega),z1q hl,Nat.add_sub_cancel_left,List.set_append_left _ _ (by rw [zce];exact h),zzh h]
theorem zAU (hl : l.length ≤ 16) {j : Nat} {d : AV} : (crC s l g u).set (35 + j) d = mfC s l ++ (gC g ++ (tC u).set j d) := by
 unfold crC
 rw [List.set_append_right _ _ (by rw [z1q hl];omega),z1q hl,List.set_append_right _ _ (by rw [zce];omega),zce,show 35 + j - 19 - 16 = j by omega]
theorem zu1 (hl : l.length ≤ 16) (h : i < 16) {L : List Item} : (crC s l g u).set (35 + i) (lA L) = crC s l g (u.setL i L) := by
 rw [zAU hl]
 unfold crC
 rw [← z0d h];rfl
theorem zts (hl : l.length ≤ 16) (h : i < 16) {v : Int} : (crC s l g u).set (51 + i) (nA v) = crC s l g (u.setV i v) := by
 rw [show 51 + i = 35 + (16 + i) by omega,zAU hl]
 unfold crC
 have := z0c (t := u) (i := 16 + i) (v := v) (by omega) (by omega)
 rw [Nat.add_sub_cancel_left] at this
 rw [← this]
theorem zw9 (hl : l.length ≤ 16) {u' : Tr} : z0e (crC s l g u) 35 (tC u') = crC s l g u' := by
 rw [z1r _ _ _ (by rw [z4E hl,z0E];omega),z0E]
 unfold crC
 rw [← List.append_assoc,List.take_left' (by rw [List.length_append,z1q hl,zce]),List.drop_of_length_le (by rw [List.length_append,List.length_append,z1q hl,zce,z0E];omega),List.append_nil,List.append_assoc]
end
def crZ (s : St) (l : List Nat) : List AV := mfC s l ++ (gC (fun _=>false) ++ zC)
theorem zzg {s : St} {l : List Nat} {H : List AObj} : (crZ s l).map (ro1 H) = crC s l (fun _=>false) Tr.zero := by unfold crZ crC;rw [List.map_append,List.map_append,zr7,zAR,zhO]
theorem zln {s : St} {l : List Nat} (h : l.length ≤ 16) : (crZ s l).length = 67 := by
 unfold crZ
 rw [List.length_append,List.length_append,z1q h,zce,z7q]
theorem zpN {s : St} {l : List Nat} {n : Nat} : (crZ s l).all (ltA n) = true := by
 unfold crZ
 rw [List.all_append,List.all_append,zjE,z8e,Bool.and_true,Bool.true_and]
 refine List.all_eq_true.2 fun d hd=>?_
 obtain ⟨i,_,rfl⟩ := List.mem_map.1 hd
 rfl
theorem zuF : zc_api_Crate = crZ zM [] := _root_.id rfl
theorem bC_m {R : Type} {K : AV → Option R} {s : St} {l : List Nat} (h : l.length ≤ 16) : z0X (some z0V) (some zc_api_Crate) [(0, .agg (mfC s l))] K = K (.agg (crZ s l)) := by
 have h1 : aFill (z0V[·]?) [(0, .agg (mfC s l))] zc_api_Crate = some (crZ s l) := by
  show (if (mfC s l).length = 19 ∧ 0 + (mfC s l).length ≤ zc_api_Crate.length ∧ (mfC s l).all zCU = true then some (z0e zc_api_Crate 0 (mfC s l)) else none) = _
  rw [if_pos ⟨z1q h,by rw [z1q h];decide,zbV⟩,zuF,z1r _ _ _ (by rw [z1q h,zln (Nat.zero_le _)];omega),z1q h]
  unfold crZ
  rw [List.drop_left' (z1q (Nat.zero_le _))]
  rfl
 show (match aFill (z0V[·]?) [(0, .agg (mfC s l))] zc_api_Crate with|some cs=>K (.agg cs)|none=>none) = _
 rw [h1]
theorem zB8 {H : List AObj} {T : Tm} {i j off : Nat} {e : TypeId} {ob : AObj} (h1 : get T i = OP j 0) (h2 : H[j]? = some ob) (h3 : ob.k = 1) : ghS i off e 0 ⟨H,T⟩ = ⟨H.set j { ob with c := ob.c.map (ro1 H) },T⟩ := by
 show zCD i ⟨H,T⟩ = _
 unfold zCD
 rw [h1]
 change (match H[j]? with|some ob=>_|none=>_) = _
 rw [h2]
 dsimp only
 split
 ·rfl
 ·rename_i q;exact absurd h3 q
def gB (a l : List Nat) (k : Nat) : Nat → Bool := fun i=>decide (i < k ∧ a.getD i 0 = l.getD i 0)
def tB (t : Tr) (a l : List Nat) (k : Nat) : Tr := ⟨fun i=>if i < k ∧ a.getD i 0 = l.getD i 0 then t.leaf i else [],fun i=>if i < k ∧ a.getD i 0 = l.getD i 0 then t.ver i else 0⟩
theorem znZ {p q : Prop} [Decidable p] [Decidable q] {α : Type} {a b : α} (h : p ↔ q) : (if p then a else b) = if q then a else b := by
 by_cases hp : p
 ·rw [if_pos hp,if_pos (h.1 hp)]
 ·rw [if_neg hp,if_neg fun k=>hp (h.2 k)]
theorem zzd {a l : List Nat} {k : Nat} (h : a.getD k 0 = l.getD k 0) : (fun j=>if j = k then true else gB a l k j) = gB a l (k + 1) := by
 funext j
 unfold gB
 by_cases e : j = k
 ·subst e
  rw [if_pos rfl]
  exact (decide_eq_true ⟨Nat.lt_succ_self _,h⟩).symm
 ·rw [if_neg e]
  exact decide_eq_decide.2 ⟨fun q=>⟨by omega,q.2⟩,fun q=>⟨by omega,q.2⟩⟩
theorem zBV {a l : List Nat} {k : Nat} (h : ¬ a.getD k 0 = l.getD k 0) : gB a l (k + 1) = gB a l k := by
 funext j
 unfold gB
 refine decide_eq_decide.2 ⟨fun q=>⟨?_,q.2⟩,fun q=>⟨by omega,q.2⟩⟩
 rcases Nat.lt_or_ge j k with h1|h1
 ·exact h1
 ·exact absurd (by rw [show k = j by omega];exact q.2) h
theorem zzY {t : Tr} {a l : List Nat} {k : Nat} (h : a.getD k 0 = l.getD k 0) : ((tB t a l k).setL k (t.leaf k)).setV k (t.ver k) = tB t a l (k + 1) := by
 unfold tB Tr.setL Tr.setV
 dsimp only
 congr 1
 ·funext j
  by_cases e : j = k
  ·subst e;rw [if_pos rfl,if_pos ⟨Nat.lt_succ_self _,h⟩]
  ·rw [if_neg e]
   exact znZ ⟨fun q=>⟨by omega,q.2⟩,fun q=>⟨by omega,q.2⟩⟩
 ·funext j
  by_cases e : j = k
  ·subst e;rw [if_pos rfl,if_pos ⟨Nat.lt_succ_self _,h⟩]
  ·rw [if_neg e]
   exact znZ ⟨fun q=>⟨by omega,q.2⟩,fun q=>⟨by omega,q.2⟩⟩
theorem zC2 {t : Tr} {a l : List Nat} {k : Nat} (h : ¬ a.getD k 0 = l.getD k 0) : tB t a l (k + 1) = tB t a l k := by
 have key : ∀ j,(j < k + 1 ∧ a.getD j 0 = l.getD j 0) ↔ (j < k ∧ a.getD j 0 = l.getD j 0) := fun j=>by
  refine ⟨fun q=>⟨?_,q.2⟩,fun q=>⟨by omega,q.2⟩⟩
  rcases Nat.lt_or_ge j k with h1|h1
  ·exact h1
  ·exact absurd (by rw [show k = j by omega];exact q.2) h
 unfold tB
 congr 1
 ·funext j;exact znZ (key j)
 ·funext j;exact znZ (key j)
def bgX (s : St) (t : Tr) (a l : List Nat) : Nat → List AV
 |0=>crZ s l
 |k + 1=>crC s l (gB a l (k + 1)) (tB t a l (k + 1))
theorem zAp {s : St} {t : Tr} {a l : List Nat} {H : List AObj} : ∀ k,(bgX s t a l k).map (ro1 H) = crC s l (gB a l k) (tB t a l k)
 |0=>by
  have h1 : gB a l 0 = fun _=>false := by funext j;simp [gB]
  have h2 : tB t a l 0 = Tr.zero := by simp [tB,Tr.zero]
  rw [h1,h2];exact zzg
 |k + 1=>zmF
theorem zvJ {s : St} {t : Tr} {a l : List Nat} (h : l.length ≤ 16) : ∀ k,(bgX s t a l k).length = 67
 |0=>zln h
 |k + 1=>z4E h
theorem zwu {s : St} {t : Tr} {a l : List Nat} {n : Nat} : ∀ k,(bgX s t a l k).all (ltA n) = true
 |0=>zpN
 |k + 1=>zjr
theorem zvi {T : Tbl} {t : Tr} (h : TInv t) {n : Nat} (hT : TbOk T (16 * 9 + n)) {k : Nat} (hk : k < 16) : (lvP T t 16).1.getD k 0 = (z7H (lvP T t k).2 (t.leaf k) (t.ver k).toNat).1 := by
 have key : ∀ j,k + 1 + j ≤ 16 → (lvP T t (k + 1 + j)).1.getD k 0 = (z7H (lvP T t k).2 (t.leaf k) (t.ver k).toNat).1 := by
  intro j
  induction j with
  |zero =>
   intro _
   have h2 := (zdC h k (by omega) hT).2.1
   rw [Nat.add_zero,z7Y]
   unfold lvS
   dsimp only
   rw [List.getD_eq_getElem?_getD,List.getElem?_append_right (by omega),h2]
   simp
  |succ j ih =>
   intro hj
   have h2 := (zdC h (k + 1 + j) (by omega) hT).2.1
   rw [show k + 1 + (j + 1) = (k + 1 + j) + 1 by omega,z7Y]
   rw [← ih (by omega)]
   unfold lvS
   dsimp only
   rw [List.getD_eq_getElem?_getD,List.getElem?_append_left (by omega),← List.getD_eq_getElem?_getD]
 have := key (16 - (k + 1)) (by omega)
 rwa [show k + 1 + (16 - (k + 1)) = 16 by omega] at this
end

section
open Go.RowKit
theorem ziA {l : List Nat} (h : l.length = 16) : zFu l = l := by
 unfold zFu
 rw [h,Nat.sub_self]
 exact List.append_nil l
theorem zrD {s : St} {l : List Nat} : (crZ s l).all zCU = true := by
 unfold crZ
 rw [List.all_append,List.all_append,zbV,z4y,Bool.and_true,Bool.true_and]
 refine List.all_eq_true.2 fun d hd=>?_
 obtain ⟨i,_,rfl⟩ := List.mem_map.1 hd
 rfl
theorem zcF : zc_api_Crate.length = 67 := _root_.id rfl
theorem zpn {n : Nat} : zc_api_Crate.all (ltA n) = true := by rw [zuF];exact zpN
theorem zkI {c : List AV} (h : c.length = 67) : z0e zc_api_Crate 0 c = c := z2f (by rw [h,zcF])
theorem zux {A B Y : List AObj} {T : Tbl} {L : List Item} {k : Nat} (h : Y[k]? = some ⟨2,z2j,5,L.map (flA Item.cells)⟩) : ro1 (tb A B T ++ Y) (OW (nT A B + k) L.length) = lA L := by
 show (match (tb A B T ++ Y)[nT A B + k]? with|some o=>if o.k = 2 ∧ L.length = o.c.length then SL o.c else OW (nT A B + k) L.length|none=>OW (nT A B + k) L.length) = _
 rw [zwF,h]
 exact if_pos ⟨rfl,by rw [List.length_map]⟩
theorem znU {s : St} {l a : List Nat} {t : Tr} {k j : Nat} {X : List AV} {H : List AObj} (hl : l.length ≤ 16) (hk : k < 16) (hX : X.map (ro1 H) = crC s l (gB a l k) (tB t a l k)) (he : a.getD k 0 = l.getD k 0) (hr : ro1 H (OW j (t.leaf k).length) = lA (t.leaf k)) :
  (((X.set (19 + k) (bA true)).set (35 + k) (OW j (t.leaf k).length)).set (51 + k) (nA (t.ver k))).map (ro1 H) = crC s l (gB a l (k + 1)) (tB t a l (k + 1)) := by
 rw [List.map_set,List.map_set,List.map_set,hX,hr]
 show (((crC s l (gB a l k) (tB t a l k)).set (19 + k) (bA true)).set (35 + k) (lA (t.leaf k))).set (51 + k) (nA (t.ver k)) = _
 rw [zpJ hl hk,zu1 hl hk,zts hl hk,zzd he,zzY he]
attribute [local go_sem] zbV zlP zjE zr7
theorem zqY (m : Nat) (A B : List AObj) (T : Tbl) (s : St) (l : List Nat) (t : Tr) (hG : GB A B) (hT : TbOk T 145) (h : TInv t) (hl : l.length = 16) (hm : 1000000 < m) :
  z5Q m (mfA s l) (tA t) (OP (A.length + 1) 0) (tb A B T) = some (TU [crA s l (gB (lvP T t 16).1 l 16) (tB t (lvP T t 16).1 l 16),nA 0],tb A B (lvP T t 16).2) := by
 rw [zcp,zk7]
 have hM := z9d m t h.ok
 rw [h.may] at hM
 rw [z2a] at hM ⊢
 have hl' : l.length ≤ 16 := by omega
 have hb := fun {K : AV → RO}=>bC_m (K := K) (s := s) hl'
 have hlen := z1q (s := s) hl'
 have htk := zml (s := s) hl'
 have hz := zln (s := s) hl'
 have hsc := zkI (c := crZ s l) hz
 simp (config := {maxSteps := 4000000,implicitDefEqProofs := false}) (disch := omega) only [go_sem,hM,z8H,hlen,htk,hb,hz,zrD,zcF,hsc]
 refine z65 (m := m) (ι := {k : Nat // k ≤ 16}) (fun k=>⟨tb A B (lvP T t k.1).2 ++ [⟨1,z0O,0,mfC s l⟩,⟨1,z0A,0,tC t⟩,⟨1,z0m,0,zc_api_Crate⟩,⟨1,z0m,0,bgX s t (lvP T t 16).1 l k.1⟩],[(2,OP (A.length + 1) 0),(3,OP (nT A B) 0),(4,OP (nT A B + 1) 0),(6,OP (nT A B + 2) 0),(8,OP (nT A B + 3) 0),(20, .agg (leC t)),(21,nA k.1)]⟩) (fun k=>16 - k.1) (fun _=>some (TU [crA s l (gB (lvP T t 16).1 l 16) (tB t (lvP T t 16).1 l 16),nA 0],tb A B (lvP T t 16).2)) ?_ ⟨0,Nat.zero_le _⟩ (by dsimp only;omega)
 rintro kx hkx ⟨k,hk⟩ kc hkc
 dsimp only at hkc ⊢
 rw [z9h]
 obtain ⟨h1,_,_⟩ := zdC h (n := 1) k hk hT
 by_cases hlt : k < 16
 ·have hlt' : (k : Int) < 16 := by omega
  have hX := fun (H : List AObj)=>zAp (s := s) (t := t) (a := (lvP T t 16).1) (l := l) (H := H) k
  have hXl := zvJ (s := s) (t := t) (a := (lvP T t 16).1) (l := l) hl' k
  have hXt := fun n=>zwu (s := s) (t := t) (a := (lvP T t 16).1) (l := l) (n := n) k
  have step := hkc ⟨k + 1,by omega⟩ (by dsimp only;omega)
  dsimp only at step
  have hnx : bgX s t (lvP T t 16).1 l (k + 1) = crC s l (gB (lvP T t 16).1 l (k + 1)) (tB t (lvP T t 16).1 l (k + 1)) := rfl
  rw [hnx] at step
  have hg := zvi h (n := 1) hT hlt
  rw [z7Y] at step
  generalize hp : lvP T t k = p at *
  generalize (lvP T t 16).1 = a at *
  generalize (lvP T t 16).2 = fin at *
  generalize bgX s t a l k = X at *
  obtain ⟨acc,U⟩ := p
  dsimp only at h1 hg step ⊢
  have hf := h.fit hlt
  unfold lvS at step
  dsimp only at step
  have hC2 : ∀ n,ltO n (⟨1,z0m,0,zc_api_Crate⟩ : AObj) = true := fun n=>by unfold ltO;rw [zpn];rfl
  have hC3 : ∀ n,ltO n (⟨1,z0m,0,X⟩ : AObj) = true := fun n=>by unfold ltO;rw [hXt];rfl
  have hL := z7a m A (B ++ [mfO s l,zDG t,⟨1,z0m,0,zc_api_Crate⟩,⟨1,z0m,0,X⟩]) U (t.leaf k) (t.ver k).toNat (hG.app fun n _=>by simp [zcY,ze2,hC2,hC3]) (h1.less (by omega)) hf.lf hf.nm hf.v1
  rw [z8M,z8M,← hf.v0] at hL
  have hT2 := fun n=>zcY (t := t) (n := n)
  have hT3 := fun n=>ze2 (s := s) (l := l) (n := n)
  unfold mfO zDG at hL
  unfold zDG at hT2
  unfold mfO at hT3
  have hw1 : IntKind.i64.wrap ((k : Int) + 1) = (k : Int) + 1 := z0C (by omega) (by omega)
  generalize hq : z7H U (t.leaf k) (t.ver k).toNat = q at *
  have hlt2 := zjt (T := q.2) hG (n := nT A B + 4) (by omega)
  have h4 : A.length + 1 < nT A B + 4 := by unfold nT;omega
  have h5 : nT A B < nT A B + 4 := by omega
  have h6 : nT A B + 1 < nT A B + 4 := by omega
  have h7 : nT A B + 2 < nT A B + 4 := by omega
  have h8 : nT A B + 3 < nT A B + 4 := by omega
  have hmn := fun {K : AV → RO}=>ztF (s := s) (l := l) (i := k) (K1 := K) hl' hlt
  rw [ziA hl] at hmn
  have h12 : nT A B ≤ nT A B + 1 := Nat.le_succ _
  have h9 : 19 + k ≤ 66 := by omega
  have h10 : 35 + k + 1 ≤ 67 := by omega
  have h11 : 51 + k + 1 ≤ 67 := by omega
  have hlf : (t.leaf k).length ≤ 34359738368 := by have := ((z0D _).1 hf.lf).1;omega
  rw [z5m] at hL
  by_cases he : a.getD k 0 = l.getD k 0
  ·have he' : (q.1 : Int) = ((l.getD k 0 : Nat) : Int) := by rw [← he,hg]
   simp (config := {maxSteps := 4000000,implicitDefEqProofs := false}) (disch := omega) only [go_sem,hlt,hlt',zEg,zjF,hL,hw1,hmn,he',hT2,hT3,hC2,hC3,hlt2,h4,h5,h6,h7,h8,hlen,hXl,Nat.add_lt_add_iff_left,h9,h10,h11,hlf,zwO,List.length_set]
   have hr := zux (A := A) (B := B) (T := q.2) (L := t.leaf k) (k := 4) (Y := [⟨1,z0O,0,mfC s l⟩,⟨1,z0A,0,tC t⟩,⟨1,z0m,0,zc_api_Crate⟩,⟨1,z0m,0,((X.set (19 + k) (bA true)).set (35 + k) (OW (nT A B + 4) (t.leaf k).length)).set (51 + k) (nA (t.ver k))⟩,⟨2,z2j,5,(t.leaf k).map (flA Item.cells)⟩]) rfl
   have hbc := znU hl' hlt (hX _) he hr
   rw [zB8 (j := nT A B + 3) rfl (zwF (k := 3)) rfl,zt0]
   dsimp only [List.set_cons_succ,List.set_cons_zero]
   rw [hbc]
   have hC4 : ∀ n,ltO n (⟨1,z0m,0,crC s l (gB a l (k + 1)) (tB t a l (k + 1))⟩ : AObj) = true := fun n=>by unfold ltO;rw [zjr];rfl
   simp (config := {maxSteps := 4000000,implicitDefEqProofs := false}) (disch := omega) only [go_sem,z57,hT2,hT3,hC2,hC4,hlt2,h4,h5,h6,h7,h8,h12,hw1,zjF]
   exact step
  ·have he' : ¬ (q.1 : Int) = ((l.getD k 0 : Nat) : Int) := by rw [← hg];omega
   simp (config := {maxSteps := 4000000,implicitDefEqProofs := false}) (disch := omega) only [go_sem,hlt,hlt',zEg,zjF,hL,hw1,hmn,he',hT2,hT3,hC2,hC3,hlt2,h4,h5,h6,h7,h8,hlen,hXl,Nat.add_lt_add_iff_left]
   rw [zB8 (j := nT A B + 3) rfl (zwF (k := 3)) rfl,zt0]
   dsimp only [List.set_cons_succ,List.set_cons_zero]
   rw [hX]
   rw [zBV he,zC2 he] at step
   have hC4 : ∀ n,ltO n (⟨1,z0m,0,crC s l (gB a l k) (tB t a l k)⟩ : AObj) = true := fun n=>by unfold ltO;rw [zjr];rfl
   simp (config := {maxSteps := 4000000,implicitDefEqProofs := false}) (disch := omega) only [go_sem,z57,hT2,hT3,hC2,hC4,hlt2,h4,h5,h6,h7,h8,hw1,zjF]
   exact step
 ·have hlt' : ¬ (k : Int) < 16 := by omega
  obtain rfl : k = 16 := by omega
  have hlt2 := zjt (T := (lvP T t 16).2) hG (Nat.le_refl _)
  have h7 : nT A B ≤ nT A B + 4 := by omega
  have hnx : bgX s t (lvP T t 16).1 l 16 = crC s l (gB (lvP T t 16).1 l 16) (tB t (lvP T t 16).1 l 16) := rfl
  have hcl := z4E (s := s) (l := l) (g := gB (lvP T t 16).1 l 16) (u := tB t (lvP T t 16).1 l 16) hl'
  have hct := z8S (s := s) (l := l) (g := gB (lvP T t 16).1 l 16) (u := tB t (lvP T t 16).1 l 16) hl'
  have hsc2 := zkI hcl
  rw [hnx]
  simp (config := {maxSteps := 4000000,implicitDefEqProofs := false}) (disch := omega) only [go_sem,hlt',hkx,z9k,hcl,hct,zcF,hsc2,z8t,zmF,zpX,hlt2,h7]
  rfl
end

section
open Go.RowKit
attribute [local go_sem] zbV zlP zjE zr7
def zDn (g : Nat → Bool) (k : Nat) : List Nat := (List.range k).filter fun i=>!g i
theorem zmZ (g : Nat → Bool) (k : Nat) : zDn g (k + 1) = if g k then zDn g k else zDn g k ++ [k] := by
 unfold zDn
 rw [List.range_succ,List.filter_append]
 cases h : g k with
 |true=>rw [List.filter_cons_of_neg (by simp [h]),List.filter_nil,List.append_nil];rfl
 |false=>rw [List.filter_cons_of_pos (by simp [h]),List.filter_nil];rfl
theorem zrY (g : Nat → Bool) (k : Nat) : (zDn g k).length ≤ k := by
 unfold zDn
 have := List.length_filter_le (fun i=>!g i) (List.range k)
 rwa [List.length_range] at this
theorem ztV {g : Nat → Bool} {k : Nat} (h : k < 16) {R : Type} {K : AV → Option R} : zCG (gC g) k K = K (bA (g k)) := by
 unfold zCG gC
 rw [List.getElem?_map,List.getElem?_range h];rfl
theorem zvg {g : Nat → Bool} {n : Nat} : (gC g).all (lt1 n) = true := List.all_eq_true.2 fun d hd=>by
 obtain ⟨i,_,rfl⟩ := List.mem_map.1 hd
 rfl
theorem zyJ {X : AObj} {l : List Nat} : ro1 [X,zEo l] (OW 1 l.length) = SL (l.map fun n : Nat=>nA (n : Int)) := by
 show (if _ ∧ l.length = (zEo l).c.length then SL _ else _) = _
 exact if_pos ⟨rfl,by rw [zgR,List.length_map]⟩
theorem zpS (m : Nat) (s : St) (l : List Nat) (g : Nat → Bool) (u : Tr) (hl : l.length ≤ 16) (hm : 1000 < m) : z59 m (crA s l g u) = some (SL ((zDn g 16).map fun n : Nat=>nA (n : Int)),[]) := by
 rw [zdM,zad]
 have hgs := zuV (s := s) (l := l) (g := g) (u := u) hl
 have hcl := z4E (s := s) (l := l) (g := g) (u := u) hl
 simp (config := {maxSteps := 4000000,implicitDefEqProofs := false}) (disch := omega) only [go_sem,hcl,hgs,z8t]
 refine z65 (m := m) (ι := {k : Nat // k ≤ 16}) (fun k=>⟨[⟨1,z0m,0,crC s l g u⟩,zEo (zDn g k.1)],[(3,OW 1 (zDn g k.1).length),(7, .agg (gC g)),(8,nA k.1)]⟩) (fun k=>16 - k.1) (fun _=>some (SL ((zDn g 16).map fun n : Nat=>nA (n : Int)),[])) ?_ ⟨0,Nat.zero_le _⟩ (by dsimp only;omega)
 rintro kx hkx ⟨k,hk⟩ kc hkc
 dsimp only at hkc ⊢
 rw [zaM]
 by_cases hlt : k < 16
 ·have hlt' : (k : Int) < 16 := by omega
  have step := hkc ⟨k + 1,by omega⟩ (by dsimp only;omega)
  dsimp only at step
  rw [zmZ] at step
  have hw1 : IntKind.i64.wrap ((k : Int) + 1) = (k : Int) + 1 := z0C (by omega) (by omega)
  have hul := zrY g k
  generalize zDn g k = r at *
  have hlb : r.length + 1 ≤ 34359738368 := by omega
  have hC : ∀ n,ltO n (⟨1,z0m,0,crC s l g u⟩ : AObj) = true := fun n=>by unfold ltO;rw [zjr];rfl
  cases hg : g k with
  |true =>
   rw [hg,if_pos rfl] at step
   simp (config := {maxSteps := 4000000,implicitDefEqProofs := false}) (disch := omega) only [go_sem,hlt,hlt',ztV,zvg,hg,hw1,hC,z7E,z62]
   exact step
  |false =>
   rw [hg,if_neg (by decide),List.length_append] at step
   simp (config := {maxSteps := 4000000,implicitDefEqProofs := false}) (disch := omega) only [go_sem,hlt,hlt',ztV,zvg,hg,hw1,hC,z7E,znB,zo5,zny,zgR,zdj,hlb,z62]
   exact step
 ·have hlt' : ¬ (k : Int) < 16 := by omega
  obtain rfl : k = 16 := by omega
  simp (config := {maxSteps := 4000000,implicitDefEqProofs := false}) (disch := omega) only [go_sem,hlt',hkx,zav,zyJ]
def pcA (b v : Nat) (cs : List z0f) : AV := .agg [nA (b : Int),nA (v : Int),SL (cs.map sA)]
theorem zmx (b v : Nat) (cs : List z0f) : pcA b v cs = .agg [nA (b : Int),nA (v : Int),SL (cs.map sA)] := _root_.id rfl
theorem zys (cs : List z0f) {k : Nat} (h : k < cs.length) {R : Type} {K : AV → Option R} : zCG (cs.map sA) k K = K (sA cs[k]) := by
 unfold zCG
 rw [List.getElem?_map,List.getElem?_eq_getElem h];rfl
theorem cv_s (l : z0f) (h : l.length ≤ 34359738368) {R : Type} {K : AV → Option R} : zkv false none true false true (sA l) K = K (SL (bC l)) := by
 show z0q (decide ((⟨l.toArray⟩ : ByteArray).size ≤ 34359738368)) (K (SL (zFB ⟨l.toArray⟩))) = _
 rw [zwQ,decide_eq_true (by simpa [ByteArray.size] using h)];rfl
theorem zzD {cs : List z0f} {n : Nat} : (bbC cs).all (ltA n) = true := List.all_eq_true.2 fun d hd=>by
 obtain ⟨x,_,rfl⟩ := List.mem_map.1 hd
 rfl
def zDI (cs : List z0f) : AObj := ⟨2,z41,1,bbC cs⟩
theorem zwH {n : Nat} {cs : List z0f} : ltO n (zDI cs) = true := by
 unfold ltO
 rw [Bool.or_eq_true]
 refine .inr (List.all_eq_true.2 fun d hd=>?_)
 obtain ⟨x,_,rfl⟩ := List.mem_map.1 hd
 rfl
theorem zsw {cs : List z0f} {c : z0f} : (⟨2,z41,1,bbC cs ++ [SL (bC c)]⟩ : AObj) = zDI (cs ++ [c]) := by unfold zDI bbC;rw [List.map_append];rfl
theorem zz6 {X : AObj} {cs : List z0f} : ro1 [X,zDI cs] (OW 1 cs.length) = SL (bbC cs) := by
 show (if _ ∧ cs.length = (zDI cs).c.length then SL _ else _) = _
 exact if_pos ⟨rfl,(zlI cs).symm⟩
theorem zrN (m : Nat) (b v : Nat) (l : List Item) (hl : z3u l = true) (hn : ∀ x ∈ l,z3i x) (hv : v ≤ 2147483647) (hm : 1000 < m) : z5B m (pcA b v (z0t l)) = some (TU [lA l,bA true],[]) := by
 rw [zcl,zmx]
 obtain ⟨h64,h8,hc⟩ := z6k hl hn
 have hO := zmC m (z0t l) (by omega) (fun c h=>by have := hc c h;omega)
 rw [zdt hl hn] at hO
 generalize hcs : z0t l = cs at *
 simp (config := {maxSteps := 4000000,implicitDefEqProofs := false}) (disch := omega) only [go_sem,]
 refine z65 (m := m) (ι := {k : Nat // k ≤ cs.length}) (fun k=>⟨[⟨1,z0S,0,[nA (b : Int),nA (v : Int),SL (cs.map sA)]⟩,zDI (cs.take k.1)],[(1,OP 0 0),(4,OW 1 k.1),(11,SL (cs.map sA)),(12,nA cs.length),(13,nA k.1)]⟩) (fun k=>cs.length - k.1) (fun _=>some (TU [lA l,bA true],[])) ?_ ⟨0,Nat.zero_le _⟩ (by dsimp only;omega)
 rintro kx hkx ⟨k,hk⟩ kc hkc
 dsimp only at hkc ⊢
 rw [z9g]
 by_cases hlt : k < cs.length
 ·have hlt' : (k : Int) < (cs.length : Int) := by omega
  have step := hkc ⟨k + 1,by omega⟩ (by dsimp only;omega)
  dsimp only at step
  rw [← List.take_append_getElem hlt] at step
  have hw1 : IntKind.i64.wrap ((k : Int) + 1) = (k : Int) + 1 := z0C (by omega) (by omega)
  have hcv := fun {K : AV → RO}=>cv_s cs[k] (K := K) (by have := hc cs[k] (List.getElem_mem hlt);omega)
  have hnt := fun {K : AV → RO}=>zys cs hlt (K := K)
  have htl : (cs.take k).length = k := by rw [List.length_take];omega
  have hbl := zlI (cs.take k)
  rw [htl] at hbl
  have hlb : k + 1 ≤ 34359738368 := by omega
  have hone := zsw (cs := cs.take k) (c := cs[k])
  have hlr := fun n cs=>zwH (n := n) (cs := cs)
  generalize cs.take k = w at *
  generalize cs[k] = c at *
  unfold zDI at hone hlr step ⊢
  simp (config := {maxSteps := 4000000,implicitDefEqProofs := false}) (disch := omega) only [go_sem,hlt,hlt',hnt,hcv,hw1,hbl,hlb,hone,hlr,zzD]
  exact step
 ·have hlt' : ¬ (k : Int) < (cs.length : Int) := by omega
  obtain rfl : k = cs.length := by omega
  rw [List.take_length]
  have h1 : (0 : Int) ≤ (v : Int) := by omega
  have h2 : (v : Int) ≤ 2147483647 := by omega
  simp (config := {maxSteps := 4000000,implicitDefEqProofs := false}) (disch := omega) only [go_sem,hlt',hkx,z9n,zz6,hO,h1,h2]
theorem zCf {X0 X1 : AObj} {a b : AV} {T : Tm} (h : get T 6 = OP 2 0) : ghS 6 2 z1b 1 ⟨[X0,X1,⟨1,z0S,0,[a,b,V (.slice none 0 0)]⟩],T⟩ = ⟨[X0,X1,⟨1,z0S,0,[a,b,OW 3 0]⟩,trO []],T⟩ := by
 show ghR 6 2 z1b 1 _ = _
 unfold ghR
 rw [h]
 rfl
theorem zzO {X0 X1 X2 : AObj} {cs : List z0f} : ro1 [X0,X1,X2,trO cs] (OW 3 cs.length) = SL (cs.map sA) := by
 show (if _ ∧ cs.length = (trO cs).c.length then SL _ else _) = _
 exact if_pos ⟨rfl,by rw [zFo,List.length_map]⟩
theorem bP_z {R : Type} {K : AV → Option R} {a b : Value} : z0X (some z4p) (some [nA 0,nA 0,V (.slice none 0 0)]) [(0,V a),(1,V b)] K = K (.agg [V a,V b,V (.slice none 0 0)]) := _root_.id rfl
theorem zwK : z1H = [nA 0,nA 0,V (.slice none 0 0)] := _root_.id rfl
theorem zCq {s : St} {i : Nat} (h : i < 16) {R : Type} {K : AV → Option R} : zCG (stC s) i K = K (lA (s.t.leaf i)) := by
 rw [← zDv (t := s.t) (K1 := K) h]
 unfold zCG stC
 rw [List.getElem?_append_left (by rw [z0E];omega)]
theorem zAq (m : Nat) (s : St) (b : Nat) (h : TInv s.t) (hs : zEB s = true) (hb : b < 16) (hm : 1000000 < m) : z8G m (stA s) (nA (b : Int)) = some (TU [pcA b (s.t.ver b).toNat (z0t (s.t.leaf b)),nA 0],[]) := by
 rw [zeT]
 have hM := zjp m s hm h.ok
 rw [hs] at hM
 rw [z2w] at hM ⊢
 have hf := h.fit hb
 obtain ⟨h64,h8,hc⟩ := z6k hf.lf hf.nm
 have hb0 : ¬ (b : Int) < 0 := by omega
 have hb1 : ¬ (16 : Int) ≤ (b : Int) := by omega
 have hb2 : b < 16 := hb
 have hb3 : (b : Int) < 16 := by omega
 have hK := za1 m (s.t.leaf b) hf.nm (by omega)
 rw [show z1X (s.t.leaf b) = z0t (s.t.leaf b) from if_pos hf.lf,z5m] at hK
 have hv := hf.v0
 generalize hcs : z0t (s.t.leaf b) = cs at *
 generalize (s.t.ver b).toNat = v at *
 simp (config := {maxSteps := 4000000,implicitDefEqProofs := false}) (disch := omega) only [go_sem,hM,z1a,z3l,zpg,z4t,zBy,hb0,hb1,hb2,hb3,hv,bP_z,zby,zbH,zwK,zfl]
 rw [zCf rfl]
 simp (config := {maxSteps := 4000000,implicitDefEqProofs := false}) (disch := omega) only [go_sem,zbK,zCq,hb2,hb3,z1a,hK,zlI]
 refine z65 (m := m) (ι := {k : Nat // k ≤ cs.length}) (fun k=>⟨[⟨1,z03,0,stC s⟩,⟨1,z0S,0,[nA 0,nA 0,V (.slice none 0 0)]⟩,⟨1,z0S,0,[nA (b : Int),nA (v : Int),OW 3 k.1]⟩,trO (cs.take k.1)],[(4,OP 1 0),(6,OP 2 0),(34,SL (bbC cs)),(35,nA cs.length),(36,nA k.1)]⟩) (fun k=>cs.length - k.1) (fun _=>some (TU [pcA b v cs,nA 0],[])) ?_ ⟨0,Nat.zero_le _⟩ (by dsimp only;omega)
 rintro kx hkx ⟨k,hk⟩ kc hkc
 dsimp only at hkc ⊢
 rw [zbA]
 by_cases hlt : k < cs.length
 ·have hlt' : (k : Int) < (cs.length : Int) := by omega
  have step := hkc ⟨k + 1,by omega⟩ (by dsimp only;omega)
  dsimp only at step
  rw [← List.take_append_getElem hlt] at step
  have hw1 : IntKind.i64.wrap ((k : Int) + 1) = (k : Int) + 1 := z0C (by omega) (by omega)
  have hcv := fun {K : AV → RO}=>zDN cs[k] (K := K)
  have hnt := fun {K : AV → RO}=>zwi cs hlt (K := K)
  have htl : (cs.take k).length = k := by rw [List.length_take];omega
  have hlb : k + 1 ≤ 34359738368 := by omega
  have hone := zxa (L := cs.take k) (s := cs[k])
  have hlr := fun n L=>zsu (n := n) (L := L)
  have hS : ∀ n,ltO n (⟨1,z03,0,stC s⟩ : AObj) = true := fun n=>zh4 (s := s)
  generalize cs.take k = w at *
  generalize cs[k] = c at *
  simp (config := {maxSteps := 4000000,implicitDefEqProofs := false}) (disch := omega) only [go_sem,hlt,hlt',hnt,hcv,hw1,htl,hlb,hone,hlr,hS,zDC,zEZ,zF3,zFo]
  exact step
 ·have hlt' : ¬ (k : Int) < (cs.length : Int) := by omega
  obtain rfl : k = cs.length := by omega
  rw [List.take_length]
  simp (config := {maxSteps := 4000000,implicitDefEqProofs := false}) (disch := omega) only [go_sem,hlt',hkx,zbw,zzO]
  rfl
theorem zfj : zc_api_Store.length = 35 := _root_.id rfl
theorem zqN {s : St} : z0e zc_api_Store 0 (stC s) = stC s := zAP
theorem bS_s {R : Type} {K : AV → Option R} {u : Tr} {s : St} : z0X (some z0B) (some zc_api_Store) [(0, .agg (tC u)),(1,nA s.ver),(2,nA s.bytes),(3,nA s.keys)] K = K (stA ⟨u,s.ver,s.bytes,s.keys⟩) := by
 have f0 : z0e zc_api_Store 0 (tC u) = tC u ++ [nA 0,nA 0,nA 0] := by
  rw [z1r _ _ _ (by rw [z0E,zfj];omega),z0E]
  rfl
 have f1 : ∀ a b c x : Int,z0e (tC u ++ [nA a,nA b,nA c]) 32 [nA x] = tC u ++ [nA x,nA b,nA c] := fun a b c x=>by
  rw [z1r _ _ _ (by rw [List.length_append,z0E];exact Nat.le_of_ble_eq_true rfl),List.take_left' z0E,List.drop_append,z0E,List.drop_of_length_le (by rw [z0E];exact Nat.le_of_ble_eq_true rfl)]
  simp
 have f2 : ∀ a b c x : Int,z0e (tC u ++ [nA a,nA b,nA c]) 33 [nA x] = tC u ++ [nA a,nA x,nA c] := fun a b c x=>by
  rw [z1r _ _ _ (by rw [List.length_append,z0E];exact Nat.le_of_ble_eq_true rfl),List.take_append,List.drop_append,z0E,List.drop_of_length_le (by rw [z0E];exact Nat.le_of_ble_eq_true rfl),List.take_of_length_le (by rw [z0E];exact Nat.le_of_ble_eq_true rfl)]
  simp
 have f3 : ∀ a b c x : Int,z0e (tC u ++ [nA a,nA b,nA c]) 34 [nA x] = tC u ++ [nA a,nA b,nA x] := fun a b c x=>by
  rw [z1r _ _ _ (by rw [List.length_append,z0E];exact Nat.le_of_ble_eq_true rfl),List.take_append,List.drop_append,z0E,List.drop_of_length_le (by rw [z0E];exact Nat.le_of_ble_eq_true rfl),List.take_of_length_le (by rw [z0E];exact Nat.le_of_ble_eq_true rfl)]
  simp
 have hl : ∀ a b c : Int,(tC u ++ [nA a,nA b,nA c]).length = 35 := fun a b c=>by rw [List.length_append,z0E];rfl
 have h1 : aFill (z0B[·]?) [(0, .agg (tC u)),(1,nA s.ver),(2,nA s.bytes),(3,nA s.keys)] zc_api_Store = some (stC ⟨u,s.ver,s.bytes,s.keys⟩) := by
  show (if (tC u).length = 32 ∧ 0 + (tC u).length ≤ zc_api_Store.length ∧ (tC u).all zCU = true then aFill (z0B[·]?) [(1,nA s.ver),(2,nA s.bytes),(3,nA s.keys)] (z0e zc_api_Store 0 (tC u)) else none) = _
  rw [if_pos ⟨z0E,by rw [z0E,zfj];decide,z47⟩,f0]
  show (if 1 = 1 ∧ 32 + 1 ≤ (tC u ++ [nA 0,nA 0,nA 0]).length ∧ true = true then aFill (z0B[·]?) [(2,nA s.bytes),(3,nA s.keys)] (z0e (tC u ++ [nA 0,nA 0,nA 0]) 32 [nA s.ver]) else none) = _
  rw [if_pos ⟨rfl,by rw [hl];decide,rfl⟩,f1]
  show (if 1 = 1 ∧ 33 + 1 ≤ (tC u ++ [nA s.ver,nA 0,nA 0]).length ∧ true = true then aFill (z0B[·]?) [(3,nA s.keys)] (z0e (tC u ++ [nA s.ver,nA 0,nA 0]) 33 [nA s.bytes]) else none) = _
  rw [if_pos ⟨rfl,by rw [hl];decide,rfl⟩,f2]
  show (if 1 = 1 ∧ 34 + 1 ≤ (tC u ++ [nA s.ver,nA s.bytes,nA 0]).length ∧ true = true then some (z0e (tC u ++ [nA s.ver,nA s.bytes,nA 0]) 34 [nA s.keys]) else none) = _
  rw [if_pos ⟨rfl,by rw [hl];decide,rfl⟩,f3]
  rfl
 unfold z0X
 dsimp only
 rw [h1]
 rfl
theorem zvl (m : Nat) (s : St) (l : List Nat) (g : Nat → Bool) (u : Tr) (hl : l.length ≤ 16) (hg : zDn g 16 = []) (hu : u.Ok) (hs : zEB ⟨u,s.ver,s.bytes,s.keys⟩ = true) (hm : 1000000 < m) : z7g m (crA s l g u) = some (TU [stA ⟨u,s.ver,s.bytes,s.keys⟩,nA 0],[]) := by
 rw [zdS]
 have hN := zpS m s l g u hl (by omega)
 rw [hg] at hN
 have hM := zjp m ⟨u,s.ver,s.bytes,s.keys⟩ hm hu
 rw [hs] at hM
 have hcl := z4E (s := s) (l := l) (g := g) (u := u) hl
 have hct := z8S (s := s) (l := l) (g := g) (u := u) hl
 have htr := zAM (s := s) (l := l) (g := g) (u := u) hl
 rw [zad] at hN ⊢
 have hbS := fun {K : AV → RO}=>bS_s (K := K) (u := u) (s := s)
 generalize hq : (⟨u,s.ver,s.bytes,s.keys⟩ : St) = q at *
 rw [z2w] at hM hbS ⊢
 simp (config := {maxSteps := 4000000,implicitDefEqProofs := false}) (disch := omega) only [go_sem,hN,hM,hcl,hct,htr,hbS,z8t,zmF,zyB,zrR,zuJ,z1a,z3l,zpg,z4t,zfl,zfj,zqN,zjG,zqo]
end

section
open Go.RowKit
def pcO (b v : Nat) (cs : List z0f) : AObj := ⟨1,z0S,0,[nA (b : Int),nA (v : Int),SL (cs.map sA)]⟩
theorem zvz {b v n : Nat} {cs : List z0f} : ltO n (pcO b v cs) = true := by
 simp [ltO,pcO,ltA,lt1]
def crO (s : St) (l : List Nat) (g : Nat → Bool) (u : Tr) : AObj := ⟨1,z0m,0,crC s l g u⟩
theorem zkO {s : St} {l : List Nat} {g : Nat → Bool} {u : Tr} {n : Nat} : ltO n (crO s l g u) = true := by unfold ltO crO;rw [zjr];rfl
attribute [local go_sem] zbV zlP zjE zr7
theorem zv8 (m : Nat) (A B : List AObj) (T : Tbl) (s : St) (l : List Nat) (g : Nat → Bool) (u : Tr) (b v : Nat) (L : List Item) (hG : GB A B) (hT : TbOk T 9) (hl : l.length = 16) (hb : b < 16) (hg : g b = false) (hv : v ≤ 2147483647) (hL : z3u L = true) (hn : ∀ x ∈ L,z3i x)
  (hq : (z7H T L v).1 = l.getD b 0) (hu : u.Ok) (hr : zDE u b L v = ((u.setL b L).setV b v,0)) (hm : 1000000 < m) :
  z7h m (crA s l g u) (OP (A.length + 1) 0) (pcA b v (z0t L)) (tb A B T) = some (TU [crA s l (fun j=>if j = b then true else g j) ((u.setL b L).setV b v),nA 0],tb A B (z7H T L v).2) := by
 rw [zej,zad]
 have hl' : l.length ≤ 16 := by omega
 have hcl := z4E (s := s) (l := l) (g := g) (u := u) hl'
 have hct := z8S (s := s) (l := l) (g := g) (u := u) hl'
 have htr := zAM (s := s) (l := l) (g := g) (u := u) hl'
 have hgt := fun {K : AV → RO}=>zA5 (s := s) (g := g) (u := u) (i := b) (K1 := K) hl' hb
 have hlv := fun {K : AV → RO}=>zBN (s := s) (g := g) (u := u) (i := b) (K1 := K) hl' hb
 rw [ziA hl,← hq] at hlv
 rw [hg] at hgt
 have hI := zrN m b v L hL hn hv (by omega)
 have hLf := z7a m A (B ++ [crO s l g u,pcO b v (z0t L),⟨1,z0m,0,zc_api_Crate⟩]) T L v (hG.app fun n _=>by
  have h1 : ∀ n,ltO n (⟨1,z0m,0,zc_api_Crate⟩ : AObj) = true := fun n=>by unfold ltO;rw [zpn];rfl
  simp [zkO,zvz,h1]) hT hL hn hv
 rw [z8M,z8M] at hLf
 obtain ⟨h64,_,_⟩ := z6k hL hn
 have hR := zc9 m u b L v (by omega) hu
 rw [hr] at hR
 unfold crO pcO at hLf
 generalize hw : z7H T L v = w at *
 generalize hcs : z0t L = cs at *
 rw [zmx] at hI ⊢
 rw [z5m] at hI hLf hR
 rw [z2a] at hR
 dsimp only at hR
 have hb0 : ¬ (b : Int) < 0 := by omega
 have hb1 : ¬ (16 : Int) ≤ (b : Int) := by omega
 have hb3 : (b : Int) < 16 := by omega
 have h19 : 19 + b ≤ 66 := by omega
 generalize (u.setL b L).setV b (v : Int) = u' at *
 have hsT := zw9 (s := s) (l := l) (g := g) (u := u) (u' := u') hl'
 have hcl2 := z4E (s := s) (l := l) (g := g) (u := u') hl'
 have hsG : (crC s l g u').set (19 + b) (V (.bool true)) = _ := zpJ (s := s) (l := l) (g := g) (u := u') (b := true) hl' hb
 have hcl3 := z4E (s := s) (l := l) (g := fun j=>if j = b then true else g j) (u := u') hl'
 have hct3 := z8S (s := s) (l := l) (g := fun j=>if j = b then true else g j) (u := u') hl'
 have hsz := zkI hcl3
 have hlt2 := zjt (T := w.2) hG (Nat.le_refl _)
 have h7 : nT A B ≤ nT A B + 4 := by omega
 have h20 : 19 + b + 1 ≤ 67 := by omega
 simp (config := {maxSteps := 4000000,implicitDefEqProofs := false}) (disch := omega) only [go_sem,hcl,hct,htr,hgt,hlv,hI,hLf,hR,hb,hb0,hb1,hb3,z8t,zjG,zcF,h19,h20,h7,hcl2,hsT,hsG,hcl3,hct3,hsz,hlt2,zqG,zmF,zpX,zax,zaI]
 rfl
end

section
open Go.RowKit
def zFP (x : Tr) (g : Nat → Bool) : Tr := ⟨fun i=>if g i then x.leaf i else [],fun i=>if g i then x.ver i else 0⟩
theorem zlp {x : Tr} (h : TInv x) {g : Nat → Bool} : TInv (zFP x g) := by
 refine ⟨List.all_eq_true.2 fun i hi=>?_,fun i y hy=>?_,fun i hi=>?_⟩
 ·show zcw i (if g i then x.leaf i else []) (if g i then x.ver i else 0) = true
  cases g i with
  |true=>exact List.all_eq_true.1 h.may i hi
  |false=>exact List.all_eq_true.1 zkN i hi
 ·have hy : y ∈ (if g i then x.leaf i else []) := hy
  split at hy
  ·exact h.num i y hy
  ·cases hy
 ·show (if g i then x.leaf i else []) = []
  split
  ·exact h.out i hi
  ·rfl
theorem zs3 {x : Tr} {g : Nat → Bool} {j : Nat} : ((zFP x g).setL j (x.leaf j)).setV j (x.ver j) = zFP x (fun i=>if i = j then true else g i) := by
 unfold zFP Tr.setL Tr.setV
 dsimp only
 congr 1
 ·funext i
  by_cases e : i = j
  ·subst e;simp
  ·simp [e]
 ·funext i
  by_cases e : i = j
  ·subst e;simp
  ·simp [e]
theorem zk9 {x : Tr} {g : Nat → Bool} (h : ∀ i,i < 16 → g i = true) : (zFP x g).Eq16 x := fun i hi=>by
 unfold zFP
 dsimp only
 rw [h i hi]
 exact ⟨rfl,rfl⟩
theorem zyC {s x : Tr} {a b : List Nat} (h : ∀ i,i < 16 → a.getD i 0 = b.getD i 0 → s.leaf i = x.leaf i ∧ s.ver i = x.ver i) : tB s a b 16 = zFP x (gB a b 16) := by
 unfold tB zFP gB
 congr 1
 ·funext i
  by_cases q : i < 16 ∧ a.getD i 0 = b.getD i 0
  ·rw [if_pos q,decide_eq_true q,if_pos rfl];exact (h i q.1 q.2).1
  ·rw [if_neg q,decide_eq_false q,if_neg (by decide)]
 ·funext i
  by_cases q : i < 16 ∧ a.getD i 0 = b.getD i 0
  ·rw [if_pos q,decide_eq_true q,if_pos rfl];exact (h i q.1 q.2).2
  ·rw [if_neg q,decide_eq_false q,if_neg (by decide)]
theorem zqD {x u : Tr} (h : TInv x) (hu : TInv u) {j : Nat} (hj : j < 16) : zDE u j (x.leaf j) (x.ver j) = ((u.setL j (x.leaf j)).setV j (x.ver j),0) := by
 unfold zDE
 rw [hu.may,if_neg (by decide),if_neg (by omega),show zcw (j : Int) (x.leaf j) (x.ver j) = true from List.all_eq_true.1 h.may j (List.mem_range.2 hj),if_neg (by decide),Int.toNat_natCast]
theorem zwn {a b : List Nat} : zDn (gB a b 16) 16 = zCX a b 16 := by
 unfold zDn zCX gB
 refine List.filter_congr fun i hi=>?_
 have hi := List.mem_range.1 hi
 by_cases q : a.getD i 0 = b.getD i 0
 ·rw [decide_eq_true ⟨hi,q⟩,decide_eq_false (fun k=>k q)];rfl
 ·rw [decide_eq_false (fun k=>q k.2),decide_eq_true q];rfl
theorem zoq {a b : List Nat} : (zCX a b 16).Nodup := List.nodup_range.filter _
theorem unl_mem {a b : List Nat} {i : Nat} : i ∈ zCX a b 16 ↔ i < 16 ∧ a.getD i 0 ≠ b.getD i 0 := by
 unfold zCX
 rw [List.mem_filter,List.mem_range,decide_eq_true_eq]
theorem zhI {α : Type} [DecidableEq α] : ∀ {l : List α} (k : Nat) (h : k < l.length),l.Nodup → l[k] ∉ l.take k
 |x :: l,0,_,_=>by simp
 |x :: l,k + 1,h,hn=>by
  obtain ⟨h1,h2⟩ := List.nodup_cons.1 hn
  rw [List.take_succ_cons,List.getElem_cons_succ]
  intro hm
  rcases List.mem_cons.1 hm with e|hm
  ·exact h1 (e ▸ List.getElem_mem _)
  ·exact zhI k (by simpa using h) h2 hm
def gK (a b : List Nat) (k : Nat) : Nat → Bool := fun i=>gB a b 16 i || decide (i ∈ (zCX a b 16).take k)
theorem ztL {a b : List Nat} : gK a b 0 = gB a b 16 := by
 funext i
 unfold gK
 rw [List.take_zero,decide_eq_false (by simp),Bool.or_false]
theorem zBZ {a b : List Nat} {k : Nat} (h : k < (zCX a b 16).length) : gK a b k (zCX a b 16)[k] = false := by
 unfold gK
 have hm := unl_mem.1 (List.getElem_mem h)
 rw [decide_eq_false (zhI k h zoq),Bool.or_false]
 exact decide_eq_false fun q=>hm.2 q.2
theorem zud {a b : List Nat} {k : Nat} (h : k < (zCX a b 16).length) : (fun i=>if i = (zCX a b 16)[k] then true else gK a b k i) = gK a b (k + 1) := by
 funext i
 unfold gK
 rw [← List.take_append_getElem h]
 by_cases e : i = (zCX a b 16)[k]
 ·rw [if_pos e,decide_eq_true (List.mem_append_right _ (List.mem_singleton.2 e)),Bool.or_true]
 ·rw [if_neg e]
  congr 1
  exact decide_eq_decide.2 ⟨fun q=>List.mem_append_left _ q,fun q=>(List.mem_append.1 q).resolve_right fun q=>e (List.mem_singleton.1 q)⟩
theorem zyQ {a b : List Nat} {i : Nat} (hi : i < 16) : gK a b (zCX a b 16).length i = true := by
 unfold gK
 rw [List.take_length]
 by_cases q : a.getD i 0 = b.getD i 0
 ·rw [show gB a b 16 i = true from decide_eq_true ⟨hi,q⟩];rfl
 ·rw [decide_eq_true (unl_mem.2 ⟨hi,q⟩),Bool.or_true]
theorem ztJ {g : Nat → Bool} (h : ∀ i,i < 16 → g i = true) : zDn g 16 = [] := by
 unfold zDn
 rw [List.filter_eq_nil_iff]
 intro i hi
 rw [h i (List.mem_range.1 hi)]
 decide
theorem zue {a b : List Nat} (ha : a.length = 16) (hb : b.length = 16) : (zCX a b 16).length = 0 ↔ a = b := by
 constructor
 ·intro h
  refine ztu ha hb fun i hi=>?_
  rcases Decidable.em (a.getD i 0 = b.getD i 0) with q|q
  ·exact q
  ·have := unl_mem.2 ⟨hi,q⟩
   rw [List.eq_nil_of_length_eq_zero h] at this
   cases this
 ·rintro rfl
  unfold zCX
  rw [show (List.range 16).filter (fun i=>decide (a.getD i 0 ≠ a.getD i 0)) = [] from by rw [List.filter_eq_nil_iff];intro i _;simp]
  rfl
theorem zuB {x : St} {g : Nat → Bool} (h : ∀ i,i < 16 → g i = true) : SEq ⟨zFP x.t g,x.ver,x.bytes,x.keys⟩ x := ⟨zk9 h,rfl,rfl,rfl⟩
end

section
open Go.RowKit
def zbn : List (Nat × Nat) := [(0,16),(16,16)]
def z2D : Code := (Tryd.f7.body).getD .skip
def z2E : Hint := (.two .n (.two .n (.two .n (.two .n (.two .n .n)))))
def z24 (m : Nat) : Env := [(8, .keep (z8r m)),(27, .tell (z3w m)),(26, .tell (z3W m)),(9, .keep (zaS m))]
abbrev z4M : KO (AV × List AObj) := z69 Tryd.prog [.tmp 0]
def z0R (m : Nat) : RO := zF9 Tryd.prog GG (z24 m) m ⟨36,[]⟩ z2D z2E ⟨[],z2t 0 []⟩ (z4M)
theorem z4W (m : Nat) : z0R m =
 zaG (z7K m []) fun t7 H1 =>
 z0X (some zbn) (some z2W) [] fun t9 =>
 z3o (z32 m (V (.int .i64 1))) [(V (.int .i64 1))] fun t10 =>
 z0X (some z7d) (some z3Z) [(0,(V (.string ⟨#[97]⟩))),(1,t10)] fun t11 =>
 z3o (z3W m [(ro H1 t9),(ro H1 t11)]) [(ro H1 t9),(ro H1 t11)] fun t12 =>
 zEN t12 0 fun t13 =>
 zEN t12 1 fun t14 =>
 z1G (some z2W) z0A H1 fun t2 H2 =>
 z0s 34 H2 t2 t13 fun H3 =>
 z0l 34 H3 t2 fun t17 =>
 zaG (zbc m (ro H3 t7) (ro H3 t17) H3) fun t18 H4 =>
 zEN t18 0 fun t19 =>
 zEN t18 1 fun t20 =>
 zEN t18 2 fun t21 =>
 zEk .neq t7 (V (.pointer none)) fun t23 =>
 z0U t23 (
  zED none false false .eql t14 (V (.int .i64 0)) fun t26 =>
  z0U t26 (
  zED none false false .gtr t19 (V (.int .i64 0)) fun t30 =>
  z0U t30 (
  zED none false false .eql t21 (V (.int .i64 0)) fun t34 =>
  z4l H4 (ro H4 t34)) (
  z4l H4 (ro H4 (V (.bool false))))) (
  z4l H4 (ro H4 (V (.bool false))))) (
  z4l H4 (ro H4 (V (.bool false)))) := by
 refine (zhg _ _ _ _ _ _ _ _ _).trans ?_
 kernel_rfl
def z1n (m : Nat) : List AV → RO|[]=>z0R m|_=>none
theorem z54 (m : Nat) : ∀ args X H',z1n m args = some (X,H') → ACp Tryd.prog GG 7 args X := by
 intro args X H' h
 unfold z1n at h
 split at h
 ·exact z2A MIX (by
  intro f e h
  simp only [z24,Prod.mk.injEq,List.mem_cons,List.not_mem_nil,or_false] at h
  rcases h with ⟨rfl,rfl⟩|⟨rfl,rfl⟩|⟨rfl,rfl⟩|⟨rfl,rfl⟩
  ·exact zcP m
  ·exact z9o m
  ·exact zc3 m
  ·exact zeM m) (f := 7) (c := z2D) Tryd.func7 rfl (by kernel_rfl) _ rfl Tryd.ntmps7 (Nat.le_of_ble_eq_true rfl) z2E h
 ·cases h
def z09 : Code := (Tryd.f3.body).getD .skip
def plenumtop_PlenumParcels_h : Hint := (.two .n (.two .n (.join [1,2] (.two .n (.two .n .n)) (.two .n (.two (.two .n (.two (.two .n .n) .n)) (.two .n (.two .n (.two .n (.two .n (.two .n (.join [5,8,9,10,12,13,17] (.join [5,8,9,10,12,13,17,108] .n (.two (.two .n .n) .n)) (.two .n (.two .n (.join [5,8,12,17,19,21] (.join [5,8,12,17,19,21,135] .n (.two (.two .n .n) .n)) (.join [5,8,12,17] (.two .n (.one (.lp [] [5,8,12,17,19,21,22] [4,5,8,12,17] (.two (.two .n (.two .n .n)) (.join [5,8,12,17,19,21,22] (.one (.two .n (.two .n (.join [5,8,12,17,19,21,22,25] (.join [5,8,12,17,19,21,22,25,174] .n (.two (.two .n .n) .n)) .n)))) .n))))) (.two .n (.two .n (.two .n .n))))))))))))))))))
def z06 (m : Nat) : Env := [(4, .tell (z3s m)),(5, .tell (z4A m)),(6, .tell (z2Q m)),(7, .tell (z1n m)),(8, .keep (z8r m)),(9, .keep (zaS m)),(10, .keep (z92 m)),(11, .keep (z5R m)),(12, .keep (z6S m)),(13, .tell (z4G m)),(14, .tell (z81 m)),(15, .keep (z6N m)),(16, .tell (z6C m))]
abbrev z0g : KO (AV × List AObj) := z69 Tryd.prog [.tmp 4]
def z10 (m : Nat) (n0 : Nat) (kc : ASt → RO) (kx : KO (AV × List AObj)) (s : ASt) : RO := z3n Tryd.prog GG (z06 m) m ⟨208,[]⟩ (cdR (cdR (cdL (cdL (cdR (cdL (cdR (cdR (cdR (cdR (cdR (cdR (cdR (cdR (cdR (cdR (cdR (cdR (cdR (cdR z09)))))))))))))))))))) plenumtop_PlenumParcels_h.r.r.r.r.r.r.r.r.r.r.r.r.r.r.l.r.c.c.r.r s (zfV n0 [5,8,12,17,19,21,22] [4,5,8,12,17] kc kx)
def z4N (m : Nat) (n0 : Nat) (kc : ASt → RO) (kx : KO (AV × List AObj)) (s : ASt) : RO := z3n Tryd.prog GG (z06 m) m ⟨208,[]⟩ (cdR (cdR (cdL (cdL (cdR (cdL (cdR (cdR (cdR (cdR (cdR (cdR (cdR (cdR (cdR (cdR (cdR (cdR (cdR (cdR z09)))))))))))))))))))) plenumtop_PlenumParcels_h.r.r.r.r.r.r.r.r.r.r.r.r.r.r.l.r.c.c.r.r s (zfV n0 [5,8,12,17,19,21,22] [4,5,8,12,17] kc kx)
def z15 (m : Nat) (n0 : Nat) (kc : ASt → RO) (kx : KO (AV × List AObj)) (s : ASt) : RO := z3n Tryd.prog GG (z06 m) m ⟨208,[]⟩ (cdR (cdR (cdR (cdL (cdL (cdR (cdL (cdL (cdR (cdL (cdR (cdR (cdR (cdR (cdR (cdR (cdR (cdR (cdR (cdR (cdR (cdR (cdR (cdR z09)))))))))))))))))))))))) plenumtop_PlenumParcels_h.r.r.r.r.r.r.r.r.r.r.r.r.r.r.l.r.c.c.r.l.c.r.r.r s (z4k 1 (zCu (fun s=>z10 m n0 kc kx ⟨s.H,[(5,gt s.T 5),(8,gt s.T 8),(12,gt s.T 12),(17,gt s.T 17),(19,gt s.T 19),(21,gt s.T 21),(22,gt s.T 22)]⟩) (zfV n0 [5,8,12,17,19,21,22] [4,5,8,12,17] kc kx)))
def z0J (m : Nat) (n0 : Nat) (kc : ASt → RO) (kx : KO (AV × List AObj)) (s : ASt) : RO := z3n Tryd.prog GG (z06 m) m ⟨208,[]⟩ (cdR (cdL (cdR (cdR (cdL (cdL (cdR (cdL (cdL (cdR (cdL (cdR (cdR (cdR (cdR (cdR (cdR (cdR (cdR (cdR (cdR (cdR (cdR (cdR (cdR z09))))))))))))))))))))))))) plenumtop_PlenumParcels_h.r.r.r.r.r.r.r.r.r.r.r.r.r.r.l.r.c.c.r.l.c.r.r.l.r s (zCu (fun s=>z15 m n0 kc kx ⟨s.H,[(5,gt s.T 5),(8,gt s.T 8),(12,gt s.T 12),(17,gt s.T 17),(19,gt s.T 19),(21,gt s.T 21),(22,gt s.T 22),(25,gt s.T 25)]⟩) (z4k 1 (zCu (fun s=>z4N m n0 kc kx ⟨s.H,[(5,gt s.T 5),(8,gt s.T 8),(12,gt s.T 12),(17,gt s.T 17),(19,gt s.T 19),(21,gt s.T 21),(22,gt s.T 22)]⟩) (zfV n0 [5,8,12,17,19,21,22] [4,5,8,12,17] kc kx))))
def z18 (m : Nat) (s : ASt) : RO := z3n Tryd.prog GG (z06 m) m ⟨208,[]⟩ (cdR (cdR (cdR (cdR (cdR (cdR (cdR (cdR (cdR (cdR (cdR (cdR (cdR (cdR (cdR z09))))))))))))))) plenumtop_PlenumParcels_h.r.r.r.r.r.r.r.r.r.r.r.r.r.r.r s (z0g)
def z22 (m : Nat) (s : ASt) (kc : ASt → RO) (kx : KO (AV × List AObj)) : RO := zdP Tryd.prog GG (z06 m) m ⟨208,[]⟩ (cdL (cdL (cdR (cdL (cdR (cdR (cdR (cdR (cdR (cdR (cdR (cdR (cdR (cdR (cdR (cdR (cdR (cdR z09)))))))))))))))))) plenumtop_PlenumParcels_h.r.r.r.r.r.r.r.r.r.r.r.r.r.r.l.r.c.c [5,8,12,17,19,21,22] [4,5,8,12,17] s kc kx
def z0P (m : Nat) (s : ASt) : RO := z3n Tryd.prog GG (z06 m) m ⟨208,[]⟩ (cdR (cdR (cdR (cdR (cdR (cdR (cdR (cdR (cdR (cdR (cdR (cdR (cdR (cdR z09)))))))))))))) plenumtop_PlenumParcels_h.r.r.r.r.r.r.r.r.r.r.r.r.r.r s (z0g)
def z0N (m : Nat) (s : ASt) : RO := z3n Tryd.prog GG (z06 m) m ⟨208,[]⟩ (cdR (cdL (cdR (cdR (cdR (cdR (cdR (cdR (cdR (cdR (cdR (cdR (cdR (cdR (cdR z09))))))))))))))) plenumtop_PlenumParcels_h.r.r.r.r.r.r.r.r.r.r.r.r.r.l.r s (zCu (fun s=>z0P m ⟨s.H,[(5,gt s.T 5),(8,gt s.T 8),(12,gt s.T 12),(17,gt s.T 17),(19,gt s.T 19),(21,gt s.T 21)]⟩) (z0g))
def z0K (m : Nat) (s : ASt) : RO := z3n Tryd.prog GG (z06 m) m ⟨208,[]⟩ (cdR (cdR (cdR (cdR (cdR (cdR (cdR (cdR (cdR (cdR (cdR z09))))))))))) plenumtop_PlenumParcels_h.r.r.r.r.r.r.r.r.r.r.r s (z0g)
def z0r (m : Nat) (s : ASt) : RO := z3n Tryd.prog GG (z06 m) m ⟨208,[]⟩ (cdR (cdL (cdR (cdR (cdR (cdR (cdR (cdR (cdR (cdR (cdR (cdR z09)))))))))))) plenumtop_PlenumParcels_h.r.r.r.r.r.r.r.r.r.r.l.r s (zCu (fun s=>z0K m ⟨s.H,[(5,gt s.T 5),(8,gt s.T 8),(9,gt s.T 9),(10,gt s.T 10),(12,gt s.T 12),(13,gt s.T 13),(17,gt s.T 17)]⟩) (z0g))
def z0L (m : Nat) (s : ASt) : RO := z3n Tryd.prog GG (z06 m) m ⟨208,[]⟩ (cdR (cdR (cdR z09))) plenumtop_PlenumParcels_h.r.r.r s (z0g)
def z1t (m : Nat) (t0 t1 : AV) : RO := zF9 Tryd.prog GG (z06 m) m ⟨208,[]⟩ z09 plenumtop_PlenumParcels_h ⟨[],z2t 0 [t0,t1]⟩ (z0g)
theorem z3r (m : Nat) (n0 : Nat) (kc : ASt → RO) (kx : KO (AV × List AObj)) (H : List AObj) (t5 t8 t12 t17 t19 t21 t22 : AV) : z10 m n0 kc kx ⟨H,[(5,t5),(8,t8),(12,t12),(17,t17),(19,t19),(21,t21),(22,t22)]⟩ =
 zED none false false .add t22 (V (.int .i64 1)) fun t141 =>
 zd5 n0 H [(5,t5),(8,t8),(12,t12),(17,t17),(19,t19),(21,t21),(22,t141)] kc := by
 refine (z0o _ _ _ _ _ _ _ _ _).trans ?_
 kernel_rfl
theorem z3J (m : Nat) (n0 : Nat) (kc : ASt → RO) (kx : KO (AV × List AObj)) (H : List AObj) (t5 t8 t12 t17 t19 t21 t22 t25 : AV) : z15 m n0 kc kx ⟨H,[(5,t5),(8,t8),(12,t12),(17,t17),(19,t19),(21,t21),(22,t22),(25,t25)]⟩ =
 z0l 69 H t25 fun t175 =>
 z0s 69 H t17 t175 fun H2 =>
 z10 m n0 kc kx ⟨H2,[(5,t5),(8,t8),(12,t12),(17,t17),(19,t19),(21,t21),(22,t22)]⟩ := by
 refine (z0o _ _ _ _ _ _ _ _ _).trans ?_
 kernel_rfl
theorem z3O (m : Nat) (n0 : Nat) (kc : ASt → RO) (kx : KO (AV × List AObj)) (H : List AObj) (t5 t8 t12 t17 t19 t21 t22 t25 t174 : AV) : z0J m n0 kc kx ⟨H,[(5,t5),(8,t8),(12,t12),(17,t17),(19,t19),(21,t21),(22,t22),(25,t25),(174,t174)]⟩ =
 z0U t174 (
  kx .ret ⟨H,[(4,(V (.bool false))),(5,t5),(8,t8),(12,t12),(17,t17)]⟩) (
  z15 m n0 kc kx ⟨H,[(5,t5),(8,t8),(12,t12),(17,t17),(19,t19),(21,t21),(22,t22),(25,t25)]⟩) := by
 refine (z0o _ _ _ _ _ _ _ _ _).trans ?_
 kernel_rfl
theorem z3I (m : Nat) (H : List AObj) (t5 t8 t12 t17 : AV) : z18 m ⟨H,[(5,t5),(8,t8),(12,t12),(17,t17)]⟩ =
 z0l 69 H t17 fun t177 =>
 z3o (z7g m (ro H t177)) [(ro H t177)] fun t178 =>
 zEN t178 0 fun t179 =>
 zEN t178 1 fun t180 =>
 z1G (some zc_api_Store) z03 H fun t27 H2 =>
 z0s 37 H2 t27 t179 fun H3 =>
 z0b (some (0,34)) t27 fun t183 =>
 z0l 34 H3 t183 fun t184 =>
 zaG (zbc m (ro H3 t8) (ro H3 t184) H3) fun t185 H4 =>
 zEN t185 0 fun t186 =>
 zEN t185 1 fun t187 =>
 zEN t185 2 fun t188 =>
 zED none false false .eql t180 (V (.int .i64 0)) fun t190 =>
 z0U t190 (
  z0l 37 H4 t27 fun t192 =>
  z0l 37 H4 t5 fun t193 =>
  z3o (z1K m (ro H4 t192) (ro H4 t193)) [(ro H4 t192),(ro H4 t193)] fun t194 =>
  z0U t194 (
  zED none false false .eql t186 t12 fun t199 =>
  z0U t199 (
  zED none false false .eql t188 (V (.int .i64 0)) fun t203 =>
  z0U t203 (
  z3o (z0R m) [] fun t206 =>
  z4l H4 (ro H4 t206)) (
  z4l H4 (ro H4 (V (.bool false))))) (
  z4l H4 (ro H4 (V (.bool false))))) (
  z4l H4 (ro H4 (V (.bool false))))) (
  z4l H4 (ro H4 (V (.bool false)))) := by
 refine (z0o _ _ _ _ _ _ _ _ _).trans ?_
 kernel_rfl
theorem z3N (m : Nat) (H : List AObj) (t5 t8 t12 t17 t19 t21 t22 : AV) (kc : ASt → RO) (kx : KO (AV × List AObj)) : z22 m ⟨H,[(5,t5),(8,t8),(12,t12),(17,t17),(19,t19),(21,t21),(22,t22)]⟩ kc kx =
 zEU false true H t21 fun t138 =>
 zED none false false .lss t22 t138 fun t139 =>
 z0U t139 (
  z0l 37 H t5 fun t143 =>
  zcV 1 H t21 t22 fun t146 =>
  z0l 1 H t146 fun t147 =>
  z3o (z8G m (ro H t143) (ro H t147)) [(ro H t143),(ro H t147)] fun t148 =>
  zEN t148 0 fun t149 =>
  zEN t148 1 fun t150 =>
  z1G (some z1H) z0S H fun t23 H2 =>
  z0s 5 H2 t23 t149 fun H3 =>
  z0l 69 H3 t17 fun t152 =>
  z0l 5 H3 t23 fun t154 =>
  zaG (z7h m (ro H3 t152) (ro H3 t8) (ro H3 t154) H3) fun t155 H4 =>
  zEN t155 0 fun t156 =>
  zEN t155 1 fun t157 =>
  z1G (some zc_api_Crate) z0m H4 fun t25 H5 =>
  z0s 69 H5 t25 t156 fun H6 =>
  zcV 1 H6 t21 t22 fun t160 =>
  z0l 1 H6 t160 fun t161 =>
  zcV 1 H6 t19 t22 fun t164 =>
  z0l 1 H6 t164 fun t165 =>
  zED none false false .neq t161 t165 fun t166 =>
  z0U t166 (
   z0J m H.length kc kx ⟨H6,[(5,t5),(8,t8),(12,t12),(17,t17),(19,t19),(21,t21),(22,t22),(25,t25),(174,(V (.bool true)))]⟩) (
   zED none false false .neq t150 (V (.int .i64 0)) fun t169 =>
   z0U t169 (
   z0J m H.length kc kx ⟨H6,[(5,t5),(8,t8),(12,t12),(17,t17),(19,t19),(21,t21),(22,t22),(25,t25),(174,(V (.bool true)))]⟩) (
   zED none false false .neq t157 (V (.int .i64 0)) fun t173 =>
   z0J m H.length kc kx ⟨H6,[(5,t5),(8,t8),(12,t12),(17,t17),(19,t19),(21,t21),(22,t22),(25,t25),(174,t173)]⟩))) (
  kx (.exit 0) ⟨H,[(4, .nil),(5,t5),(8,t8),(12,t12),(17,t17)]⟩) := by
 refine (z2v _ _ _ _ _ _ _ _ _ _ _ _).trans ?_
 kernel_rfl
theorem z3S (m : Nat) (H : List AObj) (t5 t8 t12 t17 t19 t21 : AV) : z0P m ⟨H,[(5,t5),(8,t8),(12,t12),(17,t17),(19,t19),(21,t21)]⟩ =
 zc7 m (z22 m) ⟨H,[(5,t5),(8,t8),(12,t12),(17,t17),(19,t19),(21,t21),(22,(V (.int .i64 0)))]⟩ (z4k 0 (zCu (fun s=>z18 m ⟨s.H,[(5,gt s.T 5),(8,gt s.T 8),(12,gt s.T 12),(17,gt s.T 17)]⟩) (z0g))) := by
 refine (z0o _ _ _ _ _ _ _ _ _).trans ?_
 kernel_rfl
theorem z1v (m : Nat) (H : List AObj) (t5 t8 t12 t17 t19 t21 t135 : AV) : z0N m ⟨H,[(5,t5),(8,t8),(12,t12),(17,t17),(19,t19),(21,t21),(135,t135)]⟩ =
 z0U t135 (
  z4l H (ro H (V (.bool false)))) (
  z0P m ⟨H,[(5,t5),(8,t8),(12,t12),(17,t17),(19,t19),(21,t21)]⟩) := by
 refine (z0o _ _ _ _ _ _ _ _ _).trans ?_
 kernel_rfl
theorem z3P (m : Nat) (H : List AObj) (t5 t8 t9 t10 t12 t13 t17 : AV) : z0K m ⟨H,[(5,t5),(8,t8),(9,t9),(10,t10),(12,t12),(13,t13),(17,t17)]⟩ =
 zaG (z7l m (ro H t8) (ro H t10) (ro H t13) H) fun t113 H2 =>
 zEN t113 0 fun t114 =>
 zEN t113 1 fun t115 =>
 z0l 69 H2 t17 fun t116 =>
 z3o (z59 m (ro H2 t116)) [(ro H2 t116)] fun t117 =>
 zED none false false .neq t115 (V (.int .i64 0)) fun t119 =>
 z0U t119 (
  z0N m ⟨H2,[(5,t5),(8,t8),(12,t12),(17,t17),(19,t114),(21,t117),(135,(V (.bool true)))]⟩) (
  zEU false true H2 t114 fun t122 =>
  zEU false true H2 t117 fun t124 =>
  zED none false false .neq t122 t124 fun t125 =>
  z0U t125 (
  z0N m ⟨H2,[(5,t5),(8,t8),(12,t12),(17,t17),(19,t114),(21,t117),(135,(V (.bool true)))]⟩) (
  zED none false false .eql t9 t12 fun t130 =>
  zEU false true H2 t117 fun t132 =>
  zED none false false .eql t132 (V (.int .i64 0)) fun t133 =>
  zED none true false .neq t130 t133 fun t134 =>
  z0N m ⟨H2,[(5,t5),(8,t8),(12,t12),(17,t17),(19,t114),(21,t117),(135,t134)]⟩)) := by
 refine (z0o _ _ _ _ _ _ _ _ _).trans ?_
 kernel_rfl
theorem z3G (m : Nat) (H : List AObj) (t5 t8 t9 t10 t12 t13 t17 t108 : AV) : z0r m ⟨H,[(5,t5),(8,t8),(9,t9),(10,t10),(12,t12),(13,t13),(17,t17),(108,t108)]⟩ =
 z0U t108 (
  z4l H (ro H (V (.bool false)))) (
  z0K m ⟨H,[(5,t5),(8,t8),(9,t9),(10,t10),(12,t12),(13,t13),(17,t17)]⟩) := by
 refine (z0o _ _ _ _ _ _ _ _ _).trans ?_
 kernel_rfl
theorem z3V (m : Nat) (H : List AObj) (t1 t2 : AV) : z0L m ⟨H,[(1,t1),(2,t2)]⟩ =
 z0l 37 H t2 fun t40 =>
 z3o (z4A m [(ro H t40),(ro H t1)]) [(ro H t40),(ro H t1)] fun t42 =>
 zEN t42 0 fun t43 =>
 zEN t42 1 fun t44 =>
 zEN t42 2 fun t45 =>
 z1G (some zc_api_Store) z03 H fun t5 H2 =>
 z0s 37 H2 t5 t43 fun H3 =>
 zED none false false .neq t44 (V (.int .i64 0)) fun t47 =>
 z0U t47 (
  z0l 37 H3 t5 fun t48 =>
  z0X (some z0B) (some zc_api_Store) [] fun t49 =>
  z3o (z1K m (ro H3 t48) (ro H3 t49)) [(ro H3 t48),(ro H3 t49)] fun t50 =>
  z0U t50 (
   z3o (z0R m) [] fun t52 =>
   z4l H3 (ro H3 t52)) (
   z4l H3 (ro H3 (V (.bool false))))) (
  zaG (z7K m H3) fun t54 H4 =>
  z0b (some (0,34)) t2 fun t57 =>
  z0l 34 H4 t57 fun t58 =>
  zaG (zbc m (ro H4 t54) (ro H4 t58) H4) fun t59 H5 =>
  zEN t59 0 fun t60 =>
  zEN t59 1 fun t61 =>
  zEN t59 2 fun t62 =>
  z0b (some (0,34)) t5 fun t65 =>
  z0l 34 H5 t65 fun t66 =>
  zaG (zbc m (ro H5 t54) (ro H5 t66) H5) fun t67 H6 =>
  zEN t67 0 fun t68 =>
  zEN t67 1 fun t69 =>
  zEN t67 2 fun t70 =>
  z0l 37 H6 t5 fun t73 =>
  zaG (zaY m (ro H6 t54) (ro H6 t73) H6) fun t74 H7 =>
  zEN t74 0 fun t75 =>
  zEN t74 1 fun t76 =>
  z1G (some z14) z0O H7 fun t15 H8 =>
  z0s 21 H8 t15 t75 fun H9 =>
  z0l 21 H9 t15 fun t78 =>
  z0b (some (0,34)) t2 fun t79 =>
  z0l 34 H9 t79 fun t80 =>
  zaG (z5Q m (ro H9 t78) (ro H9 t80) (ro H9 t54) H9) fun t82 H10 =>
  zEN t82 0 fun t83 =>
  zEN t82 1 fun t84 =>
  z1G (some zc_api_Crate) z0m H10 fun t17 H11 =>
  z0s 69 H11 t17 t83 fun H12 =>
  zED none false false .neq t62 (V (.int .i64 0)) fun t86 =>
  z0U t86 (
   z0r m ⟨H12,[(5,t5),(8,t54),(9,t60),(10,t61),(12,t68),(13,t69),(17,t17),(108,(V (.bool true)))]⟩) (
   zED none false false .neq t70 (V (.int .i64 0)) fun t89 =>
   z0U t89 (
   z0r m ⟨H12,[(5,t5),(8,t54),(9,t60),(10,t61),(12,t68),(13,t69),(17,t17),(108,(V (.bool true)))]⟩) (
   zED none false false .neq t76 (V (.int .i64 0)) fun t93 =>
   z0U t93 (
   z0r m ⟨H12,[(5,t5),(8,t54),(9,t60),(10,t61),(12,t68),(13,t69),(17,t17),(108,(V (.bool true)))]⟩) (
   zED none false false .neq t84 (V (.int .i64 0)) fun t97 =>
   z0U t97 (
   z0r m ⟨H12,[(5,t5),(8,t54),(9,t60),(10,t61),(12,t68),(13,t69),(17,t17),(108,(V (.bool true)))]⟩) (
   zEU false true H12 t61 fun t101 =>
   zED none false false .neq t101 (V (.int .i64 16)) fun t102 =>
   z0U t102 (
   z0r m ⟨H12,[(5,t5),(8,t54),(9,t60),(10,t61),(12,t68),(13,t69),(17,t17),(108,(V (.bool true)))]⟩) (
   zEU false true H12 t69 fun t106 =>
   zED none false false .neq t106 (V (.int .i64 16)) fun t107 =>
   z0r m ⟨H12,[(5,t5),(8,t54),(9,t60),(10,t61),(12,t68),(13,t69),(17,t17),(108,t107)]⟩)))))) := by
 refine (z0o _ _ _ _ _ _ _ _ _).trans ?_
 kernel_rfl
theorem z4T (m : Nat) (t0 t1 : AV) : z1t m t0 t1 =
 zE6 z03 [] t0 fun t2 H1 =>
 z0l 37 H1 t2 fun t32 =>
 z3o (z2Z m (ro H1 t32)) [(ro H1 t32)] fun t33 =>
 z0s 37 H1 t2 t33 fun H2 =>
 zEU false true H2 t1 fun t35 =>
 zED none false false .gtr t35 (V (.int .i64 60)) fun t36 =>
 z0U t36 (
  zeb false (some (z40,6)) H2 t1 none (some (V (.int .i64 60))) fun t38 =>
  z0L m ⟨H2,[(1,t38),(2,t2)]⟩) (
  z0L m ⟨H2,[(1,t1),(2,t2)]⟩) := by
 refine (zhg _ _ _ _ _ _ _ _ _).trans ?_
 kernel_rfl
def z2r (m : Nat) : List AV → RO|[t0,t1]=>z1t m t0 t1|_=>none
theorem z4U (m : Nat) : ∀ args X H',z2r m args = some (X,H') → ACp Tryd.prog GG 3 args X := by
 intro args X H' h
 unfold z2r at h
 split at h
 ·exact z2A MIX (by
  intro f e h
  simp only [z06,Prod.mk.injEq,List.mem_cons,List.not_mem_nil,or_false] at h
  rcases h with ⟨rfl,rfl⟩|⟨rfl,rfl⟩|⟨rfl,rfl⟩|⟨rfl,rfl⟩|⟨rfl,rfl⟩|⟨rfl,rfl⟩|⟨rfl,rfl⟩|⟨rfl,rfl⟩|⟨rfl,rfl⟩|⟨rfl,rfl⟩|⟨rfl,rfl⟩|⟨rfl,rfl⟩|⟨rfl,rfl⟩
  ·exact z9D m
  ·exact zee m
  ·exact z8Q m
  ·exact z54 m
  ·exact zcP m
  ·exact zeM m
  ·exact zgN m
  ·exact zcb m
  ·exact zdO m
  ·exact z8w m
  ·exact zf4 m
  ·exact zdf m
  ·exact zdF m) (f := 3) (c := z09) Tryd.func3 rfl (by kernel_rfl) _ rfl Tryd.ntmps3 (Nat.le_of_ble_eq_true rfl) plenumtop_PlenumParcels_h h
 ·cases h
end

section
open Go.RowKit
theorem zzJ : zFr Tryd.prog 80 = some (9,3) := by unfold zFr;rw [Tryd.underlying80]
theorem zAe (m : Nat) (H : List AObj) (hH : ∀ n,H.length ≤ n → H.all (ltO n) = true) : z7K m H = some (OP (H.length + 1) 0,H ++ [tmO [],ttO H.length [],trO []]) := by
 rw [zjv,zzJ]
 have e1 : ∀ K : AV → List AObj → RO,zpo (some (9,3)) H K = K (MP H.length) (H ++ [tmO []]) := fun K=>_root_.id rfl
 have e2 : ∀ (x : AV) (K : AV → RO),z0X (some z9R) (some zaa) [(0,MP H.length)] K = K (.agg [MP H.length,V (.slice none 0 0)]) := fun x K=>_root_.id rfl
 have e3 : ∀ (H' : List AObj) (K : AV → List AObj → RO),zE6 z13 H' (.agg [MP H.length,V (.slice none 0 0)]) K = K (OP H'.length 0) (H' ++ [⟨1,z13,0,[MP H.length,V (.slice none 0 0)]⟩]) := fun H' K=>_root_.id rfl
 rw [e1,e2 .nil,e3]
 have e4 : ghS 0 1 z1b 1 ⟨H ++ [tmO []] ++ [⟨1,z13,0,[MP H.length,V (.slice none 0 0)]⟩],[(0,OP (H ++ [tmO []]).length 0)]⟩ = ⟨H ++ [tmO [],ttO H.length [],trO []],[(0,OP (H.length + 1) 0)]⟩ := by
  have eR : ∀ s,ghS 0 1 z1b 1 s = ghR 0 1 z1b 1 s := fun s=>_root_.id rfl
  rw [eR]
  unfold ghR
  show (match OP (H ++ [tmO []]).length 0 with|_=>_) = _
  have h1 : (H ++ [tmO []] ++ [⟨1,z13,0,[MP H.length,V (.slice none 0 0)]⟩])[(H ++ [tmO []]).length]? = some ⟨1,z13,0,[MP H.length,V (.slice none 0 0)]⟩ := by simp
  dsimp only
  rw [h1]
  simp [ttO,trO]
 rw [e4,zdY,zpL]
 have h2 := hH (H.length + 3) (by omega)
 have h3 : (H ++ [tmO [],ttO H.length [],trO []]).all (ltO (H.length + 3)) = true := by
  rw [List.all_append,h2]
  simp [zvt,zwY (show H.length + 2 < H.length + 3 by omega),zsu]
 have h4 : (H ++ [tmO [],ttO H.length [],trO []]).length = H.length + 3 := by simp
 rw [h4,h3]
 have h5 : ltT (H.length + 3) (OP (H.length + 1) 0) = true := decide_eq_true (show H.length + 1 < H.length + 3 by omega)
 rw [show ro (H ++ [tmO [],ttO H.length [],trO []]) (OP (H.length + 1) 0) = OP (H.length + 1) 0 from rfl,h5]
 rfl
theorem zoL (m : Nat) (A : List AObj) (hA : ∀ n,A.length ≤ n → A.all (ltO n) = true) : z7K m A = some (OP (A.length + 1) 0,tb A [] []) := zAe m A hA
theorem zst {α : Type} [DecidableEq α] {L : List α} {s : α} (h : s ∈ L) : 1 ≤ zEY L s := by unfold zEY;rw [if_pos h];omega
def x1 : Item := ⟨[97],2,1,[],0⟩
def W1 : Tr := (Tr.zero.setL 1 [x1]).setV 1 0
theorem zzS : zEt Tr.zero x1 = (W1,0) := by kernel_rfl
theorem zAL : TInv W1 := by
 have := zoY (t := Tr.zero) (x := x1) zbv (by unfold z3i;decide) (by rw [zzS])
 rw [zzS] at this
 exact this.1
theorem zBO {R : Type} {K1 : AV → Option R} : z0X (some zbn) (some zC) [] K1 = K1 (.agg zC) := _root_.id rfl
theorem zC5 {R : Type} {K1 : AV → Option R} : z0X (some z7d) (some z3Z) [(0,V (.string ⟨#[97]⟩)),(1, .agg [nA 2,nA 1,sA []])] K1 = K1 (iA x1) := _root_.id rfl
theorem zpr (m : Nat) (hm : 1000000 < m) : z0R m = some (bA true,[]) := by
 rw [z4W,zoL m [] (fun n _=>rfl)]
 have hP := zd2 m Tr.zero x1 zth
 rw [zzS] at hP
 have hI := zzF m 1
 have hG : GB [] [zDG W1] := fun n _=>⟨rfl,by simp [zcY]⟩
 have hT : TbOk [] 145 := ⟨List.nodup_nil,by decide⟩
 have hR := zxR m [] [zDG W1] [] W1 hG hT zAL (by omega)
 have h1 := (zfW zAL (n := 0) hT).2
 have hpos : (0 : Int) < ((zcQ [] W1).1 : Int) := by
  have := zst (L := (zcQ [] W1).2) (s := zFR (lvP [] W1 16).1) ziC
  show (0 : Int) < ((zEY _ _ : Nat) : Int)
  unfold zcQ at this
  dsimp only at this
  omega
 rw [show tb ([] : List AObj) [zDG W1] [] = tb [] [] [] ++ [zDG W1] from z8M (B := [])] at hR
 unfold zDG at hR
 rw [z2a] at hP hR
 rw [zcs] at hP
 dsimp only at hP
 rw [List.length_nil,Nat.zero_add] at hR
 simp (config := {maxSteps := 4000000,implicitDefEqProofs := false}) (disch := omega) only [go_sem,hI,hP,hR,zBO,zC5,zqG,hpos,zcs]
 rfl
end

section
open Go.RowKit
section
variable {R : Type} {A B Y : List AObj} {T : Tbl} {o p q : AObj} {K : AObj → Option R}
theorem zAy : z68 (tb (o :: A) B T) 0 K = K o := _root_.id rfl
theorem zAV : z68 (tb (o :: p :: A) B T) 1 K = K p := _root_.id rfl
theorem ztr : z68 (tb (o :: A) B T ++ Y) 0 K = K o := _root_.id rfl
theorem zwr : z68 (tb (o :: p :: A) B T ++ Y) 1 K = K p := _root_.id rfl
end
theorem zBg {s : St} {R : Type} {K : List AV → Option R} : zcc (stO s) K = K (stC s) := zxu
theorem zb8 {s : St} : stA s = .agg (stC s) := _root_.id rfl
abbrev zDg (u x : St) : List AObj := [stO u,stO x]
theorem zCz {u x : St} : GB (zDg u x) [] := fun n _=>⟨by simp [zh4],rfl⟩
theorem zxP {u x : St} {Y : List AObj} (h : ∀ n,Y.all (ltO n) = true) : GB (zDg u x) Y := fun n _=>⟨by simp [zh4],h n⟩
theorem zgY {u x : St} {T : Tbl} {Y : List AObj} : tb (zDg u x) Y T = tb (zDg u x) [] T ++ Y := z8M (B := [])
attribute [local go_sem] zAy zAV ztr zwr zBg z1a z3l z4t z4i zfl zpg
theorem r6_s (m : Nat) (u x : St) (T : Tbl) (b : List Nat) (g : Nat → Bool) (nb : Nat) (hx : TInv x.t) (hs : zEB x = true) (hl : b.length = 16) (hg : ∀ i,i < 16 → g i = true) (hT : TbOk T 145) (hb : LTt T x.t b) (hd : zFR b ∈ T) (hnb : nb = zEY T (zFR b)) (hm : 1000000 < m) :
  z18 m ⟨tb (zDg u x) [] T ++ [mfO x b,crO x b g (zFP x.t g)],[(5,OP 1 0),(8,OP 3 0),(12,nA (nb : Int)),(17,OP (nT (zDg u x) [] + 1) 0)]⟩ = some (bA true,[]) := by
 have hci := zlp hx (g := g)
 have hE := zuB (x := x) hg
 have hD := zvl m x b g (zFP x.t g) (by omega) (ztJ hg) hci.ok (by rw [zpF hE];exact hs) hm
 have hS := zmf m ⟨zFP x.t g,x.ver,x.bytes,x.keys⟩ x (by omega) hci.ok.len2 hx.ok.len2
 have hS1 : zt3 ⟨zFP x.t g,x.ver,x.bytes,x.keys⟩ x = true := by
  unfold zt3
  rw [sameT_iff.2 (zk9 hg)]
  simp
 rw [hS1] at hS
 have hR := zxR m (zDg u x) [mfO x b,crO x b g (zFP x.t g),stO ⟨zFP x.t g,x.ver,x.bytes,x.keys⟩] T (zFP x.t g) (zxP fun n=>by simp [ze2,zkO,zh4]) hT hci (by omega)
 have hn : (zcQ T (zFP x.t g)).1 = nb := by
  obtain ⟨h1,h2⟩ := zf1 T (zFP x.t g)
  obtain ⟨h3,h4,h5⟩ := zgb T (zFP x.t g)
  have h6 : LTt (lvP T (zFP x.t g) 16).2 (zFP x.t g) b := ⟨hl,fun i hi=>by
   have := (hb.pre h1).lt i hi
   unfold zFP
   dsimp only
   rw [hg i hi]
   exact this⟩
  rw [h2.same h6] at h4 h5
  rw [h5,hnb]
  exact z6n (h1.trans h3) hd
 rw [hn,zgY (T := T),zgY (T := (zcQ T (zFP x.t g)).2),show (zDg u x).length + 1 = 3 from rfl] at hR
 have hW := zpr m hm
 have hcl := z4E (s := x) (l := b) (g := g) (u := zFP x.t g) (by omega)
 have hct := z8S (s := x) (l := b) (g := g) (u := zFP x.t g) (by omega)
 generalize zFP x.t g = w at *
 rw [z3I]
 unfold mfO crO stO at *
 rw [zb8,zb8] at hS
 rw [zb8] at hD
 rw [zad] at hD
 rw [z2a] at hR
 simp (config := {maxSteps := 4000000,implicitDefEqProofs := false}) (disch := omega) only [go_sem,hD,hS,hR,hW,hcl,hct,z8t,zmF,zjG,zfj,zqN]
def prT (x : Tr) (T : Tbl) (js : List Nat) : Tbl := js.foldl (fun T j=>(z7H T (x.leaf j) (x.ver j).toNat).2) T
theorem zwd {x : Tr} (h : TInv x) {js : List Nat} (hj : ∀ j ∈ js,j < 16) {T : Tbl} {n : Nat} (hT : TbOk T (js.length * 9 + n)) : ∀ k,k ≤ js.length → T <+: prT x T (js.take k) ∧ TbOk (prT x T (js.take k)) ((js.length - k) * 9 + n)
 |0,_=>by
  rw [List.take_zero]
  exact ⟨List.prefix_refl _,hT⟩
 |k + 1,hk=>by
  obtain ⟨h1,h2⟩ := zwd h hj hT k (by omega)
  have hf := h.fit (hj js[k] (List.getElem_mem _))
  rw [← List.take_append_getElem hk]
  unfold prT at h1 h2 ⊢
  rw [List.foldl_append]
  exact ⟨h1.trans (zdA _ _ _).1,(zl8 (n := (js.length - (k + 1)) * 9 + n) (h2.less (by omega)) hf.lf hf.nm).1⟩
theorem zqT {x : Tr} {T : Tbl} {js : List Nat} {k : Nat} (h : k < js.length) : prT x T (js.take (k + 1)) = (z7H (prT x T (js.take k)) (x.leaf js[k]) (x.ver js[k]).toNat).2 := by
 rw [← List.take_append_getElem h]
 unfold prT
 rw [List.foldl_append];rfl
theorem r5_s (m : Nat) (u x : St) (T : Tbl) (a b : List Nat) (nb : Nat) (hx : TInv x.t) (hs : zEB x = true) (hl : b.length = 16) (hT : TbOk T 400) (hb : LTt T x.t b) (hd : zFR b ∈ T) (hnb : nb = zEY T (zFR b)) (hm : 1000000 < m) :
  z0P m ⟨tb (zDg u x) [] T ++ [mfO x b,crO x b (gB a b 16) (zFP x.t (gB a b 16))],[(5,OP 1 0),(8,OP 3 0),(12,nA (nb : Int)),(17,OP (nT (zDg u x) [] + 1) 0),(19,SL ((zCX a b 16).map fun n : Nat=>nA (n : Int))),(21,SL ((zCX a b 16).map fun n : Nat=>nA (n : Int)))]⟩ = some (bA true,[]) := by
 rw [z3S,← ztL]
 have hul := zkl a b 16
 have hmem : ∀ j ∈ zCX a b 16,j < 16 := fun j hj=>(unl_mem.1 hj).1
 have hP := zwd hx hmem (n := 145) (hT.less (by omega))
 refine z65 (m := m) (ι := {k : Nat // k ≤ (zCX a b 16).length}) (fun k=>⟨tb (zDg u x) [] (prT x.t T ((zCX a b 16).take k.1)) ++ [mfO x b,crO x b (gK a b k.1) (zFP x.t (gK a b k.1))],[(5,OP 1 0),(8,OP 3 0),(12,nA (nb : Int)),(17,OP (nT (zDg u x) [] + 1) 0),(19,SL ((zCX a b 16).map fun n : Nat=>nA (n : Int))),(21,SL ((zCX a b 16).map fun n : Nat=>nA (n : Int))),(22,nA k.1)]⟩) (fun k=>(zCX a b 16).length - k.1) (fun _=>some (bA true,[])) ?_ ⟨0,Nat.zero_le _⟩ (by dsimp only;omega)
 rintro kx hkx ⟨k,hk⟩ kc hkc
 dsimp only at hkc ⊢
 rw [z3N]
 obtain ⟨h1,h2⟩ := hP k hk
 by_cases hlt : k < (zCX a b 16).length
 ·have hlt' : (k : Int) < ((zCX a b 16).length : Int) := by omega
  have step := hkc ⟨k + 1,by omega⟩ (by dsimp only;omega)
  dsimp only at step
  rw [zqT hlt,← zud hlt] at step
  have hgn := zBZ hlt
  have hj := hmem _ (List.getElem_mem hlt)
  have hf := hx.fit hj
  have hnt := fun {K : AV → RO}=>zoE (zCX a b 16) hlt (K := K)
  rw [List.getD_eq_getElem?_getD,List.getElem?_eq_getElem hlt,Option.getD_some] at hnt
  generalize hjj : (zCX a b 16)[k] = j at *
  generalize prT x.t T ((zCX a b 16).take k) = U at *
  generalize hgg : gK a b k = g at *
  have hC := zAq m x j hx hs hj hm
  have hcu := zlp hx (g := g)
  have hrc := zqD hx hcu hj
  rw [hf.v0] at hrc
  have hq : (z7H U (x.t.leaf j) (x.t.ver j).toNat).1 = b.getD j 0 := (zdA U (x.t.leaf j) (x.t.ver j).toNat).2.same ((hb.pre (h1.trans (zdA U (x.t.leaf j) (x.t.ver j).toNat).1)).lt j hj)
  have hcs := zs3 (x := x.t) (g := g) (j := j)
  have hT := zv8 m (zDg u x) [mfO x b,crO x b g (zFP x.t g),pcO j (x.t.ver j).toNat (z0t (x.t.leaf j))] U x b g (zFP x.t g) j (x.t.ver j).toNat (x.t.leaf j) (zxP fun n=>by simp [ze2,zkO,zvz]) (h2.less (by omega)) hl hj hgn hf.v1 hf.lf hf.nm hq hcu.ok hrc hm
  rw [← hf.v0,hcs,zgY (T := U),zgY (T := (z7H U (x.t.leaf j) (x.t.ver j).toNat).2),show (zDg u x).length + 1 = 3 from rfl] at hT
  have hcl := z4E (s := x) (l := b) (g := g) (u := zFP x.t g) (by omega)
  have hct := z8S (s := x) (l := b) (g := g) (u := zFP x.t g) (by omega)
  have hcl2 := z4E (s := x) (l := b) (g := fun i=>if i = j then true else g i) (u := zFP x.t (fun i=>if i = j then true else g i)) (by omega)
  have hct2 := z8S (s := x) (l := b) (g := fun i=>if i = j then true else g i) (u := zFP x.t (fun i=>if i = j then true else g i)) (by omega)
  have hsz2 := zkI hcl2
  generalize (z7H U (x.t.leaf j) (x.t.ver j).toNat).2 = U' at *
  generalize (fun i=>if i = j then true else g i) = g' at *
  generalize zFP x.t g = w at *
  generalize zFP x.t g' = w' at *
  have hsz3 : z0e (crC x b g w) 0 (crC x b g' w') = crC x b g' w' := z2f (by rw [hcl,hcl2])
  have hw1 : IntKind.i64.wrap ((k : Int) + 1) = (k : Int) + 1 := z0C (by omega) (by omega)
  have hlt2 := zjt (T := U') (zCz (u := u) (x := x)) (n := nT (zDg u x) [] + 2) (by omega)
  have hT3 := fun n=>ze2 (s := x) (l := b) (n := n)
  have hT4 := fun n=>zkO (s := x) (l := b) (g := g') (u := w') (n := n)
  unfold mfO crO pcO at *
  rw [zmx] at hC hT
  rw [zad,zad] at hT
  rw [zb8] at hC
  generalize hvv : (x.t.ver j).toNat = vv at *
  generalize hcc : z0t (x.t.leaf j) = cc at *
  have hn5 : nT (zDg u x) [] = 5 := rfl
  have h7 : nT (zDg u x) [] ≤ nT (zDg u x) [] + 2 := by omega
  have h8 : 1 < nT (zDg u x) [] + 2 := by omega
  have h9 : 3 < nT (zDg u x) [] + 2 := by omega
  have h10 : nT (zDg u x) [] + 1 < nT (zDg u x) [] + 2 := by omega
  clear hn5
  simp (config := {maxSteps := 4000000,implicitDefEqProofs := false}) (disch := omega) only [go_sem,hlt,hlt',hnt,hC,hT,hcl,hct,hcl2,hct2,hsz2,hsz3,z8t,zmF,zjG,zwK,zcF,hw1,hlt2,hT3,hT4,z3O,z3J,z3r,h7,h8,h9,h10,zjr]
  exact step
 ·have hlt' : ¬ (k : Int) < ((zCX a b 16).length : Int) := by omega
  obtain rfl : k = (zCX a b 16).length := by omega
  have hE := r6_s m u x (prT x.t T ((zCX a b 16).take (zCX a b 16).length)) b (gK a b (zCX a b 16).length) nb hx hs hl (fun i hi=>zyQ hi) (h2.less (by omega)) (hb.pre h1) (h1.subset hd) (by rw [hnb];exact (z6n h1 hd).symm) hm
  simp (config := {maxSteps := 4000000,implicitDefEqProofs := false}) (disch := omega) only [go_sem,hlt',hkx,hE]
end

section
open Go.RowKit
attribute [local go_sem] zAy zAV ztr zwr zBg z1a z3l z4t z4i zfl zpg
theorem r3_s (m : Nat) (u x : St) (T : Tbl) (a b : List Nat) (na nb : Nat) (hx : TInv x.t) (hs : zEB x = true) (ha : a.length = 16) (hl : b.length = 16) (hT : TbOk T 400) (hb : LTt T x.t b) (hda : zFR a ∈ T) (hd : zFR b ∈ T) (hna : na = zEY T (zFR a)) (hnb : nb = zEY T (zFR b)) (hm : 1000000 < m) :
  z0K m ⟨tb (zDg u x) [] T ++ [mfO x b,crO x b (gB a b 16) (zFP x.t (gB a b 16))],[(5,OP 1 0),(8,OP 3 0),(9,nA (na : Int)),(10,SL (a.map fun n : Nat=>nA (n : Int))),(12,nA (nb : Int)),(13,SL (b.map fun n : Nat=>nA (n : Int))),(17,OP (nT (zDg u x) [] + 1) 0)]⟩ = some (bA true,[]) := by
 rw [z3P]
 have hU := zyR m (OP 3 0) (zDg u x) [mfO x b,crO x b (gB a b 16) (zFP x.t (gB a b 16))] T a b (zxP fun n=>by simp [ze2,zkO]) ha hl (by omega)
 rw [zgY] at hU
 have hN := zpS m x b (gB a b 16) (zFP x.t (gB a b 16)) (by omega) (by omega)
 rw [zwn] at hN
 have h5 := r5_s m u x T a b nb hx hs hl hT hb hd hnb hm
 have hcl := z4E (s := x) (l := b) (g := gB a b 16) (u := zFP x.t (gB a b 16)) (by omega)
 have hct := z8S (s := x) (l := b) (g := gB a b 16) (u := zFP x.t (gB a b 16)) (by omega)
 have hn : ((zCX a b 16).length : Int) = 0 ↔ na = nb := by
  rw [show ((zCX a b 16).length : Int) = 0 ↔ (zCX a b 16).length = 0 by omega,zue ha hl]
  refine ⟨fun e=>by rw [hna,hnb,e],fun e=>zfZ (zgm hda hd (by rw [← hna,← hnb,e]))⟩
 generalize zCX a b 16 = r at *
 generalize gB a b 16 = g at *
 generalize zFP x.t g = w at *
 unfold mfO crO at *
 rw [zad] at hN
 by_cases he : na = nb
 ·have he' : (na : Int) = (nb : Int) := by rw [he]
  have hr := hn.2 he
  simp (config := {maxSteps := 4000000,implicitDefEqProofs := false}) (disch := omega) only [go_sem,hU,hN,h5,hcl,hct,he',hr,z8t,zmF,zjG,z1v]
 ·have he' : ¬ (na : Int) = (nb : Int) := by omega
  have hr : ¬ (r.length : Int) = 0 := fun q=>he (hn.1 q)
  simp (config := {maxSteps := 4000000,implicitDefEqProofs := false}) (disch := omega) only [go_sem,hU,hN,h5,hcl,hct,he',hr,z8t,zmF,zjG,z1v]
theorem zko : zt3 St.zero St.zero = true := by
 unfold zt3
 rw [sameT_iff.2 (fun i _=>⟨rfl,rfl⟩)]
 rfl
theorem zDS (m : Nat) (u : St) (k : List Edt) (hu : u.t.Ok) (hi : zEb u.t = true → TInv u.t) (hk : ∀ x ∈ k,z3i (x.it 0)) (hkl : k.length ≤ 34359738368) (hm : 1000000 < m) :
  z0L m ⟨[stO u],[(1,SL (k.map eA)),(2,OP 0 0)]⟩ = some (bA true,[]) := by
 rw [z3V]
 have hT := zeY m u k hu hi hk hkl
 have hW := zpr m hm
 have hbad := fun h=>znD (s := u) (l := k) h
 have hgood := fun h=>znk (s := u) (l := k) hi hk h
 have hinv := zhW (s := u) (l := k) hi hk
 generalize zek u k = r at *
 obtain ⟨x,e,p⟩ := r
 dsimp only at hbad hgood hinv
 unfold zEs at hT
 dsimp only at hT
 rw [zb8,zb8] at hT
 unfold stO
 by_cases he : e = 0
 ·subst he
  obtain ⟨hs,hx⟩ := hgood rfl
  have hui := hi (by unfold zEB at hs;simp only [Bool.and_eq_true] at hs;exact hs.1.1.1.1.1.1)
  have hN := zoL m (zDg u x) (fun n _=>by simp [zh4])
  have hL : (zDg u x).length + 1 = 3 := rfl
  have t0 : TbOk [] 65536 := ⟨List.nodup_nil,Nat.le_refl _⟩
  have hR1 := zxR m (zDg u x) [] [] u.t zCz (t0.less (by omega)) hui (by omega)
  obtain ⟨t1,_⟩ := zfW hui (T := []) (n := 65000) (t0.less (by omega))
  obtain ⟨_,a1⟩ := zf1 [] u.t
  obtain ⟨p1,d1,n1⟩ := zgb [] u.t
  have a2 := a1.pre p1
  generalize (lvP [] u.t 16).1 = a at *
  generalize (zcQ [] u.t).2 = T1 at *
  generalize (zcQ [] u.t).1 = na at *
  have hR2 := zxR m (zDg u x) [] T1 x.t zCz (t1.less (by omega)) hinv (by omega)
  obtain ⟨t2,_⟩ := zfW hinv (T := T1) (n := 64000) (t1.less (by omega))
  obtain ⟨q1,b1⟩ := zf1 T1 x.t
  obtain ⟨p2,d2,n2⟩ := zgb T1 x.t
  have b2 := b1.pre p2
  have q12 := q1.trans p2
  generalize (lvP T1 x.t 16).1 = b at *
  generalize (zcQ T1 x.t).2 = T2 at *
  generalize (zcQ T1 x.t).1 = nb at *
  have hP := zBQ m (zDg u x) [] T2 x zCz (t2.less (by omega)) hinv hx hm
  obtain ⟨q2,b3⟩ := zf1 T2 x.t
  obtain ⟨t3,_,_⟩ := zdC hinv (T := T2) (n := 63000) 16 (Nat.le_refl _) (t2.less (by omega))
  have e3 : (lvP T2 x.t 16).1 = b := b3.same (b2.pre q2)
  rw [e3] at hP
  generalize (lvP T2 x.t 16).2 = T3 at *
  have hB := zqY m (zDg u x) [mfO x b] T3 x b u.t (zxP fun n=>by simp [ze2]) (t3.less (by omega)) hui b2.len hm
  obtain ⟨q3,a3⟩ := zf1 T3 u.t
  obtain ⟨t4,_,_⟩ := zdC hui (T := T3) (n := 62000) 16 (Nat.le_refl _) (t3.less (by omega))
  have q23 := q2.trans q3
  have q14 := q12.trans q23
  have e4 : (lvP T3 u.t 16).1 = a := a3.same (a2.pre q14)
  rw [e4] at hB
  generalize (lvP T3 u.t 16).2 = T4 at *
  have a4 := a2.pre q14
  have b4 := b2.pre q23
  have hcut : tB u.t a b 16 = zFP x.t (gB a b 16) := zyC fun i hi he=>by
   have f1 := hui.fit hi
   have f2 := hinv.fit hi
   have l1 := a4.lt i hi
   rw [he] at l1
   obtain ⟨g1,g2⟩ := l1.inj (b4.lt i hi) f1.lf f2.lf f1.nm f2.nm
   exact ⟨g1,by rw [f1.v0,f2.v0,g2]⟩
  rw [hcut,zgY (T := T3),zgY (T := T4),hL] at hB
  rw [hL] at hR1 hR2 hP
  have h3 := r3_s m u x T4 a b na nb hinv hx a2.len b2.len (t4.less (by omega)) b4 (q14.subset d1) (q23.subset d2) (by rw [n1];exact (z6n q14 d1).symm) (by rw [n2];exact (z6n q23 d2).symm) hm
  have ha := a2.len
  have hb := b2.len
  have hcl := z4E (s := x) (l := b) (g := gB a b 16) (u := zFP x.t (gB a b 16)) (by omega)
  have hct := z8S (s := x) (l := b) (g := gB a b 16) (u := zFP x.t (gB a b 16)) (by omega)
  have hsz := zkI hcl
  have hml := z1q (s := x) (l := b) (by omega)
  have hmt := zml (s := x) (l := b) (by omega)
  have hms := zum (s := zM) (s' := x) (l' := b) (by omega)
  unfold mfO crO at *
  rw [z2a] at hR1 hR2 hB
  rw [zk7] at hP hB
  rw [zb8] at hP
  rw [zad] at hB
  have hN' : z7K m [⟨1,z03,0,stC u⟩,⟨1,z03,0,stC x⟩] = some (OP 3 0,tb (zDg u x) [] []) := hN
  simp (config := {maxSteps := 4000000,implicitDefEqProofs := false}) (disch := omega) only [go_sem,hT,hN',hR1,hR2,hP,hB,h3,ha,hb,hcl,hct,hsz,hml,hmt,hms,z8t,zmF,zbV,zr7,zlP,zkX,ztY,zcF,zfj,zqN,z3G]
 ·obtain rfl := hbad he
  have hS := zmf m St.zero St.zero (by omega) (fun i=>Nat.zero_le _) (fun i=>Nat.zero_le _)
  rw [zko] at hS
  rw [zb8] at hS
  have he' : ¬ (e : Int) = 0 := by omega
  simp (config := {maxSteps := 4000000,implicitDefEqProofs := false}) (disch := omega) only [go_sem,hT,hW,hS,he',zrJ,zfG,zik,zm6,zzc,zlc,zzV,zAx]
theorem zmO (m : Nat) (s : St) (l : List Edt) (hm : 1000000 < m) (h : s.t.In) (hl : l.length ≤ maxLen) (hx : ∀ x ∈ l,z3i (x.it 0)) : z1t m (stA s) (SL (l.map eA)) = some (bA true,[]) := by
 rw [z4T]
 have hF := zuu m s h.len
 have hok : ({ s with t := zE3 s.t 16 } : St).t.Ok := zur h
 have hinv : zEb ({ s with t := zE3 s.t 16 } : St).t = true → TInv ({ s with t := zE3 s.t 16 } : St).t := fun q=>zwp h q
 generalize ({ s with t := zE3 s.t 16 } : St) = u at *
 rw [zb8,zb8] at hF
 rw [zb8]
 have hss : z0e (stC s) 0 (stC u) = stC u := z2f (by rw [z1a,z1a])
 by_cases h60 : l.length ≤ 60
 ·have h1 := zDS m u l hok hinv hx (by omega) hm
  unfold stO at h1
  have h60' : ¬ (60 : Int) < (l.length : Int) := by omega
  simp (config := {maxSteps := 4000000,implicitDefEqProofs := false}) (disch := omega) only [go_sem,hF,hss,h60',h1]
 ·have h1 := zDS m u (l.take 60) hok hinv (fun x hx'=>hx x (List.mem_of_mem_take hx')) (by rw [List.length_take];omega) hm
  unfold stO at h1
  rw [List.map_take] at h1
  have h60' : (60 : Int) < (l.length : Int) := by omega
  have h61 : (60 : Int) ≤ (l.length : Int) := by omega
  have hall : (l.all fun x=>decide ((cellsOf (eA x)).length = 4)) = true := List.all_eq_true.2 fun x _=>rfl
  simp (config := {maxSteps := 4000000,implicitDefEqProofs := false}) (disch := omega) only [go_sem,hF,hss,h60',h1,h61,hall]
end

section
open Go.RowKit
theorem zwb {W : World} (h : Sig W ∧ Tab W) : GOk GG (SW W) := by
 intro g d hg j y hy
 simp only [GG,List.mem_cons,List.not_mem_nil,or_false,Prod.mk.injEq] at hg
 rcases hg with ⟨rfl,rfl⟩|⟨rfl,rfl⟩
 ·match j with
  |0=>simp [cellsOf] at hy;subst hy;exact ⟨1,_,h.1.2.1,rfl,rfl,rfl⟩
  |1=>simp [cellsOf] at hy;subst hy;exact ⟨1,_,h.1.2.2,rfl,rfl,rfl⟩
  |j + 2=>simp [cellsOf] at hy
 ·have hy : (Lib.pow10Tab.map fun k : Int=>(V (.int .u64 k) : AV))[j]? = some y := hy
  rw [List.getElem?_map] at hy
  obtain ⟨z,hz,rfl⟩ := Option.map_eq_some_iff.1 hy
  obtain ⟨hj,rfl⟩ := List.getElem?_eq_some_iff.1 hz
  have hj' : j < 20 := by rw [Lib.pow10Tab_length] at hj;exact hj
  have h1 := Lib.pow10Tab_at j hj'
  rw [List.getD_eq_getElem?_getD,List.getElem?_eq_getElem hj,Option.getD_some] at h1
  rw [h1]
  exact ⟨1,_,h.2 j hj',rfl,rfl,rfl⟩
theorem zqf {n : Nat} {ds : List AV} (h : ofT Tryd.prog n 65 ds) : ∃ (k i : Int) (s : z0f),ds = [nA k,nA i,sA s] ∧ (-9223372036854775808 ≤ i ∧ i < 9223372036854775808) ∧ s.length ≤ maxLen := by
 obtain ⟨m,a1,b1,rfl,h1,a2,b2,rfl,h2,a3,b3,rfl,h3,rfl⟩ := z6s Tryd.underlying65 h
 obtain ⟨k,rfl,_⟩ := zbj Tryd.underlying3 h1
 obtain ⟨i,rfl,hi⟩ := zbj Tryd.underlying2 h2
 obtain ⟨s,rfl,hs⟩ := zmk Tryd.underlying9 h3
 exact ⟨k,i,s,rfl,hi,hs⟩
theorem zsY {n : Nat} {ds : List AV} (h : ofT Tryd.prog n 79 ds) : ∃ x : Item,ds = x.cells.map (fun u=>V u) ∧ zn1 x := by
 obtain ⟨m,a1,b1,rfl,h1,a2,b2,rfl,h2,a3,b3,rfl,h3,rfl⟩ := z6s Tryd.underlying79 h
 obtain ⟨k,rfl,hk⟩ := zmk Tryd.underlying9 h1
 obtain ⟨kd,i,s,rfl,hi,hs⟩ := zqf h2
 obtain ⟨v,rfl,_⟩ := zbj Tryd.underlying3 h3
 exact ⟨⟨k,kd,i,s,v⟩,rfl,hk,hs,hi⟩
theorem zrt : zD6 Tryd.prog 79 = true := by kernel_rfl
theorem znN {n : Nat} {ds : List AV} (h : ofT Tryd.prog n 22 ds) : ∃ l : List Item,ds = [lA l] ∧ l.length ≤ maxLen ∧ ∀ x ∈ l,zn1 x := by
 obtain ⟨m,es,rfl,hl,he⟩ := zhK Tryd.underlying22 h
 obtain ⟨l,rfl,hi⟩ := zfg (f := flA Item.cells) (Q := zn1) fun x hx=>by
  obtain ⟨q1,q2⟩ := he x hx
  obtain ⟨y,hy,hi⟩ := zsY q1
  exact ⟨y,by rw [zhL (q2.trans zrt),hy];rfl,hi⟩
 exact ⟨l,rfl,by simpa using hl,hi⟩
theorem zk8 {α β : Type} {f : β → α} {k : List β} : (k.map fun y=>[f y]).flatten = k.map f := by
 induction k with
 |nil=>rfl
 |cons x r ih=>simp [ih]
theorem zql {α β : Type} (f : α → β) (l : List α) (d : α) : l.map f = (List.range l.length).map fun i=>f (l.getD i d) := by
 refine List.ext_getElem (by simp) fun i h1 h2=>?_
 simp only [List.length_map] at h1
 simp [List.getElem_map,h1]
theorem zmR {n : Nat} {ds : List AV} (h : ofT Tryd.prog n 26 ds) : ∃ t : Tr,ds = tC t ∧ t.In := by
 obtain ⟨m,a1,b1,rfl,h1,a2,b2,rfl,h2,rfl⟩ := z6s Tryd.underlying26 h
 obtain ⟨m1,ps,hp,rfl,hq⟩ := zi4 Tryd.underlying23 h1
 obtain ⟨m2,qs,hp2,rfl,hq2⟩ := zi4 Tryd.underlying24 h2
 obtain ⟨L,rfl,hL⟩ := zfg (f := fun l : List Item=>[lA l]) (Q := fun l=>l.length ≤ maxLen ∧ ∀ x ∈ l,zn1 x) fun x hx=>znN (hq x hx)
 obtain ⟨Z,rfl,hZ⟩ := zfg (f := fun z : Int=>[nA z]) (Q := fun _=>True) fun x hx=>by
  obtain ⟨i,e,_⟩ := zbj Tryd.underlying3 (hq2 x hx)
  exact ⟨i,e,trivial⟩
 rw [List.length_map] at hp hp2
 refine ⟨⟨fun i=>L.getD i [],fun i=>Z.getD i 0⟩,?_,fun i=>?_⟩
 ·rw [List.append_nil,zk8,zk8,zql lA L [],zql nA Z 0,hp,hp2]
  rfl
 ·dsimp only
  by_cases hi : i < L.length
  ·have e : L.getD i [] = L[i] := by simp [hi]
   have hm := hL L[i] (List.getElem_mem hi)
   rw [e]
   exact ⟨hm.1,fun x hx=>(hm.2 x hx).2.2,fun q=>by omega⟩
  ·have e : L.getD i [] = [] := by simp [List.getD,List.getElem?_eq_none (Nat.le_of_not_lt hi)]
   rw [e]
   exact ⟨Nat.zero_le _,(by intro x hx;cases hx),fun _=>rfl⟩
theorem zn5 {n : Nat} {ds : List AV} (h : ofT Tryd.prog n 28 ds) : ∃ s : St,ds = stC s ∧ s.t.In := by
 obtain ⟨m,a1,b1,rfl,h1,a2,b2,rfl,h2,a3,b3,rfl,h3,a4,b4,rfl,h4,rfl⟩ := z6s Tryd.underlying28 h
 obtain ⟨t,rfl,ht⟩ := zmR h1
 obtain ⟨v,rfl,_⟩ := zbj Tryd.underlying3 h2
 obtain ⟨b,rfl,_⟩ := zbj Tryd.underlying3 h3
 obtain ⟨k,rfl,_⟩ := zbj Tryd.underlying3 h4
 exact ⟨⟨t,v,b,k⟩,rfl,ht⟩
theorem zs0 {ds : List AV} : mkA Tryd.prog 28 ds = .agg ds := by
 unfold mkA
 rw [if_pos (show zD6 Tryd.prog 28 = true by kernel_rfl)]
theorem zrK {n : Nat} {ds : List AV} (h : ofT Tryd.prog n 67 ds) : ∃ x : Edt,ds = x.cells.map (fun u=>V u) ∧ (x.key.length ≤ maxLen ∧ x.s.length ≤ maxLen ∧ z3i (x.it 0)) := by
 obtain ⟨m,a1,b1,rfl,h1,a2,b2,rfl,h2,rfl⟩ := z6s Tryd.underlying67 h
 obtain ⟨k,rfl,hk⟩ := zmk Tryd.underlying9 h1
 obtain ⟨kd,i,s,rfl,hi,hs⟩ := zqf h2
 exact ⟨⟨k,kd,i,s⟩,rfl,hk,hs,hi⟩
theorem zsi : zD6 Tryd.prog 67 = true := by kernel_rfl
def zFa (x : Edt) : Prop := x.key.length ≤ maxLen ∧ x.s.length ≤ maxLen ∧ z3i (x.it 0)
theorem znT {n : Nat} {ds : List AV} (h : ofT Tryd.prog n 29 ds) : ∃ l : List Edt,ds = [SL (l.map eA)] ∧ l.length ≤ maxLen ∧ ∀ x ∈ l,zFa x := by
 obtain ⟨m,es,rfl,hl,he⟩ := zhK Tryd.underlying29 h
 obtain ⟨l,rfl,hi⟩ := zfg (f := flA Edt.cells) (Q := zFa) fun x hx=>by
  obtain ⟨q1,q2⟩ := he x hx
  obtain ⟨y,hy,hi⟩ := zrK q1
  exact ⟨y,by rw [zhL (q2.trans zsi),hy];rfl,hi⟩
 exact ⟨l,rfl,by simpa using hl,hi⟩
theorem zsC {d : AV} : mkA Tryd.prog 29 [d] = d := by
 unfold mkA
 rw [if_neg (by rw [show zD6 Tryd.prog 29 = false by kernel_rfl];decide)]
 rfl
theorem znP {W : World} {v : Value} (h : Arg Tryd.prog W 28 v) : ∃ s : St,s.t.In ∧ rep (SW W) [] (stA s) v := by
 obtain ⟨n,ds,h1,h2⟩ := h
 obtain ⟨t,rfl,ht⟩ := zn5 h1
 rw [zs0] at h2
 exact ⟨t,ht,h2⟩
theorem znt {W : World} {v : Value} (h : Arg Tryd.prog W 29 v) : ∃ l : List Edt,(l.length ≤ maxLen ∧ ∀ x ∈ l,zFa x) ∧ rep (SW W) [] (SL (l.map eA)) v := by
 obtain ⟨n,ds,h1,h2⟩ := h
 obtain ⟨t,rfl,ht⟩ := znT h1
 rw [zsC] at h2
 exact ⟨t,ht,h2⟩
theorem zBU {S : SS} {d0 d1 : AV} {v0 v1 : Value} (h0 : rep S [] d0 v0) (h1 : rep S [] d1 v1) : ∀ (j : Nat) (d : AV) (v : Value),[d0,d1][j]? = some d → [v0,v1][j]? = some v → rep S [] d v := by
 intro j d v hd hv
 match j with
 |0=>simp at hd hv;subst hd hv;exact h0
 |1=>simp at hd hv;subst hd hv;exact h1
 |j + 2=>simp at hd
theorem walk_PlenumParcels (W : World) (hS : Sig W ∧ Tab W) (v0 : Value) (h0 : Arg Tryd.prog W 28 v0) (v1 : Value) (h1 : Arg Tryd.prog W 29 v1) :
  Calls Tryd.prog 3 #[v0,v1] W fun e W'=>e = .returned (.bool true) ∧ Below W.heap.size W W' := by
 obtain ⟨s,hs,r0⟩ := znP h0
 obtain ⟨l,⟨hl,hx⟩,r1⟩ := znt h1
 exact zno (z4U 40000001 [_,_] _ _ (zmO _ s l (by omega) hs hl fun x hx'=>(hx x hx').2.2)) (zwb hS) (vs := [v0,v1]) rfl (zBU r0 r1)
end

end Go.Proofs.YtaplemeamcgpkaaDoor
end

