/-
  Texts laid together, part 6 of 6: laws of a walk over data, contracts of functions, each whole by itself.
-/
import Derived.Test.YtbdbmfifclmpcaaMge
namespace Go.Proofs.Ytbdbmfifclmpcaa
open Go.RowKit
set_option linter.unusedVariables false
set_option maxRecDepth 100000
noncomputable def plenumlaw28_WireBack_c : Code := (Try.f5.body).getD .skip
def plenumlaw28_WireBack_h : Hint := (.two .n (.two .n (.join [1, 2] (.two .n (.two .n .n)) (.join [1] (.two .n (.two (.two .n (.two .n (.join [1, 2, 6, 7] (.two .n (.one (.lp [] [1, 2, 5, 6, 7, 9] [1, 2, 6, 7] (.two (.two .n (.two .n .n)) (.two (.one .n) .n))))) (.join [1, 46] .n (.two (.two .n .n) .n))))) .n)) (.two .n (.two (.two .n (.two (.two .n .n) .n)) (.two .n .n)))))))
noncomputable def plenumlaw28_WireBack_env (m : Nat) : Env := [(12, .tell (plenumlaw28_Few_t m)), (13, .tell (plenumref28_May_t m)), (14, .keep (wire_EncodeB_t m)), (9, .keep (wire_DecodeB_t m)), (11, .tell (plenumref28_Same_t m)), (8, .tell (plenumlaw28_awake_t m))]
noncomputable abbrev plenumlaw28_WireBack_fin : KO (AV × List AObj) := tellFK Try.prog [.tmp 4]
noncomputable def plenumlaw28_WireBack_r3 (m : Nat) (s : ASt) : RO := joinW Try.prog GG (plenumlaw28_WireBack_env m) m ⟨74, []⟩ (cdR (cdR (cdR (cdR plenumlaw28_WireBack_c)))) plenumlaw28_WireBack_h.r.r.r.r s (plenumlaw28_WireBack_fin)
noncomputable def plenumlaw28_WireBack_r4 (m : Nat) (s : ASt) : RO := joinW Try.prog GG (plenumlaw28_WireBack_env m) m ⟨74, []⟩ (cdR (cdR (cdR (cdR (cdL (cdR (cdL (cdR (cdR (cdR plenumlaw28_WireBack_c)))))))))) plenumlaw28_WireBack_h.r.r.r.l.r.l.r.r.r.r s (seqX (fun s => plenumlaw28_WireBack_r3 m ⟨s.H, [(1, gt s.T 1)]⟩) (plenumlaw28_WireBack_fin))
noncomputable def plenumlaw28_WireBack_r2 (m : Nat) (s : ASt) : RO := joinW Try.prog GG (plenumlaw28_WireBack_env m) m ⟨74, []⟩ (cdR (cdR (cdR (cdL (cdR (cdL (cdR (cdR (cdR plenumlaw28_WireBack_c))))))))) plenumlaw28_WireBack_h.r.r.r.l.r.l.r.r.r s (seqX (fun s => plenumlaw28_WireBack_r3 m ⟨s.H, [(1, gt s.T 1)]⟩) (plenumlaw28_WireBack_fin))
noncomputable def plenumlaw28_WireBack_b1 (m : Nat) (s : ASt) (kc : ASt → RO) (kx : KO (AV × List AObj)) : RO := bodyW Try.prog GG (plenumlaw28_WireBack_env m) m ⟨74, []⟩ (cdL (cdL (cdR (cdL (cdR (cdR (cdL (cdR (cdL (cdR (cdR (cdR plenumlaw28_WireBack_c)))))))))))) plenumlaw28_WireBack_h.r.r.r.l.r.l.r.r.l.r.c.c [1, 2, 5, 6, 7, 9] [1, 2, 6, 7] s kc kx
noncomputable def plenumlaw28_WireBack_r1 (m : Nat) (s : ASt) : RO := joinW Try.prog GG (plenumlaw28_WireBack_env m) m ⟨74, []⟩ (cdR (cdR (cdR plenumlaw28_WireBack_c))) plenumlaw28_WireBack_h.r.r.r s (plenumlaw28_WireBack_fin)
noncomputable def plenumlaw28_WireBack (m : Nat) (t0 t1 : AV) : RO := exec Try.prog GG (plenumlaw28_WireBack_env m) m ⟨74, []⟩ plenumlaw28_WireBack_c plenumlaw28_WireBack_h ⟨[], argsT 0 [t0, t1]⟩ (plenumlaw28_WireBack_fin)
theorem plenumlaw28_WireBack_r4_eq (m : Nat) (H : List AObj) (t1 t46 : AV) : plenumlaw28_WireBack_r4 m ⟨H, [(1, t1), (46, t46)]⟩ =
  condE t46 (
   tellK H (ro H (V (.bool false)))) (
   plenumlaw28_WireBack_r3 m ⟨H, [(1, t1)]⟩) := by
  refine (joinW_eq Try.prog GG (plenumlaw28_WireBack_env m) m ⟨74, []⟩ (cdR (cdR (cdR (cdR (cdL (cdR (cdL (cdR (cdR (cdR plenumlaw28_WireBack_c)))))))))) plenumlaw28_WireBack_h.r.r.r.l.r.l.r.r.r.r ⟨H, [(1, t1), (46, t46)]⟩ (seqX (fun s => plenumlaw28_WireBack_r3 m ⟨s.H, [(1, gt s.T 1)]⟩) (plenumlaw28_WireBack_fin))).trans ?_
  kernel_rfl
theorem plenumlaw28_WireBack_r3_eq (m : Nat) (H : List AObj) (t1 : AV) : plenumlaw28_WireBack_r3 m ⟨H, [(1, t1)]⟩ =
  keepE (wire_DecodeB_t m [(ro H t1)] H) fun t49 H2 =>
  extE t49 0 fun t50 =>
  extE t49 1 fun t51 =>
  extE t49 2 fun t52 =>
  allocE (some zc_api_Msg) ty_api_Msg H2 fun t10 H3 =>
  storeE 10 H3 t10 t50 fun H4 =>
  binE none false false .neq t51 (V (.int .i64 0)) fun t54 =>
  condE t54 (
   loadE 10 H4 t10 fun t55 =>
   buildE (some pl_api_Msg) (some zc_api_Msg) [] fun t56 =>
   tellE (plenumref28_Same m (ro H4 t55) (ro H4 t56)) [(ro H4 t55), (ro H4 t56)] fun t57 =>
   condE t57 (
    tellE (plenumlaw28_awake m) [] fun t59 =>
    tellK H4 (ro H4 t59)) (
    tellK H4 (ro H4 (V (.bool false))))) (
   loadE 10 H4 t10 fun t61 =>
   tellE (plenumref28_May m (ro H4 t61)) [(ro H4 t61)] fun t62 =>
   condE t62 (
    loadE 10 H4 t10 fun t64 =>
    keepE (wire_EncodeB_t m [(ro H4 t64)] H4) fun t65 H5 =>
    convE false none true true (ro H5 t65) fun t66 =>
    convE false none true true (ro [] t1) fun t68 =>
    binE none false false .eql t66 t68 fun t69 =>
    condE t69 (
    tellE (plenumlaw28_awake m) [] fun t72 =>
    tellK H5 (ro H5 t72)) (
    tellK H5 (ro H5 (V (.bool false))))) (
    tellK H4 (ro H4 (V (.bool false))))) := by
  refine (joinW_eq Try.prog GG (plenumlaw28_WireBack_env m) m ⟨74, []⟩ (cdR (cdR (cdR (cdR plenumlaw28_WireBack_c)))) plenumlaw28_WireBack_h.r.r.r.r ⟨H, [(1, t1)]⟩ (plenumlaw28_WireBack_fin)).trans ?_
  kernel_rfl
theorem plenumlaw28_WireBack_r2_eq (m : Nat) (H : List AObj) (t1 t2 t6 t7 : AV) : plenumlaw28_WireBack_r2 m ⟨H, [(1, t1), (2, t2), (6, t6), (7, t7)]⟩ =
  loadE 10 H t6 fun t39 =>
  loadE 10 H t2 fun t40 =>
  tellE (plenumref28_Same m (ro H t39) (ro H t40)) [(ro H t39), (ro H t40)] fun t41 =>
  unE .not t41 fun t42 =>
  condE t42 (
   plenumlaw28_WireBack_r4 m ⟨H, [(1, t1), (46, (V (.bool true)))]⟩) (
   binE none false false .neq t7 (V (.int .i64 0)) fun t45 =>
   plenumlaw28_WireBack_r4 m ⟨H, [(1, t1), (46, t45)]⟩) := by
  refine (joinW_eq Try.prog GG (plenumlaw28_WireBack_env m) m ⟨74, []⟩ (cdR (cdR (cdR (cdL (cdR (cdL (cdR (cdR (cdR plenumlaw28_WireBack_c))))))))) plenumlaw28_WireBack_h.r.r.r.l.r.l.r.r.r ⟨H, [(1, t1), (2, t2), (6, t6), (7, t7)]⟩ (seqX (fun s => plenumlaw28_WireBack_r3 m ⟨s.H, [(1, gt s.T 1)]⟩) (plenumlaw28_WireBack_fin))).trans ?_
  kernel_rfl
theorem plenumlaw28_WireBack_b1_eq (m : Nat) (H : List AObj) (t1 t2 t5 t6 t7 t9 : AV) (kc : ASt → RO) (kx : KO (AV × List AObj)) : plenumlaw28_WireBack_b1 m ⟨H, [(1, t1), (2, t2), (5, t5), (6, t6), (7, t7), (9, t9)]⟩ kc kx =
  lenE false true H t5 fun t32 =>
  binE none false false .lss t9 t32 fun t33 =>
  condE t33 (
   idxSE 1 H t5 t9 fun t38 =>
   storeE 1 H t38 (V (.int .u8 99)) fun H2 =>
   binE none false false .add t9 (V (.int .i64 1)) fun t35 =>
   backE H.length H2 [(1, t1), (2, t2), (5, t5), (6, t6), (7, t7), (9, t35)] kc) (
   kx (.exit 0) ⟨H, [(1, t1), (2, t2), (6, t6), (7, t7)]⟩) := by
  refine (bodyW_eq Try.prog GG (plenumlaw28_WireBack_env m) m ⟨74, []⟩ (cdL (cdL (cdR (cdL (cdR (cdR (cdL (cdR (cdL (cdR (cdR (cdR plenumlaw28_WireBack_c)))))))))))) plenumlaw28_WireBack_h.r.r.r.l.r.l.r.r.l.r.c.c [1, 2, 5, 6, 7, 9] [1, 2, 6, 7] ⟨H, [(1, t1), (2, t2), (5, t5), (6, t6), (7, t7), (9, t9)]⟩ kc kx).trans ?_
  kernel_rfl
theorem plenumlaw28_WireBack_r1_eq (m : Nat) (H : List AObj) (t1 t2 : AV) : plenumlaw28_WireBack_r1 m ⟨H, [(1, t1), (2, t2)]⟩ =
  loadE 10 H t2 fun t20 =>
  tellE (plenumref28_May m (ro H t20)) [(ro H t20)] fun t21 =>
  condE t21 (
   loadE 10 H t2 fun t22 =>
   keepE (wire_EncodeB_t m [(ro H t22)] H) fun t23 H2 =>
   keepE (wire_DecodeB_t m [(ro H2 t23)] H2) fun t26 H3 =>
   extE t26 0 fun t27 =>
   extE t26 1 fun t28 =>
   extE t26 2 fun t29 =>
   allocE (some zc_api_Msg) ty_api_Msg H3 fun t6 H4 =>
   storeE 10 H4 t6 t27 fun H5 =>
   iterC m (plenumlaw28_WireBack_b1 m) ⟨H5, [(1, t1), (2, t2), (5, t23), (6, t6), (7, t28), (9, (V (.int .i64 0)))]⟩ (blockX 0 (seqX (fun s => plenumlaw28_WireBack_r2 m ⟨s.H, [(1, gt s.T 1), (2, gt s.T 2), (6, gt s.T 6), (7, gt s.T 7)]⟩) (seqX (fun s => plenumlaw28_WireBack_r3 m ⟨s.H, [(1, gt s.T 1)]⟩) (plenumlaw28_WireBack_fin))))) (
   plenumlaw28_WireBack_r3 m ⟨H, [(1, t1)]⟩) := by
  refine (joinW_eq Try.prog GG (plenumlaw28_WireBack_env m) m ⟨74, []⟩ (cdR (cdR (cdR plenumlaw28_WireBack_c))) plenumlaw28_WireBack_h.r.r.r ⟨H, [(1, t1), (2, t2)]⟩ (plenumlaw28_WireBack_fin)).trans ?_
  kernel_rfl
theorem plenumlaw28_WireBack_eq (m : Nat) (t0 t1 : AV) : plenumlaw28_WireBack m t0 t1 =
  boxE ty_api_Msg [] t0 fun t2 H1 =>
  loadE 10 H1 t2 fun t13 =>
  tellE (plenumlaw28_Few m (ro H1 t13)) [(ro H1 t13)] fun t14 =>
  storeE 10 H1 t2 t14 fun H2 =>
  lenE false true H2 t1 fun t16 =>
  binE none false false .gtr t16 (V (.int .i64 4000)) fun t17 =>
  condE t17 (
   sliceE false (some (ty_uint8, 1)) H2 t1 none (some (V (.int .i64 4000))) fun t19 =>
   plenumlaw28_WireBack_r1 m ⟨H2, [(1, t19), (2, t2)]⟩) (
   plenumlaw28_WireBack_r1 m ⟨H2, [(1, t1), (2, t2)]⟩) := by
  refine (tellX Try.prog GG (plenumlaw28_WireBack_env m) m ⟨74, []⟩ plenumlaw28_WireBack_c plenumlaw28_WireBack_h ⟨[], argsT 0 [t0, t1]⟩ [.tmp 4]).trans ?_
  kernel_rfl
noncomputable def plenumlaw28_WireBack_t (m : Nat) : List AV → RO | [t0, t1] => plenumlaw28_WireBack m t0 t1 | _ => none
theorem plenumlaw28_WireBack_ok (m : Nat) : ∀ args X H', plenumlaw28_WireBack_t m args = some (X, H') → ACp Try.prog GG 5 args X := by
  intro args X H' h
  unfold plenumlaw28_WireBack_t at h
  split at h
  · exact tell_okK MIX (by
    intro f e h
    simp only [plenumlaw28_WireBack_env, Prod.mk.injEq, List.mem_cons, List.not_mem_nil, or_false] at h
    rcases h with ⟨rfl, rfl⟩ | ⟨rfl, rfl⟩ | ⟨rfl, rfl⟩ | ⟨rfl, rfl⟩ | ⟨rfl, rfl⟩ | ⟨rfl, rfl⟩
    · exact plenumlaw28_Few_ok m
    · exact plenumref28_May_ok m
    · exact wire_EncodeB_ok m
    · exact wire_DecodeB_ok m
    · exact plenumref28_Same_ok m
    · exact plenumlaw28_awake_ok m) (f := 5) (c := plenumlaw28_WireBack_c) Try.func5 rfl (by kernel_rfl) _ rfl Try.ntmps5 (Nat.le_of_ble_eq_true rfl) plenumlaw28_WireBack_h h
  · cases h
end Go.Proofs.Ytbdbmfifclmpcaa

namespace Go.Proofs.Ytbdbmfifclmpcaa
open Go.RowKit
set_option linter.unusedVariables false
set_option linter.unusedSimpArgs false
set_option maxRecDepth 20000
theorem i64_u8 {i : Int} : ¬ isU8 (nA i) := by rintro ⟨k, e⟩; cases e
theorem str_u8 {s : List UInt8} : ¬ isU8 (sA s) := by rintro ⟨k, e⟩; cases e
theorem sl_u8 {es : List AV} : ¬ isU8 (SL es) := by rintro ⟨k, e⟩; cases e
theorem sm_ub (x : Sm) : ∀ y ∈ smC x, ¬ isU8 y ∧ Unbad isU8 y := by
  intro y hy
  simp only [smC, List.mem_cons, List.not_mem_nil, or_false] at hy
  rcases hy with rfl | rfl | rfl | rfl | rfl <;> exact ⟨i64_u8, .held _⟩
theorem list_ub {α : Type} {f : α → AV} {c : α → List AV} (hf : ∀ x, f x = .agg (c x)) (l : List α) (h : ∀ x ∈ l, ∀ y ∈ c x, ¬ isU8 y ∧ Unbad isU8 y) : Unbad isU8 (SL (l.map f)) := by
  refine .slice _ (fun d hd y hy => ?_) (fun d hd y hy => ?_)
  · obtain ⟨x, hx, rfl⟩ := List.mem_map.1 hd
    rw [hf] at hy
    exact (h x hx y hy).1
  · obtain ⟨x, hx, rfl⟩ := List.mem_map.1 hd
    rw [hf] at hy
    exact (h x hx y hy).2
theorem sms_ub (l : List Sm) : Unbad isU8 (SL (l.map smE)) := list_ub sm_it l fun x _ => sm_ub x
theorem ce_ub (x : Ce) : ∀ y ∈ ceC x, ¬ isU8 y ∧ Unbad isU8 y := by
  intro y hy
  simp only [ceC, List.mem_cons, List.not_mem_nil, or_false] at hy
  rcases hy with rfl | rfl | rfl | rfl | rfl
  · exact ⟨i64_u8, .held _⟩
  · exact ⟨i64_u8, .held _⟩
  · exact ⟨i64_u8, .held _⟩
  · exact ⟨str_u8, .held _⟩
  · exact ⟨sl_u8, sms_ub _⟩
theorem cg_ub (x : Ch) : ∀ y ∈ cgC x, ¬ isU8 y ∧ Unbad isU8 y := by
  intro y hy
  simp only [cgC, List.mem_cons, List.not_mem_nil, or_false] at hy
  rcases hy with rfl | rfl | rfl | rfl | rfl | rfl
  · exact ⟨i64_u8, .held _⟩
  · exact ⟨i64_u8, .held _⟩
  · exact ⟨i64_u8, .held _⟩
  · exact ⟨i64_u8, .held _⟩
  · exact ⟨sl_u8, sms_ub _⟩
  · exact ⟨sl_u8, list_ub ce_it _ fun x _ => ce_ub x⟩
theorem ms_ub (x : Ms) : ∀ y ∈ msC x, ¬ isU8 y ∧ Unbad isU8 y := by
  intro y hy
  simp only [msC, List.mem_cons, List.not_mem_nil, or_false] at hy
  rcases hy with rfl | rfl | rfl | rfl | rfl | rfl | rfl | rfl
  · exact ⟨i64_u8, .held _⟩
  · exact ⟨i64_u8, .held _⟩
  · exact ⟨i64_u8, .held _⟩
  · exact ⟨i64_u8, .held _⟩
  · exact ⟨i64_u8, .held _⟩
  · exact ⟨str_u8, .held _⟩
  · exact ⟨sl_u8, sms_ub _⟩
  · exact ⟨sl_u8, list_ub cg_it _ fun x _ => cg_ub x⟩
theorem dec_ub (r : Ms × Nat × Nat) : UnbadV isU8 (decX r) := by
  intro d hd
  simp only [List.mem_cons, List.not_mem_nil, or_false] at hd
  rcases hd with rfl | rfl | rfl
  · exact fun y hy => (ms_ub _ y hy).2
  · exact Unbad.held _
  · exact Unbad.held _
theorem by_u8 {l : List UInt8} : ∀ y ∈ flat (bC l), isU8 y := by
  intro y hy
  unfold bC at hy
  rw [flat_by] at hy
  obtain ⟨b, _, rfl⟩ := List.mem_map.1 hy
  exact ⟨_, rfl⟩
theorem by_isV {l : List UInt8} : (flat (bC l)).all isV = true := by
  rw [List.all_eq_true]
  intro y hy
  obtain ⟨k, rfl⟩ := by_u8 y hy
  rfl
def rowsU8 (H : List AObj) : Prop := ∀ o ∈ H, o.k = 4 → ∀ y ∈ flat o.c, isU8 y
theorem decodeB_e (m : Nat) (b : List UInt8) (hb : b.length ≤ 34359738368) (H : List AObj) (hH : rowsU8 H) : wire_DecodeB_t m [SL (bC b)] H = some (decX (decW b), H) := by
  unfold wire_DecodeB_t
  have h1 : [SL (bC b)].map (fzV H) = [SL (bC b)] := rfl
  rw [h1, wire_Decode_e m b hb]
  exact lend_e rfl hH (dec_ub _)
theorem decodeB_r (m : Nat) (b : List UInt8) (hb : b.length ≤ 34359738368) (o : AObj) (e : TypeId) (z : Nat) (ho : o.k = 1) : wire_DecodeB_t m [PR 1 b.length] [o, ⟨4, e, z, bC b⟩] = some (decX (decW b), [o, ⟨4, e, z, bC b⟩]) := by
  unfold wire_DecodeB_t
  have hl : (bC b).all (ltA 0) = true := by
    rw [List.all_eq_true]
    intro d hd
    obtain ⟨x, _, rfl⟩ := List.mem_map.1 hd
    rfl
  have hz : fzO [o, ⟨4, e, z, bC b⟩] 1 b.length = some (bC b) := by
    show (if (4 : Nat) = 4 ∧ b.length = (bC b).length ∧ (bC b).all (ltA 0) = true then some (bC b) else none) = _
    rw [if_pos ⟨rfl, (bC_length b).symm, hl⟩]
  have h1 : [PR 1 b.length].map (fzV [o, ⟨4, e, z, bC b⟩]) = [SL (bC b)] := by
    show [match fzO [o, ⟨4, e, z, bC b⟩] 1 b.length with | some c => SL c | none => PR 1 b.length] = _
    rw [hz]
  rw [h1, wire_Decode_e m b hb]
  refine lend_e (by rw [h1]; rfl) (fun o' ho' hk y hy => ?_) (dec_ub _)
  simp only [List.mem_cons, List.not_mem_nil, or_false] at ho'
  rcases ho' with rfl | rfl
  · omega
  · exact by_u8 y hy
theorem encodeB_1 (m : Nat) (x : Ms) (h : msB x = true) (hm : 70 < m) (o : AObj) : wire_EncodeB_t m [msE x] [o] = some (PR 1 (encMs x).length, [o, ⟨4, ty_uint8, 1, bC (encMs x)⟩]) := by
  unfold wire_EncodeB_t
  rw [if_pos (show [o].length = 1 from rfl)]
  have h1 : wire_EncodeO_t m [msE x] [] = wire_EncodeO m (msE x) [] := rfl
  rw [h1, encodeO_s m x h hm]
  have hl : allCE 1 (bC (encMs x)) = true := bC_all1
  show (if (2 : Nat) = 2 ∧ (encMs x).length = (bC (encMs x)).length ∧ allCE 1 (bC (encMs x)) = true ∧ (flat (bC (encMs x))).all isV = true ∧ [msE x].all (ltT 0) = true then some (PR 1 (encMs x).length, [o, ⟨4, ty_uint8, 1, bC (encMs x)⟩]) else none) = _
  rw [if_pos ⟨rfl, (bC_length _).symm, hl, by_isV, rfl⟩]
theorem encodeB_2 (m : Nat) (x : Ms) (h : msB x = true) (hm : 70 < m) (H : List AObj) (hH : H.length ≠ 1) : wire_EncodeB_t m [msE x] H = some (SL (bC (encMs x)), H) := by
  unfold wire_EncodeB_t
  rw [if_neg hH]
  have h1 : wire_Encode_t m [msE x] = wire_Encode m (msE x) := rfl
  rw [h1, encode_s m x hm, if_pos h]
  rfl
theorem outR_no {b : List UInt8} {e a : Nat} (h : outR b = .no e a) : e ≠ 0 := by
  unfold outR at h
  cases hr : msgR b with
  | no e' a' =>
    rw [hr] at h
    injection h with h1 h2
    subst h1
    exact ((good_msg b).no 0 e' a' (by rw [msgG_eq]; exact hr)).1
  | ok x a' =>
    rw [hr] at h
    have h : (if x.kd = 0 then RdO.no 3 0 else if a' < b.length then RdO.no 7 a' else RdO.ok x a') = RdO.no e a := h
    split at h
    · injection h with h; omega
    · split at h
      · injection h with h; omega
      · cases h
attribute [local go_sem] Nat.zero_add Nat.add_zero Nat.mul_one Int.toNat_natCast Int.natCast_zero Int.cast_ofNat_Int or_false false_or or_true true_or Nat.sub_zero Int.natCast_nonneg Int.toNat_zero Bool.true_and Bool.and_true Bool.false_and Bool.and_false Bool.true_or Bool.or_true Bool.false_or Bool.or_false Bool.not_true Bool.not_false Bool.not_not true_and and_true false_and and_false not_true_eq_false not_false_eq_true eq_self decide_true decide_false ne_eq implies_true forall_const true_implies false_implies Bool.true_eq_false Bool.false_eq_true List.map_cons List.map_nil List.all_cons List.all_nil List.length_cons List.length_nil List.length_map List.length_append List.nil_append List.cons_append List.set_cons_zero List.set_cons_succ List.set_nil List.drop_zero List.drop_succ_cons List.drop_nil List.take_zero List.take_succ_cons List.take_nil Option.map_some Option.map_none Option.isSome_some List.all_append List.all_map Function.comp_def decide_eq_true_eq Bool.and_eq_true beq_self_eq_true or_self and_self ite_true ite_false Nat.le_refl Bool.not_eq_true decide_not Bool.not_eq_true' decide_eq_false_iff_not Bool.not_eq_false Bool.or_eq_true if_true if_false ite_self u_roF u_cvF u_cvC u_ceT u_ceK u_appS sm_it sm_len sm_sure sm_ltA sm_lt1 sm_all1 sm_ro sm_take sm_sl sm_set sm_noT sm_fr sm_st_fr sm_set_fr sm_kd sm_st_kd sm_set_kd sm_vw sm_st_vw sm_set_vw sm_sq sm_st_sq sm_set_sq sm_tm sm_st_tm sm_set_tm zsm_len zsm_sure zsm_lt1 zsm_sl zsm_ro zsm_setz zsm_set zsm_setr zsm_take sms_ltA sms_len ce_it ce_len ce_sure ce_ltA ce_lt1 ce_all1 ce_ro ce_take ce_sl ce_set ce_noT ce_sq ce_st_sq ce_set_sq ce_vw ce_st_vw ce_set_vw ce_tm ce_st_tm ce_set_tm ce_body ce_st_body ce_set_body ce_vs ce_st_vs ce_set_vs zce_len zce_sure zce_lt1 zce_sl zce_ro zce_setz zce_set zce_setr zce_take ces_ltA ces_len cg_it cg_len cg_sure cg_ltA cg_lt1 cg_all1 cg_ro cg_take cg_sl cg_set cg_noT cg_fr cg_st_fr cg_set_fr cg_vw cg_st_vw cg_set_vw cg_st cg_st_st cg_set_st cg_rt cg_st_rt cg_set_rt cg_pf cg_st_pf cg_set_pf cg_cs cg_st_cs cg_set_cs zcg_len zcg_sure zcg_lt1 zcg_sl zcg_ro zcg_setz zcg_set zcg_setr zcg_take cgs_ltA cgs_len ms_it ms_len ms_sure ms_ltA ms_lt1 ms_all1 ms_ro ms_take ms_sl ms_set ms_noT ms_kd ms_st_kd ms_set_kd ms_fr ms_st_fr ms_set_fr ms_vw ms_st_vw ms_set_vw ms_sq ms_st_sq ms_set_sq ms_tm ms_st_tm ms_set_tm ms_body ms_st_body ms_set_body ms_vs ms_st_vs ms_set_vs ms_chs ms_st_chs ms_set_chs zms_len zms_sure zms_lt1 zms_sl zms_ro zms_setz zms_set zms_setr zms_take mss_ltA mss_len natInt u_nthM u_bz u_bi1 u_bi2 u_bi3 u_bi4 u_bi5 u_bi6 u_bi7 List.take_length u_eqE u_bconv u_sconv
theorem exZ_bu {R : Type} {K : AV → Option R} : buildE (some pl_api_Msg) (some zc_api_Msg) [] K = K (.agg zc_api_Msg) := _root_.id rfl
theorem exZ_ro {H : List AObj} : ro H (.agg zc_api_Msg) = .agg (msC Ms.zero) := _root_.id rfl
theorem rows1 {y : Ms} : rowsU8 [⟨1, ty_api_Msg, 0, msC y⟩] := by
  intro o ho hk
  simp only [List.mem_cons, List.not_mem_nil, or_false] at ho
  subst ho
  simp at hk
theorem rows3 {y x : Ms} {r : List UInt8} : rowsU8 [⟨1, ty_api_Msg, 0, msC y⟩, ⟨4, ty_uint8, 1, bC r⟩, ⟨1, ty_api_Msg, 0, msC x⟩] := by
  intro o ho hk
  simp only [List.mem_cons, List.not_mem_nil, or_false] at ho
  rcases ho with rfl | rfl | rfl
  · simp at hk
  · exact by_u8
  · simp at hk
theorem back_r3a (m : Nat) (b : List UInt8) (hb : b.length ≤ 4000) (hm : 70 < m) (y : Ms) : plenumlaw28_WireBack_r3 m ⟨[⟨1, ty_api_Msg, 0, msC y⟩], [(1, SL (bC b))]⟩ = some (bA true, []) := by
  have ha := awake28_s m hm
  have h1 := decodeB_e m b (by omega) [⟨1, ty_api_Msg, 0, msC y⟩] rows1
  rw [plenumlaw28_WireBack_r3_eq]
  cases hr : outR b with
  | no e a =>
    have hd : decW b = (Ms.zero, e, a) := by unfold decW; rw [hr]
    have hne : ¬ (e : Int) = 0 := by have := outR_no hr; omega
    rw [hd] at h1
    have h3 := rsame_s m Ms.zero Ms.zero (zero_sz hm)
    rw [ms_it] at h3
    simp (config := {maxSteps := 4000000, implicitDefEqProofs := false}) (disch := omega) only [go_sem, ↓reduceIte, Nat.reduceAdd, Nat.reduceSub, Nat.reduceMul, Nat.reduceLeDiff, Nat.reduceLT, Int.reduceEq, Int.reduceNe, Int.reduceLT, Int.reduceLE, Int.reduceAdd, Int.reduceSub, Int.reduceMul, Int.reduceNeg, Int.reduceToNat, reduceCtorEq, Nat.reduceEqDiff, Nat.reduceBEq, Nat.reduceGT, ha, h1, h3, hne, decX, exZ_bu, exZ_ro]
  | ok x a =>
    have hd : decW b = (x, 0, 0) := by unfold decW; rw [hr]
    rw [hd] at h1
    obtain ⟨e1, e2⟩ := enc_dec hr
    have h3 := rmay_s m x (msB_sz e2 hm)
    have h4 := encodeB_2 m x e2 hm [⟨1, ty_api_Msg, 0, msC y⟩, ⟨1, ty_api_Msg, 0, msC x⟩] (by simp)
    rw [e2] at h3
    rw [e1] at h4
    simp only [ms_it] at h3 h4
    simp (config := {maxSteps := 4000000, implicitDefEqProofs := false}) (disch := omega) only [go_sem, ↓reduceIte, Nat.reduceAdd, Nat.reduceSub, Nat.reduceMul, Nat.reduceLeDiff, Nat.reduceLT, Int.reduceEq, Int.reduceNe, Int.reduceLT, Int.reduceLE, Int.reduceAdd, Int.reduceSub, Int.reduceMul, Int.reduceNeg, Int.reduceToNat, reduceCtorEq, Nat.reduceEqDiff, Nat.reduceBEq, Nat.reduceGT, ha, h1, h3, h4, decX]
theorem back_r3b (m : Nat) (b : List UInt8) (hb : b.length ≤ 4000) (hm : 70 < m) (y : Ms) (r : List UInt8) (z : Ms) : plenumlaw28_WireBack_r3 m ⟨[⟨1, ty_api_Msg, 0, msC y⟩, ⟨4, ty_uint8, 1, bC r⟩, ⟨1, ty_api_Msg, 0, msC z⟩], [(1, SL (bC b))]⟩ = some (bA true, []) := by
  have ha := awake28_s m hm
  have h1 := decodeB_e m b (by omega) [⟨1, ty_api_Msg, 0, msC y⟩, ⟨4, ty_uint8, 1, bC r⟩, ⟨1, ty_api_Msg, 0, msC z⟩] rows3
  rw [plenumlaw28_WireBack_r3_eq]
  cases hr : outR b with
  | no e a =>
    have hd : decW b = (Ms.zero, e, a) := by unfold decW; rw [hr]
    have hne : ¬ (e : Int) = 0 := by have := outR_no hr; omega
    rw [hd] at h1
    have h3 := rsame_s m Ms.zero Ms.zero (zero_sz hm)
    rw [ms_it] at h3
    simp (config := {maxSteps := 4000000, implicitDefEqProofs := false}) (disch := omega) only [go_sem, ↓reduceIte, Nat.reduceAdd, Nat.reduceSub, Nat.reduceMul, Nat.reduceLeDiff, Nat.reduceLT, Int.reduceEq, Int.reduceNe, Int.reduceLT, Int.reduceLE, Int.reduceAdd, Int.reduceSub, Int.reduceMul, Int.reduceNeg, Int.reduceToNat, reduceCtorEq, Nat.reduceEqDiff, Nat.reduceBEq, Nat.reduceGT, ha, h1, h3, hne, decX, exZ_bu, exZ_ro]
  | ok x a =>
    have hd : decW b = (x, 0, 0) := by unfold decW; rw [hr]
    rw [hd] at h1
    obtain ⟨e1, e2⟩ := enc_dec hr
    have h3 := rmay_s m x (msB_sz e2 hm)
    have h4 := encodeB_2 m x e2 hm [⟨1, ty_api_Msg, 0, msC y⟩, ⟨4, ty_uint8, 1, bC r⟩, ⟨1, ty_api_Msg, 0, msC z⟩, ⟨1, ty_api_Msg, 0, msC x⟩] (by simp)
    rw [e2] at h3
    rw [e1] at h4
    simp only [ms_it] at h3 h4
    simp (config := {maxSteps := 4000000, implicitDefEqProofs := false}) (disch := omega) only [go_sem, ↓reduceIte, Nat.reduceAdd, Nat.reduceSub, Nat.reduceMul, Nat.reduceLeDiff, Nat.reduceLT, Int.reduceEq, Int.reduceNe, Int.reduceLT, Int.reduceLE, Int.reduceAdd, Int.reduceSub, Int.reduceMul, Int.reduceNeg, Int.reduceToNat, reduceCtorEq, Nat.reduceEqDiff, Nat.reduceBEq, Nat.reduceGT, ha, h1, h3, h4, decX]
theorem back_r2 (m : Nat) (b : List UInt8) (hb : b.length ≤ 4000) (hm : 70 < m) (y : Ms) (hz : SzM m y) (r : List UInt8) : plenumlaw28_WireBack_r2 m ⟨[⟨1, ty_api_Msg, 0, msC y⟩, ⟨4, ty_uint8, 1, bC r⟩, ⟨1, ty_api_Msg, 0, msC y⟩], [(1, SL (bC b)), (2, OP 0 0), (6, OP 2 0), (7, nA 0)]⟩ = some (bA true, []) := by
  have h3 := rsame_s m y y hz
  have h4 := back_r3b m b hb hm y r y
  rw [ms_it] at h3
  rw [plenumlaw28_WireBack_r2_eq]
  simp (config := {maxSteps := 4000000, implicitDefEqProofs := false}) (disch := omega) only [go_sem, ↓reduceIte, Nat.reduceAdd, Nat.reduceSub, Nat.reduceMul, Nat.reduceLeDiff, Nat.reduceLT, Int.reduceEq, Int.reduceNe, Int.reduceLT, Int.reduceLE, Int.reduceAdd, Int.reduceSub, Int.reduceMul, Int.reduceNeg, Int.reduceToNat, reduceCtorEq, Nat.reduceEqDiff, Nat.reduceBEq, Nat.reduceGT, h3, h4, plenumlaw28_WireBack_r4_eq, plenumlaw28_WireBack_r3_eq, plenumlaw28_WireBack_r2_eq, plenumlaw28_WireBack_r1_eq]
theorem bC_set (r : List UInt8) (k : Nat) : (bC r).set k (V (.int .u8 99)) = bC (r.set k 99) := by
  unfold bC
  rw [List.map_set]
  rfl
theorem back_r1 (m : Nat) (b : List UInt8) (hb : b.length ≤ 4000) (hm : 300000001 < m) (y : Ms) (hz : SzM m y) : plenumlaw28_WireBack_r1 m ⟨[⟨1, ty_api_Msg, 0, msC y⟩], [(1, SL (bC b)), (2, OP 0 0)]⟩ = some (bA true, []) := by
  have h3 := rmay_s m y hz
  rw [ms_it] at h3
  rw [plenumlaw28_WireBack_r1_eq]
  cases hy : msB y with
  | false =>
    rw [hy] at h3
    have h4 := back_r3a m b hb (by omega) y
    simp (config := {maxSteps := 4000000, implicitDefEqProofs := false}) (disch := omega) only [go_sem, ↓reduceIte, Nat.reduceAdd, Nat.reduceSub, Nat.reduceMul, Nat.reduceLeDiff, Nat.reduceLT, Int.reduceEq, Int.reduceNe, Int.reduceLT, Int.reduceLE, Int.reduceAdd, Int.reduceSub, Int.reduceMul, Int.reduceNeg, Int.reduceToNat, reduceCtorEq, Nat.reduceEqDiff, Nat.reduceBEq, Nat.reduceGT, h3, h4]
  | true =>
    rw [hy] at h3
    have h5 := encodeB_1 m y hy (by omega) ⟨1, ty_api_Msg, 0, msC y⟩
    have hl := encMs_len hy
    have h6 := decodeB_r m (encMs y) (by omega) ⟨1, ty_api_Msg, 0, msC y⟩ ty_uint8 1 rfl
    rw [dec_enc hy] at h6
    rw [ms_it] at h5
    simp (config := {maxSteps := 4000000, implicitDefEqProofs := false}) (disch := omega) only [go_sem, ↓reduceIte, Nat.reduceAdd, Nat.reduceSub, Nat.reduceMul, Nat.reduceLeDiff, Nat.reduceLT, Int.reduceEq, Int.reduceNe, Int.reduceLT, Int.reduceLE, Int.reduceAdd, Int.reduceSub, Int.reduceMul, Int.reduceNeg, Int.reduceToNat, reduceCtorEq, Nat.reduceEqDiff, Nat.reduceBEq, Nat.reduceGT, h3, h5, h6, decX]
    generalize encMs y = s0 at *
    refine iter_go (m := m) (ι := {q : Nat × List UInt8 // q.1 ≤ s0.length ∧ q.2.length = s0.length}) (fun q => ⟨[⟨1, ty_api_Msg, 0, msC y⟩, ⟨4, ty_uint8, 1, bC q.1.2⟩, ⟨1, ty_api_Msg, 0, msC y⟩], [(1, SL (bC b)), (2, OP 0 0), (5, PR 1 s0.length), (6, OP 2 0), (7, nA 0), (9, nA q.1.1)]⟩) (fun q => s0.length - q.1.1) (fun _ => some (bA true, [])) ?_ ⟨(0, s0), Nat.zero_le _, rfl⟩ (by dsimp only; omega)
    rintro kx hkx ⟨⟨k, r⟩, hk, hr⟩ kc hkc
    dsimp only at hkc hk hr ⊢
    rw [plenumlaw28_WireBack_b1_eq]
    by_cases hlt : k < s0.length
    · have hlt' : (k : Int) < (s0.length : Int) := by omega
      have step := hkc ⟨(k + 1, r.set k 99), by dsimp only; omega, by simp [hr]⟩ (by dsimp only; omega)
      dsimp only at step
      rw [← bC_set] at step
      have hA : ((bC r).set k (V (.int .u8 99))).all (ltA 3) = true := by
        rw [bC_set, List.all_eq_true]
        intro d hd
        obtain ⟨x, _, rfl⟩ := List.mem_map.1 hd
        rfl
      have hP : ltT 3 (PR 1 s0.length) = true := rfl
      simp (config := {maxSteps := 4000000, implicitDefEqProofs := false}) (disch := omega) only [go_sem, ↓reduceIte, Nat.reduceAdd, Nat.reduceSub, Nat.reduceMul, Nat.reduceLeDiff, Nat.reduceLT, Int.reduceEq, Int.reduceNe, Int.reduceLT, Int.reduceLE, Int.reduceAdd, Int.reduceSub, Int.reduceMul, Int.reduceNeg, Int.reduceToNat, reduceCtorEq, Nat.reduceEqDiff, Nat.reduceBEq, Nat.reduceGT, hlt', hlt, w_i64, bC_length, hr, Nat.mod_one, Nat.div_one, hA, hP]
      exact step
    · obtain rfl : k = s0.length := by omega
      have hlt' : ¬ (s0.length : Int) < (s0.length : Int) := Int.lt_irrefl _
      have h7 := back_r2 m b hb (by omega) y hz r
      simp (config := {maxSteps := 4000000, implicitDefEqProofs := false}) (disch := omega) only [go_sem, ↓reduceIte, Nat.reduceAdd, Nat.reduceSub, Nat.reduceMul, Nat.reduceLeDiff, Nat.reduceLT, Int.reduceEq, Int.reduceNe, Int.reduceLT, Int.reduceLE, Int.reduceAdd, Int.reduceSub, Int.reduceMul, Int.reduceNeg, Int.reduceToNat, reduceCtorEq, Nat.reduceEqDiff, Nat.reduceBEq, Nat.reduceGT, hlt', hkx, h7, bC_length, hr]
theorem wireBack_s (m : Nat) (x : Ms) (b : List UInt8) (hx : BigM x) (hb : b.length ≤ maxLen) (hm : 300000001 < m) : plenumlaw28_WireBack m (msE x) (SL (bC b)) = some (bA true, []) := by
  have hM : (maxLen : Nat) = 9223372036854775807 := rfl
  have h1 := few_s m x (by omega) hx
  have hz := few_sz m x (by omega)
  generalize msF x = y at *
  rw [ms_it, ms_it] at h1
  rw [plenumlaw28_WireBack_eq, ms_it]
  by_cases h : 4000 < b.length
  · have g1 : (b.length : Int) > 4000 := by omega
    have g2 : cutE (bC b) 0 4000 = bC (b.take 4000) := by rw [← bC_take]; rfl
    have g3 := back_r1 m (b.take 4000) (by simp; omega) hm y hz
    have g4 : (4000 : Int) ≤ b.length := by omega
    simp (config := {maxSteps := 4000000, implicitDefEqProofs := false}) (disch := omega) only [go_sem, ↓reduceIte, Nat.reduceAdd, Nat.reduceSub, Nat.reduceMul, Nat.reduceLeDiff, Nat.reduceLT, Int.reduceEq, Int.reduceNe, Int.reduceLT, Int.reduceLE, Int.reduceAdd, Int.reduceSub, Int.reduceMul, Int.reduceNeg, Int.reduceToNat, reduceCtorEq, Nat.reduceEqDiff, Nat.reduceBEq, Nat.reduceGT, h1, bC_length, g1, g2, g3, g4, bC_all1]
  · have g1 : ¬ (b.length : Int) > 4000 := by omega
    have g3 := back_r1 m b (by omega) hm y hz
    simp (config := {maxSteps := 4000000, implicitDefEqProofs := false}) (disch := omega) only [go_sem, ↓reduceIte, Nat.reduceAdd, Nat.reduceSub, Nat.reduceMul, Nat.reduceLeDiff, Nat.reduceLT, Int.reduceEq, Int.reduceNe, Int.reduceLT, Int.reduceLE, Int.reduceAdd, Int.reduceSub, Int.reduceMul, Int.reduceNeg, Int.reduceToNat, reduceCtorEq, Nat.reduceEqDiff, Nat.reduceBEq, Nat.reduceGT, h1, bC_length, g1, g3]
end Go.Proofs.Ytbdbmfifclmpcaa

namespace Go.Proofs.Ytbdbmfifclmpcaa
open Go.RowKit
set_option linter.unusedVariables false
set_option linter.unusedSimpArgs false
set_option maxRecDepth 100000
theorem walk_WireBack (W : World) (v0 : Value) (h0 : Arg Try.prog W 27 v0) (v1 : Value) (h1 : Arg Try.prog W 23 v1) : Calls Try.prog 5 #[v0, v1] W fun e W' => e = .returned (.bool true) ∧ Below W.heap.size W W' := by
  obtain ⟨x, hx, r0⟩ := arg_ms h0
  obtain ⟨y, hy, r1⟩ := arg_by h1
  exact run_tells (plenumlaw28_WireBack_ok 300000002 [_, _] _ _ (wireBack_s _ x y hx.big hy (by omega))) gok_nil (vs := [v0, v1]) rfl (reps2 r0 r1)
end Go.Proofs.Ytbdbmfifclmpcaa
