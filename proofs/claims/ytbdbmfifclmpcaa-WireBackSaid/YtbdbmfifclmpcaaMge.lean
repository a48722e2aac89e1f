/-
  Texts laid together, part 5 of 6: laws of a walk over data, contracts of functions, each whole by itself.
-/
import Derived.Test.YtbdbmfifclmpcaaMgd
import Derived.Test.YtbdbmfifclmpcaaMgc
import Derived.Defers
import Derived.Recover
import Derived.Tactics2
namespace Go.Proofs.Ytbdbmfifclmpcaa
open Go.RowKit
set_option linter.unusedVariables false
set_option linter.unusedSimpArgs false
set_option maxRecDepth 20000
inductive RdO (α : Type) where
  | ok (x : α) (a : Nat)
  | no (e a : Nat)
def RdO.bind {α β : Type} : RdO α → (α → Nat → RdO β) → RdO β
  | .ok x a, f => f x a
  | .no e a, _ => .no e a
def numR (b : List UInt8) (most a : Nat) : RdO Nat :=
  if (cut (b.drop a)).2.2 = 0 then (if most < (cut (b.drop a)).1 then .no 8 a else .ok (cut (b.drop a)).1 (a + (cut (b.drop a)).2.1)) else .no (cut (b.drop a)).2.2 a
def intR (b : List UInt8) (most a : Nat) : RdO Int := (numR b most a).bind fun v a => .ok (v : Int) a
def textR (b : List UInt8) (a : Nat) : RdO (List UInt8) := (numR b 65536 a).bind fun n a => if b.length - a < n then .no 2 a else .ok ((b.drop a).take n) (a + n)
def stmtR (b : List UInt8) (a : Nat) : RdO Sm := (intR b 63 a).bind fun x0 a => (intR b 2147483647 a).bind fun x1 a => (intR b 2147483647 a).bind fun x2 a => (intR b 2147483647 a).bind fun x3 a => (intR b 2147483647 a).bind fun x4 a => .ok ⟨x0, x1, x2, x3, x4⟩ a
def loopR {α : Type} (one : Nat → RdO α) : Nat → Nat → RdO (List α)
  | 0, a => .ok [] a
  | n + 1, a => (one a).bind fun x a => (loopR one n a).bind fun l a => .ok (x :: l) a
def someR {α : Type} (b : List UInt8) (one : Nat → RdO α) (a : Nat) : RdO (List α) := (numR b 64 a).bind fun n a => loopR one n a
def certR (b : List UInt8) (a : Nat) : RdO Ce := (intR b 2147483647 a).bind fun x0 a => (intR b 2147483647 a).bind fun x1 a => (intR b 2147483647 a).bind fun x2 a => (textR b a).bind fun x3 a => (someR b (stmtR b) a).bind fun x4 a => .ok ⟨x0, x1, x2, x3, x4⟩ a
def changeR (b : List UInt8) (a : Nat) : RdO Ch := (intR b 63 a).bind fun x0 a => (intR b 2147483647 a).bind fun x1 a => (intR b 2147483647 a).bind fun x2 a => (intR b 2147483647 a).bind fun x3 a => (someR b (stmtR b) a).bind fun x4 a => (someR b (certR b) a).bind fun x5 a => .ok ⟨x0, x1, x2, x3, x4, x5⟩ a
def msgR (b : List UInt8) : RdO Ms := (intR b 10 0).bind fun x0 a => (intR b 63 a).bind fun x1 a => (intR b 2147483647 a).bind fun x2 a => (intR b 2147483647 a).bind fun x3 a => (intR b 2147483647 a).bind fun x4 a => (textR b a).bind fun x5 a => (someR b (stmtR b) a).bind fun x6 a => (someR b (changeR b) a).bind fun x7 a => .ok ⟨x0, x1, x2, x3, x4, x5, x6, x7⟩ a
def RdO.In {α : Type} (b : List UInt8) (r : RdO α) : Prop := match r with | .ok _ a => a ≤ b.length | .no _ _ => True
theorem cutG_le : ∀ (l : List UInt8) (i : Nat), (cutG i l).2.2 = 0 → (cutG i l).2.1 ≤ l.length
  | [], i, h => by simp [cutG] at h
  | c :: r, i, h => by
    rw [cutG] at h ⊢
    split
    · rename_i hh; rw [if_pos hh] at h; cases h
    · rename_i hh; rw [if_neg hh] at h
      split
      · rename_i h2; rw [if_pos h2] at h
        split
        · rename_i h3
          have := cutG_le r (i + 1) h3
          simp only [List.length_cons]; omega
        · rename_i h3; rw [if_neg h3] at h; exact absurd h h3
      · rename_i h2; rw [if_neg h2] at h
        split
        · rename_i h3; rw [if_pos h3] at h; cases h
        · simp
theorem cut_le (l : List UInt8) (h : (cut l).2.2 = 0) : (cut l).2.1 ≤ l.length := cutG_le l 0 h
theorem numR_in {b : List UInt8} {most a : Nat} (h : a ≤ b.length) : (numR b most a).In b := by
  unfold numR
  split
  · rename_i h1
    split
    · trivial
    · have := cut_le _ h1
      rw [List.length_drop] at this
      show a + _ ≤ b.length
      omega
  · trivial
theorem bind_in {α β : Type} {b : List UInt8} {r : RdO α} {f : α → Nat → RdO β} (h : r.In b) (k : ∀ x a, r = .ok x a → a ≤ b.length → (f x a).In b) : (r.bind f).In b := by
  cases r with
  | ok x a => exact k x a rfl h
  | no e a => trivial
theorem intR_in {b : List UInt8} {most a : Nat} (h : a ≤ b.length) : (intR b most a).In b := bind_in (numR_in h) fun x a _ h => h
theorem textR_in {b : List UInt8} {a : Nat} (h : a ≤ b.length) : (textR b a).In b := bind_in (numR_in h) fun x a _ h => by
  split
  · trivial
  · show a + x ≤ b.length; omega
theorem stmtR_in {b : List UInt8} {a : Nat} (h : a ≤ b.length) : (stmtR b a).In b := bind_in (intR_in h) fun _ _ _ h => bind_in (intR_in h) fun _ _ _ h => bind_in (intR_in h) fun _ _ _ h => bind_in (intR_in h) fun _ _ _ h => bind_in (intR_in h) fun _ _ _ h => h
theorem loopR_in {α : Type} {b : List UInt8} {one : Nat → RdO α} (ho : ∀ a, a ≤ b.length → (one a).In b) : ∀ (n a : Nat), a ≤ b.length → (loopR one n a).In b
  | 0, a, h => h
  | n + 1, a, h => bind_in (ho a h) fun x a _ h => bind_in (loopR_in ho n a h) fun _ _ _ h => h
theorem someR_in {α : Type} {b : List UInt8} {one : Nat → RdO α} (ho : ∀ a, a ≤ b.length → (one a).In b) {a : Nat} (h : a ≤ b.length) : (someR b one a).In b := bind_in (numR_in h) fun n a _ h => loopR_in ho n a h
theorem certR_in {b : List UInt8} {a : Nat} (h : a ≤ b.length) : (certR b a).In b := bind_in (intR_in h) fun _ _ _ h => bind_in (intR_in h) fun _ _ _ h => bind_in (intR_in h) fun _ _ _ h => bind_in (textR_in h) fun _ _ _ h => bind_in (someR_in (fun _ => stmtR_in) h) fun _ _ _ h => h
theorem changeR_in {b : List UInt8} {a : Nat} (h : a ≤ b.length) : (changeR b a).In b := bind_in (intR_in h) fun _ _ _ h => bind_in (intR_in h) fun _ _ _ h => bind_in (intR_in h) fun _ _ _ h => bind_in (intR_in h) fun _ _ _ h => bind_in (someR_in (fun _ => stmtR_in) h) fun _ _ _ h => bind_in (someR_in (fun _ => certR_in) h) fun _ _ _ h => h
theorem numR_most {b : List UInt8} {most a v c : Nat} (h : numR b most a = .ok v c) : v ≤ most := by
  unfold numR at h
  split at h
  · split at h
    · cases h
    · cases h; omega
  · cases h
def RO3 (X0 X1 X2 : AObj) (t : TypeId) (b : List UInt8) (a : Nat) (Y : List AObj) : List AObj := X0 :: X1 :: X2 :: ⟨1, t, 0, [SL (bC b), nA a]⟩ :: Y
def noV (e a : Nat) : Value := .iface 47 (.agg #[.int .i64 e, .int .i64 a])
def prO {α : Type} (X0 X1 X2 : AObj) (t : TypeId) (b : List UInt8) (Y : List AObj) (f : α → AV) : RdO α → RO
  | .ok x a => some (f x, RO3 X0 X1 X2 t b a Y)
  | .no e a => some (PN (noV e a), RO3 X0 X1 X2 t b a Y)
theorem prO_ok {α : Type} {X0 X1 X2 : AObj} {t : TypeId} {b : List UInt8} {Y : List AObj} {f : α → AV} {x : α} {a : Nat} : prO X0 X1 X2 t b Y f (.ok x a) = some (f x, X0 :: X1 :: X2 :: ⟨1, t, 0, [SL (bC b), nA a]⟩ :: Y) := _root_.id rfl
theorem prO_no {α : Type} {X0 X1 X2 : AObj} {t : TypeId} {b : List UInt8} {Y : List AObj} {f : α → AV} {e a : Nat} : prO X0 X1 X2 t b Y f (.no e a) = some (PN (noV e a), X0 :: X1 :: X2 :: ⟨1, t, 0, [SL (bC b), nA a]⟩ :: Y) := _root_.id rfl
theorem RO3_it {X0 X1 X2 : AObj} {t : TypeId} {b : List UInt8} {a : Nat} {Y : List AObj} : RO3 X0 X1 X2 t b a Y = X0 :: X1 :: X2 :: ⟨1, t, 0, [SL (bC b), nA a]⟩ :: Y := _root_.id rfl
theorem noV_it {e a : Nat} : noV e a = .iface 47 (.agg #[.int .i64 e, .int .i64 a]) := _root_.id rfl
theorem zn_b {R : Type} {K1 : AV → Option R} {e a : Int} : buildE (some pl_wire_no) (some zc_wire_no) [(0, V (.int .i64 e)), (1, V (.int .i64 a))] K1 = K1 (.agg [V (.int .i64 e), V (.int .i64 a)]) := _root_.id rfl
theorem u_bcv {R : Type} {K1 : AV → Option R} {l : List UInt8} : convE false none true true (SL (bC l)) K1 = K1 (sA l) := by
  show whenE true (match bytesOf (bC l) with | some l => K1 (V (.string ⟨l.toArray⟩)) | none => none) = _
  rw [bytesOf_bC]; rfl
theorem bC_all {n : Nat} {l : List UInt8} (h : n = l.length) : (bC l).take n = bC l := by rw [bC_take, h, List.take_length]
attribute [local go_sem] Nat.zero_add Nat.add_zero Nat.mul_one Int.toNat_natCast Int.natCast_zero Int.cast_ofNat_Int or_false false_or or_true true_or Nat.sub_zero Int.natCast_nonneg Int.toNat_zero Bool.true_and Bool.and_true Bool.false_and Bool.and_false Bool.true_or Bool.or_true Bool.false_or Bool.or_false Bool.not_true Bool.not_false Bool.not_not true_and and_true false_and and_false not_true_eq_false not_false_eq_true eq_self decide_true decide_false ne_eq implies_true forall_const true_implies false_implies Bool.true_eq_false Bool.false_eq_true List.map_cons List.map_nil List.all_cons List.all_nil List.length_cons List.length_nil List.length_map List.length_append List.nil_append List.cons_append List.set_cons_zero List.set_cons_succ List.set_nil List.drop_zero List.drop_succ_cons List.drop_nil List.take_zero List.take_succ_cons List.take_nil Option.map_some Option.map_none Option.isSome_some List.all_append List.all_map Function.comp_def decide_eq_true_eq Bool.and_eq_true beq_self_eq_true or_self and_self ite_true ite_false Nat.le_refl Bool.not_eq_true decide_not Bool.not_eq_true' decide_eq_false_iff_not Bool.not_eq_false Bool.or_eq_true if_true if_false ite_self u_roF u_cvF u_cvC u_ceT u_ceK u_appS sm_it sm_len sm_sure sm_ltA sm_lt1 sm_all1 sm_ro sm_take sm_sl sm_set sm_noT sm_fr sm_st_fr sm_set_fr sm_kd sm_st_kd sm_set_kd sm_vw sm_st_vw sm_set_vw sm_sq sm_st_sq sm_set_sq sm_tm sm_st_tm sm_set_tm zsm_len zsm_sure zsm_lt1 zsm_sl zsm_ro zsm_setz zsm_set zsm_setr zsm_take sms_ltA sms_len ce_it ce_len ce_sure ce_ltA ce_lt1 ce_all1 ce_ro ce_take ce_sl ce_set ce_noT ce_sq ce_st_sq ce_set_sq ce_vw ce_st_vw ce_set_vw ce_tm ce_st_tm ce_set_tm ce_body ce_st_body ce_set_body ce_vs ce_st_vs ce_set_vs zce_len zce_sure zce_lt1 zce_sl zce_ro zce_setz zce_set zce_setr zce_take ces_ltA ces_len cg_it cg_len cg_sure cg_ltA cg_lt1 cg_all1 cg_ro cg_take cg_sl cg_set cg_noT cg_fr cg_st_fr cg_set_fr cg_vw cg_st_vw cg_set_vw cg_st cg_st_st cg_set_st cg_rt cg_st_rt cg_set_rt cg_pf cg_st_pf cg_set_pf cg_cs cg_st_cs cg_set_cs zcg_len zcg_sure zcg_lt1 zcg_sl zcg_ro zcg_setz zcg_set zcg_setr zcg_take cgs_ltA cgs_len ms_it ms_len ms_sure ms_ltA ms_lt1 ms_all1 ms_ro ms_take ms_sl ms_set ms_noT ms_kd ms_st_kd ms_set_kd ms_fr ms_st_fr ms_set_fr ms_vw ms_st_vw ms_set_vw ms_sq ms_st_sq ms_set_sq ms_tm ms_st_tm ms_set_tm ms_body ms_st_body ms_set_body ms_vs ms_st_vs ms_set_vs ms_chs ms_st_chs ms_set_chs zms_len zms_sure zms_lt1 zms_sl zms_ro zms_setz zms_set zms_setr zms_take mss_ltA mss_len natInt u_nthM u_bz u_bi1 u_bi2 u_bi3 u_bi4 u_bi5 u_bi6 u_bi7 bC_length bc_ltA bc_one nthOL ltO_o ltO_r takeL bC_append u_addS List.take_length u_panV u_panA u_panS u_panT u_panW u_panP u_panic u_ifV u_ifA2 u_panKE prO_ok prO_no noV_it zn_b Int.natCast_add u_bcv
section
variable {X0 X1 X2 : AObj} {t : TypeId} {b : List UInt8} {Y : List AObj}
theorem num_sR (m : Nat) (most a : Nat) (h0 : ∀ n, ltO n X0 = true) (h1 : ∀ n, ltO n X1 = true) (h2 : ∀ n, ltO n X2 = true) (hY : ∀ n, Y.all (ltO n) = true) (hb : b.length ≤ 34359738368) (ha : a ≤ b.length) (hm : most < 9223372036854775808) : wire_reader_num m (OP 3 0) (nA most) (RO3 X0 X1 X2 t b a Y) = prO X0 X1 X2 t b Y (fun v : Nat => nA v) (numR b most a) := by
  have hC := varint_Cut_e m (b.drop a) (by rw [List.length_drop]; omega)
  have hL := cut_le (b.drop a)
  rw [List.length_drop] at hL
  unfold cutX at hC
  unfold numR
  generalize cut (b.drop a) = c at hC hL ⊢
  obtain ⟨v, n, e⟩ := c
  dsimp only at hC hL ⊢
  rw [wire_reader_num_eq]
  unfold RO3
  have a1 : (0 : Int) ≤ (a : Int) := by omega
  have a2 : (a : Int) ≤ (b.length : Int) := by omega
  have a3 : (b.length : Int) ≤ (b.length : Int) := Int.le_refl _
  have hcut : cutE (bC b) (a : Int) (b.length : Int) = bC (b.drop a) := by
    unfold cutE
    rw [Int.toNat_natCast, Int.toNat_natCast, bC_all rfl, bC_drop]
  have hw : IntKind.u64.wrap (most : Int) = (most : Int) := w_u64 (by omega) (by omega)
  by_cases he : e = 0
  · subst he
    have hL := hL rfl
    by_cases hv : most < v
    · have hv' : (v : Int) > (most : Int) := by omega
      rw [if_pos rfl, if_pos hv]
      simp (config := {maxSteps := 4000000, implicitDefEqProofs := false}) (disch := omega) only [go_sem, ↓reduceIte, Nat.reduceAdd, Nat.reduceSub, Nat.reduceMul, Nat.reduceLeDiff, Nat.reduceLT, Int.reduceEq, Int.reduceNe, Int.reduceLT, Int.reduceLE, Int.reduceAdd, Int.reduceSub, Int.reduceMul, Int.reduceNeg, Int.reduceToNat, reduceCtorEq, Nat.reduceEqDiff, Nat.reduceBEq, Nat.reduceGT, a1, a2, a3, hcut, hC, hw, hv', h0, h1, h2, hY, wire_reader_num_r3_eq, wire_reader_num_r2_eq, wire_reader_num_r1_eq]
    · have hv' : ¬ (v : Int) > (most : Int) := by omega
      rw [if_pos rfl, if_neg hv]
      simp (config := {maxSteps := 4000000, implicitDefEqProofs := false}) (disch := omega) only [go_sem, ↓reduceIte, Nat.reduceAdd, Nat.reduceSub, Nat.reduceMul, Nat.reduceLeDiff, Nat.reduceLT, Int.reduceEq, Int.reduceNe, Int.reduceLT, Int.reduceLE, Int.reduceAdd, Int.reduceSub, Int.reduceMul, Int.reduceNeg, Int.reduceToNat, reduceCtorEq, Nat.reduceEqDiff, Nat.reduceBEq, Nat.reduceGT, a1, a2, a3, hcut, hC, hw, hv', h0, h1, h2, hY, w_i64, wire_reader_num_r3_eq, wire_reader_num_r2_eq, wire_reader_num_r1_eq]
  · have he' : ¬ (e : Int) = 0 := by omega
    rw [if_neg he]
    simp (config := {maxSteps := 4000000, implicitDefEqProofs := false}) (disch := omega) only [go_sem, ↓reduceIte, Nat.reduceAdd, Nat.reduceSub, Nat.reduceMul, Nat.reduceLeDiff, Nat.reduceLT, Int.reduceEq, Int.reduceNe, Int.reduceLT, Int.reduceLE, Int.reduceAdd, Int.reduceSub, Int.reduceMul, Int.reduceNeg, Int.reduceToNat, reduceCtorEq, Nat.reduceEqDiff, Nat.reduceBEq, Nat.reduceGT, a1, a2, a3, hcut, hC, hw, he', h0, h1, h2, hY, wire_reader_num_r3_eq, wire_reader_num_r2_eq, wire_reader_num_r1_eq]
theorem get_in {α : Type} {b : List UInt8} {r : RdO α} {x : α} {a : Nat} (h : r.In b) (e : r = .ok x a) : a ≤ b.length := by rw [e] at h; exact h
theorem any_sR (m : Nat) (a : Nat) (h0 : ∀ n, ltO n X0 = true) (h1 : ∀ n, ltO n X1 = true) (h2 : ∀ n, ltO n X2 = true) (hY : ∀ n, Y.all (ltO n) = true) (hb : b.length ≤ 34359738368) (ha : a ≤ b.length) : wire_reader_any m (OP 3 0) (RO3 X0 X1 X2 t b a Y) = prO X0 X1 X2 t b Y (fun v : Int => nA v) (intR b 2147483647 a) := by
  have q := num_sR (t := t) m 2147483647 a h0 h1 h2 hY hb ha (by omega)
  rw [wire_reader_any_eq]
  unfold intR
  cases hr : numR b 2147483647 a with
  | no e a' => rw [hr] at q; simp only [RO3_it, prO_no, Int.cast_ofNat_Int] at q ⊢; dsimp only [RdO.bind]; simp (config := {maxSteps := 4000000, implicitDefEqProofs := false}) (disch := omega) only [go_sem, ↓reduceIte, Nat.reduceAdd, Nat.reduceSub, Nat.reduceMul, Nat.reduceLeDiff, Nat.reduceLT, Int.reduceEq, Int.reduceNe, Int.reduceLT, Int.reduceLE, Int.reduceAdd, Int.reduceSub, Int.reduceMul, Int.reduceNeg, Int.reduceToNat, reduceCtorEq, Nat.reduceEqDiff, Nat.reduceBEq, Nat.reduceGT, q, h0, h1, h2, hY]
  | ok v a' => rw [hr] at q; simp only [RO3_it, prO_ok, Int.cast_ofNat_Int] at q ⊢; dsimp only [RdO.bind]; simp (config := {maxSteps := 4000000, implicitDefEqProofs := false}) (disch := omega) only [go_sem, ↓reduceIte, Nat.reduceAdd, Nat.reduceSub, Nat.reduceMul, Nat.reduceLeDiff, Nat.reduceLT, Int.reduceEq, Int.reduceNe, Int.reduceLT, Int.reduceLE, Int.reduceAdd, Int.reduceSub, Int.reduceMul, Int.reduceNeg, Int.reduceToNat, reduceCtorEq, Nat.reduceEqDiff, Nat.reduceBEq, Nat.reduceGT, q, h0, h1, h2, hY]
theorem party_sR (m : Nat) (a : Nat) (h0 : ∀ n, ltO n X0 = true) (h1 : ∀ n, ltO n X1 = true) (h2 : ∀ n, ltO n X2 = true) (hY : ∀ n, Y.all (ltO n) = true) (hb : b.length ≤ 34359738368) (ha : a ≤ b.length) : wire_reader_party m (OP 3 0) (RO3 X0 X1 X2 t b a Y) = prO X0 X1 X2 t b Y (fun v : Int => nA v) (intR b 63 a) := by
  have q := num_sR (t := t) m 63 a h0 h1 h2 hY hb ha (by omega)
  rw [wire_reader_party_eq]
  unfold intR
  cases hr : numR b 63 a with
  | no e a' => rw [hr] at q; simp only [RO3_it, prO_no, Int.cast_ofNat_Int] at q ⊢; dsimp only [RdO.bind]; simp (config := {maxSteps := 4000000, implicitDefEqProofs := false}) (disch := omega) only [go_sem, ↓reduceIte, Nat.reduceAdd, Nat.reduceSub, Nat.reduceMul, Nat.reduceLeDiff, Nat.reduceLT, Int.reduceEq, Int.reduceNe, Int.reduceLT, Int.reduceLE, Int.reduceAdd, Int.reduceSub, Int.reduceMul, Int.reduceNeg, Int.reduceToNat, reduceCtorEq, Nat.reduceEqDiff, Nat.reduceBEq, Nat.reduceGT, q, h0, h1, h2, hY]
  | ok v a' => rw [hr] at q; simp only [RO3_it, prO_ok, Int.cast_ofNat_Int] at q ⊢; dsimp only [RdO.bind]; simp (config := {maxSteps := 4000000, implicitDefEqProofs := false}) (disch := omega) only [go_sem, ↓reduceIte, Nat.reduceAdd, Nat.reduceSub, Nat.reduceMul, Nat.reduceLeDiff, Nat.reduceLT, Int.reduceEq, Int.reduceNe, Int.reduceLT, Int.reduceLE, Int.reduceAdd, Int.reduceSub, Int.reduceMul, Int.reduceNeg, Int.reduceToNat, reduceCtorEq, Nat.reduceEqDiff, Nat.reduceBEq, Nat.reduceGT, q, h0, h1, h2, hY]
theorem text_sR (m : Nat) (a : Nat) (h0 : ∀ n, ltO n X0 = true) (h1 : ∀ n, ltO n X1 = true) (h2 : ∀ n, ltO n X2 = true) (hY : ∀ n, Y.all (ltO n) = true) (hb : b.length ≤ 34359738368) (ha : a ≤ b.length) : wire_reader_text m (OP 3 0) (RO3 X0 X1 X2 t b a Y) = prO X0 X1 X2 t b Y (fun v : List UInt8 => sA v) (textR b a) := by
  have q := num_sR (t := t) m 65536 a h0 h1 h2 hY hb ha (by omega)
  have hi := numR_in (most := 65536) ha
  rw [wire_reader_text_eq]
  unfold textR
  cases hr : numR b 65536 a with
  | no e a' => rw [hr] at q; simp only [RO3_it, prO_no, Int.cast_ofNat_Int] at q ⊢; dsimp only [RdO.bind]; simp (config := {maxSteps := 4000000, implicitDefEqProofs := false}) (disch := omega) only [go_sem, ↓reduceIte, Nat.reduceAdd, Nat.reduceSub, Nat.reduceMul, Nat.reduceLeDiff, Nat.reduceLT, Int.reduceEq, Int.reduceNe, Int.reduceLT, Int.reduceLE, Int.reduceAdd, Int.reduceSub, Int.reduceMul, Int.reduceNeg, Int.reduceToNat, reduceCtorEq, Nat.reduceEqDiff, Nat.reduceBEq, Nat.reduceGT, q, h0, h1, h2, hY]
  | ok n c =>
    have hc : c ≤ b.length := get_in hi hr
    have hn := numR_most hr
    rw [hr] at q
    simp only [RO3_it, prO_ok, Int.cast_ofNat_Int] at q ⊢
    dsimp only [RdO.bind]
    have hw : IntKind.i64.wrap ((b.length : Int) - (c : Int)) = (b.length : Int) - (c : Int) := w_i64 (by omega) (by omega)
    by_cases hv : b.length - c < n
    · have hv' : (n : Int) > (b.length : Int) - (c : Int) := by omega
      rw [if_pos hv]
      simp (config := {maxSteps := 4000000, implicitDefEqProofs := false}) (disch := omega) only [go_sem, ↓reduceIte, Nat.reduceAdd, Nat.reduceSub, Nat.reduceMul, Nat.reduceLeDiff, Nat.reduceLT, Int.reduceEq, Int.reduceNe, Int.reduceLT, Int.reduceLE, Int.reduceAdd, Int.reduceSub, Int.reduceMul, Int.reduceNeg, Int.reduceToNat, reduceCtorEq, Nat.reduceEqDiff, Nat.reduceBEq, Nat.reduceGT, q, hw, hv', h0, h1, h2, hY]
    · have hv' : ¬ (n : Int) > (b.length : Int) - (c : Int) := by omega
      have c1 : (c : Int) + (n : Int) - (n : Int) = (c : Int) := by omega
      have c2 : (0 : Int) ≤ (c : Int) := by omega
      have c3 : (c : Int) ≤ (c : Int) + (n : Int) := by omega
      have c4 : (c : Int) + (n : Int) ≤ (b.length : Int) := by omega
      have hcut : cutE (bC b) (c : Int) ((c : Int) + (n : Int)) = bC ((b.drop c).take n) := by
        unfold cutE
        rw [show ((c : Int) + (n : Int)).toNat = c + n by omega, Int.toNat_natCast, bC_take, bC_drop, List.drop_take, Nat.add_sub_cancel_left]
      rw [if_neg hv]
      simp (config := {maxSteps := 4000000, implicitDefEqProofs := false}) (disch := omega) only [go_sem, ↓reduceIte, Nat.reduceAdd, Nat.reduceSub, Nat.reduceMul, Nat.reduceLeDiff, Nat.reduceLT, Int.reduceEq, Int.reduceNe, Int.reduceLT, Int.reduceLE, Int.reduceAdd, Int.reduceSub, Int.reduceMul, Int.reduceNeg, Int.reduceToNat, reduceCtorEq, Nat.reduceEqDiff, Nat.reduceBEq, Nat.reduceGT, q, hw, hv', c1, c2, c3, c4, hcut, bytesOf_bC, h0, h1, h2, hY, w_i64, wire_reader_text_r1_eq]
theorem sm_b {R : Type} {K1 : AV → Option R} {x0 x1 x2 x3 x4 : Int} : buildE (some pl_api_Stmt) (some zc_api_Stmt) [(0, nA x0), (1, nA x1), (2, nA x2), (3, nA x3), (4, nA x4)] K1 = K1 (.agg (smC ⟨x0, x1, x2, x3, x4⟩)) := _root_.id rfl
theorem stmt_sR (m : Nat) (a : Nat) (h0 : ∀ n, ltO n X0 = true) (h1 : ∀ n, ltO n X1 = true) (h2 : ∀ n, ltO n X2 = true) (hY : ∀ n, Y.all (ltO n) = true) (hb : b.length ≤ 34359738368) (ha : a ≤ b.length) : wire_reader_stmt m (OP 3 0) (RO3 X0 X1 X2 t b a Y) = prO X0 X1 X2 t b Y (fun v : Sm => smE v) (stmtR b a) := by
  have hY3 : Y.length ≤ Y.length + 1 := Nat.le_succ _
  have hY5 : Y.length ≤ Y.length + 2 := Nat.le_add_right _ _
  rw [wire_reader_stmt_eq]
  unfold stmtR
  have hY1 : ∀ n, (Y ++ [(⟨1, ty_api_Stmt, 0, zc_api_Stmt⟩ : AObj)]).all (ltO n) = true := fun n => by simp only [List.all_append, hY, Bool.true_and]; rfl
  have q0 := party_sR (t := t) (Y := Y ++ [(⟨1, ty_api_Stmt, 0, zc_api_Stmt⟩ : AObj)]) m a h0 h1 h2 (hY1) hb ha
  cases r0 : intR b 63 a with
  | no e c =>
    rw [r0] at q0
    simp only [RO3_it, prO_no] at q0 ⊢
    try dsimp only [RdO.bind]
    simp (config := {maxSteps := 4000000, implicitDefEqProofs := false}) (disch := omega) only [go_sem, ↓reduceIte, Nat.reduceAdd, Nat.reduceSub, Nat.reduceMul, Nat.reduceLeDiff, Nat.reduceLT, Int.reduceEq, Int.reduceNe, Int.reduceLT, Int.reduceLE, Int.reduceAdd, Int.reduceSub, Int.reduceMul, Int.reduceNeg, Int.reduceToNat, reduceCtorEq, Nat.reduceEqDiff, Nat.reduceBEq, Nat.reduceGT, q0, h0, h1, h2, hY, hY3, setL, ro_cl, sm_b]
  | ok x0 a0 =>
    have ha0 : a0 ≤ b.length := get_in (intR_in ha) r0
    rw [r0] at q0
    simp only [RO3_it, prO_ok] at q0
    try dsimp only [RdO.bind]
    have q1 := any_sR (t := t) (Y := Y ++ [(⟨1, ty_api_Stmt, 0, zc_api_Stmt⟩ : AObj)]) m a0 h0 h1 h2 (hY1) hb ha0
    cases r1 : intR b 2147483647 a0 with
    | no e c =>
      rw [r1] at q1
      simp only [RO3_it, prO_no] at q1 ⊢
      try dsimp only [RdO.bind]
      simp (config := {maxSteps := 4000000, implicitDefEqProofs := false}) (disch := omega) only [go_sem, ↓reduceIte, Nat.reduceAdd, Nat.reduceSub, Nat.reduceMul, Nat.reduceLeDiff, Nat.reduceLT, Int.reduceEq, Int.reduceNe, Int.reduceLT, Int.reduceLE, Int.reduceAdd, Int.reduceSub, Int.reduceMul, Int.reduceNeg, Int.reduceToNat, reduceCtorEq, Nat.reduceEqDiff, Nat.reduceBEq, Nat.reduceGT, q0, q1, h0, h1, h2, hY, hY3, setL, ro_cl, sm_b]
    | ok x1 a1 =>
      have ha1 : a1 ≤ b.length := get_in (intR_in ha0) r1
      rw [r1] at q1
      simp only [RO3_it, prO_ok] at q1
      try dsimp only [RdO.bind]
      have q2 := any_sR (t := t) (Y := Y ++ [(⟨1, ty_api_Stmt, 0, zc_api_Stmt⟩ : AObj)]) m a1 h0 h1 h2 (hY1) hb ha1
      cases r2 : intR b 2147483647 a1 with
      | no e c =>
        rw [r2] at q2
        simp only [RO3_it, prO_no] at q2 ⊢
        try dsimp only [RdO.bind]
        simp (config := {maxSteps := 4000000, implicitDefEqProofs := false}) (disch := omega) only [go_sem, ↓reduceIte, Nat.reduceAdd, Nat.reduceSub, Nat.reduceMul, Nat.reduceLeDiff, Nat.reduceLT, Int.reduceEq, Int.reduceNe, Int.reduceLT, Int.reduceLE, Int.reduceAdd, Int.reduceSub, Int.reduceMul, Int.reduceNeg, Int.reduceToNat, reduceCtorEq, Nat.reduceEqDiff, Nat.reduceBEq, Nat.reduceGT, q0, q1, q2, h0, h1, h2, hY, hY3, setL, ro_cl, sm_b]
      | ok x2 a2 =>
        have ha2 : a2 ≤ b.length := get_in (intR_in ha1) r2
        rw [r2] at q2
        simp only [RO3_it, prO_ok] at q2
        try dsimp only [RdO.bind]
        have q3 := any_sR (t := t) (Y := Y ++ [(⟨1, ty_api_Stmt, 0, zc_api_Stmt⟩ : AObj)]) m a2 h0 h1 h2 (hY1) hb ha2
        cases r3 : intR b 2147483647 a2 with
        | no e c =>
          rw [r3] at q3
          simp only [RO3_it, prO_no] at q3 ⊢
          try dsimp only [RdO.bind]
          simp (config := {maxSteps := 4000000, implicitDefEqProofs := false}) (disch := omega) only [go_sem, ↓reduceIte, Nat.reduceAdd, Nat.reduceSub, Nat.reduceMul, Nat.reduceLeDiff, Nat.reduceLT, Int.reduceEq, Int.reduceNe, Int.reduceLT, Int.reduceLE, Int.reduceAdd, Int.reduceSub, Int.reduceMul, Int.reduceNeg, Int.reduceToNat, reduceCtorEq, Nat.reduceEqDiff, Nat.reduceBEq, Nat.reduceGT, q0, q1, q2, q3, h0, h1, h2, hY, hY3, setL, ro_cl, sm_b]
        | ok x3 a3 =>
          have ha3 : a3 ≤ b.length := get_in (intR_in ha2) r3
          rw [r3] at q3
          simp only [RO3_it, prO_ok] at q3
          try dsimp only [RdO.bind]
          have q4 := any_sR (t := t) (Y := Y ++ [(⟨1, ty_api_Stmt, 0, zc_api_Stmt⟩ : AObj)]) m a3 h0 h1 h2 (hY1) hb ha3
          cases r4 : intR b 2147483647 a3 with
          | no e c =>
            rw [r4] at q4
            simp only [RO3_it, prO_no] at q4 ⊢
            try dsimp only [RdO.bind]
            simp (config := {maxSteps := 4000000, implicitDefEqProofs := false}) (disch := omega) only [go_sem, ↓reduceIte, Nat.reduceAdd, Nat.reduceSub, Nat.reduceMul, Nat.reduceLeDiff, Nat.reduceLT, Int.reduceEq, Int.reduceNe, Int.reduceLT, Int.reduceLE, Int.reduceAdd, Int.reduceSub, Int.reduceMul, Int.reduceNeg, Int.reduceToNat, reduceCtorEq, Nat.reduceEqDiff, Nat.reduceBEq, Nat.reduceGT, q0, q1, q2, q3, q4, h0, h1, h2, hY, hY3, setL, ro_cl, sm_b]
          | ok x4 a4 =>
            have ha4 : a4 ≤ b.length := get_in (intR_in ha3) r4
            rw [r4] at q4
            simp only [RO3_it, prO_ok] at q4
            try dsimp only [RdO.bind]
            simp only [RO3_it, prO_ok]
            simp (config := {maxSteps := 4000000, implicitDefEqProofs := false}) (disch := omega) only [go_sem, ↓reduceIte, Nat.reduceAdd, Nat.reduceSub, Nat.reduceMul, Nat.reduceLeDiff, Nat.reduceLT, Int.reduceEq, Int.reduceNe, Int.reduceLT, Int.reduceLE, Int.reduceAdd, Int.reduceSub, Int.reduceMul, Int.reduceNeg, Int.reduceToNat, reduceCtorEq, Nat.reduceEqDiff, Nat.reduceBEq, Nat.reduceGT, q0, q1, q2, q3, q4, h0, h1, h2, hY, hY3, setL, ro_cl, sm_b]
theorem u_cvpC {R : Type} {E : Env} {H : List AObj} {args caps : List AV} {K : AV → List AObj → Option R} {KP : Value → List AObj → Option R} {f k z : Nat} {q q' : Array Value} : callVPE E (.slice caps [.held (.inl (.func (.func f) q q')), .held (.inr (.inl (k, z)))]) args H K KP = callPE (findE E f) ((caps.take k ++ args ++ caps.drop k).map (ro H)) H K KP := _root_.id rfl
theorem u_cepP {R : Type} {H : List AObj} {args : List AV} {K : AV → List AObj → Option R} {KP : Value → List AObj → Option R} {g : List AV → List AObj → RO} : callPE (some (.pan g)) args H K KP = panE (g args H) K KP := _root_.id rfl
theorem u_blkPn {j : Nat} {kk : KO (AV × List AObj)} {ch : List PanicEntry} {s : ASt} : blockX j kk (.panic ch) s = kk (.panic ch) s := _root_.id rfl
theorem u_seqPn {next : ASt → RO} {kk : KO (AV × List AObj)} {ch : List PanicEntry} {s : ASt} : seqX next kk (.panic ch) s = kk (.panic ch) s := _root_.id rfl
theorem takeLA {o : AObj} {Y : List AObj} : (Y ++ [o]).take (Y.length + 1) = Y ++ [o] := List.take_of_length_le (by simp)
theorem ro_last {e z : Nat} {c : List AV} {A0 A1 A2 A3 : AObj} {Y : List AObj} : ro (A0 :: A1 :: A2 :: A3 :: (Y ++ [⟨2, e, z, c⟩])) (OW (Y.length + 1 + 1 + 1 + 1) c.length) = SL c := by
  simp [ro, roA, ro1]
theorem ro_lastM {α : Type} {f : α → AV} {l : List α} {e z : Nat} {A0 A1 A2 A3 : AObj} {Y : List AObj} : ro (A0 :: A1 :: A2 :: A3 :: (Y ++ [⟨2, e, z, l.map f⟩])) (OW (Y.length + 1 + 1 + 1 + 1) l.length) = SL (l.map f) := by
  have := ro_last (e := e) (z := z) (c := l.map f) (A0 := A0) (A1 := A1) (A2 := A2) (A3 := A3) (Y := Y)
  rwa [List.length_map] at this
theorem ltT_cl {n f : Nat} : ltT (n + 1 + 1 + 1 + 1) (CL (.func f) 1 [OP 3 0]) = true := by
  simp [ltT, ltA, lt1, lt0]
def joinR {α : Type} (xs : List α) : RdO (List α) → RdO (List α)
  | .ok l a => .ok (xs ++ l) a
  | .no e a => .no e a
theorem joinR_bind {α : Type} (xs : List α) (x : α) (r : RdO (List α)) : joinR xs (r.bind fun l a => .ok (x :: l) a) = joinR (xs ++ [x]) r := by
  cases r with
  | ok l a => show RdO.ok _ _ = RdO.ok _ _; rw [List.append_assoc]; rfl
  | no e a => rfl
theorem joinR_nil {α : Type} (r : RdO (List α)) : joinR [] r = r := by cases r <;> rfl
theorem stmt_tR {m : Nat} {a : AV} {H : List AObj} : wire_reader_stmt_t m [a] H = wire_reader_stmt m a H := _root_.id rfl
theorem stmt_fR {m : Nat} : findE (wire_some_Stmt_env m) 27 = some (.pan (wire_reader_stmt_t m)) := _root_.id rfl
theorem stmt_finP {n : Nat} {u : Value} {s : ASt} : wire_some_Stmt_fin n (.panic (pch u)) s = panKE n s.H u := _root_.id rfl
theorem someStmt_sR (m : Nat) (a : Nat) (h0 : ∀ n, ltO n X0 = true) (h1 : ∀ n, ltO n X1 = true) (h2 : ∀ n, ltO n X2 = true) (hY : ∀ n, Y.all (ltO n) = true) (hb : b.length ≤ 34359738368) (ha : a ≤ b.length) (hm : 70 < m) : wire_some_Stmt m (OP 3 0) (CL (.func 27) 1 [OP 3 0]) (RO3 X0 X1 X2 t b a Y) = prO X0 X1 X2 t b Y (fun l : List Sm => SL (l.map smE)) (someR b (stmtR b) a) := by
  have q := num_sR (t := t) m 64 a h0 h1 h2 hY hb ha (by omega)
  have hi := numR_in (most := 64) ha
  rw [wire_some_Stmt_eq]
  unfold someR
  cases hr : numR b 64 a with
  | no e a' => rw [hr] at q; simp only [RO3_it, prO_no, Int.cast_ofNat_Int] at q ⊢; dsimp only [RdO.bind]; simp (config := {maxSteps := 4000000, implicitDefEqProofs := false}) (disch := omega) only [go_sem, ↓reduceIte, Nat.reduceAdd, Nat.reduceSub, Nat.reduceMul, Nat.reduceLeDiff, Nat.reduceLT, Int.reduceEq, Int.reduceNe, Int.reduceLT, Int.reduceLE, Int.reduceAdd, Int.reduceSub, Int.reduceMul, Int.reduceNeg, Int.reduceToNat, reduceCtorEq, Nat.reduceEqDiff, Nat.reduceBEq, Nat.reduceGT, q, h0, h1, h2, hY]
  | ok n c =>
    have hc : c ≤ b.length := get_in hi hr
    have hn := numR_most hr
    rw [hr] at q
    simp only [RO3_it, prO_ok, Int.cast_ofNat_Int] at q ⊢
    dsimp only [RdO.bind]
    generalize hR : loopR (stmtR b) n c = R
    obtain ⟨r, hr2⟩ : ∃ r, r = prO X0 X1 X2 t b Y (fun l : List Sm => SL (l.map smE)) R := ⟨_, rfl⟩
    rw [← hr2]
    have i0 : joinR ([] : List Sm) (loopR (stmtR b) (n - 0) c) = R := by rw [joinR_nil]; exact hR
    simp (config := {maxSteps := 4000000, implicitDefEqProofs := false}) (disch := omega) only [go_sem, ↓reduceIte, Nat.reduceAdd, Nat.reduceSub, Nat.reduceMul, Nat.reduceLeDiff, Nat.reduceLT, Int.reduceEq, Int.reduceNe, Int.reduceLT, Int.reduceLE, Int.reduceAdd, Int.reduceSub, Int.reduceMul, Int.reduceNeg, Int.reduceToNat, reduceCtorEq, Nat.reduceEqDiff, Nat.reduceBEq, Nat.reduceGT, q, ro_cl]
    refine iter_go (m := m) (ι := {k : Nat × List Sm × Nat // k.1 ≤ n ∧ k.2.1.length = k.1 ∧ k.2.2 ≤ b.length ∧ joinR k.2.1 (loopR (stmtR b) (n - k.1) k.2.2) = R}) (fun k => ⟨X0 :: X1 :: X2 :: ⟨1, t, 0, [SL (bC b), nA k.1.2.2]⟩ :: (Y ++ [⟨2, ty_api_Stmt, 5, k.1.2.1.map smE⟩]), [(1, CL (.func 27) 1 [OP 3 0]), (5, OW (Y.length + 1 + 1 + 1 + 1) k.1.2.1.length), (7, nA n), (8, nA k.1.1)]⟩) (fun k => n - k.1.1) (fun _ => r) ?_ ⟨(0, [], c), Nat.zero_le _, rfl, hc, i0⟩ (by dsimp only; omega)
    rintro kx hkx ⟨⟨k, xs, d⟩, hk, hxl, hd, hJ⟩ kc hkc
    dsimp only at hk hxl hd hJ hkc ⊢
    have hY3 : Y.length ≤ Y.length + 1 := Nat.le_succ _
    have hY' : ∀ n, (Y ++ [(⟨2, ty_api_Stmt, 5, xs.map smE⟩ : AObj)]).all (ltO n) = true := fun n => by
      simp only [List.all_append, hY, Bool.true_and, List.all_cons, List.all_nil, Bool.and_true, ltO_r, List.all_map]
      exact sms_ltA
    rw [wire_some_Stmt_b1_eq]
    by_cases hlt : k < n
    · have hlt' : (k : Int) < (n : Int) := by omega
      have hq := stmt_sR (t := t) m d h0 h1 h2 hY' hb hd
      rw [show n - k = (n - (k + 1)) + 1 by omega] at hJ
      unfold loopR at hJ
      cases ho : stmtR b d with
      | no e d' =>
        rw [ho] at hq hJ
        simp only [RO3_it, prO_no] at hq
        have hJ2 : RdO.no e d' = R := hJ
        subst hJ2
        rw [hr2]
        simp (config := {maxSteps := 4000000, implicitDefEqProofs := false}) (disch := omega) only [go_sem, ↓reduceIte, Nat.reduceAdd, Nat.reduceSub, Nat.reduceMul, Nat.reduceLeDiff, Nat.reduceLT, Int.reduceEq, Int.reduceNe, Int.reduceLT, Int.reduceLE, Int.reduceAdd, Int.reduceSub, Int.reduceMul, Int.reduceNeg, Int.reduceToNat, reduceCtorEq, Nat.reduceEqDiff, Nat.reduceBEq, Nat.reduceGT, hlt', u_cvpC, u_cepP, u_blkPn, u_seqPn, stmt_tR, stmt_fR, stmt_finP, hq, hkx, h0, h1, h2, hY, hY3]
      | ok x d' =>
        have hd' : d' ≤ b.length := get_in (stmtR_in hd) ho
        rw [ho] at hq hJ
        simp only [RO3_it, prO_ok] at hq
        have hJ2 : joinR xs ((loopR (stmtR b) (n - (k + 1)) d').bind fun l a => .ok (x :: l) a) = R := hJ
        rw [joinR_bind] at hJ2
        have step := hkc ⟨(k + 1, xs ++ [x], d'), by dsimp only; omega, by simp [hxl], hd', hJ2⟩ (by dsimp only; omega)
        have hY4 : Y.length + 1 + 1 + 1 + 1 < Y.length + 1 + 1 + 1 + 1 + 1 := Nat.lt_succ_self _
        have hroom : xs.length + 1 ≤ 34359738368 := by omega
        have hx2 : (xs.map smE ++ [DataW.agg (smC x)]).all (ltA (Y.length + 1 + 1 + 1 + 1 + 1)) = true := by
          rw [List.all_append, List.all_map, Function.comp_def, sms_ltA]; rfl
        simp only [List.map_append, List.map_cons, List.map_nil, List.length_append, List.length_cons, List.length_nil, Nat.zero_add, sm_it] at step
        simp (config := {maxSteps := 4000000, implicitDefEqProofs := false}) (disch := omega) only [go_sem, ↓reduceIte, Nat.reduceAdd, Nat.reduceSub, Nat.reduceMul, Nat.reduceLeDiff, Nat.reduceLT, Int.reduceEq, Int.reduceNe, Int.reduceLT, Int.reduceLE, Int.reduceAdd, Int.reduceSub, Int.reduceMul, Int.reduceNeg, Int.reduceToNat, reduceCtorEq, Nat.reduceEqDiff, Nat.reduceBEq, Nat.reduceGT, hlt', u_cvpC, u_cepP, stmt_tR, stmt_fR, hq, h0, h1, h2, hY, hY3, hroom, setL, takeLA, ltT_cl, hY4, w_i64]
        exact step
    · have hlt' : ¬ (k : Int) < (n : Int) := by omega
      rw [show n - k = 0 by omega] at hJ
      have hJ2 : RdO.ok (xs ++ []) d = R := hJ
      rw [List.append_nil] at hJ2
      subst hJ2
      rw [hr2]
      simp (config := {maxSteps := 4000000, implicitDefEqProofs := false}) (disch := omega) only [go_sem, ↓reduceIte, Nat.reduceAdd, Nat.reduceSub, Nat.reduceMul, Nat.reduceLeDiff, Nat.reduceLT, Int.reduceEq, Int.reduceNe, Int.reduceLT, Int.reduceLE, Int.reduceAdd, Int.reduceSub, Int.reduceMul, Int.reduceNeg, Int.reduceToNat, reduceCtorEq, Nat.reduceEqDiff, Nat.reduceBEq, Nat.reduceGT, hlt', hkx, h0, h1, h2, hY, hY3, ro_lastM, wire_some_Stmt_r1_eq]
theorem setL2 {A B B' : AObj} {Y : List AObj} : (Y ++ [A] ++ [B]).set (Y.length + 1) B' = Y ++ [A] ++ [B'] := by
  rw [show Y.length + 1 = (Y ++ [A]).length by simp, setL]
theorem setL2a {A A' B : AObj} {Y : List AObj} : (Y ++ [A] ++ [B]).set Y.length A' = Y ++ [A'] ++ [B] := by
  rw [List.append_assoc, List.append_assoc]
  simp
theorem nthOL2 {R : Type} {A B : AObj} {Y : List AObj} {K : AObj → Option R} : nthOE (Y ++ [A] ++ [B]) (Y.length + 1) K = K B := by
  rw [show Y.length + 1 = (Y ++ [A]).length by simp, nthOL]
theorem nthOL2a {R : Type} {A B : AObj} {Y : List AObj} {K : AObj → Option R} : nthOE (Y ++ [A] ++ [B]) Y.length K = K A := by
  rw [List.append_assoc]; simp [nthOE]
theorem takeL2 {A B : AObj} {Y : List AObj} : (Y ++ [A] ++ [B]).take Y.length = Y := by
  rw [List.append_assoc]; exact List.take_left
def ceN (x0 x1 x2 : Int) (x3 : List UInt8) : List AV := [nA x0, nA x1, nA x2, sA x3, V (.slice none 0 0)]
theorem ce_b {R : Type} {K1 : AV → Option R} {x0 x1 x2 : Int} {x3 : List UInt8} : buildE (some pl_api_Cert) (some zc_api_Cert) [(0, nA x0), (1, nA x1), (2, nA x2), (3, sA x3)] K1 = K1 (.agg (ceN x0 x1 x2 x3)) := _root_.id rfl
theorem ceN_set {x0 x1 x2 : Int} {x3 : List UInt8} : setCells zc_api_Cert 0 (ceN x0 x1 x2 x3) = ceN x0 x1 x2 x3 := _root_.id rfl
theorem ceN_len {x0 x1 x2 : Int} {x3 : List UInt8} : (ceN x0 x1 x2 x3).length = 5 := _root_.id rfl
theorem ceN_sure {x0 x1 x2 : Int} {x3 : List UInt8} : (ceN x0 x1 x2 x3).all sure = true := _root_.id rfl
theorem ceN_sl {x0 x1 x2 : Int} {x3 : List UInt8} {n : Nat} : ((ceN x0 x1 x2 x3).all fun y => sure y && lt1 n y) = true := _root_.id rfl
theorem ceN_set4 {x0 x1 x2 : Int} {x3 : List UInt8} {l : List Sm} : setCells (ceN x0 x1 x2 x3) 4 [SL (l.map smE)] = ceC ⟨x0, x1, x2, x3, l⟩ := _root_.id rfl
theorem cert_sR (m : Nat) (a : Nat) (h0 : ∀ n, ltO n X0 = true) (h1 : ∀ n, ltO n X1 = true) (h2 : ∀ n, ltO n X2 = true) (hY : ∀ n, Y.all (ltO n) = true) (hb : b.length ≤ 34359738368) (ha : a ≤ b.length) (hm : 70 < m) : wire_reader_cert m (OP 3 0) (RO3 X0 X1 X2 t b a Y) = prO X0 X1 X2 t b Y (fun v : Ce => ceE v) (certR b a) := by
  have hY3 : Y.length ≤ Y.length + 1 := Nat.le_succ _
  have hY5 : Y.length ≤ Y.length + 2 := Nat.le_add_right _ _
  rw [wire_reader_cert_eq]
  unfold certR
  have hY1 : ∀ n, (Y ++ [(⟨1, ty_api_Cert, 0, zc_api_Cert⟩ : AObj)]).all (ltO n) = true := fun n => by simp only [List.all_append, hY, Bool.true_and]; rfl
  have q0 := any_sR (t := t) (Y := Y ++ [(⟨1, ty_api_Cert, 0, zc_api_Cert⟩ : AObj)]) m a h0 h1 h2 (hY1) hb ha
  cases r0 : intR b 2147483647 a with
  | no e c =>
    rw [r0] at q0
    simp only [RO3_it, prO_no] at q0 ⊢
    try dsimp only [RdO.bind]
    simp (config := {maxSteps := 4000000, implicitDefEqProofs := false}) (disch := omega) only [go_sem, ↓reduceIte, Nat.reduceAdd, Nat.reduceSub, Nat.reduceMul, Nat.reduceLeDiff, Nat.reduceLT, Int.reduceEq, Int.reduceNe, Int.reduceLT, Int.reduceLE, Int.reduceAdd, Int.reduceSub, Int.reduceMul, Int.reduceNeg, Int.reduceToNat, reduceCtorEq, Nat.reduceEqDiff, Nat.reduceBEq, Nat.reduceGT, q0, h0, h1, h2, hY, hY3, setL, ro_cl, ce_b, ceN_set, ceN_len, ceN_sure, ceN_sl, ceN_set4, hY5, setL2, setL2a, nthOL2, nthOL2a, takeL2]
  | ok x0 a0 =>
    have ha0 : a0 ≤ b.length := get_in (intR_in ha) r0
    rw [r0] at q0
    simp only [RO3_it, prO_ok] at q0
    try dsimp only [RdO.bind]
    have q1 := any_sR (t := t) (Y := Y ++ [(⟨1, ty_api_Cert, 0, zc_api_Cert⟩ : AObj)]) m a0 h0 h1 h2 (hY1) hb ha0
    cases r1 : intR b 2147483647 a0 with
    | no e c =>
      rw [r1] at q1
      simp only [RO3_it, prO_no] at q1 ⊢
      try dsimp only [RdO.bind]
      simp (config := {maxSteps := 4000000, implicitDefEqProofs := false}) (disch := omega) only [go_sem, ↓reduceIte, Nat.reduceAdd, Nat.reduceSub, Nat.reduceMul, Nat.reduceLeDiff, Nat.reduceLT, Int.reduceEq, Int.reduceNe, Int.reduceLT, Int.reduceLE, Int.reduceAdd, Int.reduceSub, Int.reduceMul, Int.reduceNeg, Int.reduceToNat, reduceCtorEq, Nat.reduceEqDiff, Nat.reduceBEq, Nat.reduceGT, q0, q1, h0, h1, h2, hY, hY3, setL, ro_cl, ce_b, ceN_set, ceN_len, ceN_sure, ceN_sl, ceN_set4, hY5, setL2, setL2a, nthOL2, nthOL2a, takeL2]
    | ok x1 a1 =>
      have ha1 : a1 ≤ b.length := get_in (intR_in ha0) r1
      rw [r1] at q1
      simp only [RO3_it, prO_ok] at q1
      try dsimp only [RdO.bind]
      have q2 := any_sR (t := t) (Y := Y ++ [(⟨1, ty_api_Cert, 0, zc_api_Cert⟩ : AObj)]) m a1 h0 h1 h2 (hY1) hb ha1
      cases r2 : intR b 2147483647 a1 with
      | no e c =>
        rw [r2] at q2
        simp only [RO3_it, prO_no] at q2 ⊢
        try dsimp only [RdO.bind]
        simp (config := {maxSteps := 4000000, implicitDefEqProofs := false}) (disch := omega) only [go_sem, ↓reduceIte, Nat.reduceAdd, Nat.reduceSub, Nat.reduceMul, Nat.reduceLeDiff, Nat.reduceLT, Int.reduceEq, Int.reduceNe, Int.reduceLT, Int.reduceLE, Int.reduceAdd, Int.reduceSub, Int.reduceMul, Int.reduceNeg, Int.reduceToNat, reduceCtorEq, Nat.reduceEqDiff, Nat.reduceBEq, Nat.reduceGT, q0, q1, q2, h0, h1, h2, hY, hY3, setL, ro_cl, ce_b, ceN_set, ceN_len, ceN_sure, ceN_sl, ceN_set4, hY5, setL2, setL2a, nthOL2, nthOL2a, takeL2]
      | ok x2 a2 =>
        have ha2 : a2 ≤ b.length := get_in (intR_in ha1) r2
        rw [r2] at q2
        simp only [RO3_it, prO_ok] at q2
        try dsimp only [RdO.bind]
        have q3 := text_sR (t := t) (Y := Y ++ [(⟨1, ty_api_Cert, 0, zc_api_Cert⟩ : AObj)]) m a2 h0 h1 h2 (hY1) hb ha2
        cases r3 : textR b a2 with
        | no e c =>
          rw [r3] at q3
          simp only [RO3_it, prO_no] at q3 ⊢
          try dsimp only [RdO.bind]
          simp (config := {maxSteps := 4000000, implicitDefEqProofs := false}) (disch := omega) only [go_sem, ↓reduceIte, Nat.reduceAdd, Nat.reduceSub, Nat.reduceMul, Nat.reduceLeDiff, Nat.reduceLT, Int.reduceEq, Int.reduceNe, Int.reduceLT, Int.reduceLE, Int.reduceAdd, Int.reduceSub, Int.reduceMul, Int.reduceNeg, Int.reduceToNat, reduceCtorEq, Nat.reduceEqDiff, Nat.reduceBEq, Nat.reduceGT, q0, q1, q2, q3, h0, h1, h2, hY, hY3, setL, ro_cl, ce_b, ceN_set, ceN_len, ceN_sure, ceN_sl, ceN_set4, hY5, setL2, setL2a, nthOL2, nthOL2a, takeL2]
        | ok x3 a3 =>
          have ha3 : a3 ≤ b.length := get_in (textR_in ha2) r3
          rw [r3] at q3
          simp only [RO3_it, prO_ok] at q3
          try dsimp only [RdO.bind]
          have hY2 : ∀ n, (Y ++ [(⟨1, ty_api_Cert, 0, zc_api_Cert⟩ : AObj)] ++ [(⟨1, ty_api_Cert, 0, ceN x0 x1 x2 x3⟩ : AObj)]).all (ltO n) = true := fun n => by simp only [List.all_append, hY, Bool.true_and]; rfl
          have q4 := someStmt_sR (t := t) (Y := Y ++ [(⟨1, ty_api_Cert, 0, zc_api_Cert⟩ : AObj)] ++ [(⟨1, ty_api_Cert, 0, ceN x0 x1 x2 x3⟩ : AObj)]) m a3 h0 h1 h2 (hY2) hb ha3 hm
          cases r4 : someR b (stmtR b) a3 with
          | no e c =>
            rw [r4] at q4
            simp only [RO3_it, prO_no] at q4 ⊢
            try dsimp only [RdO.bind]
            simp (config := {maxSteps := 4000000, implicitDefEqProofs := false}) (disch := omega) only [go_sem, ↓reduceIte, Nat.reduceAdd, Nat.reduceSub, Nat.reduceMul, Nat.reduceLeDiff, Nat.reduceLT, Int.reduceEq, Int.reduceNe, Int.reduceLT, Int.reduceLE, Int.reduceAdd, Int.reduceSub, Int.reduceMul, Int.reduceNeg, Int.reduceToNat, reduceCtorEq, Nat.reduceEqDiff, Nat.reduceBEq, Nat.reduceGT, q0, q1, q2, q3, q4, h0, h1, h2, hY, hY3, setL, ro_cl, ce_b, ceN_set, ceN_len, ceN_sure, ceN_sl, ceN_set4, hY5, setL2, setL2a, nthOL2, nthOL2a, takeL2]
          | ok x4 a4 =>
            have ha4 : a4 ≤ b.length := get_in (someR_in (fun _ => stmtR_in) ha3) r4
            rw [r4] at q4
            simp only [RO3_it, prO_ok] at q4
            try dsimp only [RdO.bind]
            simp only [RO3_it, prO_ok]
            simp (config := {maxSteps := 4000000, implicitDefEqProofs := false}) (disch := omega) only [go_sem, ↓reduceIte, Nat.reduceAdd, Nat.reduceSub, Nat.reduceMul, Nat.reduceLeDiff, Nat.reduceLT, Int.reduceEq, Int.reduceNe, Int.reduceLT, Int.reduceLE, Int.reduceAdd, Int.reduceSub, Int.reduceMul, Int.reduceNeg, Int.reduceToNat, reduceCtorEq, Nat.reduceEqDiff, Nat.reduceBEq, Nat.reduceGT, q0, q1, q2, q3, q4, h0, h1, h2, hY, hY3, setL, ro_cl, ce_b, ceN_set, ceN_len, ceN_sure, ceN_sl, ceN_set4, hY5, setL2, setL2a, nthOL2, nthOL2a, takeL2]
theorem cert_tR {m : Nat} {a : AV} {H : List AObj} : wire_reader_cert_t m [a] H = wire_reader_cert m a H := _root_.id rfl
theorem cert_fR {m : Nat} : findE (wire_some_Cert_env m) 62 = some (.pan (wire_reader_cert_t m)) := _root_.id rfl
theorem cert_finP {n : Nat} {u : Value} {s : ASt} : wire_some_Cert_fin n (.panic (pch u)) s = panKE n s.H u := _root_.id rfl
theorem someCert_sR (m : Nat) (a : Nat) (h0 : ∀ n, ltO n X0 = true) (h1 : ∀ n, ltO n X1 = true) (h2 : ∀ n, ltO n X2 = true) (hY : ∀ n, Y.all (ltO n) = true) (hb : b.length ≤ 34359738368) (ha : a ≤ b.length) (hm : 70 < m) : wire_some_Cert m (OP 3 0) (CL (.func 62) 1 [OP 3 0]) (RO3 X0 X1 X2 t b a Y) = prO X0 X1 X2 t b Y (fun l : List Ce => SL (l.map ceE)) (someR b (certR b) a) := by
  have q := num_sR (t := t) m 64 a h0 h1 h2 hY hb ha (by omega)
  have hi := numR_in (most := 64) ha
  rw [wire_some_Cert_eq]
  unfold someR
  cases hr : numR b 64 a with
  | no e a' => rw [hr] at q; simp only [RO3_it, prO_no, Int.cast_ofNat_Int] at q ⊢; dsimp only [RdO.bind]; simp (config := {maxSteps := 4000000, implicitDefEqProofs := false}) (disch := omega) only [go_sem, ↓reduceIte, Nat.reduceAdd, Nat.reduceSub, Nat.reduceMul, Nat.reduceLeDiff, Nat.reduceLT, Int.reduceEq, Int.reduceNe, Int.reduceLT, Int.reduceLE, Int.reduceAdd, Int.reduceSub, Int.reduceMul, Int.reduceNeg, Int.reduceToNat, reduceCtorEq, Nat.reduceEqDiff, Nat.reduceBEq, Nat.reduceGT, q, h0, h1, h2, hY]
  | ok n c =>
    have hc : c ≤ b.length := get_in hi hr
    have hn := numR_most hr
    rw [hr] at q
    simp only [RO3_it, prO_ok, Int.cast_ofNat_Int] at q ⊢
    dsimp only [RdO.bind]
    generalize hR : loopR (certR b) n c = R
    obtain ⟨r, hr2⟩ : ∃ r, r = prO X0 X1 X2 t b Y (fun l : List Ce => SL (l.map ceE)) R := ⟨_, rfl⟩
    rw [← hr2]
    have i0 : joinR ([] : List Ce) (loopR (certR b) (n - 0) c) = R := by rw [joinR_nil]; exact hR
    simp (config := {maxSteps := 4000000, implicitDefEqProofs := false}) (disch := omega) only [go_sem, ↓reduceIte, Nat.reduceAdd, Nat.reduceSub, Nat.reduceMul, Nat.reduceLeDiff, Nat.reduceLT, Int.reduceEq, Int.reduceNe, Int.reduceLT, Int.reduceLE, Int.reduceAdd, Int.reduceSub, Int.reduceMul, Int.reduceNeg, Int.reduceToNat, reduceCtorEq, Nat.reduceEqDiff, Nat.reduceBEq, Nat.reduceGT, q, ro_cl]
    refine iter_go (m := m) (ι := {k : Nat × List Ce × Nat // k.1 ≤ n ∧ k.2.1.length = k.1 ∧ k.2.2 ≤ b.length ∧ joinR k.2.1 (loopR (certR b) (n - k.1) k.2.2) = R}) (fun k => ⟨X0 :: X1 :: X2 :: ⟨1, t, 0, [SL (bC b), nA k.1.2.2]⟩ :: (Y ++ [⟨2, ty_api_Cert, 5, k.1.2.1.map ceE⟩]), [(1, CL (.func 62) 1 [OP 3 0]), (5, OW (Y.length + 1 + 1 + 1 + 1) k.1.2.1.length), (7, nA n), (8, nA k.1.1)]⟩) (fun k => n - k.1.1) (fun _ => r) ?_ ⟨(0, [], c), Nat.zero_le _, rfl, hc, i0⟩ (by dsimp only; omega)
    rintro kx hkx ⟨⟨k, xs, d⟩, hk, hxl, hd, hJ⟩ kc hkc
    dsimp only at hk hxl hd hJ hkc ⊢
    have hY3 : Y.length ≤ Y.length + 1 := Nat.le_succ _
    have hY' : ∀ n, (Y ++ [(⟨2, ty_api_Cert, 5, xs.map ceE⟩ : AObj)]).all (ltO n) = true := fun n => by
      simp only [List.all_append, hY, Bool.true_and, List.all_cons, List.all_nil, Bool.and_true, ltO_r, List.all_map]
      exact ces_ltA
    rw [wire_some_Cert_b1_eq]
    by_cases hlt : k < n
    · have hlt' : (k : Int) < (n : Int) := by omega
      have hq := cert_sR (t := t) m d h0 h1 h2 hY' hb hd hm
      rw [show n - k = (n - (k + 1)) + 1 by omega] at hJ
      unfold loopR at hJ
      cases ho : certR b d with
      | no e d' =>
        rw [ho] at hq hJ
        simp only [RO3_it, prO_no] at hq
        have hJ2 : RdO.no e d' = R := hJ
        subst hJ2
        rw [hr2]
        simp (config := {maxSteps := 4000000, implicitDefEqProofs := false}) (disch := omega) only [go_sem, ↓reduceIte, Nat.reduceAdd, Nat.reduceSub, Nat.reduceMul, Nat.reduceLeDiff, Nat.reduceLT, Int.reduceEq, Int.reduceNe, Int.reduceLT, Int.reduceLE, Int.reduceAdd, Int.reduceSub, Int.reduceMul, Int.reduceNeg, Int.reduceToNat, reduceCtorEq, Nat.reduceEqDiff, Nat.reduceBEq, Nat.reduceGT, hlt', u_cvpC, u_cepP, u_blkPn, u_seqPn, cert_tR, cert_fR, cert_finP, hq, hkx, h0, h1, h2, hY, hY3]
      | ok x d' =>
        have hd' : d' ≤ b.length := get_in (certR_in hd) ho
        rw [ho] at hq hJ
        simp only [RO3_it, prO_ok] at hq
        have hJ2 : joinR xs ((loopR (certR b) (n - (k + 1)) d').bind fun l a => .ok (x :: l) a) = R := hJ
        rw [joinR_bind] at hJ2
        have step := hkc ⟨(k + 1, xs ++ [x], d'), by dsimp only; omega, by simp [hxl], hd', hJ2⟩ (by dsimp only; omega)
        have hY4 : Y.length + 1 + 1 + 1 + 1 < Y.length + 1 + 1 + 1 + 1 + 1 := Nat.lt_succ_self _
        have hroom : xs.length + 1 ≤ 34359738368 := by omega
        have hx2 : (xs.map ceE ++ [DataW.agg (ceC x)]).all (ltA (Y.length + 1 + 1 + 1 + 1 + 1)) = true := by
          rw [List.all_append, List.all_map, Function.comp_def, ces_ltA]; rfl
        simp only [List.map_append, List.map_cons, List.map_nil, List.length_append, List.length_cons, List.length_nil, Nat.zero_add, ce_it] at step
        simp (config := {maxSteps := 4000000, implicitDefEqProofs := false}) (disch := omega) only [go_sem, ↓reduceIte, Nat.reduceAdd, Nat.reduceSub, Nat.reduceMul, Nat.reduceLeDiff, Nat.reduceLT, Int.reduceEq, Int.reduceNe, Int.reduceLT, Int.reduceLE, Int.reduceAdd, Int.reduceSub, Int.reduceMul, Int.reduceNeg, Int.reduceToNat, reduceCtorEq, Nat.reduceEqDiff, Nat.reduceBEq, Nat.reduceGT, hlt', u_cvpC, u_cepP, cert_tR, cert_fR, hq, h0, h1, h2, hY, hY3, hroom, setL, takeLA, ltT_cl, hY4, w_i64]
        exact step
    · have hlt' : ¬ (k : Int) < (n : Int) := by omega
      rw [show n - k = 0 by omega] at hJ
      have hJ2 : RdO.ok (xs ++ []) d = R := hJ
      rw [List.append_nil] at hJ2
      subst hJ2
      rw [hr2]
      simp (config := {maxSteps := 4000000, implicitDefEqProofs := false}) (disch := omega) only [go_sem, ↓reduceIte, Nat.reduceAdd, Nat.reduceSub, Nat.reduceMul, Nat.reduceLeDiff, Nat.reduceLT, Int.reduceEq, Int.reduceNe, Int.reduceLT, Int.reduceLE, Int.reduceAdd, Int.reduceSub, Int.reduceMul, Int.reduceNeg, Int.reduceToNat, reduceCtorEq, Nat.reduceEqDiff, Nat.reduceBEq, Nat.reduceGT, hlt', hkx, h0, h1, h2, hY, hY3, ro_lastM, wire_some_Cert_r1_eq]
def cgN (x0 x1 x2 x3 : Int) : List AV := [nA x0, nA x1, nA x2, nA x3, V (.slice none 0 0), V (.slice none 0 0)]
def cgM (x0 x1 x2 x3 : Int) (l : List Sm) : List AV := [nA x0, nA x1, nA x2, nA x3, SL (l.map smE), V (.slice none 0 0)]
theorem cg_b {R : Type} {K1 : AV → Option R} {x0 x1 x2 x3 : Int} : buildE (some pl_api_Change) (some zc_api_Change) [(0, nA x0), (1, nA x1), (2, nA x2), (3, nA x3)] K1 = K1 (.agg (cgN x0 x1 x2 x3)) := _root_.id rfl
theorem cgN_set {x0 x1 x2 x3 : Int} : setCells zc_api_Change 0 (cgN x0 x1 x2 x3) = cgN x0 x1 x2 x3 := _root_.id rfl
theorem cgN_len {x0 x1 x2 x3 : Int} : (cgN x0 x1 x2 x3).length = 6 := _root_.id rfl
theorem cgM_len {x0 x1 x2 x3 : Int} {l : List Sm} : (cgM x0 x1 x2 x3 l).length = 6 := _root_.id rfl
theorem cgN_sure {x0 x1 x2 x3 : Int} : (cgN x0 x1 x2 x3).all sure = true := _root_.id rfl
theorem cgN_sl {x0 x1 x2 x3 : Int} {n : Nat} : ((cgN x0 x1 x2 x3).all fun y => sure y && lt1 n y) = true := _root_.id rfl
theorem cgN_set4 {x0 x1 x2 x3 : Int} {l : List Sm} : setCells (cgN x0 x1 x2 x3) 4 [SL (l.map smE)] = cgM x0 x1 x2 x3 l := _root_.id rfl
theorem cgM_set5 {x0 x1 x2 x3 : Int} {l : List Sm} {l2 : List Ce} : setCells (cgM x0 x1 x2 x3 l) 5 [SL (l2.map ceE)] = cgC ⟨x0, x1, x2, x3, l, l2⟩ := _root_.id rfl
theorem change_sR (m : Nat) (a : Nat) (h0 : ∀ n, ltO n X0 = true) (h1 : ∀ n, ltO n X1 = true) (h2 : ∀ n, ltO n X2 = true) (hY : ∀ n, Y.all (ltO n) = true) (hb : b.length ≤ 34359738368) (ha : a ≤ b.length) (hm : 70 < m) : wire_reader_change m (OP 3 0) (RO3 X0 X1 X2 t b a Y) = prO X0 X1 X2 t b Y (fun v : Ch => cgE v) (changeR b a) := by
  have hY3 : Y.length ≤ Y.length + 1 := Nat.le_succ _
  have hY5 : Y.length ≤ Y.length + 2 := Nat.le_add_right _ _
  rw [wire_reader_change_eq]
  unfold changeR
  have hY1 : ∀ n, (Y ++ [(⟨1, ty_api_Change, 0, zc_api_Change⟩ : AObj)]).all (ltO n) = true := fun n => by simp only [List.all_append, hY, Bool.true_and]; rfl
  have q0 := party_sR (t := t) (Y := Y ++ [(⟨1, ty_api_Change, 0, zc_api_Change⟩ : AObj)]) m a h0 h1 h2 (hY1) hb ha
  cases r0 : intR b 63 a with
  | no e c =>
    rw [r0] at q0
    simp only [RO3_it, prO_no] at q0 ⊢
    try dsimp only [RdO.bind]
    simp (config := {maxSteps := 4000000, implicitDefEqProofs := false}) (disch := omega) only [go_sem, ↓reduceIte, Nat.reduceAdd, Nat.reduceSub, Nat.reduceMul, Nat.reduceLeDiff, Nat.reduceLT, Int.reduceEq, Int.reduceNe, Int.reduceLT, Int.reduceLE, Int.reduceAdd, Int.reduceSub, Int.reduceMul, Int.reduceNeg, Int.reduceToNat, reduceCtorEq, Nat.reduceEqDiff, Nat.reduceBEq, Nat.reduceGT, q0, h0, h1, h2, hY, hY3, setL, ro_cl, cg_b, cgN_set, cgN_len, cgN_sure, cgN_sl, cgN_set4, cgM_set5, cgM_len, hY5, setL2, setL2a, nthOL2, nthOL2a, takeL2]
  | ok x0 a0 =>
    have ha0 : a0 ≤ b.length := get_in (intR_in ha) r0
    rw [r0] at q0
    simp only [RO3_it, prO_ok] at q0
    try dsimp only [RdO.bind]
    have q1 := any_sR (t := t) (Y := Y ++ [(⟨1, ty_api_Change, 0, zc_api_Change⟩ : AObj)]) m a0 h0 h1 h2 (hY1) hb ha0
    cases r1 : intR b 2147483647 a0 with
    | no e c =>
      rw [r1] at q1
      simp only [RO3_it, prO_no] at q1 ⊢
      try dsimp only [RdO.bind]
      simp (config := {maxSteps := 4000000, implicitDefEqProofs := false}) (disch := omega) only [go_sem, ↓reduceIte, Nat.reduceAdd, Nat.reduceSub, Nat.reduceMul, Nat.reduceLeDiff, Nat.reduceLT, Int.reduceEq, Int.reduceNe, Int.reduceLT, Int.reduceLE, Int.reduceAdd, Int.reduceSub, Int.reduceMul, Int.reduceNeg, Int.reduceToNat, reduceCtorEq, Nat.reduceEqDiff, Nat.reduceBEq, Nat.reduceGT, q0, q1, h0, h1, h2, hY, hY3, setL, ro_cl, cg_b, cgN_set, cgN_len, cgN_sure, cgN_sl, cgN_set4, cgM_set5, cgM_len, hY5, setL2, setL2a, nthOL2, nthOL2a, takeL2]
    | ok x1 a1 =>
      have ha1 : a1 ≤ b.length := get_in (intR_in ha0) r1
      rw [r1] at q1
      simp only [RO3_it, prO_ok] at q1
      try dsimp only [RdO.bind]
      have q2 := any_sR (t := t) (Y := Y ++ [(⟨1, ty_api_Change, 0, zc_api_Change⟩ : AObj)]) m a1 h0 h1 h2 (hY1) hb ha1
      cases r2 : intR b 2147483647 a1 with
      | no e c =>
        rw [r2] at q2
        simp only [RO3_it, prO_no] at q2 ⊢
        try dsimp only [RdO.bind]
        simp (config := {maxSteps := 4000000, implicitDefEqProofs := false}) (disch := omega) only [go_sem, ↓reduceIte, Nat.reduceAdd, Nat.reduceSub, Nat.reduceMul, Nat.reduceLeDiff, Nat.reduceLT, Int.reduceEq, Int.reduceNe, Int.reduceLT, Int.reduceLE, Int.reduceAdd, Int.reduceSub, Int.reduceMul, Int.reduceNeg, Int.reduceToNat, reduceCtorEq, Nat.reduceEqDiff, Nat.reduceBEq, Nat.reduceGT, q0, q1, q2, h0, h1, h2, hY, hY3, setL, ro_cl, cg_b, cgN_set, cgN_len, cgN_sure, cgN_sl, cgN_set4, cgM_set5, cgM_len, hY5, setL2, setL2a, nthOL2, nthOL2a, takeL2]
      | ok x2 a2 =>
        have ha2 : a2 ≤ b.length := get_in (intR_in ha1) r2
        rw [r2] at q2
        simp only [RO3_it, prO_ok] at q2
        try dsimp only [RdO.bind]
        have q3 := any_sR (t := t) (Y := Y ++ [(⟨1, ty_api_Change, 0, zc_api_Change⟩ : AObj)]) m a2 h0 h1 h2 (hY1) hb ha2
        cases r3 : intR b 2147483647 a2 with
        | no e c =>
          rw [r3] at q3
          simp only [RO3_it, prO_no] at q3 ⊢
          try dsimp only [RdO.bind]
          simp (config := {maxSteps := 4000000, implicitDefEqProofs := false}) (disch := omega) only [go_sem, ↓reduceIte, Nat.reduceAdd, Nat.reduceSub, Nat.reduceMul, Nat.reduceLeDiff, Nat.reduceLT, Int.reduceEq, Int.reduceNe, Int.reduceLT, Int.reduceLE, Int.reduceAdd, Int.reduceSub, Int.reduceMul, Int.reduceNeg, Int.reduceToNat, reduceCtorEq, Nat.reduceEqDiff, Nat.reduceBEq, Nat.reduceGT, q0, q1, q2, q3, h0, h1, h2, hY, hY3, setL, ro_cl, cg_b, cgN_set, cgN_len, cgN_sure, cgN_sl, cgN_set4, cgM_set5, cgM_len, hY5, setL2, setL2a, nthOL2, nthOL2a, takeL2]
        | ok x3 a3 =>
          have ha3 : a3 ≤ b.length := get_in (intR_in ha2) r3
          rw [r3] at q3
          simp only [RO3_it, prO_ok] at q3
          try dsimp only [RdO.bind]
          have hY2 : ∀ n, (Y ++ [(⟨1, ty_api_Change, 0, zc_api_Change⟩ : AObj)] ++ [(⟨1, ty_api_Change, 0, cgN x0 x1 x2 x3⟩ : AObj)]).all (ltO n) = true := fun n => by simp only [List.all_append, hY, Bool.true_and]; rfl
          have q4 := someStmt_sR (t := t) (Y := Y ++ [(⟨1, ty_api_Change, 0, zc_api_Change⟩ : AObj)] ++ [(⟨1, ty_api_Change, 0, cgN x0 x1 x2 x3⟩ : AObj)]) m a3 h0 h1 h2 (hY2) hb ha3 hm
          cases r4 : someR b (stmtR b) a3 with
          | no e c =>
            rw [r4] at q4
            simp only [RO3_it, prO_no] at q4 ⊢
            try dsimp only [RdO.bind]
            simp (config := {maxSteps := 4000000, implicitDefEqProofs := false}) (disch := omega) only [go_sem, ↓reduceIte, Nat.reduceAdd, Nat.reduceSub, Nat.reduceMul, Nat.reduceLeDiff, Nat.reduceLT, Int.reduceEq, Int.reduceNe, Int.reduceLT, Int.reduceLE, Int.reduceAdd, Int.reduceSub, Int.reduceMul, Int.reduceNeg, Int.reduceToNat, reduceCtorEq, Nat.reduceEqDiff, Nat.reduceBEq, Nat.reduceGT, q0, q1, q2, q3, q4, h0, h1, h2, hY, hY3, setL, ro_cl, cg_b, cgN_set, cgN_len, cgN_sure, cgN_sl, cgN_set4, cgM_set5, cgM_len, hY5, setL2, setL2a, nthOL2, nthOL2a, takeL2]
          | ok x4 a4 =>
            have ha4 : a4 ≤ b.length := get_in (someR_in (fun _ => stmtR_in) ha3) r4
            rw [r4] at q4
            simp only [RO3_it, prO_ok] at q4
            try dsimp only [RdO.bind]
            have hY4 : ∀ n, (Y ++ [(⟨1, ty_api_Change, 0, zc_api_Change⟩ : AObj)] ++ [(⟨1, ty_api_Change, 0, cgM x0 x1 x2 x3 x4⟩ : AObj)]).all (ltO n) = true := fun n => by simp only [List.all_append, hY, Bool.true_and]; rfl
            have q5 := someCert_sR (t := t) (Y := Y ++ [(⟨1, ty_api_Change, 0, zc_api_Change⟩ : AObj)] ++ [(⟨1, ty_api_Change, 0, cgM x0 x1 x2 x3 x4⟩ : AObj)]) m a4 h0 h1 h2 (hY4) hb ha4 hm
            cases r5 : someR b (certR b) a4 with
            | no e c =>
              rw [r5] at q5
              simp only [RO3_it, prO_no] at q5 ⊢
              try dsimp only [RdO.bind]
              simp (config := {maxSteps := 4000000, implicitDefEqProofs := false}) (disch := omega) only [go_sem, ↓reduceIte, Nat.reduceAdd, Nat.reduceSub, Nat.reduceMul, Nat.reduceLeDiff, Nat.reduceLT, Int.reduceEq, Int.reduceNe, Int.reduceLT, Int.reduceLE, Int.reduceAdd, Int.reduceSub, Int.reduceMul, Int.reduceNeg, Int.reduceToNat, reduceCtorEq, Nat.reduceEqDiff, Nat.reduceBEq, Nat.reduceGT, q0, q1, q2, q3, q4, q5, h0, h1, h2, hY, hY3, setL, ro_cl, cg_b, cgN_set, cgN_len, cgN_sure, cgN_sl, cgN_set4, cgM_set5, cgM_len, hY5, setL2, setL2a, nthOL2, nthOL2a, takeL2]
            | ok x5 a5 =>
              have ha5 : a5 ≤ b.length := get_in (someR_in (fun _ => certR_in) ha4) r5
              rw [r5] at q5
              simp only [RO3_it, prO_ok] at q5
              try dsimp only [RdO.bind]
              simp only [RO3_it, prO_ok]
              simp (config := {maxSteps := 4000000, implicitDefEqProofs := false}) (disch := omega) only [go_sem, ↓reduceIte, Nat.reduceAdd, Nat.reduceSub, Nat.reduceMul, Nat.reduceLeDiff, Nat.reduceLT, Int.reduceEq, Int.reduceNe, Int.reduceLT, Int.reduceLE, Int.reduceAdd, Int.reduceSub, Int.reduceMul, Int.reduceNeg, Int.reduceToNat, reduceCtorEq, Nat.reduceEqDiff, Nat.reduceBEq, Nat.reduceGT, q0, q1, q2, q3, q4, q5, h0, h1, h2, hY, hY3, setL, ro_cl, cg_b, cgN_set, cgN_len, cgN_sure, cgN_sl, cgN_set4, cgM_set5, cgM_len, hY5, setL2, setL2a, nthOL2, nthOL2a, takeL2]
theorem change_tR {m : Nat} {a : AV} {H : List AObj} : wire_reader_change_t m [a] H = wire_reader_change m a H := _root_.id rfl
theorem change_fR {m : Nat} : findE (wire_some_Change_env m) 29 = some (.pan (wire_reader_change_t m)) := _root_.id rfl
theorem change_finP {n : Nat} {u : Value} {s : ASt} : wire_some_Change_fin n (.panic (pch u)) s = panKE n s.H u := _root_.id rfl
theorem someChange_sR (m : Nat) (a : Nat) (h0 : ∀ n, ltO n X0 = true) (h1 : ∀ n, ltO n X1 = true) (h2 : ∀ n, ltO n X2 = true) (hY : ∀ n, Y.all (ltO n) = true) (hb : b.length ≤ 34359738368) (ha : a ≤ b.length) (hm : 70 < m) : wire_some_Change m (OP 3 0) (CL (.func 29) 1 [OP 3 0]) (RO3 X0 X1 X2 t b a Y) = prO X0 X1 X2 t b Y (fun l : List Ch => SL (l.map cgE)) (someR b (changeR b) a) := by
  have q := num_sR (t := t) m 64 a h0 h1 h2 hY hb ha (by omega)
  have hi := numR_in (most := 64) ha
  rw [wire_some_Change_eq]
  unfold someR
  cases hr : numR b 64 a with
  | no e a' => rw [hr] at q; simp only [RO3_it, prO_no, Int.cast_ofNat_Int] at q ⊢; dsimp only [RdO.bind]; simp (config := {maxSteps := 4000000, implicitDefEqProofs := false}) (disch := omega) only [go_sem, ↓reduceIte, Nat.reduceAdd, Nat.reduceSub, Nat.reduceMul, Nat.reduceLeDiff, Nat.reduceLT, Int.reduceEq, Int.reduceNe, Int.reduceLT, Int.reduceLE, Int.reduceAdd, Int.reduceSub, Int.reduceMul, Int.reduceNeg, Int.reduceToNat, reduceCtorEq, Nat.reduceEqDiff, Nat.reduceBEq, Nat.reduceGT, q, h0, h1, h2, hY]
  | ok n c =>
    have hc : c ≤ b.length := get_in hi hr
    have hn := numR_most hr
    rw [hr] at q
    simp only [RO3_it, prO_ok, Int.cast_ofNat_Int] at q ⊢
    dsimp only [RdO.bind]
    generalize hR : loopR (changeR b) n c = R
    obtain ⟨r, hr2⟩ : ∃ r, r = prO X0 X1 X2 t b Y (fun l : List Ch => SL (l.map cgE)) R := ⟨_, rfl⟩
    rw [← hr2]
    have i0 : joinR ([] : List Ch) (loopR (changeR b) (n - 0) c) = R := by rw [joinR_nil]; exact hR
    simp (config := {maxSteps := 4000000, implicitDefEqProofs := false}) (disch := omega) only [go_sem, ↓reduceIte, Nat.reduceAdd, Nat.reduceSub, Nat.reduceMul, Nat.reduceLeDiff, Nat.reduceLT, Int.reduceEq, Int.reduceNe, Int.reduceLT, Int.reduceLE, Int.reduceAdd, Int.reduceSub, Int.reduceMul, Int.reduceNeg, Int.reduceToNat, reduceCtorEq, Nat.reduceEqDiff, Nat.reduceBEq, Nat.reduceGT, q, ro_cl]
    refine iter_go (m := m) (ι := {k : Nat × List Ch × Nat // k.1 ≤ n ∧ k.2.1.length = k.1 ∧ k.2.2 ≤ b.length ∧ joinR k.2.1 (loopR (changeR b) (n - k.1) k.2.2) = R}) (fun k => ⟨X0 :: X1 :: X2 :: ⟨1, t, 0, [SL (bC b), nA k.1.2.2]⟩ :: (Y ++ [⟨2, ty_api_Change, 6, k.1.2.1.map cgE⟩]), [(1, CL (.func 29) 1 [OP 3 0]), (5, OW (Y.length + 1 + 1 + 1 + 1) k.1.2.1.length), (7, nA n), (8, nA k.1.1)]⟩) (fun k => n - k.1.1) (fun _ => r) ?_ ⟨(0, [], c), Nat.zero_le _, rfl, hc, i0⟩ (by dsimp only; omega)
    rintro kx hkx ⟨⟨k, xs, d⟩, hk, hxl, hd, hJ⟩ kc hkc
    dsimp only at hk hxl hd hJ hkc ⊢
    have hY3 : Y.length ≤ Y.length + 1 := Nat.le_succ _
    have hY' : ∀ n, (Y ++ [(⟨2, ty_api_Change, 6, xs.map cgE⟩ : AObj)]).all (ltO n) = true := fun n => by
      simp only [List.all_append, hY, Bool.true_and, List.all_cons, List.all_nil, Bool.and_true, ltO_r, List.all_map]
      exact cgs_ltA
    rw [wire_some_Change_b1_eq]
    by_cases hlt : k < n
    · have hlt' : (k : Int) < (n : Int) := by omega
      have hq := change_sR (t := t) m d h0 h1 h2 hY' hb hd hm
      rw [show n - k = (n - (k + 1)) + 1 by omega] at hJ
      unfold loopR at hJ
      cases ho : changeR b d with
      | no e d' =>
        rw [ho] at hq hJ
        simp only [RO3_it, prO_no] at hq
        have hJ2 : RdO.no e d' = R := hJ
        subst hJ2
        rw [hr2]
        simp (config := {maxSteps := 4000000, implicitDefEqProofs := false}) (disch := omega) only [go_sem, ↓reduceIte, Nat.reduceAdd, Nat.reduceSub, Nat.reduceMul, Nat.reduceLeDiff, Nat.reduceLT, Int.reduceEq, Int.reduceNe, Int.reduceLT, Int.reduceLE, Int.reduceAdd, Int.reduceSub, Int.reduceMul, Int.reduceNeg, Int.reduceToNat, reduceCtorEq, Nat.reduceEqDiff, Nat.reduceBEq, Nat.reduceGT, hlt', u_cvpC, u_cepP, u_blkPn, u_seqPn, change_tR, change_fR, change_finP, hq, hkx, h0, h1, h2, hY, hY3]
      | ok x d' =>
        have hd' : d' ≤ b.length := get_in (changeR_in hd) ho
        rw [ho] at hq hJ
        simp only [RO3_it, prO_ok] at hq
        have hJ2 : joinR xs ((loopR (changeR b) (n - (k + 1)) d').bind fun l a => .ok (x :: l) a) = R := hJ
        rw [joinR_bind] at hJ2
        have step := hkc ⟨(k + 1, xs ++ [x], d'), by dsimp only; omega, by simp [hxl], hd', hJ2⟩ (by dsimp only; omega)
        have hY4 : Y.length + 1 + 1 + 1 + 1 < Y.length + 1 + 1 + 1 + 1 + 1 := Nat.lt_succ_self _
        have hroom : xs.length + 1 ≤ 34359738368 := by omega
        have hx2 : (xs.map cgE ++ [DataW.agg (cgC x)]).all (ltA (Y.length + 1 + 1 + 1 + 1 + 1)) = true := by
          rw [List.all_append, List.all_map, Function.comp_def, cgs_ltA]; rfl
        simp only [List.map_append, List.map_cons, List.map_nil, List.length_append, List.length_cons, List.length_nil, Nat.zero_add, cg_it] at step
        simp (config := {maxSteps := 4000000, implicitDefEqProofs := false}) (disch := omega) only [go_sem, ↓reduceIte, Nat.reduceAdd, Nat.reduceSub, Nat.reduceMul, Nat.reduceLeDiff, Nat.reduceLT, Int.reduceEq, Int.reduceNe, Int.reduceLT, Int.reduceLE, Int.reduceAdd, Int.reduceSub, Int.reduceMul, Int.reduceNeg, Int.reduceToNat, reduceCtorEq, Nat.reduceEqDiff, Nat.reduceBEq, Nat.reduceGT, hlt', u_cvpC, u_cepP, change_tR, change_fR, hq, h0, h1, h2, hY, hY3, hroom, setL, takeLA, ltT_cl, hY4, w_i64]
        exact step
    · have hlt' : ¬ (k : Int) < (n : Int) := by omega
      rw [show n - k = 0 by omega] at hJ
      have hJ2 : RdO.ok (xs ++ []) d = R := hJ
      rw [List.append_nil] at hJ2
      subst hJ2
      rw [hr2]
      simp (config := {maxSteps := 4000000, implicitDefEqProofs := false}) (disch := omega) only [go_sem, ↓reduceIte, Nat.reduceAdd, Nat.reduceSub, Nat.reduceMul, Nat.reduceLeDiff, Nat.reduceLT, Int.reduceEq, Int.reduceNe, Int.reduceLT, Int.reduceLE, Int.reduceAdd, Int.reduceSub, Int.reduceMul, Int.reduceNeg, Int.reduceToNat, reduceCtorEq, Nat.reduceEqDiff, Nat.reduceBEq, Nat.reduceGT, hlt', hkx, h0, h1, h2, hY, hY3, ro_lastM, wire_some_Change_r1_eq]
end
end Go.Proofs.Ytbdbmfifclmpcaa

namespace Go.Proofs.Ytbdbmfifclmpcaa
open Go.RowKit
set_option linter.unusedVariables false
set_option linter.unusedSimpArgs false
set_option maxRecDepth 20000
abbrev St := Nat × Nat
abbrev TR (α : Type) := St → α × St
def TR.bind {α β : Type} (f : TR α) (g : α → TR β) : TR β := fun s => g (f s).1 (f s).2
def TR.ret {α : Type} (x : α) : TR α := fun s => (x, s)
def RdO.st {α : Type} (x0 : α) : RdO α → α × St
  | .ok x a => (x, (a, 0))
  | .no e a => (x0, (a, e))
def numT (b : List UInt8) (most : Nat) : TR Nat := fun s => if s.2 = 0 then (numR b most s.1).st 0 else (0, s)
def itT (b : List UInt8) (most : Nat) : TR Int := fun s => (((numT b most s).1 : Int), (numT b most s).2)
def cutT (b : List UInt8) (n : Nat) : TR (List UInt8) := fun s => if s.2 = 0 then (if b.length - s.1 < n then ([], (s.1, 2)) else ((b.drop s.1).take n, (s.1 + n, 0))) else ([], s)
def textT (b : List UInt8) : TR (List UInt8) := (numT b 65536).bind fun n => cutT b n
def stmtT (b : List UInt8) : TR Sm := (itT b 63).bind fun x0 => (itT b 2147483647).bind fun x1 => (itT b 2147483647).bind fun x2 => (itT b 2147483647).bind fun x3 => (itT b 2147483647).bind fun x4 => TR.ret ⟨x0, x1, x2, x3, x4⟩
def loopT {α : Type} (one : TR α) : Nat → TR (List α)
  | 0, s => ([], s)
  | n + 1, s => if s.2 = 0 then ((one s).1 :: (loopT one n (one s).2).1, (loopT one n (one s).2).2) else ([], s)
def someT {α : Type} (b : List UInt8) (one : TR α) : TR (List α) := (numT b 64).bind fun n => loopT one n
def certT (b : List UInt8) : TR Ce := (itT b 2147483647).bind fun x0 => (itT b 2147483647).bind fun x1 => (itT b 2147483647).bind fun x2 => (textT b).bind fun x3 => (someT b (stmtT b)).bind fun x4 => TR.ret ⟨x0, x1, x2, x3, x4⟩
def changeT (b : List UInt8) : TR Ch := (itT b 63).bind fun x0 => (itT b 2147483647).bind fun x1 => (itT b 2147483647).bind fun x2 => (itT b 2147483647).bind fun x3 => (someT b (stmtT b)).bind fun x4 => (someT b (certT b)).bind fun x5 => TR.ret ⟨x0, x1, x2, x3, x4, x5⟩
def msgT (b : List UInt8) : TR Ms := (itT b 10).bind fun x0 => (itT b 63).bind fun x1 => (itT b 2147483647).bind fun x2 => (itT b 2147483647).bind fun x3 => (itT b 2147483647).bind fun x4 => (textT b).bind fun x5 => (someT b (stmtT b)).bind fun x6 => (someT b (changeT b)).bind fun x7 => TR.ret ⟨x0, x1, x2, x3, x4, x5, x6, x7⟩
def TR.In {α : Type} (b : List UInt8) (f : TR α) : Prop := ∀ s, s.1 ≤ b.length → (f s).2.1 ≤ b.length
theorem TR.bind_in {α β : Type} {b : List UInt8} {f : TR α} {g : α → TR β} (hf : f.In b) (hg : ∀ x, (g x).In b) : (f.bind g).In b := fun s hs => hg _ _ (hf s hs)
attribute [local go_sem] Nat.zero_add Nat.add_zero Nat.mul_one Int.toNat_natCast Int.natCast_zero Int.cast_ofNat_Int or_false false_or or_true true_or Nat.sub_zero Int.natCast_nonneg Int.toNat_zero Bool.true_and Bool.and_true Bool.false_and Bool.and_false Bool.true_or Bool.or_true Bool.false_or Bool.or_false Bool.not_true Bool.not_false Bool.not_not true_and and_true false_and and_false not_true_eq_false not_false_eq_true eq_self decide_true decide_false ne_eq implies_true forall_const true_implies false_implies Bool.true_eq_false Bool.false_eq_true List.map_cons List.map_nil List.all_cons List.all_nil List.length_cons List.length_nil List.length_map List.length_append List.nil_append List.cons_append List.set_cons_zero List.set_cons_succ List.set_nil List.drop_zero List.drop_succ_cons List.drop_nil List.take_zero List.take_succ_cons List.take_nil Option.map_some Option.map_none Option.isSome_some List.all_append List.all_map Function.comp_def decide_eq_true_eq Bool.and_eq_true beq_self_eq_true or_self and_self ite_true ite_false Nat.le_refl Bool.not_eq_true decide_not Bool.not_eq_true' decide_eq_false_iff_not Bool.not_eq_false Bool.or_eq_true if_true if_false ite_self u_roF u_cvF u_cvC u_ceT u_ceK u_appS sm_it sm_len sm_sure sm_ltA sm_lt1 sm_all1 sm_ro sm_take sm_sl sm_set sm_noT sm_fr sm_st_fr sm_set_fr sm_kd sm_st_kd sm_set_kd sm_vw sm_st_vw sm_set_vw sm_sq sm_st_sq sm_set_sq sm_tm sm_st_tm sm_set_tm zsm_len zsm_sure zsm_lt1 zsm_sl zsm_ro zsm_setz zsm_set zsm_setr zsm_take sms_ltA sms_len ce_it ce_len ce_sure ce_ltA ce_lt1 ce_all1 ce_ro ce_take ce_sl ce_set ce_noT ce_sq ce_st_sq ce_set_sq ce_vw ce_st_vw ce_set_vw ce_tm ce_st_tm ce_set_tm ce_body ce_st_body ce_set_body ce_vs ce_st_vs ce_set_vs zce_len zce_sure zce_lt1 zce_sl zce_ro zce_setz zce_set zce_setr zce_take ces_ltA ces_len cg_it cg_len cg_sure cg_ltA cg_lt1 cg_all1 cg_ro cg_take cg_sl cg_set cg_noT cg_fr cg_st_fr cg_set_fr cg_vw cg_st_vw cg_set_vw cg_st cg_st_st cg_set_st cg_rt cg_st_rt cg_set_rt cg_pf cg_st_pf cg_set_pf cg_cs cg_st_cs cg_set_cs zcg_len zcg_sure zcg_lt1 zcg_sl zcg_ro zcg_setz zcg_set zcg_setr zcg_take cgs_ltA cgs_len ms_it ms_len ms_sure ms_ltA ms_lt1 ms_all1 ms_ro ms_take ms_sl ms_set ms_noT ms_kd ms_st_kd ms_set_kd ms_fr ms_st_fr ms_set_fr ms_vw ms_st_vw ms_set_vw ms_sq ms_st_sq ms_set_sq ms_tm ms_st_tm ms_set_tm ms_body ms_st_body ms_set_body ms_vs ms_st_vs ms_set_vs ms_chs ms_st_chs ms_set_chs zms_len zms_sure zms_lt1 zms_sl zms_ro zms_setz zms_set zms_setr zms_take mss_ltA mss_len natInt u_nthM u_bz u_bi1 u_bi2 u_bi3 u_bi4 u_bi5 u_bi6 u_bi7 bC_length bc_ltA bc_one nthOL ltO_o ltO_r takeL bC_append u_addS List.take_length Int.natCast_add setL setL2 setL2a nthOL2 nthOL2a takeL2
section
variable {P0 : AObj} {t : TypeId} {b : List UInt8} {Y : List AObj}
end
section
variable {P0 M Rw : AObj} {t : TypeId} {b : List UInt8}
theorem zcg_sete {x0 x1 x2 x3 x4 x5 : AV} : setCells zc_api_Change 0 [x0, x1, x2, x3, x4, x5] = [x0, x1, x2, x3, x4, x5] := _root_.id rfl
theorem cgC_it {x0 x1 x2 x3 : Int} {x4 : List Sm} {x5 : List Ce} : cgC ⟨x0, x1, x2, x3, x4, x5⟩ = [nA x0, nA x1, nA x2, nA x3, SL (x4.map smE), SL (x5.map ceE)] := _root_.id rfl
end
section
variable {b : List UInt8}
def decX (r : Ms × Nat × Nat) : AV := TU [noT (.agg (msC r.1)), noT (nA r.2.1), noT (nA r.2.2)]
theorem b0_Msg {R : Type} {K1 : AV → Option R} : buildE (some pl_api_Msg) (some zc_api_Msg) [] K1 = K1 (.agg [nA 0, nA 0, nA 0, nA 0, nA 0, sA [], V (.slice none 0 0), V (.slice none 0 0)]) := _root_.id rfl
theorem zms_sete {x0 x1 x2 x3 x4 x5 x6 x7 : AV} : setCells zc_api_Msg 0 [x0, x1, x2, x3, x4, x5, x6, x7] = [x0, x1, x2, x3, x4, x5, x6, x7] := _root_.id rfl
theorem msC_it {x0 x1 x2 x3 x4 : Int} {x5 : List UInt8} {x6 : List Sm} {x7 : List Ch} : msC ⟨x0, x1, x2, x3, x4, x5, x6, x7⟩ = [nA x0, nA x1, nA x2, nA x3, nA x4, sA x5, SL (x6.map smE), SL (x7.map cgE)] := _root_.id rfl
end
end Go.Proofs.Ytbdbmfifclmpcaa

namespace Go.Proofs.Ytbdbmfifclmpcaa
open Go.RowKit
set_option linter.unusedVariables false
noncomputable abbrev sltK (T : Tm) (l : List Tmp) : List AV := List.rec (motive := fun _ => List AV) [] (fun t _ ih => slotK T t :: ih) l
theorem sltK_eq (T : Tm) : ∀ l, sltK T l = l.map (get T)
  | [] => rfl
  | t :: r => by
    have ih := sltK_eq T r
    show slotK T t :: sltK T r = get T t :: r.map (get T)
    rw [ih, slotK_eq]
noncomputable abbrev sltFK (rs : List Tmp) : KO (AV × List AObj) := fun e s => match e with
  | .normal => some (TU (sltK s.T rs), s.H)
  | .ret => some (TU (sltK s.T rs), s.H)
  | .panic ch => chE ch fun u => some (TU (PN u :: sltK s.T rs), s.H)
  | _ => none
theorem sltX (P : Program) (G : Gl) (E : Env) (M : Nat) (N : FS) (c : Code) (h : Hint) (s : ASt) (rs : List Tmp) : exec P G E M N c h s (sltFK rs) = execK P G E M N c h s (sltFK rs) := (execK_eq c h s _).symm
section
variable {P : Program} {G : Gl} {E : Env} {M n : Nat} {H : List AObj}
noncomputable abbrev orwFK (P : Program) (n : Nat) (rs : List ResultVar) : KO (AV × List AObj) := fun e s => match e with
  | .normal => resEK P s.H s.T rs fun ds => openK s.H (oneOf ds)
  | .ret => resEK P s.H s.T rs fun ds => openK s.H (oneOf ds)
  | _ => none
theorem orwX (P : Program) (G : Gl) (E : Env) (M : Nat) (N : FS) (n : Nat) (c : Code) (h : Hint) (s : ASt) (rs : List ResultVar) : exec P G E M N c h s (orwFK P n rs) = execK P G E M N c h s (orwFK P n rs) := (execK_eq c h s _).symm
theorem orw_ok {N : Nat} (hm : P.follows .mixedOrders = true) (hE : EnvOk P G E) {f : FuncId} {fn : Func} {c : Code} {args : List AV} (hf : P.funcs[f]? = some fn) (hb : fn.body = some c) (hc : callIs P f = true) (rs : List ResultVar) (hrs : fn.results.toList = rs) (hN : fn.ntmps = N) (hargs : args.length ≤ N) (h : Hint)
    {X : AV} {H' : List AObj} (hx : exec P G E M (F0 N) c h ⟨H, argsT 0 args⟩ (orwFK P n rs) = some (X, H')) : AC P G f args H (Is X H') := by
  have key := AWp.len (exec_ok (n := H.length) hm hE c h ⟨H, argsT 0 args⟩ _ (Nat.le_refl _) hx) (Nat.le_refl _)
  have fin : ∀ s : ASt, (resEK P s.H s.T rs fun ds => openK s.H (oneOf ds)) = some (X, H') → H.length ≤ s.H.length →
      resC P s.H s.T rs fun ds => ∃ X' H'', (X' = oneOf ds ∨ X' = ro s.H (oneOf ds)) ∧ HLe s.H H'' ∧ H''.all (ltO H''.length) = true ∧ H.length ≤ H''.length ∧ ltT H''.length X' = true ∧ Is X H' X' H'' := by
    intro s q hl
    rw [resEK_eq] at q
    refine resC_mono (fun ds w => ?_) (resE_ok q)
    obtain ⟨h1, h2⟩ := whenE_some w
    simp only [Bool.and_eq_true] at h1
    cases h2
    exact ⟨_, _, .inl rfl, HLe.refl _, h1.1, hl, h1.2, rfl, rfl⟩
  refine ac_of_wpC hf hb hc rs hrs N hN hargs (AWp.mono key fun e s q => ?_)
  obtain ⟨q, hl⟩ := q
  cases e with
  | normal => exact fin s q hl
  | ret => exact fin s q hl
  | exit id => cases q
  | goto l => cases q
  | panic ch => cases q
  | outgrown => cases q
end
end Go.Proofs.Ytbdbmfifclmpcaa

namespace Go.Proofs.Ytbdbmfifclmpcaa
open Go.RowKit
set_option linter.unusedVariables false
set_option maxRecDepth 100000
def ty_wire_reader : TypeId := 50
def zc_wire_reader : List AV := [(V (.slice none 0 0)), (V (.int .i64 0))]
def pl_wire_reader : List (Nat × Nat) := [(0, 1), (1, 1)]
noncomputable def wire_DecodeR_c : Code := (endC 2 ((Try.f9.body).getD .skip))
def wire_DecodeR_h : Hint := (.two .n (.two .n (.two .n (.two .n (.join [2, 3, 4] (.one (.two .n (.two .n (.two .n (.two .n .n))))) (.two .n .n))))))
noncomputable def wire_DecodeR_env (m : Nat) : Env := [(22, .pan (wire_reader_num_t m)), (23, .pan (wire_reader_party_t m)), (24, .pan (wire_reader_any_t m)), (25, .pan (wire_reader_text_t m)), (26, .pan (wire_some_Stmt_t m)), (28, .pan (wire_some_Change_t m))]
noncomputable abbrev wire_DecodeR_fin (n0 : Nat) : KO (AV × List AObj) := sltFK [2, 3, 4]
noncomputable def wire_DecodeR_r1 (m : Nat) (D : List Deferred) (n0k : Nat) (s : ASt) : RO := joinW Try.prog GG (wire_DecodeR_env m) m ⟨54, D⟩ (cdR (cdR (cdR (cdR (cdR wire_DecodeR_c))))) wire_DecodeR_h.r.r.r.r.r s (wire_DecodeR_fin n0k)
noncomputable def wire_DecodeR (m : Nat) (D : List Deferred) (t0 t2 t3 t4 : AV) (H : List AObj) : RO := exec Try.prog GG (wire_DecodeR_env m) m ⟨54, D⟩ wire_DecodeR_c wire_DecodeR_h ⟨H, [(0, t0), (2, t2), (3, t3), (4, t4)]⟩ (wire_DecodeR_fin H.length)
theorem wire_DecodeR_r1_eq (m : Nat) (D : List Deferred) (n0k : Nat) (H : List AObj) (t2 t3 t4 : AV) : wire_DecodeR_r1 m D n0k ⟨H, [(2, t2), (3, t3), (4, t4)]⟩ =
  loadE 10 H t2 fun t53 =>
  storeE 10 H t2 t53 fun H2 =>
  storeE 1 H2 t3 (V (.int .i64 0)) fun H3 =>
  storeE 1 H3 t4 (V (.int .i64 0)) fun H4 =>
  some (TU [t2, t3, t4], H4) := by
  refine (joinW_eq Try.prog GG (wire_DecodeR_env m) m ⟨54, D⟩ (cdR (cdR (cdR (cdR (cdR wire_DecodeR_c))))) wire_DecodeR_h.r.r.r.r.r ⟨H, [(2, t2), (3, t3), (4, t4)]⟩ (wire_DecodeR_fin n0k)).trans ?_
  kernel_rfl
theorem wire_DecodeR_eq (m : Nat) (D : List Deferred) (t0 t2 t3 t4 : AV) (H : List AObj) : wire_DecodeR m D t0 t2 t3 t4 H =
  buildE (some pl_wire_reader) (some zc_wire_reader) [(0, t0)] fun t8 =>
  boxE ty_wire_reader H t8 fun t9 H2 =>
  panE (wire_reader_num m (ro H2 t9) (V (.int .i64 10)) H2) (fun t11 H3 =>
  panE (wire_reader_party m (ro H3 t9) H3) (fun t13 H4 =>
  panE (wire_reader_any m (ro H4 t9) H4) (fun t15 H5 =>
  panE (wire_reader_any m (ro H5 t9) H5) (fun t17 H6 =>
  panE (wire_reader_any m (ro H6 t9) H6) (fun t19 H7 =>
  panE (wire_reader_text m (ro H7 t9) H7) (fun t21 H8 =>
  buildE (some pl_api_Msg) (some zc_api_Msg) [(0, t11), (1, t13), (2, t15), (3, t17), (4, t19), (5, t21)] fun t22 =>
  storeE 10 H8 t2 t22 fun H9 =>
  whenE (([t9] : List AV).all cap0) (
  panE (wire_some_Stmt m (ro H9 t9) (ro H9 (CL (.func 27) 1 [t9])) H9) (fun t26 H10 =>
  fieldE (some (6, 1)) t2 fun t27 =>
  storeE 1 H10 t27 t26 fun H11 =>
  whenE (([t9] : List AV).all cap0) (
  panE (wire_some_Change m (ro H11 t9) (ro H11 (CL (.func 29) 1 [t9])) H11) (fun t31 H12 =>
  fieldE (some (7, 1)) t2 fun t32 =>
  storeE 1 H12 t32 t31 fun H13 =>
  fieldE (some (0, 1)) t2 fun t34 =>
  loadE 1 H13 t34 fun t35 =>
  binE none false false .eql t35 (V (.int .i64 0)) fun t36 =>
  condE t36 (
   buildE (some pl_wire_no) (some zc_wire_no) [(0, (V (.int .i64 3))), (1, (V (.int .i64 0)))] fun t37 =>
   whenE true (ifE 47 t37 fun t38 =>
   panicE t38 H13 fun u1 H14 => some (TU [PN u1, t2, t3, t4], H14))) (
   nilE t9 fun t41 =>
   fieldE (some (1, 1)) t41 fun t42 =>
   loadE 1 H13 t42 fun t43 =>
   lenE false true H13 t0 fun t45 =>
   binE none false false .lss t43 t45 fun t46 =>
   condE t46 (
    nilE t9 fun t48 =>
    fieldE (some (1, 1)) t48 fun t49 =>
    loadE 1 H13 t49 fun t50 =>
    buildE (some pl_wire_no) (some zc_wire_no) [(0, (V (.int .i64 7))), (1, t50)] fun t51 =>
    whenE true (ifE 47 t51 fun t52 =>
    panicE t52 H13 fun u1 H14 => some (TU [PN u1, t2, t3, t4], H14))) (
    wire_DecodeR_r1 m D H.length ⟨H13, [(2, t2), (3, t3), (4, t4)]⟩))) (fun u1 H12 => some (TU [PN u1, t2, t3, t4], H12)))) (fun u1 H10 => some (TU [PN u1, t2, t3, t4], H10)))) (fun u1 H8 => some (TU [PN u1, t2, t3, t4], H8))) (fun u1 H7 => some (TU [PN u1, t2, t3, t4], H7))) (fun u1 H6 => some (TU [PN u1, t2, t3, t4], H6))) (fun u1 H5 => some (TU [PN u1, t2, t3, t4], H5))) (fun u1 H4 => some (TU [PN u1, t2, t3, t4], H4))) (fun u1 H3 => some (TU [PN u1, t2, t3, t4], H3)) := by
  refine (sltX Try.prog GG (wire_DecodeR_env m) m ⟨54, D⟩ wire_DecodeR_c wire_DecodeR_h ⟨H, [(0, t0), (2, t2), (3, t3), (4, t4)]⟩ [2, 3, 4]).trans ?_
  kernel_rfl
theorem wire_DecodeR_hE (m : Nat) : EnvOk Try.prog GG (wire_DecodeR_env m) := (by
    intro f e h
    simp only [wire_DecodeR_env, Prod.mk.injEq, List.mem_cons, List.not_mem_nil, or_false] at h
    rcases h with ⟨rfl, rfl⟩ | ⟨rfl, rfl⟩ | ⟨rfl, rfl⟩ | ⟨rfl, rfl⟩ | ⟨rfl, rfl⟩ | ⟨rfl, rfl⟩
    · exact wire_reader_num_ok m
    · exact wire_reader_party_ok m
    · exact wire_reader_any_ok m
    · exact wire_reader_text_ok m
    · exact wire_some_Stmt_ok m
    · exact wire_some_Change_ok m)
end Go.Proofs.Ytbdbmfifclmpcaa

namespace Go.Proofs.Ytbdbmfifclmpcaa
open Go.RowKit
set_option linter.unusedVariables false
set_option linter.unusedSimpArgs false
set_option maxRecDepth 20000
attribute [local go_sem] Nat.zero_add Nat.add_zero Nat.mul_one Int.toNat_natCast Int.natCast_zero Int.cast_ofNat_Int or_false false_or or_true true_or Nat.sub_zero Int.natCast_nonneg Int.toNat_zero Bool.true_and Bool.and_true Bool.false_and Bool.and_false Bool.true_or Bool.or_true Bool.false_or Bool.or_false Bool.not_true Bool.not_false Bool.not_not true_and and_true false_and and_false not_true_eq_false not_false_eq_true eq_self decide_true decide_false ne_eq implies_true forall_const true_implies false_implies Bool.true_eq_false Bool.false_eq_true List.map_cons List.map_nil List.all_cons List.all_nil List.length_cons List.length_nil List.length_map List.length_append List.nil_append List.cons_append List.set_cons_zero List.set_cons_succ List.set_nil List.drop_zero List.drop_succ_cons List.drop_nil List.take_zero List.take_succ_cons List.take_nil Option.map_some Option.map_none Option.isSome_some List.all_append List.all_map Function.comp_def decide_eq_true_eq Bool.and_eq_true beq_self_eq_true or_self and_self ite_true ite_false Nat.le_refl Bool.not_eq_true decide_not Bool.not_eq_true' decide_eq_false_iff_not Bool.not_eq_false Bool.or_eq_true if_true if_false ite_self u_roF u_cvF u_cvC u_ceT u_ceK u_appS sm_it sm_len sm_sure sm_ltA sm_lt1 sm_all1 sm_ro sm_take sm_sl sm_set sm_noT sm_fr sm_st_fr sm_set_fr sm_kd sm_st_kd sm_set_kd sm_vw sm_st_vw sm_set_vw sm_sq sm_st_sq sm_set_sq sm_tm sm_st_tm sm_set_tm zsm_len zsm_sure zsm_lt1 zsm_sl zsm_ro zsm_setz zsm_set zsm_setr zsm_take sms_ltA sms_len ce_it ce_len ce_sure ce_ltA ce_lt1 ce_all1 ce_ro ce_take ce_sl ce_set ce_noT ce_sq ce_st_sq ce_set_sq ce_vw ce_st_vw ce_set_vw ce_tm ce_st_tm ce_set_tm ce_body ce_st_body ce_set_body ce_vs ce_st_vs ce_set_vs zce_len zce_sure zce_lt1 zce_sl zce_ro zce_setz zce_set zce_setr zce_take ces_ltA ces_len cg_it cg_len cg_sure cg_ltA cg_lt1 cg_all1 cg_ro cg_take cg_sl cg_set cg_noT cg_fr cg_st_fr cg_set_fr cg_vw cg_st_vw cg_set_vw cg_st cg_st_st cg_set_st cg_rt cg_st_rt cg_set_rt cg_pf cg_st_pf cg_set_pf cg_cs cg_st_cs cg_set_cs zcg_len zcg_sure zcg_lt1 zcg_sl zcg_ro zcg_setz zcg_set zcg_setr zcg_take cgs_ltA cgs_len ms_it ms_len ms_sure ms_ltA ms_lt1 ms_all1 ms_ro ms_take ms_sl ms_set ms_noT ms_kd ms_st_kd ms_set_kd ms_fr ms_st_fr ms_set_fr ms_vw ms_st_vw ms_set_vw ms_sq ms_st_sq ms_set_sq ms_tm ms_st_tm ms_set_tm ms_body ms_st_body ms_set_body ms_vs ms_st_vs ms_set_vs ms_chs ms_st_chs ms_set_chs zms_len zms_sure zms_lt1 zms_sl zms_ro zms_setz zms_set zms_setr zms_take mss_ltA mss_len natInt u_nthM u_bz u_bi1 u_bi2 u_bi3 u_bi4 u_bi5 u_bi6 u_bi7 bC_length bc_ltA bc_one nthOL ltO_o ltO_r takeL bC_append u_addS List.take_length u_panV u_panA u_panS u_panT u_panW u_panP u_panic u_ifV u_ifA2 u_panKE prO_ok prO_no noV_it zn_b Int.natCast_add u_bcv
section
variable {b : List UInt8} {tE tA : TypeId}
def outR (b : List UInt8) : RdO Ms := (msgR b).bind fun x a => if x.kd = 0 then .no 3 0 else if a < b.length then .no 7 a else .ok x a
def decW (b : List UInt8) : Ms × Nat × Nat := match outR b with | .ok x _ => (x, 0, 0) | .no e a => (Ms.zero, e, a)
def endR (c0 : List AV) (tE tA : TypeId) (H3 : List AObj) : RdO Ms → RO
  | .ok x _ => some (TU [OP 0 0, OP 1 0, OP 2 0], ⟨1, ty_api_Msg, 0, msC x⟩ :: ⟨1, tE, 0, [nA 0]⟩ :: ⟨1, tA, 0, [nA 0]⟩ :: H3)
  | .no e a => some (TU [PN (noV e a), OP 0 0, OP 1 0, OP 2 0], ⟨1, ty_api_Msg, 0, c0⟩ :: ⟨1, tE, 0, [nA 0]⟩ :: ⟨1, tA, 0, [nA 0]⟩ :: H3)
theorem endR_ok {c0 : List AV} {H3 : List AObj} {x : Ms} {a : Nat} : endR c0 tE tA H3 (.ok x a) = some (TU [OP 0 0, OP 1 0, OP 2 0], ⟨1, ty_api_Msg, 0, msC x⟩ :: ⟨1, tE, 0, [nA 0]⟩ :: ⟨1, tA, 0, [nA 0]⟩ :: H3) := _root_.id rfl
theorem endR_no {c0 : List AV} {H3 : List AObj} {e a : Nat} : endR c0 tE tA H3 (.no e a) = some (TU [PN (noV e a), OP 0 0, OP 1 0, OP 2 0], ⟨1, ty_api_Msg, 0, c0⟩ :: ⟨1, tE, 0, [nA 0]⟩ :: ⟨1, tA, 0, [nA 0]⟩ :: H3) := _root_.id rfl
theorem brd_b {R : Type} {K1 : AV → Option R} {x : List AV} : buildE (some pl_wire_reader) (some zc_wire_reader) [(0, SL x)] K1 = K1 (.agg [SL x, nA 0]) := _root_.id rfl
theorem bms_b {R : Type} {K1 : AV → Option R} {x0 x1 x2 x3 x4 : Int} {x5 : List UInt8} : buildE (some pl_api_Msg) (some zc_api_Msg) [(0, nA x0), (1, nA x1), (2, nA x2), (3, nA x3), (4, nA x4), (5, sA x5)] K1 = K1 (.agg [nA x0, nA x1, nA x2, nA x3, nA x4, sA x5, V (.slice none 0 0), V (.slice none 0 0)]) := _root_.id rfl
theorem decodeR_s (m : Nat) (D : List Deferred) (hb : b.length ≤ 34359738368) (hm : 70 < m) : ∃ c0 R3, wire_DecodeR m D (SL (bC b)) (OP 0 0) (OP 1 0) (OP 2 0) [⟨1, ty_api_Msg, 0, zc_api_Msg⟩, ⟨1, tE, 0, [nA 0]⟩, ⟨1, tA, 0, [nA 0]⟩] = endR c0 tE tA [R3] (outR b) ∧ c0.length = 8 := by
  have ha : 0 ≤ b.length := Nat.zero_le _
  rw [wire_DecodeR_eq]
  have q0 := num_sR (X0 := ⟨1, ty_api_Msg, 0, zc_api_Msg⟩) (X1 := ⟨1, tE, 0, [nA 0]⟩) (X2 := ⟨1, tA, 0, [nA 0]⟩) (t := ty_wire_reader) (Y := []) m 10 0 (fun n => rfl) (fun n => rfl) (fun n => rfl) (fun n => rfl) hb ha (by omega)
  simp only [RO3_it, Int.cast_ofNat_Int, Int.natCast_zero] at q0
  cases r0 : numR b 10 0 with
  | no e c =>
    have r0' : intR b 10 0 = .no e c := by unfold intR; rw [r0]; rfl
    have hO : outR b = .no e c := by simp only [outR, msgR, RdO.bind, r0']
    rw [r0] at q0
    simp only [RO3_it, prO_no] at q0
    refine ⟨zc_api_Msg, ⟨1, ty_wire_reader, 0, [SL (bC b), nA c]⟩, ?_, rfl⟩
    rw [hO, endR_no]
    simp (config := {maxSteps := 4000000, implicitDefEqProofs := false}) (disch := omega) only [go_sem, ↓reduceIte, Nat.reduceAdd, Nat.reduceSub, Nat.reduceMul, Nat.reduceLeDiff, Nat.reduceLT, Int.reduceEq, Int.reduceNe, Int.reduceLT, Int.reduceLE, Int.reduceAdd, Int.reduceSub, Int.reduceMul, Int.reduceNeg, Int.reduceToNat, reduceCtorEq, Nat.reduceEqDiff, Nat.reduceBEq, Nat.reduceGT, q0, brd_b, bms_b, zms_sete, ro_cl]
  | ok x0 a0 =>
    have r0' : intR b 10 0 = .ok (x0 : Int) a0 := by unfold intR; rw [r0]; rfl
    have ha0 : a0 ≤ b.length := get_in (numR_in ha) r0
    rw [r0] at q0
    simp only [RO3_it, prO_ok] at q0
    have q1 := party_sR (X0 := ⟨1, ty_api_Msg, 0, zc_api_Msg⟩) (X1 := ⟨1, tE, 0, [nA 0]⟩) (X2 := ⟨1, tA, 0, [nA 0]⟩) (t := ty_wire_reader) (Y := []) m a0 (fun n => rfl) (fun n => rfl) (fun n => rfl) (fun n => rfl) hb ha0
    cases r1 : intR b 63 a0 with
    | no e c =>
      have hO : outR b = .no e c := by simp only [outR, msgR, RdO.bind, r0', r1]
      rw [r1] at q1
      simp only [RO3_it, prO_no] at q1
      refine ⟨zc_api_Msg, ⟨1, ty_wire_reader, 0, [SL (bC b), nA c]⟩, ?_, rfl⟩
      rw [hO, endR_no]
      simp (config := {maxSteps := 4000000, implicitDefEqProofs := false}) (disch := omega) only [go_sem, ↓reduceIte, Nat.reduceAdd, Nat.reduceSub, Nat.reduceMul, Nat.reduceLeDiff, Nat.reduceLT, Int.reduceEq, Int.reduceNe, Int.reduceLT, Int.reduceLE, Int.reduceAdd, Int.reduceSub, Int.reduceMul, Int.reduceNeg, Int.reduceToNat, reduceCtorEq, Nat.reduceEqDiff, Nat.reduceBEq, Nat.reduceGT, q0, q1, brd_b, bms_b, zms_sete, ro_cl]
    | ok x1 a1 =>
      have ha1 : a1 ≤ b.length := get_in (intR_in ha0) r1
      rw [r1] at q1
      simp only [RO3_it, prO_ok] at q1
      have q2 := any_sR (X0 := ⟨1, ty_api_Msg, 0, zc_api_Msg⟩) (X1 := ⟨1, tE, 0, [nA 0]⟩) (X2 := ⟨1, tA, 0, [nA 0]⟩) (t := ty_wire_reader) (Y := []) m a1 (fun n => rfl) (fun n => rfl) (fun n => rfl) (fun n => rfl) hb ha1
      cases r2 : intR b 2147483647 a1 with
      | no e c =>
        have hO : outR b = .no e c := by simp only [outR, msgR, RdO.bind, r0', r1, r2]
        rw [r2] at q2
        simp only [RO3_it, prO_no] at q2
        refine ⟨zc_api_Msg, ⟨1, ty_wire_reader, 0, [SL (bC b), nA c]⟩, ?_, rfl⟩
        rw [hO, endR_no]
        simp (config := {maxSteps := 4000000, implicitDefEqProofs := false}) (disch := omega) only [go_sem, ↓reduceIte, Nat.reduceAdd, Nat.reduceSub, Nat.reduceMul, Nat.reduceLeDiff, Nat.reduceLT, Int.reduceEq, Int.reduceNe, Int.reduceLT, Int.reduceLE, Int.reduceAdd, Int.reduceSub, Int.reduceMul, Int.reduceNeg, Int.reduceToNat, reduceCtorEq, Nat.reduceEqDiff, Nat.reduceBEq, Nat.reduceGT, q0, q1, q2, brd_b, bms_b, zms_sete, ro_cl]
      | ok x2 a2 =>
        have ha2 : a2 ≤ b.length := get_in (intR_in ha1) r2
        rw [r2] at q2
        simp only [RO3_it, prO_ok] at q2
        have q3 := any_sR (X0 := ⟨1, ty_api_Msg, 0, zc_api_Msg⟩) (X1 := ⟨1, tE, 0, [nA 0]⟩) (X2 := ⟨1, tA, 0, [nA 0]⟩) (t := ty_wire_reader) (Y := []) m a2 (fun n => rfl) (fun n => rfl) (fun n => rfl) (fun n => rfl) hb ha2
        cases r3 : intR b 2147483647 a2 with
        | no e c =>
          have hO : outR b = .no e c := by simp only [outR, msgR, RdO.bind, r0', r1, r2, r3]
          rw [r3] at q3
          simp only [RO3_it, prO_no] at q3
          refine ⟨zc_api_Msg, ⟨1, ty_wire_reader, 0, [SL (bC b), nA c]⟩, ?_, rfl⟩
          rw [hO, endR_no]
          simp (config := {maxSteps := 4000000, implicitDefEqProofs := false}) (disch := omega) only [go_sem, ↓reduceIte, Nat.reduceAdd, Nat.reduceSub, Nat.reduceMul, Nat.reduceLeDiff, Nat.reduceLT, Int.reduceEq, Int.reduceNe, Int.reduceLT, Int.reduceLE, Int.reduceAdd, Int.reduceSub, Int.reduceMul, Int.reduceNeg, Int.reduceToNat, reduceCtorEq, Nat.reduceEqDiff, Nat.reduceBEq, Nat.reduceGT, q0, q1, q2, q3, brd_b, bms_b, zms_sete, ro_cl]
        | ok x3 a3 =>
          have ha3 : a3 ≤ b.length := get_in (intR_in ha2) r3
          rw [r3] at q3
          simp only [RO3_it, prO_ok] at q3
          have q4 := any_sR (X0 := ⟨1, ty_api_Msg, 0, zc_api_Msg⟩) (X1 := ⟨1, tE, 0, [nA 0]⟩) (X2 := ⟨1, tA, 0, [nA 0]⟩) (t := ty_wire_reader) (Y := []) m a3 (fun n => rfl) (fun n => rfl) (fun n => rfl) (fun n => rfl) hb ha3
          cases r4 : intR b 2147483647 a3 with
          | no e c =>
            have hO : outR b = .no e c := by simp only [outR, msgR, RdO.bind, r0', r1, r2, r3, r4]
            rw [r4] at q4
            simp only [RO3_it, prO_no] at q4
            refine ⟨zc_api_Msg, ⟨1, ty_wire_reader, 0, [SL (bC b), nA c]⟩, ?_, rfl⟩
            rw [hO, endR_no]
            simp (config := {maxSteps := 4000000, implicitDefEqProofs := false}) (disch := omega) only [go_sem, ↓reduceIte, Nat.reduceAdd, Nat.reduceSub, Nat.reduceMul, Nat.reduceLeDiff, Nat.reduceLT, Int.reduceEq, Int.reduceNe, Int.reduceLT, Int.reduceLE, Int.reduceAdd, Int.reduceSub, Int.reduceMul, Int.reduceNeg, Int.reduceToNat, reduceCtorEq, Nat.reduceEqDiff, Nat.reduceBEq, Nat.reduceGT, q0, q1, q2, q3, q4, brd_b, bms_b, zms_sete, ro_cl]
          | ok x4 a4 =>
            have ha4 : a4 ≤ b.length := get_in (intR_in ha3) r4
            rw [r4] at q4
            simp only [RO3_it, prO_ok] at q4
            have q5 := text_sR (X0 := ⟨1, ty_api_Msg, 0, zc_api_Msg⟩) (X1 := ⟨1, tE, 0, [nA 0]⟩) (X2 := ⟨1, tA, 0, [nA 0]⟩) (t := ty_wire_reader) (Y := []) m a4 (fun n => rfl) (fun n => rfl) (fun n => rfl) (fun n => rfl) hb ha4
            cases r5 : textR b a4 with
            | no e c =>
              have hO : outR b = .no e c := by simp only [outR, msgR, RdO.bind, r0', r1, r2, r3, r4, r5]
              rw [r5] at q5
              simp only [RO3_it, prO_no] at q5
              refine ⟨zc_api_Msg, ⟨1, ty_wire_reader, 0, [SL (bC b), nA c]⟩, ?_, rfl⟩
              rw [hO, endR_no]
              simp (config := {maxSteps := 4000000, implicitDefEqProofs := false}) (disch := omega) only [go_sem, ↓reduceIte, Nat.reduceAdd, Nat.reduceSub, Nat.reduceMul, Nat.reduceLeDiff, Nat.reduceLT, Int.reduceEq, Int.reduceNe, Int.reduceLT, Int.reduceLE, Int.reduceAdd, Int.reduceSub, Int.reduceMul, Int.reduceNeg, Int.reduceToNat, reduceCtorEq, Nat.reduceEqDiff, Nat.reduceBEq, Nat.reduceGT, q0, q1, q2, q3, q4, q5, brd_b, bms_b, zms_sete, ro_cl]
            | ok x5 a5 =>
              have ha5 : a5 ≤ b.length := get_in (textR_in ha4) r5
              rw [r5] at q5
              simp only [RO3_it, prO_ok] at q5
              have q6 := someStmt_sR (X0 := ⟨1, ty_api_Msg, 0, [nA ((x0 : Nat) : Int), nA x1, nA x2, nA x3, nA x4, sA x5, V (.slice none 0 0), V (.slice none 0 0)]⟩) (X1 := ⟨1, tE, 0, [nA 0]⟩) (X2 := ⟨1, tA, 0, [nA 0]⟩) (t := ty_wire_reader) (Y := []) m a5 (fun n => rfl) (fun n => rfl) (fun n => rfl) (fun n => rfl) hb ha5 hm
              cases r6 : someR b (stmtR b) a5 with
              | no e c =>
                have hO : outR b = .no e c := by simp only [outR, msgR, RdO.bind, r0', r1, r2, r3, r4, r5, r6]
                rw [r6] at q6
                simp only [RO3_it, prO_no] at q6
                refine ⟨[nA ((x0 : Nat) : Int), nA x1, nA x2, nA x3, nA x4, sA x5, V (.slice none 0 0), V (.slice none 0 0)], ⟨1, ty_wire_reader, 0, [SL (bC b), nA c]⟩, ?_, rfl⟩
                rw [hO, endR_no]
                simp (config := {maxSteps := 4000000, implicitDefEqProofs := false}) (disch := omega) only [go_sem, ↓reduceIte, Nat.reduceAdd, Nat.reduceSub, Nat.reduceMul, Nat.reduceLeDiff, Nat.reduceLT, Int.reduceEq, Int.reduceNe, Int.reduceLT, Int.reduceLE, Int.reduceAdd, Int.reduceSub, Int.reduceMul, Int.reduceNeg, Int.reduceToNat, reduceCtorEq, Nat.reduceEqDiff, Nat.reduceBEq, Nat.reduceGT, q0, q1, q2, q3, q4, q5, q6, brd_b, bms_b, zms_sete, ro_cl]
              | ok x6 a6 =>
                have ha6 : a6 ≤ b.length := get_in (someR_in (fun _ => stmtR_in) ha5) r6
                rw [r6] at q6
                simp only [RO3_it, prO_ok] at q6
                have q7 := someChange_sR (X0 := ⟨1, ty_api_Msg, 0, [nA ((x0 : Nat) : Int), nA x1, nA x2, nA x3, nA x4, sA x5, SL (x6.map smE), V (.slice none 0 0)]⟩) (X1 := ⟨1, tE, 0, [nA 0]⟩) (X2 := ⟨1, tA, 0, [nA 0]⟩) (t := ty_wire_reader) (Y := []) m a6 (fun n => rfl) (fun n => rfl) (fun n => rfl) (fun n => rfl) hb ha6 hm
                cases r7 : someR b (changeR b) a6 with
                | no e c =>
                  have hO : outR b = .no e c := by simp only [outR, msgR, RdO.bind, r0', r1, r2, r3, r4, r5, r6, r7]
                  rw [r7] at q7
                  simp only [RO3_it, prO_no] at q7
                  refine ⟨[nA ((x0 : Nat) : Int), nA x1, nA x2, nA x3, nA x4, sA x5, SL (x6.map smE), V (.slice none 0 0)], ⟨1, ty_wire_reader, 0, [SL (bC b), nA c]⟩, ?_, rfl⟩
                  rw [hO, endR_no]
                  simp (config := {maxSteps := 4000000, implicitDefEqProofs := false}) (disch := omega) only [go_sem, ↓reduceIte, Nat.reduceAdd, Nat.reduceSub, Nat.reduceMul, Nat.reduceLeDiff, Nat.reduceLT, Int.reduceEq, Int.reduceNe, Int.reduceLT, Int.reduceLE, Int.reduceAdd, Int.reduceSub, Int.reduceMul, Int.reduceNeg, Int.reduceToNat, reduceCtorEq, Nat.reduceEqDiff, Nat.reduceBEq, Nat.reduceGT, q0, q1, q2, q3, q4, q5, q6, q7, brd_b, bms_b, zms_sete, ro_cl]
                | ok x7 a7 =>
                  have ha7 : a7 ≤ b.length := get_in (someR_in (fun _ => changeR_in) ha6) r7
                  rw [r7] at q7
                  simp only [RO3_it, prO_ok] at q7
                  refine ⟨[nA ((x0 : Nat) : Int), nA x1, nA x2, nA x3, nA x4, sA x5, SL (x6.map smE), SL (x7.map cgE)], ⟨1, ty_wire_reader, 0, [SL (bC b), nA a7]⟩, ?_, rfl⟩
                  by_cases hk : x0 = 0
                  · have hk' : (x0 : Int) = 0 := by omega
                    have hO : outR b = .no 3 0 := by simp only [outR, msgR, RdO.bind, r0', r1, r2, r3, r4, r5, r6, r7]; rw [if_pos hk']
                    rw [hO, endR_no]
                    simp (config := {maxSteps := 4000000, implicitDefEqProofs := false}) (disch := omega) only [go_sem, ↓reduceIte, Nat.reduceAdd, Nat.reduceSub, Nat.reduceMul, Nat.reduceLeDiff, Nat.reduceLT, Int.reduceEq, Int.reduceNe, Int.reduceLT, Int.reduceLE, Int.reduceAdd, Int.reduceSub, Int.reduceMul, Int.reduceNeg, Int.reduceToNat, reduceCtorEq, Nat.reduceEqDiff, Nat.reduceBEq, Nat.reduceGT, q0, q1, q2, q3, q4, q5, q6, q7, brd_b, bms_b, zms_sete, ro_cl]
                    simp (config := {maxSteps := 4000000, implicitDefEqProofs := false}) (disch := omega) only [go_sem, ↓reduceIte, Nat.reduceAdd, Nat.reduceSub, Nat.reduceMul, Nat.reduceLeDiff, Nat.reduceLT, Int.reduceEq, Int.reduceNe, Int.reduceLT, Int.reduceLE, Int.reduceAdd, Int.reduceSub, Int.reduceMul, Int.reduceNeg, Int.reduceToNat, reduceCtorEq, Nat.reduceEqDiff, Nat.reduceBEq, Nat.reduceGT, hk']
                  have hk' : ¬ (x0 : Int) = 0 := by omega
                  by_cases hl : a7 < b.length
                  · have hl' : (a7 : Int) < (b.length : Int) := by omega
                    have hO : outR b = .no 7 a7 := by simp only [outR, msgR, RdO.bind, r0', r1, r2, r3, r4, r5, r6, r7]; rw [if_neg hk', if_pos hl]
                    rw [hO, endR_no]
                    simp (config := {maxSteps := 4000000, implicitDefEqProofs := false}) (disch := omega) only [go_sem, ↓reduceIte, Nat.reduceAdd, Nat.reduceSub, Nat.reduceMul, Nat.reduceLeDiff, Nat.reduceLT, Int.reduceEq, Int.reduceNe, Int.reduceLT, Int.reduceLE, Int.reduceAdd, Int.reduceSub, Int.reduceMul, Int.reduceNeg, Int.reduceToNat, reduceCtorEq, Nat.reduceEqDiff, Nat.reduceBEq, Nat.reduceGT, q0, q1, q2, q3, q4, q5, q6, q7, brd_b, bms_b, zms_sete, ro_cl, hk', hl']
                  have hl' : ¬ (a7 : Int) < (b.length : Int) := by omega
                  have hO : outR b = .ok ⟨x0, x1, x2, x3, x4, x5, x6, x7⟩ a7 := by simp only [outR, msgR, RdO.bind, r0', r1, r2, r3, r4, r5, r6, r7]; rw [if_neg hk', if_neg hl]
                  rw [hO, endR_ok, msC_it]
                  simp (config := {maxSteps := 4000000, implicitDefEqProofs := false}) (disch := omega) only [go_sem, ↓reduceIte, Nat.reduceAdd, Nat.reduceSub, Nat.reduceMul, Nat.reduceLeDiff, Nat.reduceLT, Int.reduceEq, Int.reduceNe, Int.reduceLT, Int.reduceLE, Int.reduceAdd, Int.reduceSub, Int.reduceMul, Int.reduceNeg, Int.reduceToNat, reduceCtorEq, Nat.reduceEqDiff, Nat.reduceBEq, Nat.reduceGT, q0, q1, q2, q3, q4, q5, q6, q7, brd_b, bms_b, zms_sete, ro_cl, hk', hl', wire_DecodeR_r1_eq]
end
end Go.Proofs.Ytbdbmfifclmpcaa

namespace Go.Proofs.Ytbdbmfifclmpcaa
open Go.RowKit
set_option linter.unusedVariables false
set_option maxRecDepth 100000
noncomputable def wire_DecodeX_c : Code := (cdR (cdL (endC 2 ((Try.f21.body).getD .skip))))
def wire_DecodeX_h : Hint := .n
noncomputable def wire_DecodeX_env (m : Nat) : Env := []
noncomputable abbrev wire_DecodeX_fin (n0 : Nat) : KO (AV × List AObj) := sltFK [0]
noncomputable def wire_DecodeX (m : Nat) (D : List Deferred) (t0 t1 t2 t4 : AV) (H : List AObj) : RO := exec Try.prog GG (wire_DecodeX_env m) m ⟨15, D⟩ wire_DecodeX_c wire_DecodeX_h ⟨H, [(0, t0), (1, t1), (2, t2), (4, t4)]⟩ (wire_DecodeX_fin H.length)
theorem wire_DecodeX_eq (m : Nat) (D : List Deferred) (t0 t1 t2 t4 : AV) (H : List AObj) : wire_DecodeX m D t0 t1 t2 t4 H =
  buildE (some pl_api_Msg) (some zc_api_Msg) [] fun t10 =>
  fieldE (some (0, 1)) t4 fun t11 =>
  loadE 1 H t11 fun t12 =>
  fieldE (some (1, 1)) t4 fun t13 =>
  loadE 1 H t13 fun t14 =>
  storeE 10 H t0 t10 fun H2 =>
  loadE 1 H2 t13 fun t8011 =>
  eqE t14 t8011 (
  loadE 1 H2 t11 fun t8012 =>
  eqE t12 t8012 (
  storeE 1 H2 t1 t12 fun H3 =>
  loadE 1 H3 t13 fun t8014 =>
  eqE t14 t8014 (
  storeE 1 H3 t2 t14 fun H4 =>
  some (TU [t0], H4)))) := by
  refine (sltX Try.prog GG (wire_DecodeX_env m) m ⟨15, D⟩ wire_DecodeX_c wire_DecodeX_h ⟨H, [(0, t0), (1, t1), (2, t2), (4, t4)]⟩ [0]).trans ?_
  kernel_rfl
theorem wire_DecodeX_hE (m : Nat) : EnvOk Try.prog GG (wire_DecodeX_env m) := (by intro f e h; cases h)
end Go.Proofs.Ytbdbmfifclmpcaa

namespace Go.Proofs.Ytbdbmfifclmpcaa
open Go.RowKit
set_option linter.unusedVariables false
set_option linter.unusedSimpArgs false
set_option maxRecDepth 20000
noncomputable def dC : Code := (Try.f9.body).getD .skip
theorem noE : EnvOk Try.prog GG [] := fun f e h => by cases h
def dD (p0 p1 p2 : Value) : Deferred := { target := .fn (.func 21) #[p0, p1, p2], args := #[] }
theorem dB {p0 p1 p2 : Value} {a : Act} {w : World} {Q : Exit → Act → World → Prop} (h2 : a.eval (.tmp 2) = p0) (h3 : a.eval (.tmp 3) = p1) (h4 : a.eval (.tmp 4) = p2) (hd : a.defers = []) (hs : a.tmps.size = 54)
    (hQ : ∀ v : Value, Q .normal { (a.put (some 6) v) with defers := [dD p0 p1 p2] } w) : (cdL (cdR dC)).wp Try.prog Q a w := by
  show (Code.region _ _ false).wp Try.prog Q a w
  refine wp_region_list ?_
  have hmf : ∀ (fn : Fn) (first cap : Array Value) (w : World), (Instr.makeFunc fn first cap).run Try.prog w = .ok (.func fn first cap) w := fun _ _ _ _ => rfl
  have h2' : a.tmps[2]?.getD undef = p0 := by rw [← h2]; simp [Act.eval]
  have h3' : a.tmps[3]?.getD undef = p1 := by rw [← h3]; simp [Act.eval]
  have h4' : a.tmps[4]?.getD undef = p2 := by rw [← h4]; simp [Act.eval]
  have hq := hQ (.func (.func 21) #[] #[p0, p1, p2])
  simp only [Act.put, dD] at hq
  simp [wpList, go_sem, Oper.wp, Oper.upon, execOp, hmf, h2', h3', h4', hs, hd, Region.wanted]
  have g2 : a.tmps[2]'(by omega) = p0 := by rw [← h2']; simp [hs]
  have g3 : a.tmps[3]'(by omega) = p1 := by rw [← h3']; simp [hs]
  have g4 : a.tmps[4]'(by omega) = p2 := by rw [← h4']; simp [hs]
  refine .inl (.inl ?_)
  rw [g2, g3, g4]
  exact hq
theorem catch_idle (p0 p1 p2 : Value) (w : World) :
    CallsD Try.prog 21 #[p0, p1, p2] .returning w fun e u' w' => e = .returned (.tuple #[]) ∧ u' = .returning ∧ w' = w := by
  refine callsD_of_wpS Try.func21 rfl fun c₀ cs hu => ?_
  apply wpS_seq
  apply wpS_region
  simp [wpOpsS, go_sem, recoverD, hu, Try.ntmps21, Exit.thenS]
  apply wpS_seq
  apply wpS_region
  simp [wpOpsS, go_sem, Exit.thenS]
  refine wpS_cond (t := false) (by simp [Act.eval]) ?_
  simp only [Bool.false_eq_true, if_false]
  refine wpS_of_wp (wp_skip ?_)
  cases c₀
  simp_all [bodyPostS, results, Try.results21]
theorem wpList_val {P : Program} {ops : Array Oper} {Q : Exit → Act → World → Prop} {o : Oper} {rest : List Oper} {a : Act} {w : World} (v : Value) (hg : o.guard = none) (hx : (execOp a.eval o).run P w = .ok (.value v) w) (h : wpList P ops Q rest (a.put o.dst v) w) : wpList P ops Q (o :: rest) a w := by
  unfold wpList
  rw [if_pos (by simp [Region.wanted, hg])]
  refine .inl ?_
  unfold Oper.wp
  rw [hx]
  exact h
theorem ud_no : (match Try.prog.underlying 47 with | some (.interface _) => false | some _ => true | none => false) = true := by kernel_rfl
theorem run_assert (x : Value) (w : World) : (Instr.typeAssert (.iface 47 x) 20 47 false).run Try.prog w = .ok x w := by
  have h := ud_no
  cases hd : Try.prog.underlying 47 with
  | none => rw [hd] at h; cases h
  | some d =>
    rw [hd] at h
    unfold Instr.typeAssert
    simp only [Sem.run_bind, run_underlying hd, Result.andThen_ok]
    cases d with
    | interface m => cases h
    | _ => simp [Sem.run_pure]
noncomputable def eC : Code := (Try.f21.body).getD .skip
noncomputable def oC (k : Nat) : List Oper := (match cdL (cdL (endC 2 eC)) with | .region _ ops _ => ops.toList | _ => []).drop k
def cZ : List AV := [nA 0, nA 0, nA 0, nA 0, nA 0, sA [], V (.slice none 0 0), V (.slice none 0 0)]
theorem setCells_cZ {c0 : List AV} (hc : c0.length = 8) : setCells c0 0 [nA 0, nA 0, nA 0, nA 0, nA 0, sA [], V (.slice none 0 0), V (.slice none 0 0)] = cZ := by
  match c0, hc with
  | [_, _, _, _, _, _, _, _], _ => rfl
attribute [local go_sem] Nat.zero_add Nat.add_zero Nat.mul_one Int.toNat_natCast Int.natCast_zero Int.cast_ofNat_Int or_false false_or or_true true_or Nat.sub_zero Int.natCast_nonneg Int.toNat_zero Bool.true_and Bool.and_true Bool.false_and Bool.and_false Bool.true_or Bool.or_true Bool.false_or Bool.or_false Bool.not_true Bool.not_false Bool.not_not true_and and_true false_and and_false not_true_eq_false not_false_eq_true eq_self decide_true decide_false ne_eq implies_true forall_const true_implies false_implies Bool.true_eq_false Bool.false_eq_true List.map_cons List.map_nil List.all_cons List.all_nil List.length_cons List.length_nil List.length_map List.length_append List.nil_append List.cons_append List.set_cons_zero List.set_cons_succ List.set_nil List.drop_zero List.drop_succ_cons List.drop_nil List.take_zero List.take_succ_cons List.take_nil Option.map_some Option.map_none Option.isSome_some List.all_append List.all_map Function.comp_def decide_eq_true_eq Bool.and_eq_true beq_self_eq_true or_self and_self ite_true ite_false Nat.le_refl Bool.not_eq_true decide_not Bool.not_eq_true' decide_eq_false_iff_not Bool.not_eq_false Bool.or_eq_true if_true if_false ite_self u_roF u_cvF u_cvC u_ceT u_ceK u_appS sm_it sm_len sm_sure sm_ltA sm_lt1 sm_all1 sm_ro sm_take sm_sl sm_set sm_noT sm_fr sm_st_fr sm_set_fr sm_kd sm_st_kd sm_set_kd sm_vw sm_st_vw sm_set_vw sm_sq sm_st_sq sm_set_sq sm_tm sm_st_tm sm_set_tm zsm_len zsm_sure zsm_lt1 zsm_sl zsm_ro zsm_setz zsm_set zsm_setr zsm_take sms_ltA sms_len ce_it ce_len ce_sure ce_ltA ce_lt1 ce_all1 ce_ro ce_take ce_sl ce_set ce_noT ce_sq ce_st_sq ce_set_sq ce_vw ce_st_vw ce_set_vw ce_tm ce_st_tm ce_set_tm ce_body ce_st_body ce_set_body ce_vs ce_st_vs ce_set_vs zce_len zce_sure zce_lt1 zce_sl zce_ro zce_setz zce_set zce_setr zce_take ces_ltA ces_len cg_it cg_len cg_sure cg_ltA cg_lt1 cg_all1 cg_ro cg_take cg_sl cg_set cg_noT cg_fr cg_st_fr cg_set_fr cg_vw cg_st_vw cg_set_vw cg_st cg_st_st cg_set_st cg_rt cg_st_rt cg_set_rt cg_pf cg_st_pf cg_set_pf cg_cs cg_st_cs cg_set_cs zcg_len zcg_sure zcg_lt1 zcg_sl zcg_ro zcg_setz zcg_set zcg_setr zcg_take cgs_ltA cgs_len ms_it ms_len ms_sure ms_ltA ms_lt1 ms_all1 ms_ro ms_take ms_sl ms_set ms_noT ms_kd ms_st_kd ms_set_kd ms_fr ms_st_fr ms_set_fr ms_vw ms_st_vw ms_set_vw ms_sq ms_st_sq ms_set_sq ms_tm ms_st_tm ms_set_tm ms_body ms_st_body ms_set_body ms_vs ms_st_vs ms_set_vs ms_chs ms_st_chs ms_set_chs zms_len zms_sure zms_lt1 zms_sl zms_ro zms_setz zms_set zms_setr zms_take mss_ltA mss_len natInt u_nthM u_bz u_bi1 u_bi2 u_bi3 u_bi4 u_bi5 u_bi6 u_bi7 List.take_length u_eqE
theorem decodeX_s (m : Nat) {c0 : List AV} {R3 : AObj} {tE tA tX : TypeId} (e0 a0 : Nat) (hc : c0.length = 8) :
    wire_DecodeX m [] (OP 0 0) (OP 1 0) (OP 2 0) (OP 4 0) [⟨1, ty_api_Msg, 0, c0⟩, ⟨1, tE, 0, [nA 0]⟩, ⟨1, tA, 0, [nA 0]⟩, R3, ⟨1, tX, 0, [nA e0, nA a0]⟩] = some (TU [OP 0 0], [⟨1, ty_api_Msg, 0, cZ⟩, ⟨1, tE, 0, [nA e0]⟩, ⟨1, tA, 0, [nA a0]⟩, R3, ⟨1, tX, 0, [nA e0, nA a0]⟩]) := by
  have hS := setCells_cZ hc
  have h8 : 8 ≤ c0.length := by omega
  rw [wire_DecodeX_eq]
  simp (config := {maxSteps := 4000000, implicitDefEqProofs := false}) (disch := omega) only [go_sem, ↓reduceIte, Nat.reduceAdd, Nat.reduceSub, Nat.reduceMul, Nat.reduceLeDiff, Nat.reduceLT, Int.reduceEq, Int.reduceNe, Int.reduceLT, Int.reduceLE, Int.reduceAdd, Int.reduceSub, Int.reduceMul, Int.reduceNeg, Int.reduceToNat, reduceCtorEq, Nat.reduceEqDiff, Nat.reduceBEq, Nat.reduceGT, b0_Msg, hS, h8]
theorem eB {p0 p1 p2 : Value} {e0 a0 : Nat} {w : World} {S : SS} {μ : List Value} {c0 : List AV} {R3 : AObj} {a : Act} (hg : GOk GG S) (hr : Rel w S μ [⟨1, ty_api_Msg, 0, c0⟩, ⟨1, 28, 0, [nA 0]⟩, ⟨1, 3, 0, [nA 0]⟩, R3]) (hc : c0.length = 8) (h0 : rep S μ (OP 0 0) p0) (h1 : rep S μ (OP 1 0) p1) (h2 : rep S μ (OP 2 0) p2)
    (ha : a.tmps.size = 15) (hd : a.defers = []) (g0 : a.tmps.getD 0 undef = p0) (g1 : a.tmps.getD 1 undef = p1) (g2 : a.tmps.getD 2 undef = p2) (g3 : a.tmps.getD 3 undef = noV e0 a0) :
    (cdL (endC 2 eC)).wp Try.prog (fun e a' w' => (e = .normal ∨ e = .ret) ∧ a'.defers = [] ∧ ∃ S' μ', Rel w' S' μ' [⟨1, ty_api_Msg, 0, cZ⟩, ⟨1, 28, 0, [nA e0]⟩, ⟨1, 3, 0, [nA a0]⟩, R3, ⟨1, 47, 0, [nA e0, nA a0]⟩] ∧ Step 4 w S μ [⟨1, ty_api_Msg, 0, c0⟩, ⟨1, 28, 0, [nA 0]⟩, ⟨1, 3, 0, [nA 0]⟩, R3] w' S' μ' [⟨1, ty_api_Msg, 0, cZ⟩, ⟨1, 28, 0, [nA e0]⟩, ⟨1, 3, 0, [nA a0]⟩, R3, ⟨1, 47, 0, [nA e0, nA a0]⟩]) a w := by
  have ec : cdL (endC 2 eC) = .seq (cdL (cdL (endC 2 eC))) (cdR (cdL (endC 2 eC))) := by kernel_rfl
  rw [ec]
  have key2 := exec_ok (n := 4) (M := 0) MIX (wire_DecodeX_hE 0) wire_DecodeX_c wire_DecodeX_h _ _ (by simp) (decodeX_s (R3 := R3) (tE := 28) (tA := 3) (tX := 47) 0 e0 a0 hc)
  refine wp_seq (wp_mono (Q := Lift ⟨15, []⟩ 4 w S μ [⟨1, ty_api_Msg, 0, c0⟩, ⟨1, 28, 0, [nA 0]⟩, ⟨1, 3, 0, [nA 0]⟩, R3] (fun e s => e = .normal ∧ Aft (fun s => some (get s.T 0, get s.T 1, get s.T 2, get s.T 4, s.H)) (OP 0 0, OP 1 0, OP 2 0, OP 4 0, [⟨1, ty_api_Msg, 0, c0⟩, ⟨1, 28, 0, [nA 0]⟩, ⟨1, 3, 0, [nA 0]⟩, R3, ⟨1, 47, 0, [nA e0, nA a0]⟩]) s)) ?_ fun e a' w' hL => ?_)
  rotate_left
  · obtain ⟨s1, S1, μ1, ⟨rfl, T2, hT, hq⟩, hr1, hf1, hst1⟩ := hL
    injection hq with hq
    injection hq with q0 hq
    injection hq with q1 hq
    injection hq with q2 hq
    injection hq with q4 hH
    obtain ⟨H1, T1⟩ := s1
    dsimp only at q0 q1 q2 q4 hH hT hr1 hf1 hst1
    subst hH
    have hf2 : Fr S1 μ1 ⟨15, []⟩ [(0, OP 0 0), (1, OP 1 0), (2, OP 2 0), (4, OP 4 0)] a' := by
      refine ⟨hf1.size, hf1.nodef, fun i => ?_⟩
      by_cases i0 : i = 0
      · subst i0
        have := hf1.slot 0
        rw [hT 0, q0] at this; exact this
      by_cases i1 : i = 1
      · subst i1
        have := hf1.slot 1
        rw [hT 1, q1] at this; exact this
      by_cases i2 : i = 2
      · subst i2
        have := hf1.slot 2
        rw [hT 2, q2] at this; exact this
      by_cases i4 : i = 4
      · subst i4
        have := hf1.slot 4
        rw [hT 4, q4] at this; exact this
      · have : get ([(0, OP 0 0), (1, OP 1 0), (2, OP 2 0), (4, OP 4 0)] : Tm) i = .nil := by
          simp only [_root_.Go.Proofs.Ytbdbmfifclmpcaa.get]
          rw [if_neg (Ne.symm i0), if_neg (Ne.symm i1), if_neg (Ne.symm i2), if_neg (Ne.symm i4)]
        rw [this]; exact rep_any _ _ _
    refine wp_mono (key2 w' S1 μ1 a' hr1 hf2 (hg.ext hst1.still)) ?_
    rintro e2 a2 w2 ⟨s2, S2, μ2, hq2, hr2, hf3, hst2⟩
    have fin : (some (TU (sltK s2.T [0]), s2.H) : RO) = some (TU [OP 0 0], [⟨1, ty_api_Msg, 0, cZ⟩, ⟨1, 28, 0, [nA e0]⟩, ⟨1, 3, 0, [nA a0]⟩, R3, ⟨1, 47, 0, [nA e0, nA a0]⟩]) → a2.defers = [] ∧ ∃ S' μ', Rel w2 S' μ' [⟨1, ty_api_Msg, 0, cZ⟩, ⟨1, 28, 0, [nA e0]⟩, ⟨1, 3, 0, [nA a0]⟩, R3, ⟨1, 47, 0, [nA e0, nA a0]⟩] ∧ Step 4 w S μ [⟨1, ty_api_Msg, 0, c0⟩, ⟨1, 28, 0, [nA 0]⟩, ⟨1, 3, 0, [nA 0]⟩, R3] w2 S' μ' [⟨1, ty_api_Msg, 0, cZ⟩, ⟨1, 28, 0, [nA e0]⟩, ⟨1, 3, 0, [nA a0]⟩, R3, ⟨1, 47, 0, [nA e0, nA a0]⟩] := by
      intro h
      injection h with h
      injection h with _ h
      obtain ⟨H2, T2⟩ := s2
      dsimp only at h hr2 hf3 hst2
      subst h
      exact ⟨hf3.nodef, S2, μ2, hr2, hst1.trans hst2⟩
    cases e2 with
    | normal => exact ⟨.inl rfl, fin hq2⟩
    | ret => exact ⟨.inr rfl, fin hq2⟩
    | exit id => cases hq2
    | goto l => cases hq2
    | panic ch =>
      obtain ⟨u, _, hq2⟩ := chE_some (K := fun u => some (TU (PN u :: sltK s2.T [0]), s2.H)) hq2
      injection hq2 with hq2
      injection hq2 with hq2 _
      simp at hq2
    | outgrown => cases hq2
  show (Code.region _ _ false).wp Try.prog _ a w
  refine wp_region_list ?_
  refine wpList_val (noV e0 a0) rfl (by rw [← g3]; simp [execOp, go_sem, Act.eval]) ?_
  refine wpList_val (.agg #[.int .i64 e0, .int .i64 a0]) rfl (by
    have : (a.put (some 8) (noV e0 a0)).eval (.tmp 8) = noV e0 a0 := by simp [Act.put, Act.eval, ha]
    have hA := run_assert (.agg #[.int .i64 e0, .int .i64 a0]) w
    simp [execOp, go_sem, ha, noV, hA]) ?_
  generalize hb : (a.put (some 8) (noV e0 a0)).put (some 9) (.agg #[.int .i64 e0, .int .i64 a0]) = b
  have hbs : b.tmps.size = 15 := by rw [← hb]; simp [Act.put, ha]
  have hbd : b.defers = [] := by rw [← hb]; simp [Act.put, hd]
  have hb0 : b.tmps.getD 0 undef = p0 := by rw [← hb, ← g0]; simp [Act.put, ha]
  have hb1 : b.tmps.getD 1 undef = p1 := by rw [← hb, ← g1]; simp [Act.put, ha]
  have hb2 : b.tmps.getD 2 undef = p2 := by rw [← hb, ← g2]; simp [Act.put, ha]
  have hb9 : b.tmps.getD 9 undef = .agg #[.int .i64 e0, .int .i64 a0] := by rw [← hb]; simp [Act.put, ha]
  have hf : Fr S μ ⟨15, []⟩ [(0, OP 0 0), (1, OP 1 0), (2, OP 2 0), (9, .agg [nA e0, nA a0])] b := by
    refine ⟨hbs, hbd, fun i => ?_⟩
    by_cases q0 : i = 0
    · subst q0; rw [hb0]; exact h0
    by_cases q1 : i = 1
    · subst q1; rw [hb1]; exact h1
    by_cases q2 : i = 2
    · subst q2; rw [hb2]; exact h2
    by_cases q9 : i = 9
    · subst q9; rw [hb9]
      refine ⟨[.int .i64 e0, .int .i64 a0], rfl, rfl, fun j d u hd hu => ?_⟩
      rcases j with _ | _ | j
      · cases hd; cases hu; exact ⟨rfl, rfl, rfl⟩
      · cases hd; cases hu; exact ⟨rfl, rfl, rfl⟩
      · cases hd
    · have : get ([(0, OP 0 0), (1, OP 1 0), (2, OP 2 0), (9, .agg [nA e0, nA a0])] : Tm) i = .nil := by
        simp only [_root_.Go.Proofs.Ytbdbmfifclmpcaa.get]
        rw [if_neg (Ne.symm q0), if_neg (Ne.symm q1), if_neg (Ne.symm q2), if_neg (Ne.symm q9)]
      rw [this]; exact rep_any _ _ _
  have hx : runE Try.prog GG [] false (oC 0) [] (oC 2) ⟨[⟨1, ty_api_Msg, 0, c0⟩, ⟨1, 28, 0, [nA 0]⟩, ⟨1, 3, 0, [nA 0]⟩, R3], [(0, OP 0 0), (1, OP 1 0), (2, OP 2 0), (9, .agg [nA e0, nA a0])]⟩ (fun s => some (get s.T 0, get s.T 1, get s.T 2, get s.T 4, s.H)) = some (OP 0 0, OP 1 0, OP 2 0, OP 4 0, [⟨1, ty_api_Msg, 0, c0⟩, ⟨1, 28, 0, [nA 0]⟩, ⟨1, 3, 0, [nA 0]⟩, R3, ⟨1, 47, 0, [nA e0, nA a0]⟩]) := by kernel_rfl
  have hro := runE_ok noE (TEq.refl _) SkOk.nil hx
  have hfit : fits (15 : Nat) (oC 2) = true := by kernel_rfl
  have key := runOps_wp (N := ⟨15, []⟩) (n := 4) (Q := fun e s => e = .normal ∧ Aft (fun s => some (get s.T 0, get s.T 1, get s.T 2, get s.T 4, s.H)) (OP 0 0, OP 1 0, OP 2 0, OP 4 0, [⟨1, ty_api_Msg, 0, c0⟩, ⟨1, 28, 0, [nA 0]⟩, ⟨1, 3, 0, [nA 0]⟩, R3, ⟨1, 47, 0, [nA e0, nA a0]⟩]) s) (fun s q => ⟨rfl, q⟩) (H0 := [⟨1, ty_api_Msg, 0, c0⟩, ⟨1, 28, 0, [nA 0]⟩, ⟨1, 3, 0, [nA 0]⟩, R3]) (by simp) hr.len _ _ hro hfit w S μ b hr hf hg (Step.refl _ _ _ _ _)
  exact key
theorem catch_pan (p0 p1 p2 : Value) (e0 a0 : Nat) (older : List PanicEntry) (w : World) {S : SS} {μ : List Value} {c0 : List AV} {R3 : AObj} (hg : GOk GG S) (hr : Rel w S μ [⟨1, ty_api_Msg, 0, c0⟩, ⟨1, 28, 0, [nA 0]⟩, ⟨1, 3, 0, [nA 0]⟩, R3]) (hc : c0.length = 8) (h0 : rep S μ (OP 0 0) p0) (h1 : rep S μ (OP 1 0) p1) (h2 : rep S μ (OP 2 0) p2) :
    CallsD Try.prog 21 #[p0, p1, p2] (.panicking ({ v := noV e0 a0, recovered := false } :: older)) w fun e u' w' => e = .returned (.tuple #[]) ∧ u' = .panicking ({ v := noV e0 a0, recovered := true } :: older) ∧
      ∃ S' μ', Rel w' S' μ' [⟨1, ty_api_Msg, 0, cZ⟩, ⟨1, 28, 0, [nA e0]⟩, ⟨1, 3, 0, [nA a0]⟩, R3, ⟨1, 47, 0, [nA e0, nA a0]⟩] ∧ Step 4 w S μ [⟨1, ty_api_Msg, 0, c0⟩, ⟨1, 28, 0, [nA 0]⟩, ⟨1, 3, 0, [nA 0]⟩, R3] w' S' μ' [⟨1, ty_api_Msg, 0, cZ⟩, ⟨1, 28, 0, [nA e0]⟩, ⟨1, 3, 0, [nA a0]⟩, R3, ⟨1, 47, 0, [nA e0, nA a0]⟩] := by
  refine callsD_of_wpS Try.func21 rfl fun c₀ cs hu => ?_
  apply wpS_seq
  apply wpS_region
  simp [wpOpsS, go_sem, recoverD, hu, noV, Try.ntmps21, Exit.thenS]
  apply wpS_seq
  apply wpS_region
  simp [wpOpsS, go_sem, Exit.thenS]
  refine wpS_cond (t := true) (by simp [Act.eval]) ?_
  simp only [if_true]
  refine wpS_of_wp ?_
  refine wp_mono (eB (e0 := e0) (a0 := a0) hg hr hc h0 h1 h2 (by simp) rfl (by simp) (by simp) (by simp) (by simp [noV])) ?_
  rintro e a' w' ⟨he, hd, hS⟩
  have hv : (results Try.f21 a'.tmps).run Try.prog w' = .ok (.tuple #[]) w' := by simp [results, Try.results21]
  rcases he with rfl | rfl
  · exact ⟨hd, _, rfl, .tuple #[], hv, rfl, rfl, hS⟩
  · exact ⟨hd, _, rfl, .tuple #[], hv, rfl, rfl, hS⟩
theorem ld_of {k : Nat} {H : List AObj} {x d : AV} {K : AV → Prop} (h : loadE k H x (fun d => some d) = some d) (hK : K d) : aLoad k H x K := aLoad_mono (fun d' e => by injection e with e; subst e; exact hK) (loadE_ok h)
theorem res3 {T : Tm} {x0 x1 x2 x3 x4 : Int} {x5 : List UInt8} {x6 x7 : AV} {H3 : List AObj} {e a : Int} (g2 : get T 2 = OP 0 0) (g3 : get T 3 = OP 1 0) (g4 : get T 4 = OP 2 0) :
    resC Try.prog (⟨1, ty_api_Msg, 0, [nA x0, nA x1, nA x2, nA x3, nA x4, sA x5, x6, x7]⟩ :: ⟨1, 28, 0, [nA e]⟩ :: ⟨1, 3, 0, [nA a]⟩ :: H3) T [.cell 2 27, .cell 3 28, .cell 4 3] (fun ds => oneOf ds = TU [noT (.agg [nA x0, nA x1, nA x2, nA x3, nA x4, sA x5, x6, x7]), noT (nA e), noT (nA a)]) := by
  rw [rC_cell, g2]
  refine ld_of (d := .agg [nA x0, nA x1, nA x2, nA x3, nA x4, sA x5, x6, x7]) (by kernel_rfl) ?_
  rw [rC_cell, g3]
  refine ld_of (d := nA e) (by kernel_rfl) ?_
  rw [rC_cell, g4]
  refine ld_of (d := nA a) (by kernel_rfl) ?_
  rw [rC_nil]
  rfl
noncomputable abbrev kNr (rs : List Tmp) : KO (AV × List AObj) := fun e s => match e with | .normal => some (TU (sltK s.T rs), s.H) | _ => none
theorem dA_y (x : AV) : exec Try.prog GG [] 0 ⟨54, []⟩ (cdL dC) .n ⟨[], argsT 0 [x]⟩ (kNr [0, 2, 3, 4]) = some (TU [x, OP 0 0, OP 1 0, OP 2 0], [⟨1, ty_api_Msg, 0, zc_api_Msg⟩, ⟨1, 28, 0, [nA 0]⟩, ⟨1, 3, 0, [nA 0]⟩]) := by
  refine (execK_eq _ _ _ _).symm.trans ?_
  kernel_rfl
theorem TU_inj {a b : List AV} (h : TU a = TU b) : a = b := by
  injection h with _ h
  injection h
theorem cut0 {w : World} {S : SS} {μ : List Value} {H : List AObj} : Step 0 w S μ H w S [] [] := ⟨rfl, rfl, rfl, Nat.le_refl _, fun _ _ _ => rfl, fun _ _ _ h => h, fun i x hi _ => absurd hi (Nat.not_lt_zero i), fun _ _ _ h _ => .inl h, fun b k _ => by obtain ⟨i, x, o, hx, _⟩ := k; simp at hx⟩
theorem decode_acp {b : List UInt8} (hb : b.length ≤ 34359738368) : ACp Try.prog GG 9 [SL (bC b)] (decX (decW b)) := by
  refine ⟨by kernel_rfl, fun w S μ vs hr hg hl hv => ?_⟩
  have hμ : μ = [] := List.eq_nil_of_length_eq_zero hr.len
  subst hμ
  obtain ⟨v0, rfl⟩ : ∃ v, vs = [v] := by
    match vs, hl with
    | [v], _ => exact ⟨v, rfl⟩
  have hv0 := hv 0 _ _ rfl rfl
  refine calls_of_wp_defers Try.func9 (c := dC) rfl ?_
  have hf0 : Fr S [] ⟨54, []⟩ (argsT 0 [SL (bC b)]) { tmps := [v0].toArray ++ Array.replicate (Try.f9.ntmps - [v0].toArray.size) undef, defers := [] } := by
    refine ⟨by simp [Try.ntmps9], rfl, fun i => ?_⟩
    rcases i with _ | i
    · show rep S [] (SL (bC b)) _
      simpa using hv0
    · exact rep_any _ _ _
  have ec : dC = .seq (cdL dC) (.seq (cdL (cdR dC)) (endC 2 dC)) := by kernel_rfl
  rw [ec]
  have key1 := exec_ok (n := 0) (M := 0) MIX noE (cdL dC) .n _ _ (Nat.zero_le _) (dA_y (SL (bC b)))
  refine wp_seq (wp_mono (key1 w S [] _ hr hf0 hg) ?_)
  rintro e a w1 ⟨s1, S1, μ1, hq, hr1, hf1, hst1⟩
  cases e with
  | ret => cases hq
  | exit id => cases hq
  | goto l => cases hq
  | panic ch => cases hq
  | outgrown => cases hq
  | normal =>
  obtain ⟨H1, T1⟩ := s1
  injection hq with hq
  injection hq with hq hH
  dsimp only at hH hr1 hf1 hst1
  subst hH
  have hq := TU_inj hq
  rw [sltK_eq] at hq
  injection hq with q0 hq
  injection hq with q2 hq
  injection hq with q3 hq
  injection hq with q4 _
  dsimp only at q0 q2 q3 q4
  refine wp_seq (dB (p0 := a.eval (.tmp 2)) (p1 := a.eval (.tmp 3)) (p2 := a.eval (.tmp 4)) rfl rfl rfl hf1.nodef hf1.size fun v => ?_)
  have sz : a.tmps.size = 54 := hf1.size
  have r0 : rep S1 μ1 (SL (bC b)) (a.tmps.getD 0 undef) := by have := hf1.slot 0; rw [q0] at this; exact this
  have r2 : rep S1 μ1 (OP 0 0) (a.tmps.getD 2 undef) := by have := hf1.slot 2; rw [q2] at this; exact this
  have r3 : rep S1 μ1 (OP 1 0) (a.tmps.getD 3 undef) := by have := hf1.slot 3; rw [q3] at this; exact this
  have r4 : rep S1 μ1 (OP 2 0) (a.tmps.getD 4 undef) := by have := hf1.slot 4; rw [q4] at this; exact this
  generalize hp0 : a.eval (.tmp 2) = p0
  generalize hp1 : a.eval (.tmp 3) = p1
  generalize hp2 : a.eval (.tmp 4) = p2
  have e2 : a.tmps.getD 2 undef = p0 := hp0
  have e3 : a.tmps.getD 3 undef = p1 := hp1
  have e4 : a.tmps.getD 4 undef = p2 := hp2
  rw [e2] at r2
  rw [e3] at r3
  rw [e4] at r4
  generalize ha2 : ({ (a.put (some 6) v) with defers := [dD p0 p1 p2] } : Act) = a2
  show (endC 2 dC).wp Try.prog _ a2 w1
  have f0 : a2.tmps.getD 0 undef = a.tmps.getD 0 undef := by rw [← ha2]; simp [Act.put, sz]
  have f2 : a2.tmps.getD 2 undef = p0 := by rw [← ha2, ← e2]; simp [Act.put, sz]
  have f3 : a2.tmps.getD 3 undef = p1 := by rw [← ha2, ← e3]; simp [Act.put, sz]
  have f4 : a2.tmps.getD 4 undef = p2 := by rw [← ha2, ← e4]; simp [Act.put, sz]
  have hf2 : Fr S1 μ1 ⟨54, [dD p0 p1 p2]⟩ [(0, SL (bC b)), (2, OP 0 0), (3, OP 1 0), (4, OP 2 0)] a2 := by
    refine ⟨by rw [← ha2]; simp [Act.put, sz], by rw [← ha2], fun i => ?_⟩
    by_cases i0 : i = 0
    · subst i0; rw [f0]; exact r0
    by_cases i2 : i = 2
    · subst i2; rw [f2]; exact r2
    by_cases i3 : i = 3
    · subst i3; rw [f3]; exact r3
    by_cases i4 : i = 4
    · subst i4; rw [f4]; exact r4
    · have : get ([(0, SL (bC b)), (2, OP 0 0), (3, OP 1 0), (4, OP 2 0)] : Tm) i = .nil := by
        simp only [_root_.Go.Proofs.Ytbdbmfifclmpcaa.get]
        rw [if_neg (Ne.symm i0), if_neg (Ne.symm i2), if_neg (Ne.symm i3), if_neg (Ne.symm i4)]
      rw [this]; exact rep_any _ _ _
  obtain ⟨c0, R3, hR, hc⟩ := decodeR_s (tE := 28) (tA := 3) 100 [dD p0 p1 p2] hb (by omega)
  have hinv : ∀ w' : World, (invoke (.fn (.func 21) #[p0, p1, p2]) #[]).run Try.prog w' = .ok (.enter 21 #[p0, p1, p2]) w' := fun w' => by simp [go_sem]
  cases hO : outR b with
  | ok x at_ =>
    rw [hO, endR_ok] at hR
    have hX : decW b = (x, 0, 0) := by unfold decW; rw [hO]
    rw [hX]
    have key2 := exec_ok (n := 0) (M := 100) MIX (wire_DecodeR_hE 100) wire_DecodeR_c wire_DecodeR_h _ _ (Nat.zero_le _) hR
    refine wp_mono (key2 w1 S1 μ1 a2 hr1 hf2 (hg.ext hst1.still)) ?_
    rintro e a3 w3 ⟨⟨H3, T3⟩, S3, μ3, hq3, hr3, hf3, hst3⟩
    have fin : (some (TU (sltK T3 [2, 3, 4]), H3) : RO) = some (TU [OP 0 0, OP 1 0, OP 2 0], [⟨1, ty_api_Msg, 0, msC x⟩, ⟨1, 28, 0, [nA 0]⟩, ⟨1, 3, 0, [nA 0]⟩, R3]) → Leaves Try.prog Try.f9 a3.tmps (CPost w S [] [] fun r H' => r = decX (x, 0, 0) ∧ H' = []) a3.defers .returning w3 := by
      intro h
      injection h with h
      injection h with h hH
      dsimp only at hr3 hf3 hst3
      subst hH
      have h := TU_inj h
      rw [sltK_eq] at h
      injection h with g2 h
      injection h with g3 h
      injection h with g4 _
      have hd : a3.defers = [dD p0 p1 p2] := hf3.nodef
      rw [hd]
      refine leaves_cons (f := 21) (args := #[p0, p1, p2]) (by simp) (hinv w3) ?_
      refine (catch_idle p0 p1 p2 w3).mono ?_
      rintro e u' w4 ⟨rfl, rfl, rfl⟩
      show Leaves Try.prog _ a3.tmps _ [] (settle .returning) w4
      have hs : settle .returning = .returning := rfl
      rw [hs]
      obtain ⟨y, r, hrun, hrep, rfl⟩ := resultsC_run (P := Try.prog) (fn := Try.f9) (K := fun r => r = decX (x, 0, 0)) rfl hr3 hf3 (resC_mono (fun ds e => e) (by
        obtain ⟨x0, x1, x2, x3, x4, x5, x6, x7⟩ := x
        exact res3 g2 g3 g4))
      exact ⟨y, hrun, y, _, [], S3, [], rfl, ⟨rfl, rfl⟩, hr3.le (H' := []) trivial rfl, hrep.take (n := 0) rfl, (hst1.trans hst3).trans cut0⟩
    cases e with
    | normal => exact fin hq3
    | ret => exact fin hq3
    | exit id => cases hq3
    | goto l => cases hq3
    | panic ch =>
      obtain ⟨u, _, hq3⟩ := chE_some (K := fun u => some (TU (PN u :: sltK T3 [2, 3, 4]), H3)) hq3
      injection hq3 with hq3
      injection hq3 with hq3 _
      simp at hq3
    | outgrown => cases hq3
  | no en an =>
    rw [hO, endR_no] at hR
    have hX : decW b = (Ms.zero, en, an) := by unfold decW; rw [hO]
    rw [hX]
    have key2 := exec_ok (n := 3) (M := 100) MIX (wire_DecodeR_hE 100) wire_DecodeR_c wire_DecodeR_h _ _ (Nat.le_refl _) hR
    refine wp_mono (key2 w1 S1 μ1 a2 hr1 hf2 (hg.ext hst1.still)) ?_
    rintro e a3 w3 ⟨⟨H3, T3⟩, S3, μ3, hq3, hr3, hf3, hst3⟩
    cases e with
    | normal =>
      injection hq3 with hq3
      injection hq3 with hq3 _
      simp at hq3
    | ret =>
      injection hq3 with hq3
      injection hq3 with hq3 _
      simp at hq3
    | exit id => cases hq3
    | goto l => cases hq3
    | outgrown => cases hq3
    | panic ch =>
      obtain ⟨u, rfl, hq3⟩ := chE_some (K := fun u => some (TU (PN u :: sltK T3 [2, 3, 4]), H3)) hq3
      injection hq3 with hq3
      injection hq3 with h hH
      dsimp only at hr3 hf3 hst3
      subst hH
      have h := TU_inj h
      rw [sltK_eq] at h
      injection h with gu h
      injection h with g2 h
      injection h with g3 h
      injection h with g4 _
      injection gu with _ gu
      injection gu with gu
      injection gu with gu
      subst gu
      have hd : a3.defers = [dD p0 p1 p2] := hf3.nodef
      show Leaves Try.prog _ a3.tmps _ a3.defers (.panicking (pch (noV en an))) w3
      rw [hd]
      have hx := Step.toExt hr1 hst3
      refine leaves_cons (f := 21) (args := #[p0, p1, p2]) (by simp) (hinv w3) ?_
      refine (catch_pan p0 p1 p2 en an [] w3 ((hg.ext hst1.still).ext hst3.still) hr3 hc (r2.ext hx) (r3.ext hx) (r4.ext hx)).mono ?_
      rintro e u' w4 ⟨rfl, rfl, S4, μ4, hr4, hst4⟩
      show Leaves Try.prog _ a3.tmps _ [] (settle (.panicking [{ v := noV en an, recovered := true }])) w4
      have hs : settle (.panicking [{ v := noV en an, recovered := true }]) = .returning := rfl
      rw [hs]
      obtain ⟨y, r, hrun, hrep, rfl⟩ := resultsC_run (P := Try.prog) (fn := Try.f9) (K := fun r => r = TU [noT (.agg cZ), noT (nA en), noT (nA an)]) rfl hr4 (hf3.ext (Step.toExt hr3 hst4)) (resC_mono (fun ds e => e) (res3 g2 g3 g4))
      have hro := hrep.toRo hr4
      have hY : ro [⟨1, ty_api_Msg, 0, cZ⟩, ⟨1, 28, 0, [nA en]⟩, ⟨1, 3, 0, [nA an]⟩, R3, ⟨1, 47, 0, [nA en, nA an]⟩] (TU [noT (.agg cZ), noT (nA en), noT (nA an)]) = decX (Ms.zero, en, an) := by kernel_rfl
      rw [hY] at hro
      exact ⟨y, hrun, y, _, [], S4, [], rfl, ⟨rfl, rfl⟩, hr4.le (H' := []) trivial rfl, hro.take (n := 0) rfl, ((hst1.trans (hst3.less (Nat.zero_le _))).trans (hst4.less (Nat.zero_le _))).trans cut0⟩
end Go.Proofs.Ytbdbmfifclmpcaa

namespace Go.Proofs.Ytbdbmfifclmpcaa
open Go.RowKit
set_option linter.unusedVariables false
structure Foll {α : Type} (f : TR α) (r : Nat → RdO α) : Prop where
  ok : ∀ a x a', r a = .ok x a' → f (a, 0) = (x, (a', 0))
  no : ∀ a e a', r a = .no e a' → e ≠ 0 ∧ (f (a, 0)).2 = (a', e)
  stop : ∀ a e, e ≠ 0 → (f (a, e)).2 = (a, e)
theorem good_ret {α : Type} (x : α) : Foll (TR.ret x) (fun a => .ok x a) := ⟨fun a y a' h => (by cases h; rfl), fun a e a' h => (by cases h), fun a e h => rfl⟩
theorem good_bind {α β : Type} {f : TR α} {r : Nat → RdO α} {g : α → TR β} {s : α → Nat → RdO β} (hf : Foll f r) (hg : ∀ x, Foll (g x) (s x)) : Foll (f.bind g) (fun a => (r a).bind (s)) := by
  refine ⟨fun a y a' h => ?_, fun a e a' h => ?_, fun a e he => ?_⟩
  · cases hr : r a with
    | ok x c =>
      rw [hr] at h
      show g (f (a, 0)).1 (f (a, 0)).2 = _
      rw [hf.ok a x c hr]
      exact (hg x).ok c y a' h
    | no e c => rw [hr] at h; cases h
  · cases hr : r a with
    | ok x c =>
      rw [hr] at h
      show e ≠ 0 ∧ (g (f (a, 0)).1 (f (a, 0)).2).2 = _
      rw [hf.ok a x c hr]
      exact (hg x).no c e a' h
    | no e1 c =>
      rw [hr] at h
      cases h
      obtain ⟨h1, h2⟩ := hf.no a e a' hr
      refine ⟨h1, ?_⟩
      show (g (f (a, 0)).1 (f (a, 0)).2).2 = _
      rw [h2]
      exact (hg _).stop a' e h1
  · show (g (f (a, e)).1 (f (a, e)).2).2 = _
    rw [hf.stop a e he]
    exact (hg _).stop a e he
theorem numR_no {b : List UInt8} {most a e c : Nat} (h : numR b most a = .no e c) : e ≠ 0 := by
  unfold numR at h
  split at h
  · split at h
    · cases h; decide
    · cases h
  · cases h; assumption
theorem good_num (b : List UInt8) (most : Nat) : Foll (numT b most) (fun a => numR b most a) := by
  refine ⟨fun a x a' h => ?_, fun a e a' h => ?_, fun a e he => ?_⟩
  · unfold numT
    rw [if_pos rfl]
    show (numR b most a).st 0 = _
    rw [h]; rfl
  · refine ⟨numR_no h, ?_⟩
    unfold numT
    rw [if_pos rfl]
    show ((numR b most a).st 0).2 = _
    rw [h]; rfl
  · unfold numT
    rw [if_neg he]
theorem good_int (b : List UInt8) (most : Nat) : Foll (itT b most) (fun a => intR b most a) := by
  have h := good_num b most
  refine ⟨fun a x a' hx => ?_, fun a e a' hx => ?_, fun a e he => h.stop a e he⟩
  · unfold intR at hx
    cases hr : numR b most a with
    | ok v c =>
      rw [hr] at hx
      cases hx
      unfold itT
      rw [h.ok a v a' hr]
    | no e c => rw [hr] at hx; cases hx
  · unfold intR at hx
    cases hr : numR b most a with
    | ok v c => rw [hr] at hx; cases hx
    | no e1 c =>
      rw [hr] at hx
      cases hx
      exact h.no a e a' hr
theorem good_cut (b : List UInt8) (n : Nat) : Foll (cutT b n) (fun a => if b.length - a < n then .no 2 a else .ok ((b.drop a).take n) (a + n)) := by
  refine ⟨fun a x a' h => ?_, fun a e a' h => ?_, fun a e he => ?_⟩
  · unfold cutT
    rw [if_pos rfl]
    dsimp only at h ⊢
    split at h
    · cases h
    · rename_i hh; rw [if_neg hh]; cases h; rfl
  · unfold cutT
    rw [if_pos rfl]
    dsimp only at h ⊢
    split at h
    · rename_i hh; rw [if_pos hh]; cases h; exact ⟨by decide, rfl⟩
    · cases h
  · unfold cutT
    rw [if_neg he]
theorem good_text (b : List UInt8) : Foll (textT b) (fun a => textR b a) := good_bind (good_num b 65536) fun n => good_cut b n
theorem good_stmt (b : List UInt8) : Foll (stmtT b) (fun a => stmtR b a) := good_bind (good_int b 63) fun _ => good_bind (good_int b _) fun _ => good_bind (good_int b _) fun _ => good_bind (good_int b _) fun _ => good_bind (good_int b _) fun _ => good_ret _
theorem good_loop {α : Type} {f : TR α} {r : Nat → RdO α} (h : Foll f r) : ∀ n, Foll (loopT f n) (fun a => loopR r n a)
  | 0 => ⟨fun a x a' hx => (by cases hx; rfl), fun a e a' hx => (by cases hx), fun a e he => rfl⟩
  | n + 1 => by
    have ih := good_loop h n
    refine ⟨fun a x a' hx => ?_, fun a e a' hx => ?_, fun a e he => ?_⟩
    · unfold loopT
      rw [if_pos rfl]
      unfold loopR at hx
      cases hr : r a with
      | no e c => rw [hr] at hx; cases hx
      | ok y c =>
        rw [hr] at hx
        rw [h.ok a y c hr]
        cases hl : loopR r n c with
        | no e d => have hx : (RdO.bind (loopR r n c) fun l a => .ok (y :: l) a) = _ := hx; rw [hl] at hx; cases hx
        | ok l d =>
          have hx : (RdO.bind (loopR r n c) fun l a => .ok (y :: l) a) = _ := hx
          rw [hl] at hx; cases hx
          dsimp only
          rw [ih.ok c l a' hl]
    · unfold loopT
      rw [if_pos rfl]
      unfold loopR at hx
      cases hr : r a with
      | no e1 c =>
        rw [hr] at hx; cases hx
        obtain ⟨h1, h2⟩ := h.no a e a' hr
        refine ⟨h1, ?_⟩
        dsimp only
        rw [h2]
        exact ih.stop a' e h1
      | ok y c =>
        rw [hr] at hx
        have hx : (RdO.bind (loopR r n c) fun l a => .ok (y :: l) a) = _ := hx
        cases hl : loopR r n c with
        | ok l d => rw [hl] at hx; cases hx
        | no e1 d =>
          rw [hl] at hx; cases hx
          obtain ⟨h1, h2⟩ := ih.no c e a' hl
          refine ⟨h1, ?_⟩
          dsimp only
          rw [h.ok a y c hr]
          exact h2
    · unfold loopT
      rw [if_neg he]
theorem good_some {α : Type} (b : List UInt8) {f : TR α} {r : Nat → RdO α} (h : Foll f r) : Foll (someT b f) (fun a => someR b r a) := good_bind (good_num b 64) fun n => good_loop h n
theorem good_cert (b : List UInt8) : Foll (certT b) (fun a => certR b a) := good_bind (good_int b _) fun _ => good_bind (good_int b _) fun _ => good_bind (good_int b _) fun _ => good_bind (good_text b) fun _ => good_bind (good_some b (good_stmt b)) fun _ => good_ret _
theorem good_change (b : List UInt8) : Foll (changeT b) (fun a => changeR b a) := good_bind (good_int b 63) fun _ => good_bind (good_int b _) fun _ => good_bind (good_int b _) fun _ => good_bind (good_int b _) fun _ => good_bind (good_some b (good_stmt b)) fun _ => good_bind (good_some b (good_cert b)) fun _ => good_ret _
def msgG (b : List UInt8) (a : Nat) : RdO Ms := (intR b 10 a).bind fun x0 a => (intR b 63 a).bind fun x1 a => (intR b 2147483647 a).bind fun x2 a => (intR b 2147483647 a).bind fun x3 a => (intR b 2147483647 a).bind fun x4 a => (textR b a).bind fun x5 a => (someR b (stmtR b) a).bind fun x6 a => (someR b (changeR b) a).bind fun x7 a => .ok ⟨x0, x1, x2, x3, x4, x5, x6, x7⟩ a
theorem msgG_eq (b : List UInt8) : msgG b 0 = msgR b := rfl
theorem good_msg (b : List UInt8) : Foll (msgT b) (fun a => msgG b a) := good_bind (good_int b 10) fun _ => good_bind (good_int b 63) fun _ => good_bind (good_int b _) fun _ => good_bind (good_int b _) fun _ => good_bind (good_int b _) fun _ => good_bind (good_text b) fun _ => good_bind (good_some b (good_stmt b)) fun _ => good_bind (good_some b (good_change b)) fun _ => good_ret _
end Go.Proofs.Ytbdbmfifclmpcaa

namespace Go.Proofs.Ytbdbmfifclmpcaa
open Go.RowKit
set_option linter.unusedVariables false
set_option linter.unusedSimpArgs false
set_option maxRecDepth 20000
attribute [local go_sem] Nat.zero_add Nat.add_zero Nat.mul_one Int.toNat_natCast Int.natCast_zero Int.cast_ofNat_Int or_false false_or or_true true_or Nat.sub_zero Int.natCast_nonneg Int.toNat_zero Bool.true_and Bool.and_true Bool.false_and Bool.and_false Bool.true_or Bool.or_true Bool.false_or Bool.or_false Bool.not_true Bool.not_false Bool.not_not true_and and_true false_and and_false not_true_eq_false not_false_eq_true eq_self decide_true decide_false ne_eq implies_true forall_const true_implies false_implies Bool.true_eq_false Bool.false_eq_true List.map_cons List.map_nil List.all_cons List.all_nil List.length_cons List.length_nil List.length_map List.length_append List.nil_append List.cons_append List.set_cons_zero List.set_cons_succ List.set_nil List.drop_zero List.drop_succ_cons List.drop_nil List.take_zero List.take_succ_cons List.take_nil Option.map_some Option.map_none Option.isSome_some List.all_append List.all_map Function.comp_def decide_eq_true_eq Bool.and_eq_true beq_self_eq_true or_self and_self ite_true ite_false Nat.le_refl Bool.not_eq_true decide_not Bool.not_eq_true' decide_eq_false_iff_not Bool.not_eq_false Bool.or_eq_true if_true if_false ite_self u_roF u_cvF u_cvC u_ceT u_ceK u_appS sm_it sm_len sm_sure sm_ltA sm_lt1 sm_all1 sm_ro sm_take sm_sl sm_set sm_noT sm_fr sm_st_fr sm_set_fr sm_kd sm_st_kd sm_set_kd sm_vw sm_st_vw sm_set_vw sm_sq sm_st_sq sm_set_sq sm_tm sm_st_tm sm_set_tm zsm_len zsm_sure zsm_lt1 zsm_sl zsm_ro zsm_setz zsm_set zsm_setr zsm_take sms_ltA sms_len ce_it ce_len ce_sure ce_ltA ce_lt1 ce_all1 ce_ro ce_take ce_sl ce_set ce_noT ce_sq ce_st_sq ce_set_sq ce_vw ce_st_vw ce_set_vw ce_tm ce_st_tm ce_set_tm ce_body ce_st_body ce_set_body ce_vs ce_st_vs ce_set_vs zce_len zce_sure zce_lt1 zce_sl zce_ro zce_setz zce_set zce_setr zce_take ces_ltA ces_len cg_it cg_len cg_sure cg_ltA cg_lt1 cg_all1 cg_ro cg_take cg_sl cg_set cg_noT cg_fr cg_st_fr cg_set_fr cg_vw cg_st_vw cg_set_vw cg_st cg_st_st cg_set_st cg_rt cg_st_rt cg_set_rt cg_pf cg_st_pf cg_set_pf cg_cs cg_st_cs cg_set_cs zcg_len zcg_sure zcg_lt1 zcg_sl zcg_ro zcg_setz zcg_set zcg_setr zcg_take cgs_ltA cgs_len ms_it ms_len ms_sure ms_ltA ms_lt1 ms_all1 ms_ro ms_take ms_sl ms_set ms_noT ms_kd ms_st_kd ms_set_kd ms_fr ms_st_fr ms_set_fr ms_vw ms_st_vw ms_set_vw ms_sq ms_st_sq ms_set_sq ms_tm ms_st_tm ms_set_tm ms_body ms_st_body ms_set_body ms_vs ms_st_vs ms_set_vs ms_chs ms_st_chs ms_set_chs zms_len zms_sure zms_lt1 zms_sl zms_ro zms_setz zms_set zms_setr zms_take mss_ltA mss_len natInt u_nthM u_bz u_bi1 u_bi2 u_bi3 u_bi4 u_bi5 u_bi6 u_bi7 bC_length ltO_o ltO_r List.take_length u_eqE
section
variable {R : Type} {x y : Sm} {isB sl : Bool} {K1 : AV → Option R}
theorem u_neSm : binE (some [.i .i64, .i .i64, .i .i64, .i .i64, .i .i64]) isB sl .neq (.agg (smC x)) (.agg (smC y)) K1 = K1 (bA (!decide (x = y))) := by
  have : decide (x = y) = (decide (x.fr = y.fr) && (decide (x.kd = y.kd) && (decide (x.vw = y.vw) && (decide (x.sq = y.sq) && (decide (x.tm = y.tm) && true))))) := by
    obtain ⟨a, b, c, d, e⟩ := x
    obtain ⟨a', b', c', d', e'⟩ := y
    simp
  rw [this]; rfl
end
theorem drop_eq_iff {α : Type} {l m : List α} (hl : l.length = m.length) {k : Nat} (h : k < l.length) (h' : k < m.length) : l.drop k = m.drop k ↔ (l[k] = m[k] ∧ l.drop (k + 1) = m.drop (k + 1)) := by
  rw [List.drop_eq_getElem_cons h, List.drop_eq_getElem_cons h']
  exact ⟨fun q => by injection q with a b; exact ⟨a, b⟩, fun ⟨a, b⟩ => by rw [a, b]⟩
theorem rStmts_s (m : Nat) (l l2 : List Sm) (hm : l.length < m) (hl : l.length ≤ 34359738367) : plenumref28_Stmts m (SL (l.map smE)) (SL (l2.map smE)) = some (bA (decide (l = l2)), []) := by
  rw [plenumref28_Stmts_eq]
  by_cases hle : l.length = l2.length
  rotate_left
  · have hle' : ¬ (l.length : Int) = (l2.length : Int) := by omega
    have hne : ¬ l = l2 := fun e => hle (by rw [e])
    simp (config := {maxSteps := 4000000, implicitDefEqProofs := false}) (disch := omega) only [go_sem, ↓reduceIte, Nat.reduceAdd, Nat.reduceSub, Nat.reduceMul, Nat.reduceLeDiff, Nat.reduceLT, Int.reduceEq, Int.reduceNe, Int.reduceLT, Int.reduceLE, Int.reduceAdd, Int.reduceSub, Int.reduceMul, Int.reduceNeg, Int.reduceToNat, reduceCtorEq, Nat.reduceEqDiff, Nat.reduceBEq, Nat.reduceGT, hle', hne]
  have hle' : (l2.length : Int) = (l.length : Int) := by omega
  simp (config := {maxSteps := 4000000, implicitDefEqProofs := false}) (disch := omega) only [go_sem, ↓reduceIte, Nat.reduceAdd, Nat.reduceSub, Nat.reduceMul, Nat.reduceLeDiff, Nat.reduceLT, Int.reduceEq, Int.reduceNe, Int.reduceLT, Int.reduceLE, Int.reduceAdd, Int.reduceSub, Int.reduceMul, Int.reduceNeg, Int.reduceToNat, reduceCtorEq, Nat.reduceEqDiff, Nat.reduceBEq, Nat.reduceGT, hle']
  generalize hg : decide (l = l2) = g
  refine iter_go (ι := {k : Nat // k ≤ l.length ∧ decide (l.drop k = l2.drop k) = g}) (fun k => ⟨[], [(0, SL (l.map smE)), (1, SL (l2.map smE)), (5, nA k.1)]⟩) (fun k => l.length - k.1) (fun _ => some (bA g, [])) ?_ ⟨0, Nat.zero_le _, hg⟩ (by dsimp only; omega)
  rintro kx hkx ⟨k, hk, hG⟩ kc hkc
  dsimp only at hkc hG ⊢
  rw [plenumref28_Stmts_b1_eq]
  by_cases hlt : k < l.length
  · have hlt' : (k : Int) < (l.length : Int) := by omega
    have hlt2 : k < l2.length := by omega
    have hlt3 : (k : Int) < (l2.length : Int) := by omega
    have hD := drop_eq_iff hle hlt hlt2
    by_cases hx : l[k] = l2[k]
    · have step := hkc ⟨k + 1, by omega, by rw [← hG]; apply decide_eq_decide.2; rw [hD]; exact ⟨fun q => ⟨hx, q⟩, fun q => q.2⟩⟩ (by dsimp only; omega)
      simp (config := {maxSteps := 4000000, implicitDefEqProofs := false}) (disch := omega) only [go_sem, ↓reduceIte, Nat.reduceAdd, Nat.reduceSub, Nat.reduceMul, Nat.reduceLeDiff, Nat.reduceLT, Int.reduceEq, Int.reduceNe, Int.reduceLT, Int.reduceLE, Int.reduceAdd, Int.reduceSub, Int.reduceMul, Int.reduceNeg, Int.reduceToNat, reduceCtorEq, Nat.reduceEqDiff, Nat.reduceBEq, Nat.reduceGT, hlt', hlt3, u_neSm, hx, w_i64, plenumref28_Stmts_r1_eq]
      exact step
    · have hG2 : false = g := by rw [← hG]; symm; apply decide_eq_false; rw [hD]; exact fun q => hx q.1
      subst hG2
      simp (config := {maxSteps := 4000000, implicitDefEqProofs := false}) (disch := omega) only [go_sem, ↓reduceIte, Nat.reduceAdd, Nat.reduceSub, Nat.reduceMul, Nat.reduceLeDiff, Nat.reduceLT, Int.reduceEq, Int.reduceNe, Int.reduceLT, Int.reduceLE, Int.reduceAdd, Int.reduceSub, Int.reduceMul, Int.reduceNeg, Int.reduceToNat, reduceCtorEq, Nat.reduceEqDiff, Nat.reduceBEq, Nat.reduceGT, hlt', hlt3, u_neSm, hx, w_i64, hkx, plenumref28_Stmts_r1_eq]
  · have hlt' : ¬ (k : Int) < (l.length : Int) := by omega
    have hG2 : true = g := by rw [← hG, List.drop_of_length_le (by omega), List.drop_of_length_le (by omega)]; simp
    subst hG2
    simp (config := {maxSteps := 4000000, implicitDefEqProofs := false}) (disch := omega) only [go_sem, ↓reduceIte, Nat.reduceAdd, Nat.reduceSub, Nat.reduceMul, Nat.reduceLeDiff, Nat.reduceLT, Int.reduceEq, Int.reduceNe, Int.reduceLT, Int.reduceLE, Int.reduceAdd, Int.reduceSub, Int.reduceMul, Int.reduceNeg, Int.reduceToNat, reduceCtorEq, Nat.reduceEqDiff, Nat.reduceBEq, Nat.reduceGT, hlt', hkx, plenumref28_Stmts_r1_eq]
end Go.Proofs.Ytbdbmfifclmpcaa

namespace Go.Proofs.Ytbdbmfifclmpcaa
open Go.RowKit
set_option linter.unusedVariables false
set_option linter.unusedSimpArgs false
set_option maxRecDepth 20000
attribute [local go_sem] Nat.zero_add Nat.add_zero Nat.mul_one Int.toNat_natCast Int.natCast_zero Int.cast_ofNat_Int or_false false_or or_true true_or Nat.sub_zero Int.natCast_nonneg Int.toNat_zero Bool.true_and Bool.and_true Bool.false_and Bool.and_false Bool.true_or Bool.or_true Bool.false_or Bool.or_false Bool.not_true Bool.not_false Bool.not_not true_and and_true false_and and_false not_true_eq_false not_false_eq_true eq_self decide_true decide_false ne_eq implies_true forall_const true_implies false_implies Bool.true_eq_false Bool.false_eq_true List.map_cons List.map_nil List.all_cons List.all_nil List.length_cons List.length_nil List.length_map List.length_append List.nil_append List.cons_append List.set_cons_zero List.set_cons_succ List.set_nil List.drop_zero List.drop_succ_cons List.drop_nil List.take_zero List.take_succ_cons List.take_nil Option.map_some Option.map_none Option.isSome_some List.all_append List.all_map Function.comp_def decide_eq_true_eq Bool.and_eq_true beq_self_eq_true or_self and_self ite_true ite_false Nat.le_refl Bool.not_eq_true decide_not Bool.not_eq_true' decide_eq_false_iff_not Bool.not_eq_false Bool.or_eq_true if_true if_false ite_self u_roF u_cvF u_cvC u_ceT u_ceK u_appS sm_it sm_len sm_sure sm_ltA sm_lt1 sm_all1 sm_ro sm_take sm_sl sm_set sm_noT sm_fr sm_st_fr sm_set_fr sm_kd sm_st_kd sm_set_kd sm_vw sm_st_vw sm_set_vw sm_sq sm_st_sq sm_set_sq sm_tm sm_st_tm sm_set_tm zsm_len zsm_sure zsm_lt1 zsm_sl zsm_ro zsm_setz zsm_set zsm_setr zsm_take sms_ltA sms_len ce_it ce_len ce_sure ce_ltA ce_lt1 ce_all1 ce_ro ce_take ce_sl ce_set ce_noT ce_sq ce_st_sq ce_set_sq ce_vw ce_st_vw ce_set_vw ce_tm ce_st_tm ce_set_tm ce_body ce_st_body ce_set_body ce_vs ce_st_vs ce_set_vs zce_len zce_sure zce_lt1 zce_sl zce_ro zce_setz zce_set zce_setr zce_take ces_ltA ces_len cg_it cg_len cg_sure cg_ltA cg_lt1 cg_all1 cg_ro cg_take cg_sl cg_set cg_noT cg_fr cg_st_fr cg_set_fr cg_vw cg_st_vw cg_set_vw cg_st cg_st_st cg_set_st cg_rt cg_st_rt cg_set_rt cg_pf cg_st_pf cg_set_pf cg_cs cg_st_cs cg_set_cs zcg_len zcg_sure zcg_lt1 zcg_sl zcg_ro zcg_setz zcg_set zcg_setr zcg_take cgs_ltA cgs_len ms_it ms_len ms_sure ms_ltA ms_lt1 ms_all1 ms_ro ms_take ms_sl ms_set ms_noT ms_kd ms_st_kd ms_set_kd ms_fr ms_st_fr ms_set_fr ms_vw ms_st_vw ms_set_vw ms_sq ms_st_sq ms_set_sq ms_tm ms_st_tm ms_set_tm ms_body ms_st_body ms_set_body ms_vs ms_st_vs ms_set_vs ms_chs ms_st_chs ms_set_chs zms_len zms_sure zms_lt1 zms_sl zms_ro zms_setz zms_set zms_setr zms_take mss_ltA mss_len natInt u_nthM u_bz u_bi1 u_bi2 u_bi3 u_bi4 u_bi5 u_bi6 u_bi7 bC_length ltO_o ltO_r List.take_length u_eqE
set_option maxHeartbeats 2000000 in
theorem rchanges_s (m : Nat) (x y : Ch) (hz : SzC m x) : plenumref28_Changes m (cgE x) (cgE y) = some (bA (decide (x = y)), []) := by
  have g0 := rStmts_s m x.pf y.pf hz.1 hz.2.1
  have hm1 := hz.2.2.1
  have hm2 := hz.2.2.2.1
  rw [plenumref28_Changes_eq, cg_it, cg_it]
  by_cases h0 : x.fr = y.fr
  rotate_left
  · have hne : ¬ x = y := fun e => h0 (by rw [e])
    simp (config := {maxSteps := 4000000, implicitDefEqProofs := false}) (disch := omega) only [go_sem, ↓reduceIte, Nat.reduceAdd, Nat.reduceSub, Nat.reduceMul, Nat.reduceLeDiff, Nat.reduceLT, Int.reduceEq, Int.reduceNe, Int.reduceLT, Int.reduceLE, Int.reduceAdd, Int.reduceSub, Int.reduceMul, Int.reduceNeg, Int.reduceToNat, reduceCtorEq, Nat.reduceEqDiff, Nat.reduceBEq, Nat.reduceGT, h0, hne, plenumref28_Changes_r5_eq, plenumref28_Changes_r4_eq, plenumref28_Changes_r3_eq, plenumref28_Changes_r2_eq, plenumref28_Changes_r1_eq]
  by_cases h1 : x.vw = y.vw
  rotate_left
  · have hne : ¬ x = y := fun e => h1 (by rw [e])
    simp (config := {maxSteps := 4000000, implicitDefEqProofs := false}) (disch := omega) only [go_sem, ↓reduceIte, Nat.reduceAdd, Nat.reduceSub, Nat.reduceMul, Nat.reduceLeDiff, Nat.reduceLT, Int.reduceEq, Int.reduceNe, Int.reduceLT, Int.reduceLE, Int.reduceAdd, Int.reduceSub, Int.reduceMul, Int.reduceNeg, Int.reduceToNat, reduceCtorEq, Nat.reduceEqDiff, Nat.reduceBEq, Nat.reduceGT, h0, h1, hne, plenumref28_Changes_r5_eq, plenumref28_Changes_r4_eq, plenumref28_Changes_r3_eq, plenumref28_Changes_r2_eq, plenumref28_Changes_r1_eq]
  by_cases h2 : x.st = y.st
  rotate_left
  · have hne : ¬ x = y := fun e => h2 (by rw [e])
    simp (config := {maxSteps := 4000000, implicitDefEqProofs := false}) (disch := omega) only [go_sem, ↓reduceIte, Nat.reduceAdd, Nat.reduceSub, Nat.reduceMul, Nat.reduceLeDiff, Nat.reduceLT, Int.reduceEq, Int.reduceNe, Int.reduceLT, Int.reduceLE, Int.reduceAdd, Int.reduceSub, Int.reduceMul, Int.reduceNeg, Int.reduceToNat, reduceCtorEq, Nat.reduceEqDiff, Nat.reduceBEq, Nat.reduceGT, h0, h1, h2, hne, plenumref28_Changes_r5_eq, plenumref28_Changes_r4_eq, plenumref28_Changes_r3_eq, plenumref28_Changes_r2_eq, plenumref28_Changes_r1_eq]
  by_cases h3 : x.rt = y.rt
  rotate_left
  · have hne : ¬ x = y := fun e => h3 (by rw [e])
    simp (config := {maxSteps := 4000000, implicitDefEqProofs := false}) (disch := omega) only [go_sem, ↓reduceIte, Nat.reduceAdd, Nat.reduceSub, Nat.reduceMul, Nat.reduceLeDiff, Nat.reduceLT, Int.reduceEq, Int.reduceNe, Int.reduceLT, Int.reduceLE, Int.reduceAdd, Int.reduceSub, Int.reduceMul, Int.reduceNeg, Int.reduceToNat, reduceCtorEq, Nat.reduceEqDiff, Nat.reduceBEq, Nat.reduceGT, h0, h1, h2, h3, hne, plenumref28_Changes_r5_eq, plenumref28_Changes_r4_eq, plenumref28_Changes_r3_eq, plenumref28_Changes_r2_eq, plenumref28_Changes_r1_eq]
  by_cases k0 : x.pf = y.pf
  rotate_left
  · have hne : ¬ x = y := fun e => k0 (by rw [e])
    rw [decide_eq_false k0] at g0
    simp (config := {maxSteps := 4000000, implicitDefEqProofs := false}) (disch := omega) only [go_sem, ↓reduceIte, Nat.reduceAdd, Nat.reduceSub, Nat.reduceMul, Nat.reduceLeDiff, Nat.reduceLT, Int.reduceEq, Int.reduceNe, Int.reduceLT, Int.reduceLE, Int.reduceAdd, Int.reduceSub, Int.reduceMul, Int.reduceNeg, Int.reduceToNat, reduceCtorEq, Nat.reduceEqDiff, Nat.reduceBEq, Nat.reduceGT, h0, h1, h2, h3, g0, hne, plenumref28_Changes_r5_eq, plenumref28_Changes_r4_eq, plenumref28_Changes_r3_eq, plenumref28_Changes_r2_eq, plenumref28_Changes_r1_eq]
  rw [decide_eq_true k0] at g0
  by_cases hle : x.cs.length = y.cs.length
  rotate_left
  · have hne : ¬ x = y := fun e => hle (by rw [e])
    have hle' : ¬ (x.cs.length : Int) = (y.cs.length : Int) := by omega
    simp (config := {maxSteps := 4000000, implicitDefEqProofs := false}) (disch := omega) only [go_sem, ↓reduceIte, Nat.reduceAdd, Nat.reduceSub, Nat.reduceMul, Nat.reduceLeDiff, Nat.reduceLT, Int.reduceEq, Int.reduceNe, Int.reduceLT, Int.reduceLE, Int.reduceAdd, Int.reduceSub, Int.reduceMul, Int.reduceNeg, Int.reduceToNat, reduceCtorEq, Nat.reduceEqDiff, Nat.reduceBEq, Nat.reduceGT, h0, h1, h2, h3, g0, hne, hle', plenumref28_Changes_r5_eq, plenumref28_Changes_r4_eq, plenumref28_Changes_r3_eq, plenumref28_Changes_r2_eq, plenumref28_Changes_r1_eq]
  have hle' : (y.cs.length : Int) = (x.cs.length : Int) := by omega
  have e : decide (x = y) = decide (x.cs = y.cs) := by
    apply decide_eq_decide.2
    refine ⟨fun q => by rw [q], fun q => ?_⟩
    cases x; cases y
    dsimp only at *
    simp only [h0, h1, h2, h3, k0, q]
  rw [e]
  simp (config := {maxSteps := 4000000, implicitDefEqProofs := false}) (disch := omega) only [go_sem, ↓reduceIte, Nat.reduceAdd, Nat.reduceSub, Nat.reduceMul, Nat.reduceLeDiff, Nat.reduceLT, Int.reduceEq, Int.reduceNe, Int.reduceLT, Int.reduceLE, Int.reduceAdd, Int.reduceSub, Int.reduceMul, Int.reduceNeg, Int.reduceToNat, reduceCtorEq, Nat.reduceEqDiff, Nat.reduceBEq, Nat.reduceGT, h0, h1, h2, h3, g0, hle', plenumref28_Changes_r5_eq, plenumref28_Changes_r4_eq, plenumref28_Changes_r3_eq, plenumref28_Changes_r2_eq, plenumref28_Changes_r1_eq]
  generalize hg : decide (x.cs = y.cs) = g
  refine iter_go (ι := {k : Nat // k ≤ x.cs.length ∧ decide (x.cs.drop k = y.cs.drop k) = g}) (fun k => ⟨[⟨1, ty_api_Change, 0, cgC x⟩, ⟨1, ty_api_Change, 0, cgC y⟩], [(2, OP 0 0), (3, OP 1 0), (5, nA k.1)]⟩) (fun k => x.cs.length - k.1) (fun _ => some (bA g, [])) ?_ ⟨0, Nat.zero_le _, hg⟩ (by dsimp only; omega)
  clear g0 e hg
  rintro kx hkx ⟨k, hk, hG⟩ kc hkc
  dsimp only at hkc hG ⊢
  rw [plenumref28_Changes_b1_eq]
  by_cases hlt : k < x.cs.length
  rotate_left
  · have hlt' : ¬ (k : Int) < (x.cs.length : Int) := by omega
    have hG2 : true = g := by rw [← hG, List.drop_of_length_le (by omega), List.drop_of_length_le (by omega)]; simp
    subst hG2
    simp (config := {maxSteps := 4000000, implicitDefEqProofs := false}) (disch := omega) only [go_sem, ↓reduceIte, Nat.reduceAdd, Nat.reduceSub, Nat.reduceMul, Nat.reduceLeDiff, Nat.reduceLT, Int.reduceEq, Int.reduceNe, Int.reduceLT, Int.reduceLE, Int.reduceAdd, Int.reduceSub, Int.reduceMul, Int.reduceNeg, Int.reduceToNat, reduceCtorEq, Nat.reduceEqDiff, Nat.reduceBEq, Nat.reduceGT, hlt', hkx, plenumref28_Changes_r5_eq, plenumref28_Changes_r4_eq, plenumref28_Changes_r3_eq, plenumref28_Changes_r2_eq, plenumref28_Changes_r1_eq]
  have hlt' : (k : Int) < (x.cs.length : Int) := by omega
  have hlt2 : k < y.cs.length := by omega
  have hlt3 : (k : Int) < (y.cs.length : Int) := by omega
  have hD := drop_eq_iff hle hlt hlt2
  have no : x.cs[k] ≠ y.cs[k] → false = g := fun hx => by rw [← hG]; symm; apply decide_eq_false; rw [hD]; exact fun q => hx q.1
  obtain ⟨v1, v2⟩ := hz.2.2.2.2 x.cs[k] (List.getElem_mem hlt)
  have g1 := rStmts_s m x.cs[k].vs y.cs[k].vs v1 v2
  generalize hp : x.cs[k] = p at *
  generalize hq : y.cs[k] = q at *
  by_cases d0 : p.sq = q.sq
  rotate_left
  · have hG2 := no (fun e => d0 (by rw [e]))
    subst hG2
    simp (config := {maxSteps := 4000000, implicitDefEqProofs := false}) (disch := omega) only [go_sem, ↓reduceIte, Nat.reduceAdd, Nat.reduceSub, Nat.reduceMul, Nat.reduceLeDiff, Nat.reduceLT, Int.reduceEq, Int.reduceNe, Int.reduceLT, Int.reduceLE, Int.reduceAdd, Int.reduceSub, Int.reduceMul, Int.reduceNeg, Int.reduceToNat, reduceCtorEq, Nat.reduceEqDiff, Nat.reduceBEq, Nat.reduceGT, hlt', hlt3, hp, hq, d0, w_i64, hkx, plenumref28_Changes_r5_eq, plenumref28_Changes_r4_eq, plenumref28_Changes_r3_eq, plenumref28_Changes_r2_eq, plenumref28_Changes_r1_eq]
  by_cases d1 : p.vw = q.vw
  rotate_left
  · have hG2 := no (fun e => d1 (by rw [e]))
    subst hG2
    simp (config := {maxSteps := 4000000, implicitDefEqProofs := false}) (disch := omega) only [go_sem, ↓reduceIte, Nat.reduceAdd, Nat.reduceSub, Nat.reduceMul, Nat.reduceLeDiff, Nat.reduceLT, Int.reduceEq, Int.reduceNe, Int.reduceLT, Int.reduceLE, Int.reduceAdd, Int.reduceSub, Int.reduceMul, Int.reduceNeg, Int.reduceToNat, reduceCtorEq, Nat.reduceEqDiff, Nat.reduceBEq, Nat.reduceGT, hlt', hlt3, hp, hq, d0, d1, w_i64, hkx, plenumref28_Changes_r5_eq, plenumref28_Changes_r4_eq, plenumref28_Changes_r3_eq, plenumref28_Changes_r2_eq, plenumref28_Changes_r1_eq]
  by_cases d2 : p.tm = q.tm
  rotate_left
  · have hG2 := no (fun e => d2 (by rw [e]))
    subst hG2
    simp (config := {maxSteps := 4000000, implicitDefEqProofs := false}) (disch := omega) only [go_sem, ↓reduceIte, Nat.reduceAdd, Nat.reduceSub, Nat.reduceMul, Nat.reduceLeDiff, Nat.reduceLT, Int.reduceEq, Int.reduceNe, Int.reduceLT, Int.reduceLE, Int.reduceAdd, Int.reduceSub, Int.reduceMul, Int.reduceNeg, Int.reduceToNat, reduceCtorEq, Nat.reduceEqDiff, Nat.reduceBEq, Nat.reduceGT, hlt', hlt3, hp, hq, d0, d1, d2, w_i64, hkx, plenumref28_Changes_r5_eq, plenumref28_Changes_r4_eq, plenumref28_Changes_r3_eq, plenumref28_Changes_r2_eq, plenumref28_Changes_r1_eq]
  by_cases d3 : p.body = q.body
  rotate_left
  · have hG2 := no (fun e => d3 (by rw [e]))
    subst hG2
    simp (config := {maxSteps := 4000000, implicitDefEqProofs := false}) (disch := omega) only [go_sem, ↓reduceIte, Nat.reduceAdd, Nat.reduceSub, Nat.reduceMul, Nat.reduceLeDiff, Nat.reduceLT, Int.reduceEq, Int.reduceNe, Int.reduceLT, Int.reduceLE, Int.reduceAdd, Int.reduceSub, Int.reduceMul, Int.reduceNeg, Int.reduceToNat, reduceCtorEq, Nat.reduceEqDiff, Nat.reduceBEq, Nat.reduceGT, hlt', hlt3, hp, hq, d0, d1, d2, d3, w_i64, hkx, plenumref28_Changes_r5_eq, plenumref28_Changes_r4_eq, plenumref28_Changes_r3_eq, plenumref28_Changes_r2_eq, plenumref28_Changes_r1_eq]
  by_cases d4 : p.vs = q.vs
  rotate_left
  · have hG2 := no (fun e => d4 (by rw [e]))
    subst hG2
    rw [decide_eq_false d4] at g1
    simp (config := {maxSteps := 4000000, implicitDefEqProofs := false}) (disch := omega) only [go_sem, ↓reduceIte, Nat.reduceAdd, Nat.reduceSub, Nat.reduceMul, Nat.reduceLeDiff, Nat.reduceLT, Int.reduceEq, Int.reduceNe, Int.reduceLT, Int.reduceLE, Int.reduceAdd, Int.reduceSub, Int.reduceMul, Int.reduceNeg, Int.reduceToNat, reduceCtorEq, Nat.reduceEqDiff, Nat.reduceBEq, Nat.reduceGT, hlt', hlt3, hp, hq, d0, d1, d2, d3, g1, w_i64, hkx, plenumref28_Changes_r5_eq, plenumref28_Changes_r4_eq, plenumref28_Changes_r3_eq, plenumref28_Changes_r2_eq, plenumref28_Changes_r1_eq]
  rw [decide_eq_true d4] at g1
  have hx : p = q := by
    cases p; cases q
    dsimp only at *
    simp only [d0, d1, d2, d3, d4]
  have step := hkc ⟨k + 1, by omega, by rw [← hG]; apply decide_eq_decide.2; rw [hD]; exact ⟨fun q => ⟨hx, q⟩, fun q => q.2⟩⟩ (by dsimp only; omega)
  simp (config := {maxSteps := 4000000, implicitDefEqProofs := false}) (disch := omega) only [go_sem, ↓reduceIte, Nat.reduceAdd, Nat.reduceSub, Nat.reduceMul, Nat.reduceLeDiff, Nat.reduceLT, Int.reduceEq, Int.reduceNe, Int.reduceLT, Int.reduceLE, Int.reduceAdd, Int.reduceSub, Int.reduceMul, Int.reduceNeg, Int.reduceToNat, reduceCtorEq, Nat.reduceEqDiff, Nat.reduceBEq, Nat.reduceGT, hlt', hlt3, hp, hq, d0, d1, d2, d3, g1, w_i64, plenumref28_Changes_r5_eq, plenumref28_Changes_r4_eq, plenumref28_Changes_r3_eq, plenumref28_Changes_r2_eq, plenumref28_Changes_r1_eq]
  exact step
set_option maxHeartbeats 2000000 in
theorem rsame_s (m : Nat) (x y : Ms) (hz : SzM m x) : plenumref28_Same m (msE x) (msE y) = some (bA (decide (x = y)), []) := by
  have g0 := rStmts_s m x.vs y.vs hz.1 hz.2.1
  have hm1 := hz.2.2.1
  have hm2 := hz.2.2.2.1
  rw [plenumref28_Same_eq, ms_it, ms_it]
  by_cases h0 : x.kd = y.kd
  rotate_left
  · have hne : ¬ x = y := fun e => h0 (by rw [e])
    simp (config := {maxSteps := 4000000, implicitDefEqProofs := false}) (disch := omega) only [go_sem, ↓reduceIte, Nat.reduceAdd, Nat.reduceSub, Nat.reduceMul, Nat.reduceLeDiff, Nat.reduceLT, Int.reduceEq, Int.reduceNe, Int.reduceLT, Int.reduceLE, Int.reduceAdd, Int.reduceSub, Int.reduceMul, Int.reduceNeg, Int.reduceToNat, reduceCtorEq, Nat.reduceEqDiff, Nat.reduceBEq, Nat.reduceGT, h0, hne, plenumref28_Same_r3_eq, plenumref28_Same_r2_eq, plenumref28_Same_r1_eq]
  by_cases h1 : x.fr = y.fr
  rotate_left
  · have hne : ¬ x = y := fun e => h1 (by rw [e])
    simp (config := {maxSteps := 4000000, implicitDefEqProofs := false}) (disch := omega) only [go_sem, ↓reduceIte, Nat.reduceAdd, Nat.reduceSub, Nat.reduceMul, Nat.reduceLeDiff, Nat.reduceLT, Int.reduceEq, Int.reduceNe, Int.reduceLT, Int.reduceLE, Int.reduceAdd, Int.reduceSub, Int.reduceMul, Int.reduceNeg, Int.reduceToNat, reduceCtorEq, Nat.reduceEqDiff, Nat.reduceBEq, Nat.reduceGT, h0, h1, hne, plenumref28_Same_r3_eq, plenumref28_Same_r2_eq, plenumref28_Same_r1_eq]
  by_cases h2 : x.vw = y.vw
  rotate_left
  · have hne : ¬ x = y := fun e => h2 (by rw [e])
    simp (config := {maxSteps := 4000000, implicitDefEqProofs := false}) (disch := omega) only [go_sem, ↓reduceIte, Nat.reduceAdd, Nat.reduceSub, Nat.reduceMul, Nat.reduceLeDiff, Nat.reduceLT, Int.reduceEq, Int.reduceNe, Int.reduceLT, Int.reduceLE, Int.reduceAdd, Int.reduceSub, Int.reduceMul, Int.reduceNeg, Int.reduceToNat, reduceCtorEq, Nat.reduceEqDiff, Nat.reduceBEq, Nat.reduceGT, h0, h1, h2, hne, plenumref28_Same_r3_eq, plenumref28_Same_r2_eq, plenumref28_Same_r1_eq]
  by_cases h3 : x.sq = y.sq
  rotate_left
  · have hne : ¬ x = y := fun e => h3 (by rw [e])
    simp (config := {maxSteps := 4000000, implicitDefEqProofs := false}) (disch := omega) only [go_sem, ↓reduceIte, Nat.reduceAdd, Nat.reduceSub, Nat.reduceMul, Nat.reduceLeDiff, Nat.reduceLT, Int.reduceEq, Int.reduceNe, Int.reduceLT, Int.reduceLE, Int.reduceAdd, Int.reduceSub, Int.reduceMul, Int.reduceNeg, Int.reduceToNat, reduceCtorEq, Nat.reduceEqDiff, Nat.reduceBEq, Nat.reduceGT, h0, h1, h2, h3, hne, plenumref28_Same_r3_eq, plenumref28_Same_r2_eq, plenumref28_Same_r1_eq]
  by_cases h4 : x.tm = y.tm
  rotate_left
  · have hne : ¬ x = y := fun e => h4 (by rw [e])
    simp (config := {maxSteps := 4000000, implicitDefEqProofs := false}) (disch := omega) only [go_sem, ↓reduceIte, Nat.reduceAdd, Nat.reduceSub, Nat.reduceMul, Nat.reduceLeDiff, Nat.reduceLT, Int.reduceEq, Int.reduceNe, Int.reduceLT, Int.reduceLE, Int.reduceAdd, Int.reduceSub, Int.reduceMul, Int.reduceNeg, Int.reduceToNat, reduceCtorEq, Nat.reduceEqDiff, Nat.reduceBEq, Nat.reduceGT, h0, h1, h2, h3, h4, hne, plenumref28_Same_r3_eq, plenumref28_Same_r2_eq, plenumref28_Same_r1_eq]
  by_cases h5 : x.body = y.body
  rotate_left
  · have hne : ¬ x = y := fun e => h5 (by rw [e])
    simp (config := {maxSteps := 4000000, implicitDefEqProofs := false}) (disch := omega) only [go_sem, ↓reduceIte, Nat.reduceAdd, Nat.reduceSub, Nat.reduceMul, Nat.reduceLeDiff, Nat.reduceLT, Int.reduceEq, Int.reduceNe, Int.reduceLT, Int.reduceLE, Int.reduceAdd, Int.reduceSub, Int.reduceMul, Int.reduceNeg, Int.reduceToNat, reduceCtorEq, Nat.reduceEqDiff, Nat.reduceBEq, Nat.reduceGT, h0, h1, h2, h3, h4, h5, hne, plenumref28_Same_r3_eq, plenumref28_Same_r2_eq, plenumref28_Same_r1_eq]
  by_cases k0 : x.vs = y.vs
  rotate_left
  · have hne : ¬ x = y := fun e => k0 (by rw [e])
    rw [decide_eq_false k0] at g0
    simp (config := {maxSteps := 4000000, implicitDefEqProofs := false}) (disch := omega) only [go_sem, ↓reduceIte, Nat.reduceAdd, Nat.reduceSub, Nat.reduceMul, Nat.reduceLeDiff, Nat.reduceLT, Int.reduceEq, Int.reduceNe, Int.reduceLT, Int.reduceLE, Int.reduceAdd, Int.reduceSub, Int.reduceMul, Int.reduceNeg, Int.reduceToNat, reduceCtorEq, Nat.reduceEqDiff, Nat.reduceBEq, Nat.reduceGT, h0, h1, h2, h3, h4, h5, g0, hne, plenumref28_Same_r3_eq, plenumref28_Same_r2_eq, plenumref28_Same_r1_eq]
  rw [decide_eq_true k0] at g0
  by_cases hle : x.chs.length = y.chs.length
  rotate_left
  · have hne : ¬ x = y := fun e => hle (by rw [e])
    have hle' : ¬ (x.chs.length : Int) = (y.chs.length : Int) := by omega
    simp (config := {maxSteps := 4000000, implicitDefEqProofs := false}) (disch := omega) only [go_sem, ↓reduceIte, Nat.reduceAdd, Nat.reduceSub, Nat.reduceMul, Nat.reduceLeDiff, Nat.reduceLT, Int.reduceEq, Int.reduceNe, Int.reduceLT, Int.reduceLE, Int.reduceAdd, Int.reduceSub, Int.reduceMul, Int.reduceNeg, Int.reduceToNat, reduceCtorEq, Nat.reduceEqDiff, Nat.reduceBEq, Nat.reduceGT, h0, h1, h2, h3, h4, h5, g0, hne, hle', plenumref28_Same_r3_eq, plenumref28_Same_r2_eq, plenumref28_Same_r1_eq]
  have hle' : (y.chs.length : Int) = (x.chs.length : Int) := by omega
  have e : decide (x = y) = decide (x.chs = y.chs) := by
    apply decide_eq_decide.2
    refine ⟨fun q => by rw [q], fun q => ?_⟩
    cases x; cases y
    dsimp only at *
    simp only [h0, h1, h2, h3, h4, h5, k0, q]
  rw [e]
  simp (config := {maxSteps := 4000000, implicitDefEqProofs := false}) (disch := omega) only [go_sem, ↓reduceIte, Nat.reduceAdd, Nat.reduceSub, Nat.reduceMul, Nat.reduceLeDiff, Nat.reduceLT, Int.reduceEq, Int.reduceNe, Int.reduceLT, Int.reduceLE, Int.reduceAdd, Int.reduceSub, Int.reduceMul, Int.reduceNeg, Int.reduceToNat, reduceCtorEq, Nat.reduceEqDiff, Nat.reduceBEq, Nat.reduceGT, h0, h1, h2, h3, h4, h5, g0, hle', plenumref28_Same_r3_eq, plenumref28_Same_r2_eq, plenumref28_Same_r1_eq]
  generalize hg : decide (x.chs = y.chs) = g
  refine iter_go (ι := {k : Nat // k ≤ x.chs.length ∧ decide (x.chs.drop k = y.chs.drop k) = g}) (fun k => ⟨[⟨1, ty_api_Msg, 0, msC x⟩, ⟨1, ty_api_Msg, 0, msC y⟩], [(2, OP 0 0), (3, OP 1 0), (5, nA k.1)]⟩) (fun k => x.chs.length - k.1) (fun _ => some (bA g, [])) ?_ ⟨0, Nat.zero_le _, hg⟩ (by dsimp only; omega)
  clear g0 e hg
  rintro kx hkx ⟨k, hk, hG⟩ kc hkc
  dsimp only at hkc hG ⊢
  rw [plenumref28_Same_b1_eq]
  by_cases hlt : k < x.chs.length
  rotate_left
  · have hlt' : ¬ (k : Int) < (x.chs.length : Int) := by omega
    have hG2 : true = g := by rw [← hG, List.drop_of_length_le (by omega), List.drop_of_length_le (by omega)]; simp
    subst hG2
    simp (config := {maxSteps := 4000000, implicitDefEqProofs := false}) (disch := omega) only [go_sem, ↓reduceIte, Nat.reduceAdd, Nat.reduceSub, Nat.reduceMul, Nat.reduceLeDiff, Nat.reduceLT, Int.reduceEq, Int.reduceNe, Int.reduceLT, Int.reduceLE, Int.reduceAdd, Int.reduceSub, Int.reduceMul, Int.reduceNeg, Int.reduceToNat, reduceCtorEq, Nat.reduceEqDiff, Nat.reduceBEq, Nat.reduceGT, hlt', hkx, plenumref28_Same_r3_eq, plenumref28_Same_r2_eq, plenumref28_Same_r1_eq]
  have hlt' : (k : Int) < (x.chs.length : Int) := by omega
  have hlt2 : k < y.chs.length := by omega
  have hlt3 : (k : Int) < (y.chs.length : Int) := by omega
  have hD := drop_eq_iff hle hlt hlt2
  have no : x.chs[k] ≠ y.chs[k] → false = g := fun hx => by rw [← hG]; symm; apply decide_eq_false; rw [hD]; exact fun q => hx q.1
  have g1 := rchanges_s m x.chs[k] y.chs[k] (hz.2.2.2.2 x.chs[k] (List.getElem_mem hlt))
  rw [cg_it, cg_it] at g1
  by_cases hx : x.chs[k] = y.chs[k]
  · rw [decide_eq_true hx] at g1
    have step := hkc ⟨k + 1, by omega, by rw [← hG]; apply decide_eq_decide.2; rw [hD]; exact ⟨fun q => ⟨hx, q⟩, fun q => q.2⟩⟩ (by dsimp only; omega)
    simp (config := {maxSteps := 4000000, implicitDefEqProofs := false}) (disch := omega) only [go_sem, ↓reduceIte, Nat.reduceAdd, Nat.reduceSub, Nat.reduceMul, Nat.reduceLeDiff, Nat.reduceLT, Int.reduceEq, Int.reduceNe, Int.reduceLT, Int.reduceLE, Int.reduceAdd, Int.reduceSub, Int.reduceMul, Int.reduceNeg, Int.reduceToNat, reduceCtorEq, Nat.reduceEqDiff, Nat.reduceBEq, Nat.reduceGT, hlt', hlt3, g1, w_i64, plenumref28_Same_r3_eq, plenumref28_Same_r2_eq, plenumref28_Same_r1_eq]
    exact step
  · rw [decide_eq_false hx] at g1
    have hG2 := no hx
    subst hG2
    simp (config := {maxSteps := 4000000, implicitDefEqProofs := false}) (disch := omega) only [go_sem, ↓reduceIte, Nat.reduceAdd, Nat.reduceSub, Nat.reduceMul, Nat.reduceLeDiff, Nat.reduceLT, Int.reduceEq, Int.reduceNe, Int.reduceLT, Int.reduceLE, Int.reduceAdd, Int.reduceSub, Int.reduceMul, Int.reduceNeg, Int.reduceToNat, reduceCtorEq, Nat.reduceEqDiff, Nat.reduceBEq, Nat.reduceGT, hlt', hlt3, g1, w_i64, hkx, plenumref28_Same_r3_eq, plenumref28_Same_r2_eq, plenumref28_Same_r1_eq]
end Go.Proofs.Ytbdbmfifclmpcaa

namespace Go.Proofs.Ytbdbmfifclmpcaa
open Go.RowKit
set_option linter.unusedVariables false
set_option linter.unusedSimpArgs false
set_option maxRecDepth 20000
attribute [local go_sem] Nat.zero_add Nat.add_zero Nat.mul_one Int.toNat_natCast Int.natCast_zero Int.cast_ofNat_Int or_false false_or or_true true_or Nat.sub_zero Int.natCast_nonneg Int.toNat_zero Bool.true_and Bool.and_true Bool.false_and Bool.and_false Bool.true_or Bool.or_true Bool.false_or Bool.or_false Bool.not_true Bool.not_false Bool.not_not true_and and_true false_and and_false not_true_eq_false not_false_eq_true eq_self decide_true decide_false ne_eq implies_true forall_const true_implies false_implies Bool.true_eq_false Bool.false_eq_true List.map_cons List.map_nil List.all_cons List.all_nil List.length_cons List.length_nil List.length_map List.length_append List.nil_append List.cons_append List.set_cons_zero List.set_cons_succ List.set_nil List.drop_zero List.drop_succ_cons List.drop_nil List.take_zero List.take_succ_cons List.take_nil Option.map_some Option.map_none Option.isSome_some List.all_append List.all_map Function.comp_def decide_eq_true_eq Bool.and_eq_true beq_self_eq_true or_self and_self ite_true ite_false Nat.le_refl Bool.not_eq_true decide_not Bool.not_eq_true' decide_eq_false_iff_not Bool.not_eq_false Bool.or_eq_true if_true if_false ite_self u_roF u_cvF u_cvC u_ceT u_ceK u_appS sm_it sm_len sm_sure sm_ltA sm_lt1 sm_all1 sm_ro sm_take sm_sl sm_set sm_noT sm_fr sm_st_fr sm_set_fr sm_kd sm_st_kd sm_set_kd sm_vw sm_st_vw sm_set_vw sm_sq sm_st_sq sm_set_sq sm_tm sm_st_tm sm_set_tm zsm_len zsm_sure zsm_lt1 zsm_sl zsm_ro zsm_setz zsm_set zsm_setr zsm_take sms_ltA sms_len ce_it ce_len ce_sure ce_ltA ce_lt1 ce_all1 ce_ro ce_take ce_sl ce_set ce_noT ce_sq ce_st_sq ce_set_sq ce_vw ce_st_vw ce_set_vw ce_tm ce_st_tm ce_set_tm ce_body ce_st_body ce_set_body ce_vs ce_st_vs ce_set_vs zce_len zce_sure zce_lt1 zce_sl zce_ro zce_setz zce_set zce_setr zce_take ces_ltA ces_len cg_it cg_len cg_sure cg_ltA cg_lt1 cg_all1 cg_ro cg_take cg_sl cg_set cg_noT cg_fr cg_st_fr cg_set_fr cg_vw cg_st_vw cg_set_vw cg_st cg_st_st cg_set_st cg_rt cg_st_rt cg_set_rt cg_pf cg_st_pf cg_set_pf cg_cs cg_st_cs cg_set_cs zcg_len zcg_sure zcg_lt1 zcg_sl zcg_ro zcg_setz zcg_set zcg_setr zcg_take cgs_ltA cgs_len ms_it ms_len ms_sure ms_ltA ms_lt1 ms_all1 ms_ro ms_take ms_sl ms_set ms_noT ms_kd ms_st_kd ms_set_kd ms_fr ms_st_fr ms_set_fr ms_vw ms_st_vw ms_set_vw ms_sq ms_st_sq ms_set_sq ms_tm ms_st_tm ms_set_tm ms_body ms_st_body ms_set_body ms_vs ms_st_vs ms_set_vs ms_chs ms_st_chs ms_set_chs zms_len zms_sure zms_lt1 zms_sl zms_ro zms_setz zms_set zms_setr zms_take mss_ltA mss_len natInt u_nthM u_bz u_bi1 u_bi2 u_bi3 u_bi4 u_bi5 u_bi6 u_bi7 bC_length ltO_o ltO_r List.take_length u_eqE
def txF (s : List UInt8) : List UInt8 := if 3000 < s.length ∧ s.length ≤ 65536 then s.take 3000 else if 65540 < s.length then s.take 65540 else s
def ceF (x : Ce) : Ce := { x with body := txF x.body, vs := x.vs.take 66 }
def cgF (x : Ch) : Ch := { x with pf := x.pf.take 66, cs := (x.cs.take 66).map ceF }
def msF (x : Ms) : Ms := { x with body := txF x.body, vs := x.vs.take 66, chs := (x.chs.take 66).map cgF }
theorem ltext_s (m : Nat) (s : List UInt8) (h : s.length ≤ 9223372036854775807) : plenumlaw28_text m (sA s) = some (sA (txF s), []) := by
  rw [plenumlaw28_text_eq]
  unfold txF
  by_cases h1 : 3000 < s.length
  · have h1' : (s.length : Int) > 3000 := by omega
    by_cases h2 : s.length ≤ 65536
    · have h2' : (s.length : Int) ≤ 65536 := by omega
      have h3' : (3000 : Int) ≤ (s.length : Int) := by omega
      simp (config := {maxSteps := 4000000, implicitDefEqProofs := false}) (disch := omega) only [go_sem, ↓reduceIte, Nat.reduceAdd, Nat.reduceSub, Nat.reduceMul, Nat.reduceLeDiff, Nat.reduceLT, Int.reduceEq, Int.reduceNe, Int.reduceLT, Int.reduceLE, Int.reduceAdd, Int.reduceSub, Int.reduceMul, Int.reduceNeg, Int.reduceToNat, reduceCtorEq, Nat.reduceEqDiff, Nat.reduceBEq, Nat.reduceGT, h1, h2, h1', h2', h3', plenumlaw28_text_r2_eq, plenumlaw28_text_r1_eq]
    · have h2' : ¬ (s.length : Int) ≤ 65536 := by omega
      by_cases h4 : 65540 < s.length
      · have h4' : (s.length : Int) > 65540 := by omega
        have h3' : (65540 : Int) ≤ (s.length : Int) := by omega
        simp (config := {maxSteps := 4000000, implicitDefEqProofs := false}) (disch := omega) only [go_sem, ↓reduceIte, Nat.reduceAdd, Nat.reduceSub, Nat.reduceMul, Nat.reduceLeDiff, Nat.reduceLT, Int.reduceEq, Int.reduceNe, Int.reduceLT, Int.reduceLE, Int.reduceAdd, Int.reduceSub, Int.reduceMul, Int.reduceNeg, Int.reduceToNat, reduceCtorEq, Nat.reduceEqDiff, Nat.reduceBEq, Nat.reduceGT, h1, h2, h1', h2', h4, h4', h3', plenumlaw28_text_r2_eq, plenumlaw28_text_r1_eq]
      · have h4' : ¬ (s.length : Int) > 65540 := by omega
        simp (config := {maxSteps := 4000000, implicitDefEqProofs := false}) (disch := omega) only [go_sem, ↓reduceIte, Nat.reduceAdd, Nat.reduceSub, Nat.reduceMul, Nat.reduceLeDiff, Nat.reduceLT, Int.reduceEq, Int.reduceNe, Int.reduceLT, Int.reduceLE, Int.reduceAdd, Int.reduceSub, Int.reduceMul, Int.reduceNeg, Int.reduceToNat, reduceCtorEq, Nat.reduceEqDiff, Nat.reduceBEq, Nat.reduceGT, h1, h2, h1', h2', h4, h4', plenumlaw28_text_r2_eq, plenumlaw28_text_r1_eq]
  · have h1' : ¬ (s.length : Int) > 3000 := by omega
    have h4 : ¬ 65540 < s.length := by omega
    have h4' : ¬ (s.length : Int) > 65540 := by omega
    simp (config := {maxSteps := 4000000, implicitDefEqProofs := false}) (disch := omega) only [go_sem, ↓reduceIte, Nat.reduceAdd, Nat.reduceSub, Nat.reduceMul, Nat.reduceLeDiff, Nat.reduceLT, Int.reduceEq, Int.reduceNe, Int.reduceLT, Int.reduceLE, Int.reduceAdd, Int.reduceSub, Int.reduceMul, Int.reduceNeg, Int.reduceToNat, reduceCtorEq, Nat.reduceEqDiff, Nat.reduceBEq, Nat.reduceGT, h1, h1', h4, h4', plenumlaw28_text_r2_eq, plenumlaw28_text_r1_eq]
theorem cutM {α : Type} {f : α → AV} {l : List α} {n : Nat} : cutE (l.map f) 0 n = (l.take n).map f := by
  unfold cutE
  simp [List.map_take]
theorem cutM66 {α : Type} {f : α → AV} {l : List α} : cutE (l.map f) 0 66 = (l.take 66).map f := cutM (n := 66)
theorem lstmts_s (m : Nat) (l : List Sm) (h : l.length ≤ 9223372036854775807) : plenumlaw28_stmts m (SL (l.map smE)) = some (SL ((l.take 66).map smE), []) := by
  rw [plenumlaw28_stmts_eq]
  by_cases h1 : 66 < l.length
  · have h1' : (l.length : Int) > 66 := by omega
    have h3' : (66 : Int) ≤ (l.length : Int) := by omega
    simp (config := {maxSteps := 4000000, implicitDefEqProofs := false}) (disch := omega) only [go_sem, ↓reduceIte, Nat.reduceAdd, Nat.reduceSub, Nat.reduceMul, Nat.reduceLeDiff, Nat.reduceLT, Int.reduceEq, Int.reduceNe, Int.reduceLT, Int.reduceLE, Int.reduceAdd, Int.reduceSub, Int.reduceMul, Int.reduceNeg, Int.reduceToNat, reduceCtorEq, Nat.reduceEqDiff, Nat.reduceBEq, Nat.reduceGT, h1', h3', cutM66]
  · have h1' : ¬ (l.length : Int) > 66 := by omega
    rw [List.take_of_length_le (show l.length ≤ 66 by omega)]
    simp (config := {maxSteps := 4000000, implicitDefEqProofs := false}) (disch := omega) only [go_sem, ↓reduceIte, Nat.reduceAdd, Nat.reduceSub, Nat.reduceMul, Nat.reduceLeDiff, Nat.reduceLT, Int.reduceEq, Int.reduceNe, Int.reduceLT, Int.reduceLE, Int.reduceAdd, Int.reduceSub, Int.reduceMul, Int.reduceNeg, Int.reduceToNat, reduceCtorEq, Nat.reduceEqDiff, Nat.reduceBEq, Nat.reduceGT, h1']
theorem ceF_it {x : Ce} : ceC ⟨x.sq, x.vw, x.tm, txF x.body, x.vs.take 66⟩ = ceC (ceF x) := rfl
theorem ro1_2 {A0 A1 : AObj} {e z m : Nat} {c : List AV} {Y : List AObj} : ro1 (A0 :: A1 :: ⟨2, e, z, c⟩ :: Y) (OW 2 m) = if m = c.length then SL c else OW 2 m := by simp [ro1]
theorem fewC1 (m : Nat) (x0 x1 x2 x3 : Int) (pf : List Sm) (cs : List Ce) (hm : 70 < m) (hc : cs.length ≤ 66) (hv : ∀ y ∈ cs, y.body.length ≤ 9223372036854775807 ∧ y.vs.length ≤ 9223372036854775807) :
    plenumlaw28_FewChange_r1 m ⟨[⟨1, ty_api_Change, 0, [nA x0, nA x1, nA x2, nA x3, SL (pf.map smE), SL (cs.map ceE)]⟩, ⟨1, ty_api_Change, 0, zc_api_Change⟩], [(1, OP 0 0), (2, OP 1 0)]⟩ = some (.agg (cgC ⟨x0, x1, x2, x3, pf, cs.map ceF⟩), []) := by
  rw [plenumlaw28_FewChange_r1_eq, cgC_it]
  simp (config := {maxSteps := 4000000, implicitDefEqProofs := false}) (disch := omega) only [go_sem, ↓reduceIte, Nat.reduceAdd, Nat.reduceSub, Nat.reduceMul, Nat.reduceLeDiff, Nat.reduceLT, Int.reduceEq, Int.reduceNe, Int.reduceLT, Int.reduceLE, Int.reduceAdd, Int.reduceSub, Int.reduceMul, Int.reduceNeg, Int.reduceToNat, reduceCtorEq, Nat.reduceEqDiff, Nat.reduceBEq, Nat.reduceGT]
  refine iter_go (m := m) (ι := {k : Nat // k ≤ cs.length}) (fun k => ⟨[⟨1, ty_api_Change, 0, [nA x0, nA x1, nA x2, nA x3, SL (pf.map smE), SL (cs.map ceE)]⟩, ⟨1, ty_api_Change, 0, zc_api_Change⟩, ⟨2, ty_api_Cert, 5, ((cs.take k.1).map ceF).map ceE⟩], [(1, OP 0 0), (2, OP 1 0), (3, OW 2 k.1), (4, nA k.1)]⟩) (fun k => cs.length - k.1) (fun _ => some (DataW.agg [nA x0, nA x1, nA x2, nA x3, SL (pf.map smE), SL ((cs.map ceF).map ceE)], [])) ?_ ⟨0, Nat.zero_le _⟩ (by dsimp only; omega)
  rintro kx hkx ⟨k, hk⟩ kc hkc
  dsimp only at hkc ⊢
  rw [plenumlaw28_FewChange_b1_eq]
  have hxs : ∀ n, (((cs.take k).map ceF).map ceE).all (ltA n) = true := fun n => by rw [List.all_map]; exact ces_ltA
  have hlen : (((cs.take k).map ceF).map ceE).length = k := by simp; omega
  by_cases hlt : k < cs.length
  · have hlt' : (k : Int) < (cs.length : Int) := by omega
    obtain ⟨v1, v2⟩ := hv cs[k] (List.getElem_mem hlt)
    have g1 := ltext_s m cs[k].body v1
    have g2 := lstmts_s m cs[k].vs v2
    have step := hkc ⟨k + 1, by omega⟩ (by dsimp only; omega)
    dsimp only at step
    rw [List.take_succ_eq_append_getElem hlt] at step
    simp only [List.map_append, List.map_cons, List.map_nil, ce_it] at step
    generalize hX : ((cs.take k).map ceF).map ceE = XS at *
    have hroom : k + 1 ≤ 34359738368 := by omega
    simp (config := {maxSteps := 4000000, implicitDefEqProofs := false}) (disch := omega) only [go_sem, ↓reduceIte, Nat.reduceAdd, Nat.reduceSub, Nat.reduceMul, Nat.reduceLeDiff, Nat.reduceLT, Int.reduceEq, Int.reduceNe, Int.reduceLT, Int.reduceLE, Int.reduceAdd, Int.reduceSub, Int.reduceMul, Int.reduceNeg, Int.reduceToNat, reduceCtorEq, Nat.reduceEqDiff, Nat.reduceBEq, Nat.reduceGT, hlt', g1, g2, ceF_it, hxs, hlen, hroom, w_i64, plenumlaw28_FewChange_r2_eq, plenumlaw28_FewChange_r1_eq]
    exact step
  · obtain rfl : k = cs.length := by omega
    have hlt' : ¬ (cs.length : Int) < (cs.length : Int) := Int.lt_irrefl _
    have hk2 : cs.take cs.length = cs := List.take_of_length_le (Nat.le_refl _)
    rw [hk2] at hxs ⊢
    simp (config := {maxSteps := 4000000, implicitDefEqProofs := false}) (disch := omega) only [go_sem, ↓reduceIte, Nat.reduceAdd, Nat.reduceSub, Nat.reduceMul, Nat.reduceLeDiff, Nat.reduceLT, Int.reduceEq, Int.reduceNe, Int.reduceLT, Int.reduceLE, Int.reduceAdd, Int.reduceSub, Int.reduceMul, Int.reduceNeg, Int.reduceToNat, reduceCtorEq, Nat.reduceEqDiff, Nat.reduceBEq, Nat.reduceGT, hlt', hkx, hxs, zcg_sete, ro1_2, plenumlaw28_FewChange_r2_eq, plenumlaw28_FewChange_r1_eq]
theorem fewChange_s (m : Nat) (x : Ch) (hm : 70 < m) (hp : x.pf.length ≤ 9223372036854775807) (hc : x.cs.length ≤ 9223372036854775807) (hv : ∀ y ∈ x.cs, y.body.length ≤ 9223372036854775807 ∧ y.vs.length ≤ 9223372036854775807) : plenumlaw28_FewChange m (cgE x) = some (cgE (cgF x), []) := by
  obtain ⟨x0, x1, x2, x3, pf, cs⟩ := x
  dsimp only at hp hc hv
  have g1 := lstmts_s m pf hp
  rw [plenumlaw28_FewChange_eq, cg_it, cg_it, cgC_it]
  unfold cgF
  dsimp only
  by_cases h1 : 66 < cs.length
  · have h1' : (cs.length : Int) > 66 := by omega
    have h3' : (66 : Int) ≤ (cs.length : Int) := by omega
    have hF := fewC1 m x0 x1 x2 x3 (pf.take 66) (cs.take 66) hm (by simp; omega) (fun y hy => hv y (List.mem_of_mem_take hy))
    simp (config := {maxSteps := 4000000, implicitDefEqProofs := false}) (disch := omega) only [go_sem, ↓reduceIte, Nat.reduceAdd, Nat.reduceSub, Nat.reduceMul, Nat.reduceLeDiff, Nat.reduceLT, Int.reduceEq, Int.reduceNe, Int.reduceLT, Int.reduceLE, Int.reduceAdd, Int.reduceSub, Int.reduceMul, Int.reduceNeg, Int.reduceToNat, reduceCtorEq, Nat.reduceEqDiff, Nat.reduceBEq, Nat.reduceGT, g1, h1', h3', cutM66, hF]
  · have h1' : ¬ (cs.length : Int) > 66 := by omega
    have hF := fewC1 m x0 x1 x2 x3 (pf.take 66) cs hm (by omega) hv
    rw [List.take_of_length_le (show cs.length ≤ 66 by omega)]
    simp (config := {maxSteps := 4000000, implicitDefEqProofs := false}) (disch := omega) only [go_sem, ↓reduceIte, Nat.reduceAdd, Nat.reduceSub, Nat.reduceMul, Nat.reduceLeDiff, Nat.reduceLT, Int.reduceEq, Int.reduceNe, Int.reduceLT, Int.reduceLE, Int.reduceAdd, Int.reduceSub, Int.reduceMul, Int.reduceNeg, Int.reduceToNat, reduceCtorEq, Nat.reduceEqDiff, Nat.reduceBEq, Nat.reduceGT, g1, h1', hF]
def BigC (x : Ch) : Prop := x.pf.length ≤ 9223372036854775807 ∧ x.cs.length ≤ 9223372036854775807 ∧ ∀ y ∈ x.cs, y.body.length ≤ 9223372036854775807 ∧ y.vs.length ≤ 9223372036854775807
def BigM (x : Ms) : Prop := x.body.length ≤ 9223372036854775807 ∧ x.vs.length ≤ 9223372036854775807 ∧ x.chs.length ≤ 9223372036854775807 ∧ ∀ y ∈ x.chs, BigC y
theorem fewM1 (m : Nat) (x0 x1 x2 x3 x4 : Int) (x5 : List UInt8) (x6 : List Sm) (cs : List Ch) (hm : 70 < m) (hc : cs.length ≤ 66) (hv : ∀ y ∈ cs, BigC y) :
    plenumlaw28_Few_r1 m ⟨[⟨1, ty_api_Msg, 0, [nA x0, nA x1, nA x2, nA x3, nA x4, sA x5, SL (x6.map smE), SL (cs.map cgE)]⟩, ⟨1, ty_api_Msg, 0, zc_api_Msg⟩], [(1, OP 0 0), (2, OP 1 0)]⟩ = some (.agg (msC ⟨x0, x1, x2, x3, x4, x5, x6, cs.map cgF⟩), []) := by
  rw [plenumlaw28_Few_r1_eq, msC_it]
  simp (config := {maxSteps := 4000000, implicitDefEqProofs := false}) (disch := omega) only [go_sem, ↓reduceIte, Nat.reduceAdd, Nat.reduceSub, Nat.reduceMul, Nat.reduceLeDiff, Nat.reduceLT, Int.reduceEq, Int.reduceNe, Int.reduceLT, Int.reduceLE, Int.reduceAdd, Int.reduceSub, Int.reduceMul, Int.reduceNeg, Int.reduceToNat, reduceCtorEq, Nat.reduceEqDiff, Nat.reduceBEq, Nat.reduceGT]
  refine iter_go (m := m) (ι := {k : Nat // k ≤ cs.length}) (fun k => ⟨[⟨1, ty_api_Msg, 0, [nA x0, nA x1, nA x2, nA x3, nA x4, sA x5, SL (x6.map smE), SL (cs.map cgE)]⟩, ⟨1, ty_api_Msg, 0, zc_api_Msg⟩, ⟨2, ty_api_Change, 6, ((cs.take k.1).map cgF).map cgE⟩], [(1, OP 0 0), (2, OP 1 0), (3, OW 2 k.1), (4, nA k.1)]⟩) (fun k => cs.length - k.1) (fun _ => some (DataW.agg [nA x0, nA x1, nA x2, nA x3, nA x4, sA x5, SL (x6.map smE), SL ((cs.map cgF).map cgE)], [])) ?_ ⟨0, Nat.zero_le _⟩ (by dsimp only; omega)
  rintro kx hkx ⟨k, hk⟩ kc hkc
  dsimp only at hkc ⊢
  rw [plenumlaw28_Few_b1_eq]
  have hxs : ∀ n, (((cs.take k).map cgF).map cgE).all (ltA n) = true := fun n => by rw [List.all_map]; exact cgs_ltA
  have hlen : (((cs.take k).map cgF).map cgE).length = k := by simp; omega
  by_cases hlt : k < cs.length
  · have hlt' : (k : Int) < (cs.length : Int) := by omega
    obtain ⟨v1, v2, v3⟩ := hv cs[k] (List.getElem_mem hlt)
    have g1 := fewChange_s m cs[k] hm v1 v2 v3
    rw [cg_it, cg_it] at g1
    have step := hkc ⟨k + 1, by omega⟩ (by dsimp only; omega)
    dsimp only at step
    rw [List.take_succ_eq_append_getElem hlt] at step
    simp only [List.map_append, List.map_cons, List.map_nil, cg_it] at step
    generalize hX : ((cs.take k).map cgF).map cgE = XS at *
    have hroom : k + 1 ≤ 34359738368 := by omega
    simp (config := {maxSteps := 4000000, implicitDefEqProofs := false}) (disch := omega) only [go_sem, ↓reduceIte, Nat.reduceAdd, Nat.reduceSub, Nat.reduceMul, Nat.reduceLeDiff, Nat.reduceLT, Int.reduceEq, Int.reduceNe, Int.reduceLT, Int.reduceLE, Int.reduceAdd, Int.reduceSub, Int.reduceMul, Int.reduceNeg, Int.reduceToNat, reduceCtorEq, Nat.reduceEqDiff, Nat.reduceBEq, Nat.reduceGT, hlt', g1, hxs, hlen, hroom, w_i64, plenumlaw28_Few_r2_eq, plenumlaw28_Few_r1_eq]
    exact step
  · obtain rfl : k = cs.length := by omega
    have hlt' : ¬ (cs.length : Int) < (cs.length : Int) := Int.lt_irrefl _
    have hk2 : cs.take cs.length = cs := List.take_of_length_le (Nat.le_refl _)
    rw [hk2] at hxs ⊢
    simp (config := {maxSteps := 4000000, implicitDefEqProofs := false}) (disch := omega) only [go_sem, ↓reduceIte, Nat.reduceAdd, Nat.reduceSub, Nat.reduceMul, Nat.reduceLeDiff, Nat.reduceLT, Int.reduceEq, Int.reduceNe, Int.reduceLT, Int.reduceLE, Int.reduceAdd, Int.reduceSub, Int.reduceMul, Int.reduceNeg, Int.reduceToNat, reduceCtorEq, Nat.reduceEqDiff, Nat.reduceBEq, Nat.reduceGT, hlt', hkx, hxs, zms_sete, ro1_2, plenumlaw28_Few_r2_eq, plenumlaw28_Few_r1_eq]
theorem few_s (m : Nat) (x : Ms) (hm : 70 < m) (hz : BigM x) : plenumlaw28_Few m (msE x) = some (msE (msF x), []) := by
  obtain ⟨x0, x1, x2, x3, x4, x5, x6, cs⟩ := x
  obtain ⟨z1, z2, z3, z4⟩ := hz
  dsimp only at z1 z2 z3 z4
  have g0 := ltext_s m x5 z1
  have g1 := lstmts_s m x6 z2
  rw [plenumlaw28_Few_eq, ms_it, ms_it, msC_it]
  unfold msF
  dsimp only
  by_cases h1 : 66 < cs.length
  · have h1' : (cs.length : Int) > 66 := by omega
    have h3' : (66 : Int) ≤ (cs.length : Int) := by omega
    have hF := fewM1 m x0 x1 x2 x3 x4 (txF x5) (x6.take 66) (cs.take 66) hm (by simp; omega) (fun y hy => z4 y (List.mem_of_mem_take hy))
    simp (config := {maxSteps := 4000000, implicitDefEqProofs := false}) (disch := omega) only [go_sem, ↓reduceIte, Nat.reduceAdd, Nat.reduceSub, Nat.reduceMul, Nat.reduceLeDiff, Nat.reduceLT, Int.reduceEq, Int.reduceNe, Int.reduceLT, Int.reduceLE, Int.reduceAdd, Int.reduceSub, Int.reduceMul, Int.reduceNeg, Int.reduceToNat, reduceCtorEq, Nat.reduceEqDiff, Nat.reduceBEq, Nat.reduceGT, g0, g1, h1', h3', cutM66, hF]
  · have h1' : ¬ (cs.length : Int) > 66 := by omega
    have hF := fewM1 m x0 x1 x2 x3 x4 (txF x5) (x6.take 66) cs hm (by omega) z4
    rw [List.take_of_length_le (show cs.length ≤ 66 by omega)]
    simp (config := {maxSteps := 4000000, implicitDefEqProofs := false}) (disch := omega) only [go_sem, ↓reduceIte, Nat.reduceAdd, Nat.reduceSub, Nat.reduceMul, Nat.reduceLeDiff, Nat.reduceLT, Int.reduceEq, Int.reduceNe, Int.reduceLT, Int.reduceLE, Int.reduceAdd, Int.reduceSub, Int.reduceMul, Int.reduceNeg, Int.reduceToNat, reduceCtorEq, Nat.reduceEqDiff, Nat.reduceBEq, Nat.reduceGT, g0, g1, h1', hF]
theorem few_sz (m : Nat) (x : Ms) (hm : 1000 < m) : SzM m (msF x) := by
  unfold msF SzM
  refine ⟨by simp; omega, by simp; omega, by simp; omega, by simp; omega, fun y hy => ?_⟩
  obtain ⟨z, _, rfl⟩ := List.mem_map.1 hy
  unfold cgF SzC
  refine ⟨by simp; omega, by simp; omega, by simp; omega, by simp; omega, fun y hy => ?_⟩
  obtain ⟨z, _, rfl⟩ := List.mem_map.1 hy
  unfold ceF
  exact ⟨by simp; omega, by simp; omega⟩
end Go.Proofs.Ytbdbmfifclmpcaa

namespace Go.Proofs.Ytbdbmfifclmpcaa
theorem toNat_of (n : Nat) (h : n < 256) : (UInt8.ofNat n).toNat = n := by simp; omega
theorem cutG_put (tail : List UInt8) (v : Nat) : ∀ i, i ≤ 9 → (i = 0 ∨ 0 < v) → v * 128 ^ i < 18446744073709551616 → cutG i (put v ++ tail) = (v, (put v).length, 0) := by
  induction v using Nat.strongRecOn with
  | _ v ih =>
    intro i hi hv h64
    by_cases hlt : v < 128
    · rw [put_lt v hlt]
      have e := toNat_of v (by omega)
      have := cutG_last i (UInt8.ofNat v) tail (by
        rw [e]; rintro ⟨rfl, h1⟩
        have e9 : (128 : Nat) ^ 9 = 9223372036854775808 := by decide
        rw [e9] at h64; omega) (by omega) (by omega)
      simpa [e] using this
    · have hp := pow128_pos i
      have hi8 : i ≤ 8 := by
        by_cases h9 : i = 9
        · subst h9
          have e9 : (128 : Nat) ^ 9 = 9223372036854775808 := by decide
          rw [e9] at h64; omega
        · omega
      rw [put_ge v (by omega)]
      have e := toNat_of (v % 128 + 128) (by omega)
      have h128 : v / 128 * 128 ^ (i + 1) ≤ v * 128 ^ i := by
        rw [Nat.pow_succ, Nat.mul_comm (128 ^ i), ← Nat.mul_assoc]
        exact Nat.mul_le_mul_right _ (Nat.div_mul_le_self v 128)
      have hr := ih (v / 128) (by omega) (i + 1) (by omega) (.inr (by omega)) (by omega)
      rw [List.cons_append, cutG, e, if_neg (by omega), if_pos (by omega), hr, if_pos rfl]
      refine Prod.ext ?_ (Prod.ext ?_ rfl)
      · simp only; omega
      · simp
theorem cut_put (v : Nat) (h : v < 18446744073709551616) (tail : List UInt8) : cut (put v ++ tail) = (v, (put v).length, 0) := cutG_put tail v 0 (by omega) (.inl rfl) (by omega)
theorem put_cutG : ∀ (l : List UInt8) (i : Nat), (cutG i l).2.2 = 0 → put (cutG i l).1 = l.take (cutG i l).2.1 ∧ (i = 0 ∨ 0 < (cutG i l).1)
  | [], i, h => by simp [cutG] at h
  | c :: r, i, h => by
    have hc := c.toNat_lt
    rw [cutG] at h ⊢
    split
    · rename_i h1; rw [if_pos h1] at h; simp at h
    · rename_i h1; rw [if_neg h1] at h
      split
      · rename_i h2; rw [if_pos h2] at h
        split
        · rename_i h3
          obtain ⟨hp, hpos⟩ := put_cutG r (i + 1) h3
          have hv : 0 < (cutG (i + 1) r).1 := by omega
          generalize cutG (i + 1) r = x at *
          refine ⟨?_, .inr (by simp only; omega)⟩
          simp only
          rw [put_ge _ (by omega), show (x.1 * 128 + c.toNat % 128) / 128 = x.1 from by omega, hp, show (x.1 * 128 + c.toNat % 128) % 128 + 128 = c.toNat from by omega]
          simp
        · rename_i h3; rw [if_neg h3] at h; exact absurd h h3
      · rename_i h2; rw [if_neg h2] at h
        split
        · rename_i h3; rw [if_pos h3] at h; simp at h
        · rename_i h3
          refine ⟨?_, by simp only; omega⟩
          simp only
          rw [put_lt _ (by omega)]
          simp
end Go.Proofs.Ytbdbmfifclmpcaa

namespace Go.Proofs.Ytbdbmfifclmpcaa
open Go.RowKit
set_option linter.unusedVariables false
theorem drop_at {b p suf : List UInt8} {a : Nat} (h : b.drop a = p ++ suf) : b.drop (a + p.length) = suf := by
  rw [← List.drop_drop, h, List.drop_left]
theorem num_at {b suf : List UInt8} {a v most : Nat} (h : b.drop a = put v ++ suf) (hv : v ≤ most) (h64 : v < 18446744073709551616) : numR b most a = .ok v (a + (put v).length) := by
  unfold numR
  rw [h, cut_put v h64 suf]
  dsimp only
  rw [if_pos rfl, if_neg (by omega)]
theorem int_at {b suf : List UInt8} {a most : Nat} {i : Int} (h : b.drop a = put i.toNat ++ suf) (h0 : 0 ≤ i) (hv : i ≤ most) (h64 : i < 9223372036854775808) : intR b most a = .ok i (a + (put i.toNat).length) := by
  unfold intR
  rw [num_at h (by omega) (by omega)]
  show RdO.ok ((i.toNat : Nat) : Int) _ = _
  rw [Int.toNat_of_nonneg h0]
theorem numB_ok {v : Int} (h : numB v = true) : 0 ≤ v ∧ v ≤ 2147483647 := by
  unfold numB at h
  simpa [Bool.and_eq_true] using h
theorem parB_ok {v : Int} (h : parB v = true) : 0 ≤ v ∧ v ≤ 63 := by
  unfold parB at h
  simpa [Bool.and_eq_true] using h
theorem i32_at {b suf : List UInt8} {a : Nat} {i : Int} (h : b.drop a = put i.toNat ++ suf) (hi : numB i = true) : intR b 2147483647 a = .ok i (a + (put i.toNat).length) := by
  obtain ⟨h0, h1⟩ := numB_ok hi
  exact int_at h h0 (by omega) (by omega)
theorem i63_at {b suf : List UInt8} {a : Nat} {i : Int} (h : b.drop a = put i.toNat ++ suf) (hi : parB i = true) : intR b 63 a = .ok i (a + (put i.toNat).length) := by
  obtain ⟨h0, h1⟩ := parB_ok hi
  exact int_at h h0 (by omega) (by omega)
theorem stmt_at {b suf : List UInt8} {a : Nat} {x : Sm} (h : b.drop a = encSm x ++ suf) (hx : smB x = true) : stmtR b a = .ok x (a + (encSm x).length) := by
  obtain ⟨x0, x1, x2, x3, x4⟩ := x
  unfold smB at hx
  simp only [Bool.and_eq_true, List.all_cons, List.all_nil, Bool.and_true] at hx
  obtain ⟨h0, h1, h2, h3, h4⟩ := hx
  unfold encSm at h ⊢
  simp only [putsL_cons, putsL_nil, List.append_nil, List.append_assoc] at h
  unfold stmtR
  rw [i63_at h h0]
  have h := drop_at h
  show RdO.bind (intR b _ _) _ = _
  rw [i32_at h h1]
  have h := drop_at h
  show RdO.bind (intR b _ _) _ = _
  rw [i32_at h h2]
  have h := drop_at h
  show RdO.bind (intR b _ _) _ = _
  rw [i32_at h h3]
  have h := drop_at h
  show RdO.bind (intR b _ _) _ = _
  rw [i32_at h h4]
  show RdO.ok _ _ = RdO.ok _ _
  simp only [putsL_cons, putsL_nil, List.append_nil, List.length_append, Nat.add_assoc]
theorem loop_at {α : Type} {b : List UInt8} {one : Nat → RdO α} {enc : α → List UInt8} {ok : α → Bool} (ho : ∀ (a : Nat) (x : α) (suf : List UInt8), b.drop a = enc x ++ suf → ok x = true → one a = .ok x (a + (enc x).length)) : ∀ (l : List α) (a : Nat) (suf : List UInt8), b.drop a = l.flatMap enc ++ suf → l.all ok = true → loopR one l.length a = .ok l (a + (l.flatMap enc).length)
  | [], a, suf, h, hl => rfl
  | x :: l, a, suf, h, hl => by
    rw [List.all_cons, Bool.and_eq_true] at hl
    rw [List.flatMap_cons, List.append_assoc] at h
    show RdO.bind (one a) _ = _
    rw [ho a x _ h hl.1]
    show RdO.bind (loopR one l.length _) _ = _
    rw [loop_at ho l _ suf (drop_at h) hl.2]
    show RdO.ok _ _ = RdO.ok _ _
    rw [List.flatMap_cons, List.length_append, Nat.add_assoc]
theorem some_at {α : Type} {b : List UInt8} {one : Nat → RdO α} {enc : α → List UInt8} {ok : α → Bool} (ho : ∀ (a : Nat) (x : α) (suf : List UInt8), b.drop a = enc x ++ suf → ok x = true → one a = .ok x (a + (enc x).length)) {l : List α} {a : Nat} {suf : List UInt8} (h : b.drop a = put l.length ++ l.flatMap enc ++ suf) (h64 : l.length ≤ 64) (hl : l.all ok = true) : someR b one a = .ok l (a + (put l.length ++ l.flatMap enc).length) := by
  rw [List.append_assoc] at h
  unfold someR
  rw [num_at h h64 (by omega)]
  show loopR one l.length _ = _
  rw [loop_at ho l _ suf (drop_at h) hl, List.length_append, Nat.add_assoc]
theorem text_at {b suf s : List UInt8} {a : Nat} (h : b.drop a = textB s ++ suf) (hs : s.length ≤ 65536) : textR b a = .ok s (a + (textB s).length) := by
  unfold textB at h ⊢
  rw [List.append_assoc] at h
  unfold textR
  rw [num_at h hs (by omega)]
  have h2 := drop_at h
  have hl : s.length ≤ b.length - (a + (put s.length).length) := by
    have := congrArg List.length h2
    rw [List.length_drop, List.length_append] at this
    omega
  show (if _ then _ else _) = _
  rw [if_neg (by omega), h2, List.take_left, List.length_append, Nat.add_assoc]
theorem stmts_at {b suf : List UInt8} {a : Nat} {l : List Sm} (h : b.drop a = encStmts l ++ suf) (hl : smsB l = true) : someR b (stmtR b) a = .ok l (a + (encStmts l).length) := by
  obtain ⟨h1, h2⟩ := smsB_ok hl
  exact some_at (ok := smB) (fun a x suf h hx => stmt_at h hx) h h1 h2
theorem cert_at {b suf : List UInt8} {a : Nat} {x : Ce} (h : b.drop a = encCe x ++ suf) (hx : ceB x = true) : certR b a = .ok x (a + (encCe x).length) := by
  obtain ⟨h1, h2, h3⟩ := ceB_ok hx
  obtain ⟨x0, x1, x2, x3, x4⟩ := x
  simp only [Bool.and_eq_true, List.all_cons, List.all_nil, Bool.and_true] at h1
  dsimp only at h2 h3
  obtain ⟨k0, k1, k2⟩ := h1
  unfold encCe at h ⊢
  simp only [putsL_cons, putsL_nil, List.append_nil, List.append_assoc] at h
  unfold certR
  rw [i32_at h k0]
  have h := drop_at h
  show RdO.bind (intR b _ _) _ = _
  rw [i32_at h k1]
  have h := drop_at h
  show RdO.bind (intR b _ _) _ = _
  rw [i32_at h k2]
  have h := drop_at h
  show RdO.bind (textR b _) _ = _
  rw [text_at h h2]
  have h := drop_at h
  show RdO.bind (someR b _ _) _ = _
  rw [stmts_at h h3]
  show RdO.ok _ _ = RdO.ok _ _
  simp only [putsL_cons, putsL_nil, List.append_nil, List.length_append, Nat.add_assoc]
theorem certs_at {b suf : List UInt8} {a : Nat} {l : List Ce} (h : b.drop a = encCerts l ++ suf) (hl : cesB l = true) : someR b (certR b) a = .ok l (a + (encCerts l).length) := by
  obtain ⟨h1, h2⟩ := cesB_ok hl
  exact some_at (ok := ceB) (fun a x suf h hx => cert_at h hx) h h1 h2
theorem change_at {b suf : List UInt8} {a : Nat} {x : Ch} (h : b.drop a = encCg x ++ suf) (hx : cgB x = true) : changeR b a = .ok x (a + (encCg x).length) := by
  obtain ⟨h0, h1, h2, h3⟩ := cgB_ok hx
  obtain ⟨x0, x1, x2, x3, x4, x5⟩ := x
  simp only [Bool.and_eq_true, List.all_cons, List.all_nil, Bool.and_true] at h1
  dsimp only at h0 h2 h3
  obtain ⟨k1, k2, k3⟩ := h1
  unfold encCg at h ⊢
  simp only [putsL_cons, putsL_nil, List.append_nil, List.append_assoc] at h
  unfold changeR
  rw [i63_at h h0]
  have h := drop_at h
  show RdO.bind (intR b _ _) _ = _
  rw [i32_at h k1]
  have h := drop_at h
  show RdO.bind (intR b _ _) _ = _
  rw [i32_at h k2]
  have h := drop_at h
  show RdO.bind (intR b _ _) _ = _
  rw [i32_at h k3]
  have h := drop_at h
  show RdO.bind (someR b _ _) _ = _
  rw [stmts_at h h2]
  have h := drop_at h
  show RdO.bind (someR b _ _) _ = _
  rw [certs_at h h3]
  show RdO.ok _ _ = RdO.ok _ _
  simp only [putsL_cons, putsL_nil, List.append_nil, List.length_append, Nat.add_assoc]
theorem changes_at {b suf : List UInt8} {a : Nat} {l : List Ch} (h : b.drop a = encChanges l ++ suf) (hl : cgsB l = true) : someR b (changeR b) a = .ok l (a + (encChanges l).length) := by
  obtain ⟨h1, h2⟩ := cgsB_ok hl
  exact some_at (ok := cgB) (fun a x suf h hx => change_at h hx) h h1 h2
theorem msg_at {suf : List UInt8} {x : Ms} (hx : msB x = true) : msgR (encMs x ++ suf) = .ok x (encMs x).length := by
  obtain ⟨g0, g1, h0, h1, h2, h3, h4⟩ := msB_ok hx
  obtain ⟨b, hb⟩ : ∃ b, b = encMs x ++ suf := ⟨_, rfl⟩
  rw [← hb]
  have h : b.drop 0 = encMs x ++ suf := hb
  obtain ⟨x0, x1, x2, x3, x4, x5, x6, x7⟩ := x
  simp only [Bool.and_eq_true, List.all_cons, List.all_nil, Bool.and_true] at h1
  dsimp only at g0 g1 h0 h2 h3 h4
  obtain ⟨k1, k2, k3⟩ := h1
  unfold encMs at h ⊢
  simp only [putsL_cons, putsL_nil, List.append_nil, List.append_assoc] at h
  unfold msgR
  rw [int_at h (by omega) (by omega) (by omega)]
  have h := drop_at h
  show RdO.bind (intR b _ _) _ = _
  rw [i63_at h h0]
  have h := drop_at h
  show RdO.bind (intR b _ _) _ = _
  rw [i32_at h k1]
  have h := drop_at h
  show RdO.bind (intR b _ _) _ = _
  rw [i32_at h k2]
  have h := drop_at h
  show RdO.bind (intR b _ _) _ = _
  rw [i32_at h k3]
  have h := drop_at h
  show RdO.bind (textR b _) _ = _
  rw [text_at h h2]
  have h := drop_at h
  show RdO.bind (someR b _ _) _ = _
  rw [stmts_at h h3]
  have h := drop_at h
  show RdO.bind (someR b _ _) _ = _
  rw [changes_at h h4]
  show RdO.ok _ _ = RdO.ok _ _
  simp only [putsL_cons, putsL_nil, List.append_nil, List.length_append, Nat.add_assoc, Nat.zero_add]
theorem dec_enc {x : Ms} (hx : msB x = true) : decW (encMs x) = (x, 0, 0) := by
  have h := msg_at (suf := []) hx
  rw [List.append_nil] at h
  unfold decW outR
  rw [h]
  obtain ⟨g0, _⟩ := msB_ok hx
  show (match (if x.kd = 0 then RdO.no 3 0 else if (encMs x).length < (encMs x).length then RdO.no 7 (encMs x).length else RdO.ok x (encMs x).length) with | .ok x _ => (x, 0, 0) | .no e a => (Ms.zero, e, a)) = _
  rw [if_neg (by omega), if_neg (Nat.lt_irrefl _)]
end Go.Proofs.Ytbdbmfifclmpcaa

namespace Go.Proofs.Ytbdbmfifclmpcaa
open Go.RowKit
set_option linter.unusedVariables false
set_option linter.unusedSimpArgs false
theorem bind_ok {α β : Type} {r : RdO α} {f : α → Nat → RdO β} {y : β} {c : Nat} (h : r.bind f = .ok y c) : ∃ x a, r = .ok x a ∧ f x a = .ok y c := by
  cases r with
  | ok x a => exact ⟨x, a, rfl, h⟩
  | no e a => cases h
theorem num_rd {b : List UInt8} {most a v c : Nat} (h : numR b most a = .ok v c) : b.drop a = put v ++ b.drop c ∧ v ≤ most := by
  refine ⟨?_, numR_most h⟩
  unfold numR at h
  split at h
  · rename_i h0
    split at h
    · cases h
    · cases h
      have h1 := (put_cutG (b.drop a) 0 h0).1
      have h1 : put (cut (b.drop a)).1 = (b.drop a).take (cut (b.drop a)).2.1 := h1
      rw [h1, ← List.drop_drop, List.take_append_drop]
  · cases h
theorem int_rd {b : List UInt8} {most a c : Nat} {i : Int} (h : intR b most a = .ok i c) : b.drop a = put i.toNat ++ b.drop c ∧ 0 ≤ i ∧ i ≤ most := by
  obtain ⟨v, a1, h1, h2⟩ := bind_ok h
  cases h2
  obtain ⟨h3, h4⟩ := num_rd h1
  exact ⟨by rw [Int.toNat_natCast]; exact h3, by omega, by omega⟩
theorem i32_rd {b : List UInt8} {a c : Nat} {i : Int} (h : intR b 2147483647 a = .ok i c) : b.drop a = put i.toNat ++ b.drop c ∧ numB i = true := by
  obtain ⟨h1, h2, h3⟩ := int_rd h
  refine ⟨h1, ?_⟩
  unfold numB
  rw [decide_eq_true (by omega), decide_eq_true (by omega)]; rfl
theorem i63_rd {b : List UInt8} {a c : Nat} {i : Int} (h : intR b 63 a = .ok i c) : b.drop a = put i.toNat ++ b.drop c ∧ parB i = true := by
  obtain ⟨h1, h2, h3⟩ := int_rd h
  refine ⟨h1, ?_⟩
  unfold parB
  rw [decide_eq_true (by omega), decide_eq_true (by omega)]; rfl
theorem text_rd {b s : List UInt8} {a c : Nat} (h : textR b a = .ok s c) : b.drop a = textB s ++ b.drop c ∧ s.length ≤ 65536 := by
  obtain ⟨n, a1, h1, h2⟩ := bind_ok h
  obtain ⟨h3, h4⟩ := num_rd h1
  try dsimp only at h2
  split at h2
  · cases h2
  · rename_i hh
    cases h2
    have hl : ((b.drop a1).take n).length = n := by rw [List.length_take, List.length_drop]; omega
    refine ⟨?_, by rw [hl]; exact h4⟩
    unfold textB
    rw [hl, h3, List.append_assoc, ← List.drop_drop, List.take_append_drop]
theorem loop_rd {α : Type} {b : List UInt8} {one : Nat → RdO α} {enc : α → List UInt8} {ok : α → Bool} (ho : ∀ (a c : Nat) (x : α), one a = .ok x c → b.drop a = enc x ++ b.drop c ∧ ok x = true) : ∀ (n a c : Nat) (l : List α), loopR one n a = .ok l c → b.drop a = l.flatMap enc ++ b.drop c ∧ l.all ok = true ∧ l.length = n
  | 0, a, c, l, h => by cases h; exact ⟨rfl, rfl, rfl⟩
  | n + 1, a, c, l, h => by
    obtain ⟨x, a1, h1, h2⟩ := bind_ok (show (one a).bind _ = _ from h)
    obtain ⟨l1, a2, h3, h4⟩ := bind_ok h2
    cases h4
    obtain ⟨e1, e2⟩ := ho _ _ _ h1
    obtain ⟨e3, e4, e5⟩ := loop_rd ho n a1 c l1 h3
    exact ⟨by rw [e1, e3, List.flatMap_cons, List.append_assoc], by rw [List.all_cons, e2, e4]; rfl, by rw [List.length_cons, e5]⟩
theorem some_rd {α : Type} {b : List UInt8} {one : Nat → RdO α} {enc : α → List UInt8} {ok : α → Bool} (ho : ∀ (a c : Nat) (x : α), one a = .ok x c → b.drop a = enc x ++ b.drop c ∧ ok x = true) {a c : Nat} {l : List α} (h : someR b one a = .ok l c) : b.drop a = (put l.length ++ l.flatMap enc) ++ b.drop c ∧ (decide (l.length ≤ 64) && l.all ok) = true := by
  obtain ⟨n, a1, h1, h2⟩ := bind_ok h
  obtain ⟨e1, e2⟩ := num_rd h1
  obtain ⟨e3, e4, e5⟩ := loop_rd ho n a1 c l h2
  refine ⟨by rw [e1, e3, e5, List.append_assoc], ?_⟩
  rw [e4, decide_eq_true (by omega)]; rfl
theorem stmt_rd {b : List UInt8} {a c : Nat} {x : Sm} (h : stmtR b a = .ok x c) : b.drop a = encSm x ++ b.drop c ∧ smB x = true := by
  unfold stmtR at h
  obtain ⟨x0, a0, r0, h⟩ := bind_ok h
  obtain ⟨d0, k0⟩ := i63_rd r0
  obtain ⟨x1, a1, r1, h⟩ := bind_ok h
  obtain ⟨d1, k1⟩ := i32_rd r1
  obtain ⟨x2, a2, r2, h⟩ := bind_ok h
  obtain ⟨d2, k2⟩ := i32_rd r2
  obtain ⟨x3, a3, r3, h⟩ := bind_ok h
  obtain ⟨d3, k3⟩ := i32_rd r3
  obtain ⟨x4, a4, r4, h⟩ := bind_ok h
  obtain ⟨d4, k4⟩ := i32_rd r4
  cases h
  refine ⟨?_, ?_⟩
  · unfold encSm
    rw [d0, d1, d2, d3, d4]
    simp only [putsL_cons, putsL_nil, List.append_nil, List.append_assoc]
  · unfold smB
    simp only [k0, k1, k2, k3, k4, List.all_cons, List.all_nil, Bool.and_true, Bool.and_self, decide_true]
theorem stmts_rd {b : List UInt8} {a c : Nat} {l : List Sm} (h : someR b (stmtR b) a = .ok l c) : b.drop a = encStmts l ++ b.drop c ∧ smsB l = true := some_rd (fun a c x h => stmt_rd h) h
theorem cert_rd {b : List UInt8} {a c : Nat} {x : Ce} (h : certR b a = .ok x c) : b.drop a = encCe x ++ b.drop c ∧ ceB x = true := by
  unfold certR at h
  obtain ⟨x0, a0, r0, h⟩ := bind_ok h
  obtain ⟨d0, k0⟩ := i32_rd r0
  obtain ⟨x1, a1, r1, h⟩ := bind_ok h
  obtain ⟨d1, k1⟩ := i32_rd r1
  obtain ⟨x2, a2, r2, h⟩ := bind_ok h
  obtain ⟨d2, k2⟩ := i32_rd r2
  obtain ⟨x3, a3, r3, h⟩ := bind_ok h
  obtain ⟨d3, k3⟩ := text_rd r3
  obtain ⟨x4, a4, r4, h⟩ := bind_ok h
  obtain ⟨d4, k4⟩ := stmts_rd r4
  cases h
  refine ⟨?_, ?_⟩
  · unfold encCe
    rw [d0, d1, d2, d3, d4]
    simp only [putsL_cons, putsL_nil, List.append_nil, List.append_assoc]
  · unfold ceB
    simp only [k0, k1, k2, k3, k4, List.all_cons, List.all_nil, Bool.and_true, Bool.and_self, decide_true]
theorem certs_rd {b : List UInt8} {a c : Nat} {l : List Ce} (h : someR b (certR b) a = .ok l c) : b.drop a = encCerts l ++ b.drop c ∧ cesB l = true := some_rd (fun a c x h => cert_rd h) h
theorem change_rd {b : List UInt8} {a c : Nat} {x : Ch} (h : changeR b a = .ok x c) : b.drop a = encCg x ++ b.drop c ∧ cgB x = true := by
  unfold changeR at h
  obtain ⟨x0, a0, r0, h⟩ := bind_ok h
  obtain ⟨d0, k0⟩ := i63_rd r0
  obtain ⟨x1, a1, r1, h⟩ := bind_ok h
  obtain ⟨d1, k1⟩ := i32_rd r1
  obtain ⟨x2, a2, r2, h⟩ := bind_ok h
  obtain ⟨d2, k2⟩ := i32_rd r2
  obtain ⟨x3, a3, r3, h⟩ := bind_ok h
  obtain ⟨d3, k3⟩ := i32_rd r3
  obtain ⟨x4, a4, r4, h⟩ := bind_ok h
  obtain ⟨d4, k4⟩ := stmts_rd r4
  obtain ⟨x5, a5, r5, h⟩ := bind_ok h
  obtain ⟨d5, k5⟩ := certs_rd r5
  cases h
  refine ⟨?_, ?_⟩
  · unfold encCg
    rw [d0, d1, d2, d3, d4, d5]
    simp only [putsL_cons, putsL_nil, List.append_nil, List.append_assoc]
  · unfold cgB
    simp only [k0, k1, k2, k3, k4, k5, List.all_cons, List.all_nil, Bool.and_true, Bool.and_self, decide_true]
theorem changes_rd {b : List UInt8} {a c : Nat} {l : List Ch} (h : someR b (changeR b) a = .ok l c) : b.drop a = encChanges l ++ b.drop c ∧ cgsB l = true := some_rd (fun a c x h => change_rd h) h
theorem enc_dec {b : List UInt8} {x : Ms} {a : Nat} (h : outR b = .ok x a) : encMs x = b ∧ msB x = true := by
  obtain ⟨y, c, h1, h2⟩ := bind_ok h
  split at h2
  · cases h2
  rename_i hk
  split at h2
  · cases h2
  rename_i hl
  cases h2
  unfold msgR at h1
  obtain ⟨x0, a0, r0, h1⟩ := bind_ok h1
  obtain ⟨d0, k0⟩ := int_rd r0
  obtain ⟨x1, a1, r1, h1⟩ := bind_ok h1
  obtain ⟨d1, k1⟩ := i63_rd r1
  obtain ⟨x2, a2, r2, h1⟩ := bind_ok h1
  obtain ⟨d2, k2⟩ := i32_rd r2
  obtain ⟨x3, a3, r3, h1⟩ := bind_ok h1
  obtain ⟨d3, k3⟩ := i32_rd r3
  obtain ⟨x4, a4, r4, h1⟩ := bind_ok h1
  obtain ⟨d4, k4⟩ := i32_rd r4
  obtain ⟨x5, a5, r5, h1⟩ := bind_ok h1
  obtain ⟨d5, k5⟩ := text_rd r5
  obtain ⟨x6, a6, r6, h1⟩ := bind_ok h1
  obtain ⟨d6, k6⟩ := stmts_rd r6
  obtain ⟨x7, a7, r7, h1⟩ := bind_ok h1
  obtain ⟨d7, k7⟩ := changes_rd r7
  cases h1
  have hz : b.drop a = [] := List.drop_of_length_le (by omega)
  refine ⟨?_, ?_⟩
  · have h0 : b = b.drop 0 := rfl
    rw [h0, d0, d1, d2, d3, d4, d5, d6, d7, hz]
    unfold encMs
    simp only [putsL_cons, putsL_nil, List.append_nil, List.append_assoc]
  · unfold msB
    dsimp only at hk
    simp only [k1, k2, k3, k4, k5, k6, k7, List.all_cons, List.all_nil, Bool.and_true, decide_true]
    rw [decide_eq_true (by omega), decide_eq_true (by omega)]; rfl
end Go.Proofs.Ytbdbmfifclmpcaa

namespace Go.Proofs.Ytbdbmfifclmpcaa
open Go.RowKit
set_option linter.unusedVariables false
set_option maxRecDepth 100000
noncomputable def wire_EncodeO_c : Code := (Try.f14.body).getD .skip
def wire_EncodeO_h : Hint := (.two .n (.two (.two .n (.two (.two .n .n) .n)) (.gh (3, 0, ty_uint8, 1) [1, 3] .n (.two .n (.two .n (.two .n (.two .n (.two .n .n))))))))
noncomputable def wire_EncodeO_env (m : Nat) : Env := [(19, .tell (wire_May_t m)), (43, .keep (wire_writer_nums_t m)), (44, .keep (wire_writer_text_t m)), (45, .keep (wire_each_Stmt_t m)), (47, .keep (wire_each_Change_t m))]
noncomputable abbrev wire_EncodeO_fin (n0 : Nat) : KO (AV × List AObj) := orwFK Try.prog n0 [.tmp 2]
noncomputable def wire_EncodeO_r1 (m : Nat) (n0k : Nat) (s : ASt) : RO := joinW Try.prog GG (wire_EncodeO_env m) m ⟨42, []⟩ (cdR (cdR (cdR wire_EncodeO_c))) wire_EncodeO_h.r.r.r s (wire_EncodeO_fin n0k)
noncomputable def wire_EncodeO (m : Nat) (t0 : AV) (H : List AObj) : RO := exec Try.prog GG (wire_EncodeO_env m) m ⟨42, []⟩ wire_EncodeO_c wire_EncodeO_h ⟨H, argsT 0 [t0]⟩ (wire_EncodeO_fin H.length)
theorem wire_EncodeO_r1_eq (m : Nat) (n0k : Nat) (H : List AObj) (t1 t3 : AV) : wire_EncodeO_r1 m n0k ⟨H, [(1, t1), (3, t3)]⟩ =
  fieldE (some (0, 1)) t1 fun t10 =>
  loadE 1 H t10 fun t11 =>
  fieldE (some (1, 1)) t1 fun t12 =>
  loadE 1 H t12 fun t13 =>
  fieldE (some (2, 1)) t1 fun t14 =>
  loadE 1 H t14 fun t15 =>
  fieldE (some (3, 1)) t1 fun t16 =>
  loadE 1 H t16 fun t17 =>
  fieldE (some (4, 1)) t1 fun t18 =>
  loadE 1 H t18 fun t19 =>
  buildSE (some (ty_int, 1)) 5 [(0, t11), (1, t13), (2, t15), (3, t17), (4, t19)] fun t20 =>
  keepE (wire_writer_nums m (ro H t3) (ro H t20) H) fun t21 H2 =>
  fieldE (some (5, 1)) t1 fun t23 =>
  loadE 1 H2 t23 fun t24 =>
  keepE (wire_writer_text m (ro H2 t3) (ro H2 t24) H2) fun t25 H3 =>
  fieldE (some (6, 1)) t1 fun t27 =>
  loadE 1 H3 t27 fun t28 =>
  whenE (([t3] : List AV).all cap0) (
  keepE (wire_each_Stmt m (ro H3 t3) (ro H3 t28) (ro H3 (CL (.func 46) 1 [t3])) H3) fun t31 H4 =>
  fieldE (some (7, 1)) t1 fun t33 =>
  loadE 1 H4 t33 fun t34 =>
  whenE (([t3] : List AV).all cap0) (
  keepE (wire_each_Change m (ro H4 t3) (ro H4 t34) (ro H4 (CL (.func 48) 1 [t3])) H4) fun t37 H5 =>
  nilE t3 fun t39 =>
  fieldE (some (0, 1)) t39 fun t40 =>
  loadE 1 H5 t40 fun t41 =>
  openK H5 t41)) := by
  refine (joinW_eq Try.prog GG (wire_EncodeO_env m) m ⟨42, []⟩ (cdR (cdR (cdR wire_EncodeO_c))) wire_EncodeO_h.r.r.r ⟨H, [(1, t1), (3, t3)]⟩ (wire_EncodeO_fin n0k)).trans ?_
  kernel_rfl
theorem wire_EncodeO_eq (m : Nat) (t0 : AV) (H : List AObj) : wire_EncodeO m t0 H =
  boxE ty_api_Msg H t0 fun t1 H2 =>
  loadE 10 H2 t1 fun t4 =>
  tellE (wire_May m (ro H2 t4)) [(ro H2 t4)] fun t5 =>
  unE .not t5 fun t6 =>
  condE t6 (
   openK H2 (V (.slice none 0 0))) (
   buildE (some pl_wire_writer) (some zc_wire_writer) [] fun t7 =>
   boxE ty_wire_writer H2 t7 fun t8 H3 =>
   wire_EncodeO_r1 m H.length (ghS 3 0 ty_uint8 1 ⟨H3, [(1, t1), (3, t8)]⟩)) := by
  refine (orwX Try.prog GG (wire_EncodeO_env m) m ⟨42, []⟩ H.length wire_EncodeO_c wire_EncodeO_h ⟨H, argsT 0 [t0]⟩ [.tmp 2]).trans ?_
  kernel_rfl
noncomputable def wire_EncodeO_t (m : Nat) : List AV → List AObj → RO | [t0], H => wire_EncodeO m t0 H | _, _ => none
theorem wire_EncodeO_ok (m : Nat) : ∀ args H X H', wire_EncodeO_t m args H = some (X, H') → AC Try.prog GG 14 args H (Is X H') := by
  intro args H X H' h
  unfold wire_EncodeO_t at h
  split at h
  · exact orw_ok (n := H.length) MIX (by
    intro f e h
    simp only [wire_EncodeO_env, Prod.mk.injEq, List.mem_cons, List.not_mem_nil, or_false] at h
    rcases h with ⟨rfl, rfl⟩ | ⟨rfl, rfl⟩ | ⟨rfl, rfl⟩ | ⟨rfl, rfl⟩ | ⟨rfl, rfl⟩
    · exact wire_May_ok m
    · exact wire_writer_nums_ok m
    · exact wire_writer_text_ok m
    · exact wire_each_Stmt_ok m
    · exact wire_each_Change_ok m) (f := 14) (c := wire_EncodeO_c) Try.func14 rfl (by kernel_rfl) _ rfl Try.ntmps14 (Nat.le_of_ble_eq_true rfl) wire_EncodeO_h h
  · cases h
end Go.Proofs.Ytbdbmfifclmpcaa

namespace Go.Proofs.Ytbdbmfifclmpcaa
open Go.RowKit
set_option linter.unusedVariables false
set_option linter.unusedSimpArgs false
set_option maxRecDepth 20000
attribute [local go_sem] Nat.zero_add Nat.add_zero Nat.mul_one Int.toNat_natCast Int.natCast_zero Int.cast_ofNat_Int or_false false_or or_true true_or Nat.sub_zero Int.natCast_nonneg Int.toNat_zero Bool.true_and Bool.and_true Bool.false_and Bool.and_false Bool.true_or Bool.or_true Bool.false_or Bool.or_false Bool.not_true Bool.not_false Bool.not_not true_and and_true false_and and_false not_true_eq_false not_false_eq_true eq_self decide_true decide_false ne_eq implies_true forall_const true_implies false_implies Bool.true_eq_false Bool.false_eq_true List.map_cons List.map_nil List.all_cons List.all_nil List.length_cons List.length_nil List.length_map List.length_append List.nil_append List.cons_append List.set_cons_zero List.set_cons_succ List.set_nil List.drop_zero List.drop_succ_cons List.drop_nil List.take_zero List.take_succ_cons List.take_nil Option.map_some Option.map_none Option.isSome_some List.all_append List.all_map Function.comp_def decide_eq_true_eq Bool.and_eq_true beq_self_eq_true or_self and_self ite_true ite_false Nat.le_refl Bool.not_eq_true decide_not Bool.not_eq_true' decide_eq_false_iff_not Bool.not_eq_false Bool.or_eq_true if_true if_false ite_self u_roF u_cvF u_cvC u_ceT u_ceK u_appS sm_it sm_len sm_sure sm_ltA sm_lt1 sm_all1 sm_ro sm_take sm_sl sm_set sm_noT sm_fr sm_st_fr sm_set_fr sm_kd sm_st_kd sm_set_kd sm_vw sm_st_vw sm_set_vw sm_sq sm_st_sq sm_set_sq sm_tm sm_st_tm sm_set_tm zsm_len zsm_sure zsm_lt1 zsm_sl zsm_ro zsm_setz zsm_set zsm_setr zsm_take sms_ltA sms_len ce_it ce_len ce_sure ce_ltA ce_lt1 ce_all1 ce_ro ce_take ce_sl ce_set ce_noT ce_sq ce_st_sq ce_set_sq ce_vw ce_st_vw ce_set_vw ce_tm ce_st_tm ce_set_tm ce_body ce_st_body ce_set_body ce_vs ce_st_vs ce_set_vs zce_len zce_sure zce_lt1 zce_sl zce_ro zce_setz zce_set zce_setr zce_take ces_ltA ces_len cg_it cg_len cg_sure cg_ltA cg_lt1 cg_all1 cg_ro cg_take cg_sl cg_set cg_noT cg_fr cg_st_fr cg_set_fr cg_vw cg_st_vw cg_set_vw cg_st cg_st_st cg_set_st cg_rt cg_st_rt cg_set_rt cg_pf cg_st_pf cg_set_pf cg_cs cg_st_cs cg_set_cs zcg_len zcg_sure zcg_lt1 zcg_sl zcg_ro zcg_setz zcg_set zcg_setr zcg_take cgs_ltA cgs_len ms_it ms_len ms_sure ms_ltA ms_lt1 ms_all1 ms_ro ms_take ms_sl ms_set ms_noT ms_kd ms_st_kd ms_set_kd ms_fr ms_st_fr ms_set_fr ms_vw ms_st_vw ms_set_vw ms_sq ms_st_sq ms_set_sq ms_tm ms_st_tm ms_set_tm ms_body ms_st_body ms_set_body ms_vs ms_st_vs ms_set_vs ms_chs ms_st_chs ms_set_chs zms_len zms_sure zms_lt1 zms_sl zms_ro zms_setz zms_set zms_setr zms_take mss_ltA mss_len natInt u_nthM u_bz u_bi1 u_bi2 u_bi3 u_bi4 u_bi5 u_bi6 u_bi7 bC_length bc_ltA bc_one nthOL ltO_o ltO_r takeL bC_append u_addS List.take_length
theorem encodeO_s (m : Nat) (x : Ms) (h : msB x = true) (hm : 70 < m) : wire_EncodeO m (msE x) [] = some (OW 2 (encMs x).length, [⟨1, ty_api_Msg, 0, msC x⟩, ⟨1, ty_wire_writer, 0, [OW 2 (encMs x).length]⟩, ⟨2, ty_uint8, 1, bC (encMs x)⟩]) := by
  have hC := may_s m x hm
  rw [ms_it] at hC
  rw [wire_EncodeO_eq, ms_it]
  rw [h] at hC
  obtain ⟨_, _, _, _, h2, h3, h4⟩ := msB_ok h
  obtain ⟨h5, h6⟩ := smsB_ok h3
  obtain ⟨h7, h8⟩ := cgsB_ok h4
  have e1 := putsL_len (msB_inI h)
  have e2 := textB_len x.body h2
  have e3 := encStmts_len h3
  simp only [List.length_cons, List.length_nil] at e1
  have hN := nums_s m ⟨1, ty_api_Msg, 0, msC x⟩ [] [] [x.kd, x.fr, x.vw, x.sq, x.tm] (fun n => rfl) (fun n => rfl) (msB_inI h) (by simp; omega) (by simp)
  have hT := text_s m ⟨1, ty_api_Msg, 0, msC x⟩ ([] ++ putsL [x.kd, x.fr, x.vw, x.sq, x.tm]) [] x.body (fun n => rfl) (fun n => rfl) hm (by rw [List.nil_append]; omega)
  have hE := eachStmt_s m ⟨1, ty_api_Msg, 0, msC x⟩ ([] ++ putsL [x.kd, x.fr, x.vw, x.sq, x.tm] ++ textB x.body) [] x.vs (fun n => rfl) (fun n => rfl) h6 h5 hm (by rw [List.nil_append, List.length_append]; omega)
  have hG := eachChange_s m ⟨1, ty_api_Msg, 0, msC x⟩ ([] ++ putsL [x.kd, x.fr, x.vw, x.sq, x.tm] ++ textB x.body ++ encStmts x.vs) [] x.chs (fun n => rfl) (fun n => rfl) h8 h7 hm (by rw [List.nil_append, List.length_append, List.length_append]; omega)
  have hz : bC [] = [] := rfl
  simp only [List.map_cons, List.map_nil, List.length_nil, List.nil_append, Nat.zero_add, hz, List.length_append, bC_append, List.append_assoc, Nat.add_assoc] at hN hT hE hG
  unfold encMs
  simp (config := {maxSteps := 4000000, implicitDefEqProofs := false}) (disch := omega) only [go_sem, ↓reduceIte, Nat.reduceAdd, Nat.reduceSub, Nat.reduceMul, Nat.reduceLeDiff, Nat.reduceLT, Int.reduceEq, Int.reduceNe, Int.reduceLT, Int.reduceLE, Int.reduceAdd, Int.reduceSub, Int.reduceMul, Int.reduceNeg, Int.reduceToNat, reduceCtorEq, Nat.reduceEqDiff, Nat.reduceBEq, Nat.reduceGT, hC, zw_b]
  rw [gh_it (by rfl), wire_EncodeO_r1_eq]
  simp (config := {maxSteps := 4000000, implicitDefEqProofs := false}) (disch := omega) only [go_sem, ↓reduceIte, Nat.reduceAdd, Nat.reduceSub, Nat.reduceMul, Nat.reduceLeDiff, Nat.reduceLT, Int.reduceEq, Int.reduceNe, Int.reduceLT, Int.reduceLE, Int.reduceAdd, Int.reduceSub, Int.reduceMul, Int.reduceNeg, Int.reduceToNat, reduceCtorEq, Nat.reduceEqDiff, Nat.reduceBEq, Nat.reduceGT, hN, hT, hE, hG, ro_cl, List.append_assoc, Nat.add_assoc]
end Go.Proofs.Ytbdbmfifclmpcaa

namespace Go.Proofs.Ytbdbmfifclmpcaa
open Go.RowKit
set_option linter.unusedVariables false
set_option linter.unusedSimpArgs false
set_option maxRecDepth 20000
noncomputable def wire_Decode_t (m : Nat) : List AV → RO := orac (ι := List UInt8) (fun l => [SL (bC l)]) (fun l => decX (decW l)) (fun l => l.length ≤ 34359738368)
theorem wire_Decode_ok (m : Nat) : ∀ args X H', wire_Decode_t m args = some (X, H') → ACp Try.prog GG 9 args X := orac_ok fun l hl => decode_acp hl
theorem wire_Decode_e (m : Nat) (l : List UInt8) (hl : l.length ≤ 34359738368) : wire_Decode_t m [SL (bC l)] = some (decX (decW l), []) := orac_eq (ι := List UInt8) (fun a b h => by rw [SLb_inj h]) (i := l) hl
end Go.Proofs.Ytbdbmfifclmpcaa

namespace Go.Proofs.Ytbdbmfifclmpcaa
open Go.RowKit
set_option linter.unusedVariables false
set_option maxRecDepth 100000
noncomputable def plenumlaw28_awake_c : Code := (Try.f8.body).getD .skip
def plenumlaw28_awake_h : Hint := (.two .n (.two .n (.two (.two .n (.two (.two .n .n) .n)) (.two .n (.two .n (.two .n .n))))))
noncomputable def plenumlaw28_awake_env (m : Nat) : Env := [(14, .keep (wire_EncodeO_t m)), (9, .tell (wire_Decode_t m))]
noncomputable abbrev plenumlaw28_awake_fin : KO (AV × List AObj) := tellFK Try.prog [.tmp 0]
noncomputable def plenumlaw28_awake (m : Nat) : RO := exec Try.prog GG (plenumlaw28_awake_env m) m ⟨42, []⟩ plenumlaw28_awake_c plenumlaw28_awake_h ⟨[], argsT 0 []⟩ (plenumlaw28_awake_fin)
theorem plenumlaw28_awake_eq (m : Nat) : plenumlaw28_awake m =
  buildE (some pl_api_Msg) (some zc_api_Msg) [(0, (V (.int .i64 3))), (1, (V (.int .i64 1))), (2, (V (.int .i64 2))), (3, (V (.int .i64 3))), (4, (V (.int .i64 4)))] fun t8 =>
  keepE (wire_EncodeO m (ro [] t8) []) fun t9 H1 =>
  convE false none true true (ro H1 t9) fun t11 =>
  binE none false false .neq t11 (V (.string ⟨#[3, 1, 2, 3, 4, 0, 0, 0]⟩)) fun t12 =>
  condE t12 (
   tellK H1 (ro H1 (V (.bool false)))) (
   sliceE false (some (ty_uint8, 1)) H1 t9 none (some (V (.int .i64 7))) fun t15 =>
   tellE (wire_Decode_t m [(ro H1 t15)]) [(ro H1 t15)] fun t16 =>
   extE t16 0 fun t17 =>
   extE t16 1 fun t18 =>
   extE t16 2 fun t19 =>
   allocE (some zc_api_Msg) ty_api_Msg H1 fun t2 H2 =>
   storeE 10 H2 t2 t17 fun H3 =>
   buildSE (some (ty_uint8, 1)) 1 [(0, (V (.int .u8 0)))] fun t22 =>
   appE (some (ty_uint8, 1)) H3 t9 t22 fun t23 H4 =>
   tellE (wire_Decode_t m [(ro H4 t23)]) [(ro H4 t23)] fun t24 =>
   extE t24 0 fun t25 =>
   extE t24 1 fun t26 =>
   extE t24 2 fun t27 =>
   allocE (some zc_api_Msg) ty_api_Msg H4 fun t5 H5 =>
   storeE 10 H5 t5 t25 fun H6 =>
   binE none false false .eql t18 (V (.int .i64 2)) fun t29 =>
   condE t29 (
    binE none false false .eql t19 (V (.int .i64 7)) fun t32 =>
    condE t32 (
    binE none false false .eql t26 (V (.int .i64 7)) fun t36 =>
    condE t36 (
    binE none false false .eql t27 (V (.int .i64 8)) fun t40 =>
    tellK H6 (ro H6 t40)) (
    tellK H6 (ro H6 (V (.bool false))))) (
    tellK H6 (ro H6 (V (.bool false))))) (
    tellK H6 (ro H6 (V (.bool false))))) := by
  refine (tellX Try.prog GG (plenumlaw28_awake_env m) m ⟨42, []⟩ plenumlaw28_awake_c plenumlaw28_awake_h ⟨[], argsT 0 []⟩ [.tmp 0]).trans ?_
  kernel_rfl
noncomputable def plenumlaw28_awake_t (m : Nat) : List AV → RO | [] => plenumlaw28_awake m | _ => none
theorem plenumlaw28_awake_ok (m : Nat) : ∀ args X H', plenumlaw28_awake_t m args = some (X, H') → ACp Try.prog GG 8 args X := by
  intro args X H' h
  unfold plenumlaw28_awake_t at h
  split at h
  · exact tell_okK MIX (by
    intro f e h
    simp only [plenumlaw28_awake_env, Prod.mk.injEq, List.mem_cons, List.not_mem_nil, or_false] at h
    rcases h with ⟨rfl, rfl⟩ | ⟨rfl, rfl⟩
    · exact wire_EncodeO_ok m
    · exact wire_Decode_ok m) (f := 8) (c := plenumlaw28_awake_c) Try.func8 rfl (by kernel_rfl) _ rfl Try.ntmps8 (Nat.le_of_ble_eq_true rfl) plenumlaw28_awake_h h
  · cases h
end Go.Proofs.Ytbdbmfifclmpcaa

namespace Go.Proofs.Ytbdbmfifclmpcaa
open Go.RowKit
set_option linter.unusedVariables false
set_option maxRecDepth 100000
end Go.Proofs.Ytbdbmfifclmpcaa

namespace Go.Proofs.Ytbdbmfifclmpcaa
open Go.RowKit
set_option linter.unusedVariables false
set_option linter.unusedSimpArgs false
set_option maxRecDepth 20000
theorem u_bconv {R : Type} {K1 : AV → Option R} {isS so : Bool} {dk : Option IntKind} {l : List UInt8} : convE isS dk so true (SL (bC l)) K1 = K1 (V (.string ⟨l.toArray⟩)) := by
  show (match bytesOf (bC l) with | some l => K1 (V (.string ⟨l.toArray⟩)) | none => none) = _
  rw [bytesOf_bC]
attribute [local go_sem] Nat.zero_add Nat.add_zero Nat.mul_one Int.toNat_natCast Int.natCast_zero Int.cast_ofNat_Int or_false false_or or_true true_or Nat.sub_zero Int.natCast_nonneg Int.toNat_zero Bool.true_and Bool.and_true Bool.false_and Bool.and_false Bool.true_or Bool.or_true Bool.false_or Bool.or_false Bool.not_true Bool.not_false Bool.not_not true_and and_true false_and and_false not_true_eq_false not_false_eq_true eq_self decide_true decide_false ne_eq implies_true forall_const true_implies false_implies Bool.true_eq_false Bool.false_eq_true List.map_cons List.map_nil List.all_cons List.all_nil List.length_cons List.length_nil List.length_map List.length_append List.nil_append List.cons_append List.set_cons_zero List.set_cons_succ List.set_nil List.drop_zero List.drop_succ_cons List.drop_nil List.take_zero List.take_succ_cons List.take_nil Option.map_some Option.map_none Option.isSome_some List.all_append List.all_map Function.comp_def decide_eq_true_eq Bool.and_eq_true beq_self_eq_true or_self and_self ite_true ite_false Nat.le_refl Bool.not_eq_true decide_not Bool.not_eq_true' decide_eq_false_iff_not Bool.not_eq_false Bool.or_eq_true if_true if_false ite_self u_roF u_cvF u_cvC u_ceT u_ceK u_appS sm_it sm_len sm_sure sm_ltA sm_lt1 sm_all1 sm_ro sm_take sm_sl sm_set sm_noT sm_fr sm_st_fr sm_set_fr sm_kd sm_st_kd sm_set_kd sm_vw sm_st_vw sm_set_vw sm_sq sm_st_sq sm_set_sq sm_tm sm_st_tm sm_set_tm zsm_len zsm_sure zsm_lt1 zsm_sl zsm_ro zsm_setz zsm_set zsm_setr zsm_take sms_ltA sms_len ce_it ce_len ce_sure ce_ltA ce_lt1 ce_all1 ce_ro ce_take ce_sl ce_set ce_noT ce_sq ce_st_sq ce_set_sq ce_vw ce_st_vw ce_set_vw ce_tm ce_st_tm ce_set_tm ce_body ce_st_body ce_set_body ce_vs ce_st_vs ce_set_vs zce_len zce_sure zce_lt1 zce_sl zce_ro zce_setz zce_set zce_setr zce_take ces_ltA ces_len cg_it cg_len cg_sure cg_ltA cg_lt1 cg_all1 cg_ro cg_take cg_sl cg_set cg_noT cg_fr cg_st_fr cg_set_fr cg_vw cg_st_vw cg_set_vw cg_st cg_st_st cg_set_st cg_rt cg_st_rt cg_set_rt cg_pf cg_st_pf cg_set_pf cg_cs cg_st_cs cg_set_cs zcg_len zcg_sure zcg_lt1 zcg_sl zcg_ro zcg_setz zcg_set zcg_setr zcg_take cgs_ltA cgs_len ms_it ms_len ms_sure ms_ltA ms_lt1 ms_all1 ms_ro ms_take ms_sl ms_set ms_noT ms_kd ms_st_kd ms_set_kd ms_fr ms_st_fr ms_set_fr ms_vw ms_st_vw ms_set_vw ms_sq ms_st_sq ms_set_sq ms_tm ms_st_tm ms_set_tm ms_body ms_st_body ms_set_body ms_vs ms_st_vs ms_set_vs ms_chs ms_st_chs ms_set_chs zms_len zms_sure zms_lt1 zms_sl zms_ro zms_setz zms_set zms_setr zms_take mss_ltA mss_len natInt u_nthM u_bz u_bi1 u_bi2 u_bi3 u_bi4 u_bi5 u_bi6 u_bi7 List.take_length u_eqE u_bconv u_sconv
def exM : Ms := ⟨3, 1, 2, 3, 4, [], [], []⟩
theorem exM_b : msB exM = true := by decide
theorem exM_e : encMs exM = [3, 1, 2, 3, 4, 0, 0, 0] := by decide +kernel
theorem exM_7 : decW [3, 1, 2, 3, 4, 0, 0] = (Ms.zero, 2, 7) := by decide +kernel
theorem exM_9 : decW [3, 1, 2, 3, 4, 0, 0, 0, 0] = (Ms.zero, 7, 8) := by decide +kernel
theorem exM_bu {R : Type} {K : AV → Option R} : buildE (some pl_api_Msg) (some zc_api_Msg) [(0, (V (.int .i64 3))), (1, (V (.int .i64 1))), (2, (V (.int .i64 2))), (3, (V (.int .i64 3))), (4, (V (.int .i64 4)))] K = K (.agg [nA 3, nA 1, nA 2, nA 3, nA 4, sA [], V (.slice none 0 0), V (.slice none 0 0)]) := _root_.id rfl
theorem exM_ro {H : List AObj} : ro H (.agg [nA 3, nA 1, nA 2, nA 3, nA 4, sA [], V (.slice none 0 0), V (.slice none 0 0)]) = .agg (msC exM) := _root_.id rfl
theorem exM_a8 : bC [3, 1, 2, 3, 4, 0, 0, 0] ++ [V (.int .u8 0)] = bC [3, 1, 2, 3, 4, 0, 0, 0, 0] := _root_.id rfl
theorem exM_c7 : cutE (bC [3, 1, 2, 3, 4, 0, 0, 0]) 0 7 = bC [3, 1, 2, 3, 4, 0, 0] := _root_.id rfl
theorem awake28_s (m : Nat) (hm : 70 < m) : plenumlaw28_awake m = some (bA true, []) := by
  have h1 := encodeO_s m exM exM_b hm
  have h7 := wire_Decode_e m [3, 1, 2, 3, 4, 0, 0] (by decide)
  have h9 := wire_Decode_e m [3, 1, 2, 3, 4, 0, 0, 0, 0] (by decide)
  rw [exM_7] at h7
  rw [exM_9] at h9
  rw [exM_e, ms_it] at h1
  have l9 : (bC [3, 1, 2, 3, 4, 0, 0, 0, 0]).length = 9 := rfl
  have a8 : ((bC [3, 1, 2, 3, 4, 0, 0, 0]).all fun d => decide ((cellsOf d).length = 1)) = true := rfl
  have l8 : (bC [3, 1, 2, 3, 4, 0, 0, 0]).length = 8 := rfl
  simp only [List.length_cons, List.length_nil, Nat.zero_add, Nat.reduceAdd] at h1
  rw [plenumlaw28_awake_eq, exM_bu]
  simp (config := {maxSteps := 4000000, implicitDefEqProofs := false}) (disch := omega) only [go_sem, ↓reduceIte, Nat.reduceAdd, Nat.reduceSub, Nat.reduceMul, Nat.reduceLeDiff, Nat.reduceLT, Int.reduceEq, Int.reduceNe, Int.reduceLT, Int.reduceLE, Int.reduceAdd, Int.reduceSub, Int.reduceMul, Int.reduceNeg, Int.reduceToNat, reduceCtorEq, Nat.reduceEqDiff, Nat.reduceBEq, Nat.reduceGT, h1, h7, h9, exM_ro, exM_a8, exM_c7, l8, l9, a8, decX]
theorem msB_sz {m : Nat} {x : Ms} (h : msB x = true) (hm : 70 < m) : SzM m x := by
  obtain ⟨_, _, _, _, _, h6, h7⟩ := msB_ok h
  have h8 := smsB_ok h6
  have h9 := cgsB_ok h7
  refine ⟨by omega, by omega, by omega, by omega, fun y hy => ?_⟩
  obtain ⟨_, _, k3, k4⟩ := cgB_ok (List.all_eq_true.1 h9.2 y hy)
  have k5 := smsB_ok k3
  have k6 := cesB_ok k4
  refine ⟨by omega, by omega, by omega, by omega, fun z hz => ?_⟩
  have k7 := smsB_ok (ceB_ok (List.all_eq_true.1 k6.2 z hz)).2.2
  exact ⟨by omega, by omega⟩
theorem zero_sz {m : Nat} (hm : 70 < m) : SzM m Ms.zero := ⟨by simp [Ms.zero]; omega, by simp [Ms.zero], by simp [Ms.zero]; omega, by simp [Ms.zero], fun y hy => by simp [Ms.zero] at hy⟩
theorem bC_all1 {l : List UInt8} : ((bC l).all fun d => decide ((cellsOf d).length = 1)) = true := by
  rw [List.all_eq_true]
  intro d hd
  obtain ⟨b, _, rfl⟩ := List.mem_map.1 hd
  rfl
end Go.Proofs.Ytbdbmfifclmpcaa

namespace Go.Proofs.Ytbdbmfifclmpcaa
open Go.RowKit
set_option linter.unusedVariables false
set_option linter.unusedSimpArgs false
set_option maxRecDepth 100000
def OpSm (x : Sm) : Prop := (-9223372036854775808 ≤ x.fr ∧ x.fr < 9223372036854775808) ∧ (-9223372036854775808 ≤ x.kd ∧ x.kd < 9223372036854775808) ∧ (-9223372036854775808 ≤ x.vw ∧ x.vw < 9223372036854775808) ∧ (-9223372036854775808 ≤ x.sq ∧ x.sq < 9223372036854775808) ∧ (-9223372036854775808 ≤ x.tm ∧ x.tm < 9223372036854775808)
theorem ofT_sm {n : Nat} {ds : List AV} (h : ofT Try.prog n 56 ds) : ∃ x : Sm, ds = smC x ∧ OpSm x := by
  obtain ⟨m, a0, b0, rfl, h0, a1, b1, rfl, h1, a2, b2, rfl, h2, a3, b3, rfl, h3, a4, b4, rfl, h4, rfl⟩ := ofT_struct Try.underlying56 h
  obtain ⟨x0, rfl, q0⟩ := ofT_i64 Try.underlying3 h0
  obtain ⟨x1, rfl, q1⟩ := ofT_i64 Try.underlying3 h1
  obtain ⟨x2, rfl, q2⟩ := ofT_i64 Try.underlying3 h2
  obtain ⟨x3, rfl, q3⟩ := ofT_i64 Try.underlying3 h3
  obtain ⟨x4, rfl, q4⟩ := ofT_i64 Try.underlying3 h4
  exact ⟨⟨x0, x1, x2, x3, x4⟩, rfl, q0, q1, q2, q3, q4⟩
theorem ofT_sms {n : Nat} {ds : List AV} (h : ofT Try.prog n 24 ds) : ∃ l : List Sm, ds = [SL (l.map smE)] ∧ l.length ≤ 9223372036854775807 ∧ ∀ x ∈ l, OpSm x := by
  obtain ⟨m, es, rfl, hl, he⟩ := ofT_slice Try.underlying24 h
  obtain ⟨l, rfl, hi⟩ := list_of (f := smE) (Q := OpSm) fun x hx => by
    obtain ⟨q1, q2⟩ := he x hx
    obtain ⟨y, hy, hi⟩ := ofT_sm q1
    exact ⟨y, by rw [cells_agg (q2.trans (by kernel_rfl)), hy]; rfl, hi⟩
  exact ⟨l, rfl, by rw [List.length_map] at hl; exact hl, hi⟩
def OpCe (x : Ce) : Prop := (-9223372036854775808 ≤ x.sq ∧ x.sq < 9223372036854775808) ∧ (-9223372036854775808 ≤ x.vw ∧ x.vw < 9223372036854775808) ∧ (-9223372036854775808 ≤ x.tm ∧ x.tm < 9223372036854775808) ∧ x.body.length ≤ 9223372036854775807 ∧ x.vs.length ≤ 9223372036854775807 ∧ (∀ y ∈ x.vs, OpSm y)
theorem ofT_ce {n : Nat} {ds : List AV} (h : ofT Try.prog n 89 ds) : ∃ x : Ce, ds = ceC x ∧ OpCe x := by
  obtain ⟨m, a0, b0, rfl, h0, a1, b1, rfl, h1, a2, b2, rfl, h2, a3, b3, rfl, h3, a4, b4, rfl, h4, rfl⟩ := ofT_struct Try.underlying89 h
  obtain ⟨x0, rfl, q0⟩ := ofT_i64 Try.underlying3 h0
  obtain ⟨x1, rfl, q1⟩ := ofT_i64 Try.underlying3 h1
  obtain ⟨x2, rfl, q2⟩ := ofT_i64 Try.underlying3 h2
  obtain ⟨x3, rfl, q3⟩ := ofT_str Try.underlying9 h3
  obtain ⟨x4, rfl, q4, r4⟩ := ofT_sms h4
  exact ⟨⟨x0, x1, x2, x3, x4⟩, rfl, q0, q1, q2, q3, q4, r4⟩
theorem ofT_ces {n : Nat} {ds : List AV} (h : ofT Try.prog n 41 ds) : ∃ l : List Ce, ds = [SL (l.map ceE)] ∧ l.length ≤ 9223372036854775807 ∧ ∀ x ∈ l, OpCe x := by
  obtain ⟨m, es, rfl, hl, he⟩ := ofT_slice Try.underlying41 h
  obtain ⟨l, rfl, hi⟩ := list_of (f := ceE) (Q := OpCe) fun x hx => by
    obtain ⟨q1, q2⟩ := he x hx
    obtain ⟨y, hy, hi⟩ := ofT_ce q1
    exact ⟨y, by rw [cells_agg (q2.trans (by kernel_rfl)), hy]; rfl, hi⟩
  exact ⟨l, rfl, by rw [List.length_map] at hl; exact hl, hi⟩
def OpCh (x : Ch) : Prop := (-9223372036854775808 ≤ x.fr ∧ x.fr < 9223372036854775808) ∧ (-9223372036854775808 ≤ x.vw ∧ x.vw < 9223372036854775808) ∧ (-9223372036854775808 ≤ x.st ∧ x.st < 9223372036854775808) ∧ (-9223372036854775808 ≤ x.rt ∧ x.rt < 9223372036854775808) ∧ x.pf.length ≤ 9223372036854775807 ∧ (∀ y ∈ x.pf, OpSm y) ∧ x.cs.length ≤ 9223372036854775807 ∧ (∀ y ∈ x.cs, OpCe y)
theorem ofT_cg {n : Nat} {ds : List AV} (h : ofT Try.prog n 43 ds) : ∃ x : Ch, ds = cgC x ∧ OpCh x := by
  obtain ⟨m, a0, b0, rfl, h0, a1, b1, rfl, h1, a2, b2, rfl, h2, a3, b3, rfl, h3, a4, b4, rfl, h4, a5, b5, rfl, h5, rfl⟩ := ofT_struct Try.underlying43 h
  obtain ⟨x0, rfl, q0⟩ := ofT_i64 Try.underlying3 h0
  obtain ⟨x1, rfl, q1⟩ := ofT_i64 Try.underlying3 h1
  obtain ⟨x2, rfl, q2⟩ := ofT_i64 Try.underlying3 h2
  obtain ⟨x3, rfl, q3⟩ := ofT_i64 Try.underlying3 h3
  obtain ⟨x4, rfl, q4, r4⟩ := ofT_sms h4
  obtain ⟨x5, rfl, q5, r5⟩ := ofT_ces h5
  exact ⟨⟨x0, x1, x2, x3, x4, x5⟩, rfl, q0, q1, q2, q3, q4, r4, q5, r5⟩
theorem ofT_cgs {n : Nat} {ds : List AV} (h : ofT Try.prog n 25 ds) : ∃ l : List Ch, ds = [SL (l.map cgE)] ∧ l.length ≤ 9223372036854775807 ∧ ∀ x ∈ l, OpCh x := by
  obtain ⟨m, es, rfl, hl, he⟩ := ofT_slice Try.underlying25 h
  obtain ⟨l, rfl, hi⟩ := list_of (f := cgE) (Q := OpCh) fun x hx => by
    obtain ⟨q1, q2⟩ := he x hx
    obtain ⟨y, hy, hi⟩ := ofT_cg q1
    exact ⟨y, by rw [cells_agg (q2.trans (by kernel_rfl)), hy]; rfl, hi⟩
  exact ⟨l, rfl, by rw [List.length_map] at hl; exact hl, hi⟩
def OpMs (x : Ms) : Prop := (-9223372036854775808 ≤ x.kd ∧ x.kd < 9223372036854775808) ∧ (-9223372036854775808 ≤ x.fr ∧ x.fr < 9223372036854775808) ∧ (-9223372036854775808 ≤ x.vw ∧ x.vw < 9223372036854775808) ∧ (-9223372036854775808 ≤ x.sq ∧ x.sq < 9223372036854775808) ∧ (-9223372036854775808 ≤ x.tm ∧ x.tm < 9223372036854775808) ∧ x.body.length ≤ 9223372036854775807 ∧ x.vs.length ≤ 9223372036854775807 ∧ (∀ y ∈ x.vs, OpSm y) ∧ x.chs.length ≤ 9223372036854775807 ∧ (∀ y ∈ x.chs, OpCh y)
theorem ofT_ms {n : Nat} {ds : List AV} (h : ofT Try.prog n 27 ds) : ∃ x : Ms, ds = msC x ∧ OpMs x := by
  obtain ⟨m, a0, b0, rfl, h0, a1, b1, rfl, h1, a2, b2, rfl, h2, a3, b3, rfl, h3, a4, b4, rfl, h4, a5, b5, rfl, h5, a6, b6, rfl, h6, a7, b7, rfl, h7, rfl⟩ := ofT_struct Try.underlying27 h
  obtain ⟨x0, rfl, q0⟩ := ofT_i64 Try.underlying3 h0
  obtain ⟨x1, rfl, q1⟩ := ofT_i64 Try.underlying3 h1
  obtain ⟨x2, rfl, q2⟩ := ofT_i64 Try.underlying3 h2
  obtain ⟨x3, rfl, q3⟩ := ofT_i64 Try.underlying3 h3
  obtain ⟨x4, rfl, q4⟩ := ofT_i64 Try.underlying3 h4
  obtain ⟨x5, rfl, q5⟩ := ofT_str Try.underlying9 h5
  obtain ⟨x6, rfl, q6, r6⟩ := ofT_sms h6
  obtain ⟨x7, rfl, q7, r7⟩ := ofT_cgs h7
  exact ⟨⟨x0, x1, x2, x3, x4, x5, x6, x7⟩, rfl, q0, q1, q2, q3, q4, q5, q6, r6, q7, r7⟩
theorem arg_ms {W : World} {v : Value} (h : Arg Try.prog W 27 v) : ∃ x : Ms, OpMs x ∧ rep (SW W) [] (msE x) v := by
  obtain ⟨n, ds, h1, h2⟩ := h
  obtain ⟨t, rfl, ht⟩ := ofT_ms h1
  rw [mk_many (by kernel_rfl)] at h2
  exact ⟨t, ht, h2⟩
theorem OpCh.big {x : Ch} (h : OpCh x) : BigC x := ⟨h.2.2.2.2.1, h.2.2.2.2.2.2.1, fun y hy => ⟨(h.2.2.2.2.2.2.2 y hy).2.2.2.1, (h.2.2.2.2.2.2.2 y hy).2.2.2.2.1⟩⟩
theorem OpMs.big {x : Ms} (h : OpMs x) : BigM x := ⟨h.2.2.2.2.2.1, h.2.2.2.2.2.2.1, h.2.2.2.2.2.2.2.2.1, fun y hy => (h.2.2.2.2.2.2.2.2.2 y hy).big⟩
theorem arg_by {W : World} {v : Value} (h : Arg Try.prog W 23 v) : ∃ l : List UInt8, l.length ≤ maxLen ∧ rep (SW W) [] (SL (bC l)) v := by
  obtain ⟨n, ds, h1, h2⟩ := h
  obtain ⟨m, es, rfl, hl, he⟩ := ofT_slice Try.underlying23 h1
  obtain ⟨l, rfl, _⟩ := list_of (f := fun b : UInt8 => V (cB b)) (Q := fun _ => True) fun x hx => by
    obtain ⟨q1, q2⟩ := he x hx
    obtain ⟨i, hi, h3, h4⟩ := ofT_int Try.underlying5 q1
    have h3' : 0 ≤ i := h3
    have h4' : i ≤ 255 := h4
    refine ⟨UInt8.ofNat i.toNat, ?_, trivial⟩
    have e := cells_lone (hi) (q2.trans (by kernel_rfl))
    rw [e]
    have : ((UInt8.ofNat i.toNat).toNat : Int) = i := by
      rw [UInt8.toNat_ofNat']
      omega
    unfold cB
    rw [this]
  rw [mk_lone (by kernel_rfl)] at h2
  exact ⟨l, by simpa using hl, h2⟩
end Go.Proofs.Ytbdbmfifclmpcaa

namespace Go.Proofs.Ytbdbmfifclmpcaa
open Go.RowKit
set_option linter.unusedVariables false
set_option linter.unusedSimpArgs false
set_option maxRecDepth 20000
inductive Unbad (bad : AV → Prop) : AV → Prop
  | nil : Unbad bad .nil
  | held (x) : Unbad bad (.held x)
  | slice (es : List AV) : (∀ d ∈ es, ∀ y ∈ cellsOf d, ¬ bad y) → (∀ d ∈ es, ∀ y ∈ cellsOf d, Unbad bad y) → Unbad bad (.slice es [])
  | ptr (d : AV) : (∀ y ∈ cellsOf d, ¬ bad y) → (∀ y ∈ cellsOf d, Unbad bad y) → Unbad bad (.ptr d)
def UnbadA (bad : AV → Prop) : AV → Prop
  | .agg cs => ∀ y ∈ cs, Unbad bad y
  | d => Unbad bad d
def UnbadV (bad : AV → Prop) : AV → Prop
  | .iface _ (.agg ds) => ∀ d ∈ ds, UnbadA bad d
  | d => UnbadA bad d
section
variable {P : Program} {G : Gl} {S S2 : SS} {n0 : Nat} {bad : AV → Prop}
abbrev lendS (S S2 : SS) (n0 : Nat) (bad : AV → Prop) : SS := fun b j d => S b j d ∨ (n0 ≤ b ∧ S2 b j d ∧ Unbad bad d)
theorem rep1.lend (key : ∀ b j y, S2 b j y → n0 ≤ b ∨ S b j y ∨ bad y) {d : AV} {v : Value} (h : rep1 S2 [] d v) (hG : Unbad bad d) : rep1 (lendS S S2 n0 bad) [] d v := by
  cases hG with
  | nil => trivial
  | held x =>
    rcases x with u | ⟨i, o⟩ | ⟨i, m⟩
    · exact h
    · obtain ⟨b, x, hb, _⟩ := h; simp at hb
    · obtain ⟨A, q, c, A0, c0, hb, _⟩ := h; simp at hb
  | slice es h1 h2 =>
    obtain ⟨A, c, rfl, l1, l2, l3⟩ := h
    refine ⟨A, c, rfl, l1, l2, fun hne => ?_⟩
    obtain ⟨b, o, z, rfl, hin⟩ := l3 hne
    refine ⟨b, o, z, rfl, fun i d hd => ⟨(hin i d hd).1, fun j y hy => ?_⟩⟩
    have q := (hin i d hd).2 j y hy
    have m1 := List.mem_of_getElem? hd
    have m2 := List.mem_of_getElem? hy
    rcases key _ _ _ q with k | k | k
    · exact .inr ⟨k, q, h2 d m1 y m2⟩
    · exact .inl k
    · exact absurd k (h1 d m1 y m2)
  | ptr d h1 h2 =>
    obtain ⟨b, o, rfl, hin⟩ := h
    refine ⟨b, o, rfl, fun j y hy => ?_⟩
    have q := hin j y hy
    have m2 := List.mem_of_getElem? hy
    rcases key _ _ _ q with k | k | k
    · exact .inr ⟨k, q, h2 y m2⟩
    · exact .inl k
    · exact absurd k (h1 y m2)
theorem repA.lend (key : ∀ b j y, S2 b j y → n0 ≤ b ∨ S b j y ∨ bad y) {d : AV} {v : Value} (h : repA S2 [] d v) (hG : UnbadA bad d) : repA (lendS S S2 n0 bad) [] d v := by
  unfold repA at h ⊢
  split
  · simp only at h
    obtain ⟨us, e, hr⟩ := h
    exact ⟨us, e, hr.1, fun j d u hd hu => ⟨(hr.2 j d u hd hu).1, (hr.2 j d u hd hu).2.lend key (hG d (List.mem_of_getElem? hd))⟩⟩
  · rename_i hne
    split at h
    · exact absurd rfl (hne _)
    · refine rep1.lend key h ?_
      unfold UnbadA at hG
      split at hG
      · exact absurd rfl (hne _)
      · exact hG
theorem rep.lend (key : ∀ b j y, S2 b j y → n0 ≤ b ∨ S b j y ∨ bad y) {d : AV} {v : Value} (h : rep S2 [] d v) (hG : UnbadV bad d) : rep (lendS S S2 n0 bad) [] d v := by
  unfold rep at h ⊢
  split
  · simp only at h
    obtain ⟨us, e, hl, hr⟩ := h
    exact ⟨us, e, hl, fun j d u hd hu => (hr j d u hd hu).lend key (hG d (List.mem_of_getElem? hd))⟩
  · rename_i hne
    split at h
    · exact absurd rfl (hne _ _)
    · refine repA.lend key h ?_
      unfold UnbadV at hG
      split at hG
      · exact absurd rfl (hne _ _)
      · exact hG
theorem rel_none {w : World} {μ : List Value} {H : List AObj} (hr : Rel w S μ H) : Rel w S [] [] :=
  ⟨rfl, hr.still, fun i x o hi => by simp at hi, fun i x o hi => by simp at hi, fun i i' x x' o o' b hi => by simp at hi, fun i x o b hi => by simp at hi⟩
theorem lend_post {w w' : World} {μ : List Value} {H : List AObj} (hr : Rel w S μ H) (hb : ∀ o ∈ H, o.k = 4 → ∀ y ∈ flat o.c, bad y) (hrel : Rel w' S2 [] []) (hst : Step 0 w (frS S μ H) [] [] w' S2 [] []) :
    (∀ b j y, S2 b j y → w.heap.size ≤ b ∨ S b j y ∨ bad y) ∧ Rel w' (lendS S S2 w.heap.size bad) μ H ∧ Step H.length w S μ H w' (lendS S S2 w.heap.size bad) μ H := by
  have hbe := hst.below
  have key : ∀ b j y, S2 b j y → w.heap.size ≤ b ∨ S b j y ∨ bad y := by
    intro b j y q
    by_cases hlt : b < w.heap.size
    · rcases hst.old b j y q hlt with q | q
      · rcases q with q | ⟨i, o, x, ho, hk, _, _, _, hd⟩
        · exact .inr (.inl q)
        · exact .inr (.inr (hb o (List.mem_of_getElem? ho) hk y (List.mem_of_getElem? hd)))
      · obtain ⟨i, x, o, hi, _⟩ := q; simp at hi
    · exact .inl (by omega)
  exact ⟨key, hr.grow (S' := lendS S S2 w.heap.size bad) hbe (fun _ _ _ q => .inl q) (fun b j d q => q.imp id fun k => k.1) (fun b j d q hlt => by
    rcases q with q | ⟨_, q, hg⟩
    · have := hr.still_lt q; omega
    · obtain ⟨u, h1, h2, h3⟩ := hrel.still b j d q
      exact ⟨u, h1, h2, h3.lend key hg⟩)⟩
theorem lend_call {f : FuncId} {args : List AV} {X : AV} {H : List AObj} (bad : AV → Prop) (h : ACp P G f (args.map (fzV H)) X) (ha : (args.map (fzV H)).all (ltT 0) = true) (hb : ∀ o ∈ H, o.k = 4 → ∀ y ∈ flat o.c, bad y) (hX : UnbadV bad X) : AC P G f args H (Is X H) := by
  refine ⟨h.1, fun w S μ vs hr hg hl hv => ?_⟩
  have hg1 : GOk G (frS S μ H) := hg.ext fun _ _ _ q => .inl q
  refine (h.2 w (frS S μ H) [] vs (rel_none hr.freeze) hg1 (by simpa using hl) fun j d v hd hvj => ?_).mono ?_
  · rw [List.getElem?_map] at hd
    obtain ⟨d0, hd0, rfl⟩ := Option.map_eq_some_iff.1 hd
    exact ((hv j d0 v hd0 hvj).fz hr).none ((List.all_eq_true.1 ha) _ (List.mem_map.2 ⟨d0, List.mem_of_getElem? hd0, rfl⟩))
  rintro e w' ⟨v, r, H', S2, μ', he, ⟨rfl, rfl⟩, hrel, hrep, hst⟩
  have hμ : μ' = [] := List.eq_nil_of_length_eq_zero hrel.len
  subst hμ
  obtain ⟨key, q1, q2⟩ := lend_post hr hb hrel hst
  exact ⟨v, _, H, _, μ, he, ⟨rfl, rfl⟩, q1, (hrep.lend key hX).free, q2⟩
theorem flat_inS {b z : Nat} : ∀ {es : List AV} {o : Nat}, inS S b o z es → ∀ (j : Nat) (y : AV), (flat es)[j]? = some y → S b (o + j) y
  | [], o, h, j, y, hy => by simp [flat] at hy
  | d :: r, o, h, j, y, hy => by
    obtain ⟨h1, h2⟩ := h 0 d rfl
    have hf : flat (d :: r) = cellsOf d ++ flat r := by simp [flat]
    rw [hf] at hy
    by_cases hj : j < (cellsOf d).length
    · rw [List.getElem?_append_left hj] at hy
      have := h2 j y hy
      simpa using this
    · rw [List.getElem?_append_right (by omega)] at hy
      have := flat_inS (es := r) (o := o + z) (fun i d' hd => ⟨(h (i + 1) d' (by simpa using hd)).1, fun k y hk => by
        have := (h (i + 1) d' (by simpa using hd)).2 k y hk
        rwa [show o + (i + 1) * z + k = o + z + i * z + k by rw [Nat.succ_mul]; omega] at this⟩) (j - z) y (by rw [← h1]; exact hy)
      rwa [show o + z + (j - z) = o + j by omega] at this
theorem thaw_call {f : FuncId} {args : List AV} {e : TypeId} {z i : Nat} {es : List AV} {H3 : List AObj} (h : AC P G f args [] (Is (OW i es.length) H3)) (hi : H3[i]? = some ⟨2, e, z, es⟩) (hall : allC z es) (hes : ∀ y ∈ flat es, ∃ u, y = V u) (ha : args.all (ltT 0) = true) (H : List AObj) :
    AC P G f args H (Is (PR H.length es.length) (H ++ [⟨4, e, z, es⟩])) := by
  refine ⟨h.1, fun w S μ vs hr hg hl hv => ?_⟩
  refine (h.2 w S [] vs (rel_none hr) hg hl fun j d v hd hvj => (hv j d v hd hvj).none ((List.all_eq_true.1 ha) d (List.mem_of_getElem? hd))).mono ?_
  rintro e' w' ⟨v, r, H', S2, μ', he, ⟨rfl, rfl⟩, hrel, hrep, hst⟩
  have hbe := hst.below
  obtain ⟨A, m, c, A', c', hμ, hn, rfl, heq⟩ := hrep
  obtain ⟨us, A2, c2, e2, l1, l2, hown, hin⟩ := (hrel.objs i _ _ hμ hi).2.1 rfl
  dsimp only at e2 l1 hown hin
  injection e2 with e2 e3 e4
  subst e2 e3 e4
  obtain ⟨rfl, rfl⟩ := heq rfl
  have hblk : ∀ b, blkOf (MR A' es.length c') = some b → w.heap.size ≤ b := by
    intro b hb
    apply Nat.le_of_not_lt
    intro hlt
    obtain ⟨i0, x0, o0, hx0, _⟩ := hst.mine b ⟨i, _, _, hμ, hi, by simp, (by cases A' <;> rfl : blkOf (.slice A' es.length c') = blkOf (MR A' es.length c')).trans hb⟩ hlt
    simp at hx0
  obtain ⟨q1, q2⟩ := hr.grow (S' := S) hbe (fun _ _ _ q => q) (fun _ _ _ q => .inl q) (fun b j d q hlt => by have := hr.still_lt q; omega)
  have hob : objRep w' S (μ ++ [MR A' es.length c']) (MR A' es.length c') ⟨4, e, z, es⟩ := by
    refine ⟨fun q => by simp at q, fun q => by simp at q, fun _ => ⟨A', c', rfl, l1, l2, hall, fun h0 => ?_⟩⟩
    rcases (hown h0).2 with ⟨q, _⟩ | ⟨g, cap, cur, q, _, hg2, k1, k2, k3, k4⟩
    · injection q with _ _ q; exact absurd q h0
    injection q with q _ qc
    subst q qc
    refine ⟨g, cur, rfl, hg2, k3, ?_⟩
    dsimp only
    have hlen : (cur.toList.take (es.length * z)).length = (flat es).length := by
      rw [k4, (hown h0).1, flatE_length hall]
    refine ⟨hlen, fun j y u hy hu => ?_⟩
    have hne : es ≠ [] := by rintro rfl; simp [flat] at hy
    obtain ⟨b, hb, hin⟩ := hin hne
    injection hb with hb; injection hb with hb
    subst hb
    have hs := flat_inS hin j y hy
    rw [Nat.zero_add] at hs
    obtain ⟨u', h1, h2, h3⟩ := hrel.still _ _ _ hs
    have hc := cell_row hg2 rfl hu
    rw [hc] at h1
    injection h1 with h1
    subst h1
    obtain ⟨u2, rfl⟩ := hes y (List.mem_of_getElem? hy)
    exact ⟨h2, h3⟩
  have q3 : Rel w' S (μ ++ [MR A' es.length c']) (H ++ [⟨4, e, z, es⟩]) := by
    refine q1.add (.inr (.inr (.inr rfl))) hob fun b hbk => ⟨?_, fun j d hs => ?_⟩
    · rintro ⟨k, y, o, hy, ho, hk, hb'⟩
      have := hr.own_lt hy ho hk hb'
      have := hblk b hbk
      omega
    · have := hr.still_lt hs
      have := hblk b hbk
      omega
  exact ⟨_, _, _, S, _, he, ⟨rfl, rfl⟩, q3, ⟨A', c', by rw [← hr.len]; simp, rfl, l1, l2⟩, q2.add hr.len hblk⟩
def isV : AV → Bool
  | .held (.inl _) => true
  | _ => false
theorem isV_ok {d : AV} (h : isV d = true) : ∃ u, d = V u := by
  unfold isV at h
  split at h
  · exact ⟨_, rfl⟩
  · cases h
noncomputable def thawT (r : RO) (args : List AV) (H : List AObj) : RO := match r with
  | some (.held (.inr (.inr (i, n))), H3) => (match H3[i]? with
    | some o => if o.k = 2 ∧ n = o.c.length ∧ allCE o.z o.c = true ∧ (flat o.c).all isV = true ∧ args.all (ltT 0) = true then some (PR H.length n, H ++ [⟨4, o.e, o.z, o.c⟩]) else none
    | none => none)
  | _ => none
theorem thaw_ok {f : FuncId} {args : List AV} {H : List AObj} {r : RO} (h : ∀ X H', r = some (X, H') → AC P G f args [] (Is X H')) {X : AV} {H' : List AObj} (hx : thawT r args H = some (X, H')) : AC P G f args H (Is X H') := by
  unfold thawT at hx
  split at hx
  · rename_i i n H3
    split at hx
    · rename_i o ho
      split at hx
      · rename_i hc
        obtain ⟨h1, h2, h3, h4, h5⟩ := hc
        cases hx
        obtain ⟨k, e, z, c⟩ := o
        dsimp only at h1 h2 h3 h4
        subst h1 h2
        exact thaw_call (h _ _ rfl) ho (allCE_ok h3) (fun y hy => isV_ok (List.all_eq_true.1 h4 y hy)) h5 H
      · cases hx
    · cases hx
  · cases hx
noncomputable def pureT (r : RO) (args : List AV) (H : List AObj) : RO := match r with
  | some (X, _) => if args.all (ltT 0) = true then some (X, H) else none
  | none => none
theorem pure_ok {f : FuncId} {args : List AV} {H : List AObj} {r : RO} (h : ∀ X H', r = some (X, H') → ACp P G f args X) {X : AV} {H' : List AObj} (hx : pureT r args H = some (X, H')) : AC P G f args H (Is X H') := by
  unfold pureT at hx
  split at hx
  · split at hx
    · rename_i hc
      cases hx
      exact AC.pure (h _ _ rfl) hc H
    · cases hx
  · cases hx
noncomputable def lendT (bad : AV → Prop) (r : RO) (args : List AV) (H : List AObj) : RO := match r with
  | some (X, _) => open Classical in if (args.map (fzV H)).all (ltT 0) = true ∧ (∀ o ∈ H, o.k = 4 → ∀ y ∈ flat o.c, bad y) ∧ UnbadV bad X then some (X, H) else none
  | none => none
theorem lend_ok {bad : AV → Prop} {f : FuncId} {args : List AV} {H : List AObj} {r : RO} (h : ∀ X H', r = some (X, H') → ACp P G f (args.map (fzV H)) X) {X : AV} {H' : List AObj} (hx : lendT bad r args H = some (X, H')) : AC P G f args H (Is X H') := by
  unfold lendT at hx
  split at hx
  · split at hx
    · rename_i hc
      cases hx
      exact lend_call bad (h _ _ rfl) hc.1 hc.2.1 hc.2.2
    · cases hx
  · cases hx
theorem lend_e {bad : AV → Prop} {args : List AV} {H H0 : List AObj} {X : AV} (h1 : (args.map (fzV H)).all (ltT 0) = true) (h2 : ∀ o ∈ H, o.k = 4 → ∀ y ∈ flat o.c, bad y) (h3 : UnbadV bad X) : lendT bad (some (X, H0)) args H = some (X, H) := by
  unfold lendT
  exact if_pos ⟨h1, h2, h3⟩
end
end Go.Proofs.Ytbdbmfifclmpcaa

namespace Go.Proofs.Ytbdbmfifclmpcaa
open Go.RowKit
set_option linter.unusedVariables false
set_option linter.unusedSimpArgs false
set_option maxRecDepth 20000
def isU8 (y : AV) : Prop := ∃ k, y = V (.int .u8 k)
noncomputable def wire_EncodeB_t (m : Nat) (args : List AV) (H : List AObj) : RO := if H.length = 1 then thawT (wire_EncodeO_t m args []) args H else pureT (wire_Encode_t m args) args H
theorem wire_EncodeB_ok (m : Nat) : ∀ args H X H', wire_EncodeB_t m args H = some (X, H') → AC Try.prog GG 14 args H (Is X H') := by
  intro args H X H' h
  unfold wire_EncodeB_t at h
  split at h
  · exact thaw_ok (fun X H' q => wire_EncodeO_ok m args [] X H' q) h
  · exact pure_ok (fun X H' q => wire_Encode_ok m args X H' q) h
noncomputable def wire_DecodeB_t (m : Nat) (args : List AV) (H : List AObj) : RO := lendT isU8 (wire_Decode_t m (args.map (fzV H))) args H
theorem wire_DecodeB_ok (m : Nat) : ∀ args H X H', wire_DecodeB_t m args H = some (X, H') → AC Try.prog GG 9 args H (Is X H') := by
  intro args H X H' h
  exact lend_ok (fun X H' q => wire_Decode_ok m _ X H' q) h
end Go.Proofs.Ytbdbmfifclmpcaa
