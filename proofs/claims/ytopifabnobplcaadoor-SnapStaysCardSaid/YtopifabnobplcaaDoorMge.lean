/-
  Texts laid together, part 5 of 6: laws of a walk over data, contracts of functions, each whole by itself.
-/
import Derived.Test.YtopifabnobplcaaDoorMgd
import Derived.KernelRfl
import Derived.Test.YtopifabnobplcaaDoorMgb
namespace Go.Proofs.YtopifabnobplcaaDoor
open Go.RowKit
set_option linter.unusedVariables false
set_option linter.unusedSimpArgs false
set_option maxRecDepth 20000
structure St where
  t : Tr
  ver : Int
  bytes : Int
  keys : Int
def St.tail (s : St) : List AV := [nA s.ver, nA s.bytes, nA s.keys]
def stC (s : St) : List AV := tC s.t ++ s.tail
def stA (s : St) : AV := .agg (stC s)
theorem stA_def (s : St) : stA s = .agg (stC s) := _root_.id rfl
theorem stC_len (s : St) : (stC s).length = 35 := by unfold stC; rw [List.length_append, tC_len]; rfl
theorem stC_all (s : St) (f : AV → Bool) (h : (tC s.t).all f = true) (h2 : ∀ i : Int, f (nA i) = true) : (stC s).all f = true := by
  unfold stC St.tail
  rw [List.all_append, h]
  simp [h2]
section
variable {R : Type} {s : St} {i n : Nat} {K1 : AV → Option R} {H : List AObj}
theorem st_ltA : (stC s).all (ltA n) = true := stC_all s _ tC_ltA fun _ => rfl
theorem st_sure : (stC s).all sure = true := stC_all s _ tC_sure fun _ => rfl
theorem st_lt1 : (stC s).all (lt1 n) = true := stC_all s _ tC_lt1 fun _ => rfl
theorem st_ro : (stC s).map (ro1 H) = stC s := by unfold stC; rw [List.map_append, tC_ro]; rfl
theorem st_tv (h : 16 ≤ i) (h2 : i < 32) : nthE (stC s) i K1 = K1 (nA (s.t.ver (i - 16))) := by
  rw [← u_tv (t := s.t) (K1 := K1) h h2]
  unfold nthE stC
  rw [List.getElem?_append_left (by rw [tC_len]; exact h2)]
theorem u_vv {t : Tr} (h : i < 16) : nthE (veC t) i K1 = K1 (nA (t.ver i)) := by
  unfold nthE veC
  simp [List.getElem?_map, List.getElem?_range h]
theorem ve_lt1 {t : Tr} : (veC t).all (lt1 n) = true := List.all_eq_true.2 fun d hd => by
  unfold veC at hd
  obtain ⟨j, _, rfl⟩ := List.mem_map.1 hd
  rfl
theorem st_vers : ((stC s).drop 16).take 16 = veC s.t := by
  unfold stC tC
  rw [List.append_assoc, List.drop_left' leC_len, List.take_left' veC_len]
theorem st_all1 : ((stC s).all fun x => lt1 n (ro1 H x)) = true := stC_all s _ tC_all1 fun _ => rfl
theorem st_take35 : (stC s).take 35 = stC s := List.take_of_length_le (by rw [stC_len]; exact Nat.le_refl _)
theorem st_set {u : Tr} : setCells (stC s) 0 (tC u) = stC { s with t := u } := by
  rw [setCells_at _ _ _ (by rw [stC_len, tC_len]; omega), tC_len]
  unfold stC
  rw [List.drop_left' (by rw [tC_len])]
  rfl
theorem z_set : setCells zc_api_Store 0 (stC s) = stC s := by
  rw [setCells_at _ _ _ (by rw [stC_len]; exact Nat.le_refl _), stC_len]
  simp [zc_api_Store]
theorem zcS_len : zc_api_Store.length = 35 := _root_.id rfl
theorem st_take : (stC s).take 32 = tC s.t := List.take_left' tC_len
theorem st_ver : nthE (stC s) 32 K1 = K1 (nA s.ver) := by unfold nthE stC; rw [List.getElem?_append_right (by rw [tC_len]; omega), tC_len]; rfl
theorem st_bytes : nthE (stC s) 33 K1 = K1 (nA s.bytes) := by unfold nthE stC; rw [List.getElem?_append_right (by rw [tC_len]; omega), tC_len]; rfl
theorem st_keys : nthE (stC s) 34 K1 = K1 (nA s.keys) := by unfold nthE stC; rw [List.getElem?_append_right (by rw [tC_len]; omega), tC_len]; rfl
end
def inB (v most : Int) : Bool := decide (0 ≤ v) && decide (v ≤ most)
theorem within_s (m : Nat) (v most : Int) : store_within m (nA v) (nA most) = some (bA (inB v most), []) := by
  rw [store_within_eq]
  unfold inB
  simp (config := {maxSteps := 4000000, implicitDefEqProofs := false}) only [go_sem, ↓reduceIte, Nat.reduceAdd, Nat.reduceSub, Nat.reduceMul, Nat.reduceLeDiff, Nat.reduceLT, Int.reduceEq, Int.reduceNe, Int.reduceLT, Int.reduceLE, Int.reduceAdd, Int.reduceSub, Int.reduceMul, Int.reduceNeg, Nat.zero_add, Nat.add_zero, Nat.mul_one, Int.toNat_natCast, Int.natCast_zero, Int.cast_ofNat_Int, or_false, false_or, or_true, true_or, Int.reduceToNat, Nat.sub_zero, Int.natCast_nonneg, Int.toNat_zero, Bool.true_and, Bool.and_true, Bool.false_and, Bool.and_false, Bool.true_or, Bool.or_true, Bool.false_or, Bool.or_false, Bool.not_true, Bool.not_false, Bool.not_not, true_and, and_true, false_and, and_false, not_true_eq_false, not_false_eq_true, eq_self, decide_true, decide_false, ne_eq, implies_true, forall_const, true_implies, false_implies, Bool.true_eq_false, Bool.false_eq_true, reduceCtorEq, List.map_cons, List.map_nil, List.all_cons, List.all_nil, List.length_cons, List.length_nil, List.length_map, List.length_append, List.nil_append, List.cons_append, List.set_cons_zero, List.set_cons_succ, List.set_nil, List.drop_zero, List.drop_succ_cons, List.drop_nil, List.take_zero, List.take_succ_cons, List.take_nil, Option.map_some, Option.map_none, Option.isSome_some, Nat.reduceEqDiff, Nat.reduceBEq, Nat.reduceGT, List.all_append, List.all_map, Function.comp_def, decide_eq_true_eq, Bool.and_eq_true, beq_self_eq_true, or_self, and_self, ite_true, ite_false, Nat.le_refl, Bool.not_eq_true, decide_not, Bool.not_eq_true', decide_eq_false_iff_not, Bool.not_eq_false, Bool.or_eq_true, if_true, if_false, ite_self]
  by_cases h : 0 ≤ v
  · simp (config := {maxSteps := 4000000, implicitDefEqProofs := false}) only [go_sem, ↓reduceIte, Nat.reduceAdd, Nat.reduceSub, Nat.reduceMul, Nat.reduceLeDiff, Nat.reduceLT, Int.reduceEq, Int.reduceNe, Int.reduceLT, Int.reduceLE, Int.reduceAdd, Int.reduceSub, Int.reduceMul, Int.reduceNeg, Nat.zero_add, Nat.add_zero, Nat.mul_one, Int.toNat_natCast, Int.natCast_zero, Int.cast_ofNat_Int, or_false, false_or, or_true, true_or, Int.reduceToNat, Nat.sub_zero, Int.natCast_nonneg, Int.toNat_zero, Bool.true_and, Bool.and_true, Bool.false_and, Bool.and_false, Bool.true_or, Bool.or_true, Bool.false_or, Bool.or_false, Bool.not_true, Bool.not_false, Bool.not_not, true_and, and_true, false_and, and_false, not_true_eq_false, not_false_eq_true, eq_self, decide_true, decide_false, ne_eq, implies_true, forall_const, true_implies, false_implies, Bool.true_eq_false, Bool.false_eq_true, reduceCtorEq, List.map_cons, List.map_nil, List.all_cons, List.all_nil, List.length_cons, List.length_nil, List.length_map, List.length_append, List.nil_append, List.cons_append, List.set_cons_zero, List.set_cons_succ, List.set_nil, List.drop_zero, List.drop_succ_cons, List.drop_nil, List.take_zero, List.take_succ_cons, List.take_nil, Option.map_some, Option.map_none, Option.isSome_some, Nat.reduceEqDiff, Nat.reduceBEq, Nat.reduceGT, List.all_append, List.all_map, Function.comp_def, decide_eq_true_eq, Bool.and_eq_true, beq_self_eq_true, or_self, and_self, ite_true, ite_false, Nat.le_refl, Bool.not_eq_true, decide_not, Bool.not_eq_true', decide_eq_false_iff_not, Bool.not_eq_false, Bool.or_eq_true, if_true, if_false, ite_self, h]
  · simp (config := {maxSteps := 4000000, implicitDefEqProofs := false}) only [go_sem, ↓reduceIte, Nat.reduceAdd, Nat.reduceSub, Nat.reduceMul, Nat.reduceLeDiff, Nat.reduceLT, Int.reduceEq, Int.reduceNe, Int.reduceLT, Int.reduceLE, Int.reduceAdd, Int.reduceSub, Int.reduceMul, Int.reduceNeg, Nat.zero_add, Nat.add_zero, Nat.mul_one, Int.toNat_natCast, Int.natCast_zero, Int.cast_ofNat_Int, or_false, false_or, or_true, true_or, Int.reduceToNat, Nat.sub_zero, Int.natCast_nonneg, Int.toNat_zero, Bool.true_and, Bool.and_true, Bool.false_and, Bool.and_false, Bool.true_or, Bool.or_true, Bool.false_or, Bool.or_false, Bool.not_true, Bool.not_false, Bool.not_not, true_and, and_true, false_and, and_false, not_true_eq_false, not_false_eq_true, eq_self, decide_true, decide_false, ne_eq, implies_true, forall_const, true_implies, false_implies, Bool.true_eq_false, Bool.false_eq_true, reduceCtorEq, List.map_cons, List.map_nil, List.all_cons, List.all_nil, List.length_cons, List.length_nil, List.length_map, List.length_append, List.nil_append, List.cons_append, List.set_cons_zero, List.set_cons_succ, List.set_nil, List.drop_zero, List.drop_succ_cons, List.drop_nil, List.take_zero, List.take_succ_cons, List.take_nil, Option.map_some, Option.map_none, Option.isSome_some, Nat.reduceEqDiff, Nat.reduceBEq, Nat.reduceGT, List.all_append, List.all_map, Function.comp_def, decide_eq_true_eq, Bool.and_eq_true, beq_self_eq_true, or_self, and_self, ite_true, ite_false, Nat.le_refl, Bool.not_eq_true, decide_not, Bool.not_eq_true', decide_eq_false_iff_not, Bool.not_eq_false, Bool.or_eq_true, if_true, if_false, ite_self, h]
def versB (s : St) : Bool := (List.range 16).all fun i => decide (s.t.ver i ≤ s.ver)
theorem vers_no {s : St} {k : Nat} (hk : k < 16) (h : ¬ s.t.ver k ≤ s.ver) : versB s = false := List.all_eq_false.2 ⟨k, List.mem_range.2 hk, by simp [h]⟩
def mayS (s : St) : Bool := mayT s.t && inB s.ver 2147483647 && inB s.bytes 65536 && inB s.keys 1024 && versB s && decide ((weightT s.t : Int) ≤ s.bytes) && decide ((countT s.t : Int) ≤ s.keys)
theorem smay_s (m : Nat) (s : St) (hm : 1000000 < m) (h : s.t.Ok) : store_May m (stA s) = some (bA (mayS s), []) := by
  rw [store_May_eq, stA_def]
  have hM := trunk_May_e m s.t h
  have hW := trunk_Weight_e m s.t h
  have hC := trunk_Count_e m s.t h
  rw [tA_def] at hM hW hC
  simp (config := {maxSteps := 4000000, implicitDefEqProofs := false}) (disch := omega) only [go_sem, ↓reduceIte, Nat.reduceAdd, Nat.reduceSub, Nat.reduceMul, Nat.reduceLeDiff, Nat.reduceLT, Int.reduceEq, Int.reduceNe, Int.reduceLT, Int.reduceLE, Int.reduceAdd, Int.reduceSub, Int.reduceMul, Int.reduceNeg, Nat.zero_add, Nat.add_zero, Nat.mul_one, Int.toNat_natCast, Int.natCast_zero, Int.cast_ofNat_Int, or_false, false_or, or_true, true_or, Int.reduceToNat, Nat.sub_zero, Int.natCast_nonneg, Int.toNat_zero, Bool.true_and, Bool.and_true, Bool.false_and, Bool.and_false, Bool.true_or, Bool.or_true, Bool.false_or, Bool.or_false, Bool.not_true, Bool.not_false, Bool.not_not, true_and, and_true, false_and, and_false, not_true_eq_false, not_false_eq_true, eq_self, decide_true, decide_false, ne_eq, implies_true, forall_const, true_implies, false_implies, Bool.true_eq_false, Bool.false_eq_true, reduceCtorEq, List.map_cons, List.map_nil, List.all_cons, List.all_nil, List.length_cons, List.length_nil, List.length_map, List.length_append, List.nil_append, List.cons_append, List.set_cons_zero, List.set_cons_succ, List.set_nil, List.drop_zero, List.drop_succ_cons, List.drop_nil, List.take_zero, List.take_succ_cons, List.take_nil, Option.map_some, Option.map_none, Option.isSome_some, Nat.reduceEqDiff, Nat.reduceBEq, Nat.reduceGT, List.all_append, List.all_map, Function.comp_def, decide_eq_true_eq, Bool.and_eq_true, beq_self_eq_true, or_self, and_self, ite_true, ite_false, Nat.le_refl, Bool.not_eq_true, decide_not, Bool.not_eq_true', decide_eq_false_iff_not, Bool.not_eq_false, Bool.or_eq_true, if_true, if_false, ite_self, tC_len, tC_sure, tC_ltA, tC_lt1, tC_ro, tC_take, tC_all1, zC_len, zC_ltA, zC_lt1, zC_sure, zC_ro, zC_take, set_tl, set_tv, sc_tt, sc_zt, sc_tz, sc_zz, add16, tA_def, lA_def, natInt, u_tl, u_tv, st_take, st_ver, st_bytes, st_keys, st_ltA, st_sure, stC_len, within_s, hM, store_May_r2_eq, store_May_r1_eq]
  unfold mayS
  cases h1 : mayT s.t with
  | false => simp (config := {maxSteps := 4000000, implicitDefEqProofs := false}) only [go_sem, ↓reduceIte, Nat.reduceAdd, Nat.reduceSub, Nat.reduceMul, Nat.reduceLeDiff, Nat.reduceLT, Int.reduceEq, Int.reduceNe, Int.reduceLT, Int.reduceLE, Int.reduceAdd, Int.reduceSub, Int.reduceMul, Int.reduceNeg, Nat.zero_add, Nat.add_zero, Nat.mul_one, Int.toNat_natCast, Int.natCast_zero, Int.cast_ofNat_Int, or_false, false_or, or_true, true_or, Int.reduceToNat, Nat.sub_zero, Int.natCast_nonneg, Int.toNat_zero, Bool.true_and, Bool.and_true, Bool.false_and, Bool.and_false, Bool.true_or, Bool.or_true, Bool.false_or, Bool.or_false, Bool.not_true, Bool.not_false, Bool.not_not, true_and, and_true, false_and, and_false, not_true_eq_false, not_false_eq_true, eq_self, decide_true, decide_false, ne_eq, implies_true, forall_const, true_implies, false_implies, Bool.true_eq_false, Bool.false_eq_true, reduceCtorEq, List.map_cons, List.map_nil, List.all_cons, List.all_nil, List.length_cons, List.length_nil, List.length_map, List.length_append, List.nil_append, List.cons_append, List.set_cons_zero, List.set_cons_succ, List.set_nil, List.drop_zero, List.drop_succ_cons, List.drop_nil, List.take_zero, List.take_succ_cons, List.take_nil, Option.map_some, Option.map_none, Option.isSome_some, Nat.reduceEqDiff, Nat.reduceBEq, Nat.reduceGT, List.all_append, List.all_map, Function.comp_def, decide_eq_true_eq, Bool.and_eq_true, beq_self_eq_true, or_self, and_self, ite_true, ite_false, Nat.le_refl, Bool.not_eq_true, decide_not, Bool.not_eq_true', decide_eq_false_iff_not, Bool.not_eq_false, Bool.or_eq_true, if_true, if_false, ite_self]
  | true =>
  cases h2 : inB s.ver 2147483647 with
  | false => simp (config := {maxSteps := 4000000, implicitDefEqProofs := false}) only [go_sem, ↓reduceIte, Nat.reduceAdd, Nat.reduceSub, Nat.reduceMul, Nat.reduceLeDiff, Nat.reduceLT, Int.reduceEq, Int.reduceNe, Int.reduceLT, Int.reduceLE, Int.reduceAdd, Int.reduceSub, Int.reduceMul, Int.reduceNeg, Nat.zero_add, Nat.add_zero, Nat.mul_one, Int.toNat_natCast, Int.natCast_zero, Int.cast_ofNat_Int, or_false, false_or, or_true, true_or, Int.reduceToNat, Nat.sub_zero, Int.natCast_nonneg, Int.toNat_zero, Bool.true_and, Bool.and_true, Bool.false_and, Bool.and_false, Bool.true_or, Bool.or_true, Bool.false_or, Bool.or_false, Bool.not_true, Bool.not_false, Bool.not_not, true_and, and_true, false_and, and_false, not_true_eq_false, not_false_eq_true, eq_self, decide_true, decide_false, ne_eq, implies_true, forall_const, true_implies, false_implies, Bool.true_eq_false, Bool.false_eq_true, reduceCtorEq, List.map_cons, List.map_nil, List.all_cons, List.all_nil, List.length_cons, List.length_nil, List.length_map, List.length_append, List.nil_append, List.cons_append, List.set_cons_zero, List.set_cons_succ, List.set_nil, List.drop_zero, List.drop_succ_cons, List.drop_nil, List.take_zero, List.take_succ_cons, List.take_nil, Option.map_some, Option.map_none, Option.isSome_some, Nat.reduceEqDiff, Nat.reduceBEq, Nat.reduceGT, List.all_append, List.all_map, Function.comp_def, decide_eq_true_eq, Bool.and_eq_true, beq_self_eq_true, or_self, and_self, ite_true, ite_false, Nat.le_refl, Bool.not_eq_true, decide_not, Bool.not_eq_true', decide_eq_false_iff_not, Bool.not_eq_false, Bool.or_eq_true, if_true, if_false, ite_self]
  | true =>
  cases h3 : inB s.bytes 65536 with
  | false => simp (config := {maxSteps := 4000000, implicitDefEqProofs := false}) only [go_sem, ↓reduceIte, Nat.reduceAdd, Nat.reduceSub, Nat.reduceMul, Nat.reduceLeDiff, Nat.reduceLT, Int.reduceEq, Int.reduceNe, Int.reduceLT, Int.reduceLE, Int.reduceAdd, Int.reduceSub, Int.reduceMul, Int.reduceNeg, Nat.zero_add, Nat.add_zero, Nat.mul_one, Int.toNat_natCast, Int.natCast_zero, Int.cast_ofNat_Int, or_false, false_or, or_true, true_or, Int.reduceToNat, Nat.sub_zero, Int.natCast_nonneg, Int.toNat_zero, Bool.true_and, Bool.and_true, Bool.false_and, Bool.and_false, Bool.true_or, Bool.or_true, Bool.false_or, Bool.or_false, Bool.not_true, Bool.not_false, Bool.not_not, true_and, and_true, false_and, and_false, not_true_eq_false, not_false_eq_true, eq_self, decide_true, decide_false, ne_eq, implies_true, forall_const, true_implies, false_implies, Bool.true_eq_false, Bool.false_eq_true, reduceCtorEq, List.map_cons, List.map_nil, List.all_cons, List.all_nil, List.length_cons, List.length_nil, List.length_map, List.length_append, List.nil_append, List.cons_append, List.set_cons_zero, List.set_cons_succ, List.set_nil, List.drop_zero, List.drop_succ_cons, List.drop_nil, List.take_zero, List.take_succ_cons, List.take_nil, Option.map_some, Option.map_none, Option.isSome_some, Nat.reduceEqDiff, Nat.reduceBEq, Nat.reduceGT, List.all_append, List.all_map, Function.comp_def, decide_eq_true_eq, Bool.and_eq_true, beq_self_eq_true, or_self, and_self, ite_true, ite_false, Nat.le_refl, Bool.not_eq_true, decide_not, Bool.not_eq_true', decide_eq_false_iff_not, Bool.not_eq_false, Bool.or_eq_true, if_true, if_false, ite_self]
  | true =>
  cases h4 : inB s.keys 1024 with
  | false => simp (config := {maxSteps := 4000000, implicitDefEqProofs := false}) only [go_sem, ↓reduceIte, Nat.reduceAdd, Nat.reduceSub, Nat.reduceMul, Nat.reduceLeDiff, Nat.reduceLT, Int.reduceEq, Int.reduceNe, Int.reduceLT, Int.reduceLE, Int.reduceAdd, Int.reduceSub, Int.reduceMul, Int.reduceNeg, Nat.zero_add, Nat.add_zero, Nat.mul_one, Int.toNat_natCast, Int.natCast_zero, Int.cast_ofNat_Int, or_false, false_or, or_true, true_or, Int.reduceToNat, Nat.sub_zero, Int.natCast_nonneg, Int.toNat_zero, Bool.true_and, Bool.and_true, Bool.false_and, Bool.and_false, Bool.true_or, Bool.or_true, Bool.false_or, Bool.or_false, Bool.not_true, Bool.not_false, Bool.not_not, true_and, and_true, false_and, and_false, not_true_eq_false, not_false_eq_true, eq_self, decide_true, decide_false, ne_eq, implies_true, forall_const, true_implies, false_implies, Bool.true_eq_false, Bool.false_eq_true, reduceCtorEq, List.map_cons, List.map_nil, List.all_cons, List.all_nil, List.length_cons, List.length_nil, List.length_map, List.length_append, List.nil_append, List.cons_append, List.set_cons_zero, List.set_cons_succ, List.set_nil, List.drop_zero, List.drop_succ_cons, List.drop_nil, List.take_zero, List.take_succ_cons, List.take_nil, Option.map_some, Option.map_none, Option.isSome_some, Nat.reduceEqDiff, Nat.reduceBEq, Nat.reduceGT, List.all_append, List.all_map, Function.comp_def, decide_eq_true_eq, Bool.and_eq_true, beq_self_eq_true, or_self, and_self, ite_true, ite_false, Nat.le_refl, Bool.not_eq_true, decide_not, Bool.not_eq_true', decide_eq_false_iff_not, Bool.not_eq_false, Bool.or_eq_true, if_true, if_false, ite_self]
  | true =>
  simp (config := {maxSteps := 4000000, implicitDefEqProofs := false}) (disch := omega) only [go_sem, ↓reduceIte, Nat.reduceAdd, Nat.reduceSub, Nat.reduceMul, Nat.reduceLeDiff, Nat.reduceLT, Int.reduceEq, Int.reduceNe, Int.reduceLT, Int.reduceLE, Int.reduceAdd, Int.reduceSub, Int.reduceMul, Int.reduceNeg, Nat.zero_add, Nat.add_zero, Nat.mul_one, Int.toNat_natCast, Int.natCast_zero, Int.cast_ofNat_Int, or_false, false_or, or_true, true_or, Int.reduceToNat, Nat.sub_zero, Int.natCast_nonneg, Int.toNat_zero, Bool.true_and, Bool.and_true, Bool.false_and, Bool.and_false, Bool.true_or, Bool.or_true, Bool.false_or, Bool.or_false, Bool.not_true, Bool.not_false, Bool.not_not, true_and, and_true, false_and, and_false, not_true_eq_false, not_false_eq_true, eq_self, decide_true, decide_false, ne_eq, implies_true, forall_const, true_implies, false_implies, Bool.true_eq_false, Bool.false_eq_true, reduceCtorEq, List.map_cons, List.map_nil, List.all_cons, List.all_nil, List.length_cons, List.length_nil, List.length_map, List.length_append, List.nil_append, List.cons_append, List.set_cons_zero, List.set_cons_succ, List.set_nil, List.drop_zero, List.drop_succ_cons, List.drop_nil, List.take_zero, List.take_succ_cons, List.take_nil, Option.map_some, Option.map_none, Option.isSome_some, Nat.reduceEqDiff, Nat.reduceBEq, Nat.reduceGT, List.all_append, List.all_map, Function.comp_def, decide_eq_true_eq, Bool.and_eq_true, beq_self_eq_true, or_self, and_self, ite_true, ite_false, Nat.le_refl, Bool.not_eq_true, decide_not, Bool.not_eq_true', decide_eq_false_iff_not, Bool.not_eq_false, Bool.or_eq_true, if_true, if_false, ite_self, tC_len, tC_sure, tC_ltA, tC_lt1, tC_ro, tC_take, tC_all1, zC_len, zC_ltA, zC_lt1, zC_sure, zC_ro, zC_take, set_tl, set_tv, sc_tt, sc_zt, sc_tz, sc_zz, add16, tA_def, lA_def, natInt, u_tl, u_tv, st_take, st_ver, st_bytes, st_keys, st_ltA, st_sure, st_vers, stC_len, within_s, store_May_r1_eq]
  refine iter_ind (ι := {k : Nat // k ≤ 16 ∧ (List.range k).all (fun i => decide (s.t.ver i ≤ s.ver)) = true}) (fun k => ⟨[⟨1, ty_api_Store, 0, stC s⟩], [(1, OP 0 0), (29, .agg (veC s.t)), (30, nA k.1)]⟩) (fun k => 16 - k.1) (fun _ => some (bA (versB s && decide ((weightT s.t : Int) ≤ s.bytes) && decide ((countT s.t : Int) ≤ s.keys)), [])) ?_ ⟨0, Nat.zero_le _, rfl⟩ (by dsimp only; omega)
  rintro ⟨k, hk, hall⟩ kc hkc
  dsimp only at hkc ⊢
  rw [store_May_b1_eq]
  by_cases hlt : k < 16
  · have hlt' : (k : Int) < 16 := by omega
    by_cases hv : s.t.ver k ≤ s.ver
    · have step := hkc ⟨k + 1, by omega, by rw [List.range_succ, List.all_append, hall]; simp [hv]⟩ (by dsimp only; omega)
      have hv' : ¬ s.ver < s.t.ver k := by omega
      simp (config := {maxSteps := 4000000, implicitDefEqProofs := false}) (disch := omega) only [go_sem, ↓reduceIte, Nat.reduceAdd, Nat.reduceSub, Nat.reduceMul, Nat.reduceLeDiff, Nat.reduceLT, Int.reduceEq, Int.reduceNe, Int.reduceLT, Int.reduceLE, Int.reduceAdd, Int.reduceSub, Int.reduceMul, Int.reduceNeg, Nat.zero_add, Nat.add_zero, Nat.mul_one, Int.toNat_natCast, Int.natCast_zero, Int.cast_ofNat_Int, or_false, false_or, or_true, true_or, Int.reduceToNat, Nat.sub_zero, Int.natCast_nonneg, Int.toNat_zero, Bool.true_and, Bool.and_true, Bool.false_and, Bool.and_false, Bool.true_or, Bool.or_true, Bool.false_or, Bool.or_false, Bool.not_true, Bool.not_false, Bool.not_not, true_and, and_true, false_and, and_false, not_true_eq_false, not_false_eq_true, eq_self, decide_true, decide_false, ne_eq, implies_true, forall_const, true_implies, false_implies, Bool.true_eq_false, Bool.false_eq_true, reduceCtorEq, List.map_cons, List.map_nil, List.all_cons, List.all_nil, List.length_cons, List.length_nil, List.length_map, List.length_append, List.nil_append, List.cons_append, List.set_cons_zero, List.set_cons_succ, List.set_nil, List.drop_zero, List.drop_succ_cons, List.drop_nil, List.take_zero, List.take_succ_cons, List.take_nil, Option.map_some, Option.map_none, Option.isSome_some, Nat.reduceEqDiff, Nat.reduceBEq, Nat.reduceGT, List.all_append, List.all_map, Function.comp_def, decide_eq_true_eq, Bool.and_eq_true, beq_self_eq_true, or_self, and_self, ite_true, ite_false, Nat.le_refl, Bool.not_eq_true, decide_not, Bool.not_eq_true', decide_eq_false_iff_not, Bool.not_eq_false, Bool.or_eq_true, if_true, if_false, ite_self, tC_len, tC_sure, tC_ltA, tC_lt1, tC_ro, tC_take, tC_all1, zC_len, zC_ltA, zC_lt1, zC_sure, zC_ro, zC_take, set_tl, set_tv, sc_tt, sc_zt, sc_tz, sc_zz, add16, tA_def, lA_def, natInt, u_tl, u_tv, hlt', u_vv, ve_lt1, st_ver, st_ltA, stC_len, hv', w_i64]
      exact step
    · have hv' : s.ver < s.t.ver k := by omega
      simp (config := {maxSteps := 4000000, implicitDefEqProofs := false}) (disch := omega) only [go_sem, ↓reduceIte, Nat.reduceAdd, Nat.reduceSub, Nat.reduceMul, Nat.reduceLeDiff, Nat.reduceLT, Int.reduceEq, Int.reduceNe, Int.reduceLT, Int.reduceLE, Int.reduceAdd, Int.reduceSub, Int.reduceMul, Int.reduceNeg, Nat.zero_add, Nat.add_zero, Nat.mul_one, Int.toNat_natCast, Int.natCast_zero, Int.cast_ofNat_Int, or_false, false_or, or_true, true_or, Int.reduceToNat, Nat.sub_zero, Int.natCast_nonneg, Int.toNat_zero, Bool.true_and, Bool.and_true, Bool.false_and, Bool.and_false, Bool.true_or, Bool.or_true, Bool.false_or, Bool.or_false, Bool.not_true, Bool.not_false, Bool.not_not, true_and, and_true, false_and, and_false, not_true_eq_false, not_false_eq_true, eq_self, decide_true, decide_false, ne_eq, implies_true, forall_const, true_implies, false_implies, Bool.true_eq_false, Bool.false_eq_true, reduceCtorEq, List.map_cons, List.map_nil, List.all_cons, List.all_nil, List.length_cons, List.length_nil, List.length_map, List.length_append, List.nil_append, List.cons_append, List.set_cons_zero, List.set_cons_succ, List.set_nil, List.drop_zero, List.drop_succ_cons, List.drop_nil, List.take_zero, List.take_succ_cons, List.take_nil, Option.map_some, Option.map_none, Option.isSome_some, Nat.reduceEqDiff, Nat.reduceBEq, Nat.reduceGT, List.all_append, List.all_map, Function.comp_def, decide_eq_true_eq, Bool.and_eq_true, beq_self_eq_true, or_self, and_self, ite_true, ite_false, Nat.le_refl, Bool.not_eq_true, decide_not, Bool.not_eq_true', decide_eq_false_iff_not, Bool.not_eq_false, Bool.or_eq_true, if_true, if_false, ite_self, tC_len, tC_sure, tC_ltA, tC_lt1, tC_ro, tC_take, tC_all1, zC_len, zC_ltA, zC_lt1, zC_sure, zC_ro, zC_take, set_tl, set_tv, sc_tt, sc_zt, sc_tz, sc_zz, add16, tA_def, lA_def, natInt, u_tl, u_tv, hlt', u_vv, ve_lt1, st_ver, st_ltA, stC_len, hv', w_i64]
      rw [vers_no hlt hv]
      rfl
  · have hlt' : ¬ (k : Int) < 16 := by omega
    have : k = 16 := by omega
    subst this
    have hv : versB s = true := hall
    simp (config := {maxSteps := 4000000, implicitDefEqProofs := false}) (disch := omega) only [go_sem, ↓reduceIte, Nat.reduceAdd, Nat.reduceSub, Nat.reduceMul, Nat.reduceLeDiff, Nat.reduceLT, Int.reduceEq, Int.reduceNe, Int.reduceLT, Int.reduceLE, Int.reduceAdd, Int.reduceSub, Int.reduceMul, Int.reduceNeg, Nat.zero_add, Nat.add_zero, Nat.mul_one, Int.toNat_natCast, Int.natCast_zero, Int.cast_ofNat_Int, or_false, false_or, or_true, true_or, Int.reduceToNat, Nat.sub_zero, Int.natCast_nonneg, Int.toNat_zero, Bool.true_and, Bool.and_true, Bool.false_and, Bool.and_false, Bool.true_or, Bool.or_true, Bool.false_or, Bool.or_false, Bool.not_true, Bool.not_false, Bool.not_not, true_and, and_true, false_and, and_false, not_true_eq_false, not_false_eq_true, eq_self, decide_true, decide_false, ne_eq, implies_true, forall_const, true_implies, false_implies, Bool.true_eq_false, Bool.false_eq_true, reduceCtorEq, List.map_cons, List.map_nil, List.all_cons, List.all_nil, List.length_cons, List.length_nil, List.length_map, List.length_append, List.nil_append, List.cons_append, List.set_cons_zero, List.set_cons_succ, List.set_nil, List.drop_zero, List.drop_succ_cons, List.drop_nil, List.take_zero, List.take_succ_cons, List.take_nil, Option.map_some, Option.map_none, Option.isSome_some, Nat.reduceEqDiff, Nat.reduceBEq, Nat.reduceGT, List.all_append, List.all_map, Function.comp_def, decide_eq_true_eq, Bool.and_eq_true, beq_self_eq_true, or_self, and_self, ite_true, ite_false, Nat.le_refl, Bool.not_eq_true, decide_not, Bool.not_eq_true', decide_eq_false_iff_not, Bool.not_eq_false, Bool.or_eq_true, if_true, if_false, ite_self, tC_len, tC_sure, tC_ltA, tC_lt1, tC_ro, tC_take, tC_all1, zC_len, zC_ltA, zC_lt1, zC_sure, zC_ro, zC_take, set_tl, set_tv, sc_tt, sc_zt, sc_tz, sc_zz, add16, tA_def, lA_def, natInt, u_tl, u_tv, hlt', hv, st_take, st_ver, st_bytes, st_keys, st_ltA, st_sure, stC_len, hW, hC, store_May_r2_eq]
    by_cases hw : (weightT s.t : Int) ≤ s.bytes
    · simp (config := {maxSteps := 4000000, implicitDefEqProofs := false}) only [go_sem, ↓reduceIte, Nat.reduceAdd, Nat.reduceSub, Nat.reduceMul, Nat.reduceLeDiff, Nat.reduceLT, Int.reduceEq, Int.reduceNe, Int.reduceLT, Int.reduceLE, Int.reduceAdd, Int.reduceSub, Int.reduceMul, Int.reduceNeg, Nat.zero_add, Nat.add_zero, Nat.mul_one, Int.toNat_natCast, Int.natCast_zero, Int.cast_ofNat_Int, or_false, false_or, or_true, true_or, Int.reduceToNat, Nat.sub_zero, Int.natCast_nonneg, Int.toNat_zero, Bool.true_and, Bool.and_true, Bool.false_and, Bool.and_false, Bool.true_or, Bool.or_true, Bool.false_or, Bool.or_false, Bool.not_true, Bool.not_false, Bool.not_not, true_and, and_true, false_and, and_false, not_true_eq_false, not_false_eq_true, eq_self, decide_true, decide_false, ne_eq, implies_true, forall_const, true_implies, false_implies, Bool.true_eq_false, Bool.false_eq_true, reduceCtorEq, List.map_cons, List.map_nil, List.all_cons, List.all_nil, List.length_cons, List.length_nil, List.length_map, List.length_append, List.nil_append, List.cons_append, List.set_cons_zero, List.set_cons_succ, List.set_nil, List.drop_zero, List.drop_succ_cons, List.drop_nil, List.take_zero, List.take_succ_cons, List.take_nil, Option.map_some, Option.map_none, Option.isSome_some, Nat.reduceEqDiff, Nat.reduceBEq, Nat.reduceGT, List.all_append, List.all_map, Function.comp_def, decide_eq_true_eq, Bool.and_eq_true, beq_self_eq_true, or_self, and_self, ite_true, ite_false, Nat.le_refl, Bool.not_eq_true, decide_not, Bool.not_eq_true', decide_eq_false_iff_not, Bool.not_eq_false, Bool.or_eq_true, if_true, if_false, ite_self, hw]
    · simp (config := {maxSteps := 4000000, implicitDefEqProofs := false}) only [go_sem, ↓reduceIte, Nat.reduceAdd, Nat.reduceSub, Nat.reduceMul, Nat.reduceLeDiff, Nat.reduceLT, Int.reduceEq, Int.reduceNe, Int.reduceLT, Int.reduceLE, Int.reduceAdd, Int.reduceSub, Int.reduceMul, Int.reduceNeg, Nat.zero_add, Nat.add_zero, Nat.mul_one, Int.toNat_natCast, Int.natCast_zero, Int.cast_ofNat_Int, or_false, false_or, or_true, true_or, Int.reduceToNat, Nat.sub_zero, Int.natCast_nonneg, Int.toNat_zero, Bool.true_and, Bool.and_true, Bool.false_and, Bool.and_false, Bool.true_or, Bool.or_true, Bool.false_or, Bool.or_false, Bool.not_true, Bool.not_false, Bool.not_not, true_and, and_true, false_and, and_false, not_true_eq_false, not_false_eq_true, eq_self, decide_true, decide_false, ne_eq, implies_true, forall_const, true_implies, false_implies, Bool.true_eq_false, Bool.false_eq_true, reduceCtorEq, List.map_cons, List.map_nil, List.all_cons, List.all_nil, List.length_cons, List.length_nil, List.length_map, List.length_append, List.nil_append, List.cons_append, List.set_cons_zero, List.set_cons_succ, List.set_nil, List.drop_zero, List.drop_succ_cons, List.drop_nil, List.take_zero, List.take_succ_cons, List.take_nil, Option.map_some, Option.map_none, Option.isSome_some, Nat.reduceEqDiff, Nat.reduceBEq, Nat.reduceGT, List.all_append, List.all_map, Function.comp_def, decide_eq_true_eq, Bool.and_eq_true, beq_self_eq_true, or_self, and_self, ite_true, ite_false, Nat.le_refl, Bool.not_eq_true, decide_not, Bool.not_eq_true', decide_eq_false_iff_not, Bool.not_eq_false, Bool.or_eq_true, if_true, if_false, ite_self, hw]
theorem rin_s (m : Nat) (v most : Int) : plenumref13_in m (nA v) (nA most) = some (bA (inB v most), []) := by
  rw [plenumref13_in_eq]
  unfold inB
  by_cases h : 0 ≤ v
  · simp (config := {maxSteps := 4000000, implicitDefEqProofs := false}) only [go_sem, ↓reduceIte, Nat.reduceAdd, Nat.reduceSub, Nat.reduceMul, Nat.reduceLeDiff, Nat.reduceLT, Int.reduceEq, Int.reduceNe, Int.reduceLT, Int.reduceLE, Int.reduceAdd, Int.reduceSub, Int.reduceMul, Int.reduceNeg, Nat.zero_add, Nat.add_zero, Nat.mul_one, Int.toNat_natCast, Int.natCast_zero, Int.cast_ofNat_Int, or_false, false_or, or_true, true_or, Int.reduceToNat, Nat.sub_zero, Int.natCast_nonneg, Int.toNat_zero, Bool.true_and, Bool.and_true, Bool.false_and, Bool.and_false, Bool.true_or, Bool.or_true, Bool.false_or, Bool.or_false, Bool.not_true, Bool.not_false, Bool.not_not, true_and, and_true, false_and, and_false, not_true_eq_false, not_false_eq_true, eq_self, decide_true, decide_false, ne_eq, implies_true, forall_const, true_implies, false_implies, Bool.true_eq_false, Bool.false_eq_true, reduceCtorEq, List.map_cons, List.map_nil, List.all_cons, List.all_nil, List.length_cons, List.length_nil, List.length_map, List.length_append, List.nil_append, List.cons_append, List.set_cons_zero, List.set_cons_succ, List.set_nil, List.drop_zero, List.drop_succ_cons, List.drop_nil, List.take_zero, List.take_succ_cons, List.take_nil, Option.map_some, Option.map_none, Option.isSome_some, Nat.reduceEqDiff, Nat.reduceBEq, Nat.reduceGT, List.all_append, List.all_map, Function.comp_def, decide_eq_true_eq, Bool.and_eq_true, beq_self_eq_true, or_self, and_self, ite_true, ite_false, Nat.le_refl, Bool.not_eq_true, decide_not, Bool.not_eq_true', decide_eq_false_iff_not, Bool.not_eq_false, Bool.or_eq_true, if_true, if_false, ite_self, h]
  · simp (config := {maxSteps := 4000000, implicitDefEqProofs := false}) only [go_sem, ↓reduceIte, Nat.reduceAdd, Nat.reduceSub, Nat.reduceMul, Nat.reduceLeDiff, Nat.reduceLT, Int.reduceEq, Int.reduceNe, Int.reduceLT, Int.reduceLE, Int.reduceAdd, Int.reduceSub, Int.reduceMul, Int.reduceNeg, Nat.zero_add, Nat.add_zero, Nat.mul_one, Int.toNat_natCast, Int.natCast_zero, Int.cast_ofNat_Int, or_false, false_or, or_true, true_or, Int.reduceToNat, Nat.sub_zero, Int.natCast_nonneg, Int.toNat_zero, Bool.true_and, Bool.and_true, Bool.false_and, Bool.and_false, Bool.true_or, Bool.or_true, Bool.false_or, Bool.or_false, Bool.not_true, Bool.not_false, Bool.not_not, true_and, and_true, false_and, and_false, not_true_eq_false, not_false_eq_true, eq_self, decide_true, decide_false, ne_eq, implies_true, forall_const, true_implies, false_implies, Bool.true_eq_false, Bool.false_eq_true, reduceCtorEq, List.map_cons, List.map_nil, List.all_cons, List.all_nil, List.length_cons, List.length_nil, List.length_map, List.length_append, List.nil_append, List.cons_append, List.set_cons_zero, List.set_cons_succ, List.set_nil, List.drop_zero, List.drop_succ_cons, List.drop_nil, List.take_zero, List.take_succ_cons, List.take_nil, Option.map_some, Option.map_none, Option.isSome_some, Nat.reduceEqDiff, Nat.reduceBEq, Nat.reduceGT, List.all_append, List.all_map, Function.comp_def, decide_eq_true_eq, Bool.and_eq_true, beq_self_eq_true, or_self, and_self, ite_true, ite_false, Nat.le_refl, Bool.not_eq_true, decide_not, Bool.not_eq_true', decide_eq_false_iff_not, Bool.not_eq_false, Bool.or_eq_true, if_true, if_false, ite_self, h]
theorem weight_app (a b : List Item) : weight (a ++ b) = weight a + weight b := by simp [weight]
theorem weight_all {t : Tr} (h : mayT t = true) : ∀ n, n ≤ 16 → sumTo (fun i => weightP (t.leaf i)) n = weight (allTo t n)
  | 0, _ => rfl
  | n + 1, hn => by
    rw [allTo_succ, weight_app, ← weight_all h n (by omega)]
    show sumTo _ n + weightP (t.leaf n) = _
    rw [weightP, fits_leaf h (by omega : n < 16)]
    rfl
theorem allTo_mem {t : Tr} {n : Nat} {x : Item} (h : x ∈ allTo t n) : ∃ i, i < n ∧ x ∈ t.leaf i := by
  simp only [allTo, List.mem_flatMap, List.mem_range] at h
  exact h
theorem rweight_s (m : Nat) (t : Tr) (hm : 16000000 < m) (h : t.Ok) (hmay : mayT t = true) : plenumref13_Weight m (tA t) = some (nA (weight (allTo t 16)), []) := by
  have hA := rall_s m t (by omega) h
  have hle := allTo_le t h 16
  have hval : ∀ x ∈ allTo t 16, NumOk x ∧ itemB x = true := by
    intro x hx
    obtain ⟨i, hi, hx⟩ := allTo_mem hx
    exact ⟨((h i).2.1 x hx).2, (fits_key hmay hi hx).1⟩
  have hwl : weight (allTo t 16) ≤ 16000000000 := by
    rw [← weight_all hmay 16 (Nat.le_refl _)]
    have : ∀ n, sumTo (fun i => weightP (t.leaf i)) n ≤ n * 1000000000 := by
      intro n
      induction n with
      | zero => exact Nat.le_refl _
      | succ n ih => have := (h n).2.2; show sumTo _ n + weightP (t.leaf n) ≤ _; omega
    exact this 16
  rw [tA_def] at hA
  rw [plenumref13_Weight_eq, tA_def]
  generalize allTo t 16 = a at hA hle hval hwl ⊢
  simp (config := {maxSteps := 4000000, implicitDefEqProofs := false}) (disch := omega) only [go_sem, ↓reduceIte, Nat.reduceAdd, Nat.reduceSub, Nat.reduceMul, Nat.reduceLeDiff, Nat.reduceLT, Int.reduceEq, Int.reduceNe, Int.reduceLT, Int.reduceLE, Int.reduceAdd, Int.reduceSub, Int.reduceMul, Int.reduceNeg, Nat.zero_add, Nat.add_zero, Nat.mul_one, Int.toNat_natCast, Int.natCast_zero, Int.cast_ofNat_Int, or_false, false_or, or_true, true_or, Int.reduceToNat, Nat.sub_zero, Int.natCast_nonneg, Int.toNat_zero, Bool.true_and, Bool.and_true, Bool.false_and, Bool.and_false, Bool.true_or, Bool.or_true, Bool.false_or, Bool.or_false, Bool.not_true, Bool.not_false, Bool.not_not, true_and, and_true, false_and, and_false, not_true_eq_false, not_false_eq_true, eq_self, decide_true, decide_false, ne_eq, implies_true, forall_const, true_implies, false_implies, Bool.true_eq_false, Bool.false_eq_true, reduceCtorEq, List.map_cons, List.map_nil, List.all_cons, List.all_nil, List.length_cons, List.length_nil, List.length_map, List.length_append, List.nil_append, List.cons_append, List.set_cons_zero, List.set_cons_succ, List.set_nil, List.drop_zero, List.drop_succ_cons, List.drop_nil, List.take_zero, List.take_succ_cons, List.take_nil, Option.map_some, Option.map_none, Option.isSome_some, Nat.reduceEqDiff, Nat.reduceBEq, Nat.reduceGT, List.all_append, List.all_map, Function.comp_def, decide_eq_true_eq, Bool.and_eq_true, beq_self_eq_true, or_self, and_self, ite_true, ite_false, Nat.le_refl, Bool.not_eq_true, decide_not, Bool.not_eq_true', decide_eq_false_iff_not, Bool.not_eq_false, Bool.or_eq_true, if_true, if_false, ite_self, tC_len, tC_sure, tC_ltA, tC_lt1, tC_ro, tC_take, tC_all1, zC_len, zC_ltA, zC_lt1, zC_sure, zC_ro, zC_take, set_tl, set_tv, sc_tt, sc_zt, sc_tz, sc_zz, add16, tA_def, lA_def, natInt, u_tl, u_tv, hA]
  refine iter_go (ι := {j : Nat // j ≤ a.length}) (fun j => ⟨[⟨1, ty_api_Trunk, 0, tC t⟩], [(3, nA (weight (a.take j.1))), (4, SL (a.map (flA Item.cells))), (5, nA j.1)]⟩) (fun j => a.length - j.1) (fun _ => some (nA (weight a), [])) ?_ ⟨0, Nat.zero_le _⟩ (by dsimp only; omega)
  rintro kx hkx ⟨j, hj⟩ kc hkc
  dsimp only at hkc ⊢
  rw [plenumref13_Weight_b1_eq]
  by_cases hlt : j < a.length
  · have hlt' : (j : Int) < (a.length : Int) := by omega
    have step := hkc ⟨j + 1, by omega⟩ (by dsimp only; omega)
    obtain ⟨hn, hi⟩ := hval a[j] (List.getElem_mem hlt)
    have hv : valB a[j].kind a[j].i a[j].s = true := by
      unfold itemB at hi
      simp only [Bool.and_eq_true] at hi
      exact hi.1.1.1.2
    have hE := plenumref07_Encode_e m a[j].kind a[j].i a[j].s ⟨hn.1, hn.2, hv⟩
    have hw := weight_take a j hlt
    have hw2 : weight (a.take (j + 1)) ≤ weight a := by
      have := weight_app (a.take (j + 1)) (a.drop (j + 1))
      rw [List.take_append_drop] at this
      omega
    dsimp only at step
    have hs1 : (weight (a.take (j + 1)) : Int) = (weight (a.take j) : Int) + ((a[j].key.length : Int) + ((encV a[j].kind a[j].i a[j].s).length : Int)) := by omega
    rw [hs1] at step
    simp (config := {maxSteps := 4000000, implicitDefEqProofs := false}) (disch := omega) only [go_sem, ↓reduceIte, Nat.reduceAdd, Nat.reduceSub, Nat.reduceMul, Nat.reduceLeDiff, Nat.reduceLT, Int.reduceEq, Int.reduceNe, Int.reduceLT, Int.reduceLE, Int.reduceAdd, Int.reduceSub, Int.reduceMul, Int.reduceNeg, Nat.zero_add, Nat.add_zero, Nat.mul_one, Int.toNat_natCast, Int.natCast_zero, Int.cast_ofNat_Int, or_false, false_or, or_true, true_or, Int.reduceToNat, Nat.sub_zero, Int.natCast_nonneg, Int.toNat_zero, Bool.true_and, Bool.and_true, Bool.false_and, Bool.and_false, Bool.true_or, Bool.or_true, Bool.false_or, Bool.or_false, Bool.not_true, Bool.not_false, Bool.not_not, true_and, and_true, false_and, and_false, not_true_eq_false, not_false_eq_true, eq_self, decide_true, decide_false, ne_eq, implies_true, forall_const, true_implies, false_implies, Bool.true_eq_false, Bool.false_eq_true, reduceCtorEq, List.map_cons, List.map_nil, List.all_cons, List.all_nil, List.length_cons, List.length_nil, List.length_map, List.length_append, List.nil_append, List.cons_append, List.set_cons_zero, List.set_cons_succ, List.set_nil, List.drop_zero, List.drop_succ_cons, List.drop_nil, List.take_zero, List.take_succ_cons, List.take_nil, Option.map_some, Option.map_none, Option.isSome_some, Nat.reduceEqDiff, Nat.reduceBEq, Nat.reduceGT, List.all_append, List.all_map, Function.comp_def, decide_eq_true_eq, Bool.and_eq_true, beq_self_eq_true, or_self, and_self, ite_true, ite_false, Nat.le_refl, Bool.not_eq_true, decide_not, Bool.not_eq_true', decide_eq_false_iff_not, Bool.not_eq_false, Bool.or_eq_true, if_true, if_false, ite_self, tC_len, tC_sure, tC_ltA, tC_lt1, tC_ro, tC_take, tC_all1, zC_len, zC_ltA, zC_lt1, zC_sure, zC_ro, zC_take, set_tl, set_tv, sc_tt, sc_zt, sc_tz, sc_zz, add16, tA_def, lA_def, natInt, u_tl, u_tv, hlt', u_nthM, fl_it, w_i64, hE, fl_allA]
    exact step
  · have hlt' : ¬ (j : Int) < (a.length : Int) := by omega
    have : j = a.length := by omega
    subst this
    simp (config := {maxSteps := 4000000, implicitDefEqProofs := false}) (disch := omega) only [go_sem, ↓reduceIte, Nat.reduceAdd, Nat.reduceSub, Nat.reduceMul, Nat.reduceLeDiff, Nat.reduceLT, Int.reduceEq, Int.reduceNe, Int.reduceLT, Int.reduceLE, Int.reduceAdd, Int.reduceSub, Int.reduceMul, Int.reduceNeg, Nat.zero_add, Nat.add_zero, Nat.mul_one, Int.toNat_natCast, Int.natCast_zero, Int.cast_ofNat_Int, or_false, false_or, or_true, true_or, Int.reduceToNat, Nat.sub_zero, Int.natCast_nonneg, Int.toNat_zero, Bool.true_and, Bool.and_true, Bool.false_and, Bool.and_false, Bool.true_or, Bool.or_true, Bool.false_or, Bool.or_false, Bool.not_true, Bool.not_false, Bool.not_not, true_and, and_true, false_and, and_false, not_true_eq_false, not_false_eq_true, eq_self, decide_true, decide_false, ne_eq, implies_true, forall_const, true_implies, false_implies, Bool.true_eq_false, Bool.false_eq_true, reduceCtorEq, List.map_cons, List.map_nil, List.all_cons, List.all_nil, List.length_cons, List.length_nil, List.length_map, List.length_append, List.nil_append, List.cons_append, List.set_cons_zero, List.set_cons_succ, List.set_nil, List.drop_zero, List.drop_succ_cons, List.drop_nil, List.take_zero, List.take_succ_cons, List.take_nil, Option.map_some, Option.map_none, Option.isSome_some, Nat.reduceEqDiff, Nat.reduceBEq, Nat.reduceGT, List.all_append, List.all_map, Function.comp_def, decide_eq_true_eq, Bool.and_eq_true, beq_self_eq_true, or_self, and_self, ite_true, ite_false, Nat.le_refl, Bool.not_eq_true, decide_not, Bool.not_eq_true', decide_eq_false_iff_not, Bool.not_eq_false, Bool.or_eq_true, if_true, if_false, ite_self, tC_len, tC_sure, tC_ltA, tC_lt1, tC_ro, tC_take, tC_all1, zC_len, zC_ltA, zC_lt1, zC_sure, zC_ro, zC_take, set_tl, set_tv, sc_tt, sc_zt, sc_tz, sc_zz, add16, tA_def, lA_def, natInt, u_tl, u_tv, hlt', hkx, fl_allA, List.take_length, plenumref13_Weight_r1_eq]
theorem rmayS_s (m : Nat) (s : St) (hm : 16000000 < m) (h : s.t.Ok) : plenumref13_May m (stA s) = some (bA (mayS s), []) := by
  rw [plenumref13_May_eq, stA_def]
  have hM := rmay10_s m s.t (by omega) h
  rw [tA_def] at hM
  simp (config := {maxSteps := 4000000, implicitDefEqProofs := false}) (disch := omega) only [go_sem, ↓reduceIte, Nat.reduceAdd, Nat.reduceSub, Nat.reduceMul, Nat.reduceLeDiff, Nat.reduceLT, Int.reduceEq, Int.reduceNe, Int.reduceLT, Int.reduceLE, Int.reduceAdd, Int.reduceSub, Int.reduceMul, Int.reduceNeg, Nat.zero_add, Nat.add_zero, Nat.mul_one, Int.toNat_natCast, Int.natCast_zero, Int.cast_ofNat_Int, or_false, false_or, or_true, true_or, Int.reduceToNat, Nat.sub_zero, Int.natCast_nonneg, Int.toNat_zero, Bool.true_and, Bool.and_true, Bool.false_and, Bool.and_false, Bool.true_or, Bool.or_true, Bool.false_or, Bool.or_false, Bool.not_true, Bool.not_false, Bool.not_not, true_and, and_true, false_and, and_false, not_true_eq_false, not_false_eq_true, eq_self, decide_true, decide_false, ne_eq, implies_true, forall_const, true_implies, false_implies, Bool.true_eq_false, Bool.false_eq_true, reduceCtorEq, List.map_cons, List.map_nil, List.all_cons, List.all_nil, List.length_cons, List.length_nil, List.length_map, List.length_append, List.nil_append, List.cons_append, List.set_cons_zero, List.set_cons_succ, List.set_nil, List.drop_zero, List.drop_succ_cons, List.drop_nil, List.take_zero, List.take_succ_cons, List.take_nil, Option.map_some, Option.map_none, Option.isSome_some, Nat.reduceEqDiff, Nat.reduceBEq, Nat.reduceGT, List.all_append, List.all_map, Function.comp_def, decide_eq_true_eq, Bool.and_eq_true, beq_self_eq_true, or_self, and_self, ite_true, ite_false, Nat.le_refl, Bool.not_eq_true, decide_not, Bool.not_eq_true', decide_eq_false_iff_not, Bool.not_eq_false, Bool.or_eq_true, if_true, if_false, ite_self, tC_len, tC_sure, tC_ltA, tC_lt1, tC_ro, tC_take, tC_all1, zC_len, zC_ltA, zC_lt1, zC_sure, zC_ro, zC_take, set_tl, set_tv, sc_tt, sc_zt, sc_tz, sc_zz, add16, tA_def, lA_def, natInt, u_tl, u_tv, st_take, st_ver, st_bytes, st_keys, st_ltA, st_sure, stC_len, rin_s, hM]
  unfold mayS
  cases h1 : mayT s.t with
  | false => simp (config := {maxSteps := 4000000, implicitDefEqProofs := false}) only [go_sem, ↓reduceIte, Nat.reduceAdd, Nat.reduceSub, Nat.reduceMul, Nat.reduceLeDiff, Nat.reduceLT, Int.reduceEq, Int.reduceNe, Int.reduceLT, Int.reduceLE, Int.reduceAdd, Int.reduceSub, Int.reduceMul, Int.reduceNeg, Nat.zero_add, Nat.add_zero, Nat.mul_one, Int.toNat_natCast, Int.natCast_zero, Int.cast_ofNat_Int, or_false, false_or, or_true, true_or, Int.reduceToNat, Nat.sub_zero, Int.natCast_nonneg, Int.toNat_zero, Bool.true_and, Bool.and_true, Bool.false_and, Bool.and_false, Bool.true_or, Bool.or_true, Bool.false_or, Bool.or_false, Bool.not_true, Bool.not_false, Bool.not_not, true_and, and_true, false_and, and_false, not_true_eq_false, not_false_eq_true, eq_self, decide_true, decide_false, ne_eq, implies_true, forall_const, true_implies, false_implies, Bool.true_eq_false, Bool.false_eq_true, reduceCtorEq, List.map_cons, List.map_nil, List.all_cons, List.all_nil, List.length_cons, List.length_nil, List.length_map, List.length_append, List.nil_append, List.cons_append, List.set_cons_zero, List.set_cons_succ, List.set_nil, List.drop_zero, List.drop_succ_cons, List.drop_nil, List.take_zero, List.take_succ_cons, List.take_nil, Option.map_some, Option.map_none, Option.isSome_some, Nat.reduceEqDiff, Nat.reduceBEq, Nat.reduceGT, List.all_append, List.all_map, Function.comp_def, decide_eq_true_eq, Bool.and_eq_true, beq_self_eq_true, or_self, and_self, ite_true, ite_false, Nat.le_refl, Bool.not_eq_true, decide_not, Bool.not_eq_true', decide_eq_false_iff_not, Bool.not_eq_false, Bool.or_eq_true, if_true, if_false, ite_self]
  | true =>
  have hW := rweight_s m s.t hm h h1
  have hC := rall_s m s.t (by omega) h
  have e2 : countT s.t = (allTo s.t 16).length := by rw [allTo_len]; simp [countT, h1]
  have e3 : weightT s.t = weight (allTo s.t 16) := by rw [← weight_all h1 16 (Nat.le_refl _)]; simp [weightT, h1]
  rw [tA_def] at hW hC
  rw [← e3] at hW
  rw [e2]
  cases h2 : inB s.ver 2147483647 with
  | false => simp (config := {maxSteps := 4000000, implicitDefEqProofs := false}) only [go_sem, ↓reduceIte, Nat.reduceAdd, Nat.reduceSub, Nat.reduceMul, Nat.reduceLeDiff, Nat.reduceLT, Int.reduceEq, Int.reduceNe, Int.reduceLT, Int.reduceLE, Int.reduceAdd, Int.reduceSub, Int.reduceMul, Int.reduceNeg, Nat.zero_add, Nat.add_zero, Nat.mul_one, Int.toNat_natCast, Int.natCast_zero, Int.cast_ofNat_Int, or_false, false_or, or_true, true_or, Int.reduceToNat, Nat.sub_zero, Int.natCast_nonneg, Int.toNat_zero, Bool.true_and, Bool.and_true, Bool.false_and, Bool.and_false, Bool.true_or, Bool.or_true, Bool.false_or, Bool.or_false, Bool.not_true, Bool.not_false, Bool.not_not, true_and, and_true, false_and, and_false, not_true_eq_false, not_false_eq_true, eq_self, decide_true, decide_false, ne_eq, implies_true, forall_const, true_implies, false_implies, Bool.true_eq_false, Bool.false_eq_true, reduceCtorEq, List.map_cons, List.map_nil, List.all_cons, List.all_nil, List.length_cons, List.length_nil, List.length_map, List.length_append, List.nil_append, List.cons_append, List.set_cons_zero, List.set_cons_succ, List.set_nil, List.drop_zero, List.drop_succ_cons, List.drop_nil, List.take_zero, List.take_succ_cons, List.take_nil, Option.map_some, Option.map_none, Option.isSome_some, Nat.reduceEqDiff, Nat.reduceBEq, Nat.reduceGT, List.all_append, List.all_map, Function.comp_def, decide_eq_true_eq, Bool.and_eq_true, beq_self_eq_true, or_self, and_self, ite_true, ite_false, Nat.le_refl, Bool.not_eq_true, decide_not, Bool.not_eq_true', decide_eq_false_iff_not, Bool.not_eq_false, Bool.or_eq_true, if_true, if_false, ite_self]
  | true =>
  cases h3 : inB s.bytes 65536 with
  | false => simp (config := {maxSteps := 4000000, implicitDefEqProofs := false}) only [go_sem, ↓reduceIte, Nat.reduceAdd, Nat.reduceSub, Nat.reduceMul, Nat.reduceLeDiff, Nat.reduceLT, Int.reduceEq, Int.reduceNe, Int.reduceLT, Int.reduceLE, Int.reduceAdd, Int.reduceSub, Int.reduceMul, Int.reduceNeg, Nat.zero_add, Nat.add_zero, Nat.mul_one, Int.toNat_natCast, Int.natCast_zero, Int.cast_ofNat_Int, or_false, false_or, or_true, true_or, Int.reduceToNat, Nat.sub_zero, Int.natCast_nonneg, Int.toNat_zero, Bool.true_and, Bool.and_true, Bool.false_and, Bool.and_false, Bool.true_or, Bool.or_true, Bool.false_or, Bool.or_false, Bool.not_true, Bool.not_false, Bool.not_not, true_and, and_true, false_and, and_false, not_true_eq_false, not_false_eq_true, eq_self, decide_true, decide_false, ne_eq, implies_true, forall_const, true_implies, false_implies, Bool.true_eq_false, Bool.false_eq_true, reduceCtorEq, List.map_cons, List.map_nil, List.all_cons, List.all_nil, List.length_cons, List.length_nil, List.length_map, List.length_append, List.nil_append, List.cons_append, List.set_cons_zero, List.set_cons_succ, List.set_nil, List.drop_zero, List.drop_succ_cons, List.drop_nil, List.take_zero, List.take_succ_cons, List.take_nil, Option.map_some, Option.map_none, Option.isSome_some, Nat.reduceEqDiff, Nat.reduceBEq, Nat.reduceGT, List.all_append, List.all_map, Function.comp_def, decide_eq_true_eq, Bool.and_eq_true, beq_self_eq_true, or_self, and_self, ite_true, ite_false, Nat.le_refl, Bool.not_eq_true, decide_not, Bool.not_eq_true', decide_eq_false_iff_not, Bool.not_eq_false, Bool.or_eq_true, if_true, if_false, ite_self]
  | true =>
  cases h4 : inB s.keys 1024 with
  | false => simp (config := {maxSteps := 4000000, implicitDefEqProofs := false}) only [go_sem, ↓reduceIte, Nat.reduceAdd, Nat.reduceSub, Nat.reduceMul, Nat.reduceLeDiff, Nat.reduceLT, Int.reduceEq, Int.reduceNe, Int.reduceLT, Int.reduceLE, Int.reduceAdd, Int.reduceSub, Int.reduceMul, Int.reduceNeg, Nat.zero_add, Nat.add_zero, Nat.mul_one, Int.toNat_natCast, Int.natCast_zero, Int.cast_ofNat_Int, or_false, false_or, or_true, true_or, Int.reduceToNat, Nat.sub_zero, Int.natCast_nonneg, Int.toNat_zero, Bool.true_and, Bool.and_true, Bool.false_and, Bool.and_false, Bool.true_or, Bool.or_true, Bool.false_or, Bool.or_false, Bool.not_true, Bool.not_false, Bool.not_not, true_and, and_true, false_and, and_false, not_true_eq_false, not_false_eq_true, eq_self, decide_true, decide_false, ne_eq, implies_true, forall_const, true_implies, false_implies, Bool.true_eq_false, Bool.false_eq_true, reduceCtorEq, List.map_cons, List.map_nil, List.all_cons, List.all_nil, List.length_cons, List.length_nil, List.length_map, List.length_append, List.nil_append, List.cons_append, List.set_cons_zero, List.set_cons_succ, List.set_nil, List.drop_zero, List.drop_succ_cons, List.drop_nil, List.take_zero, List.take_succ_cons, List.take_nil, Option.map_some, Option.map_none, Option.isSome_some, Nat.reduceEqDiff, Nat.reduceBEq, Nat.reduceGT, List.all_append, List.all_map, Function.comp_def, decide_eq_true_eq, Bool.and_eq_true, beq_self_eq_true, or_self, and_self, ite_true, ite_false, Nat.le_refl, Bool.not_eq_true, decide_not, Bool.not_eq_true', decide_eq_false_iff_not, Bool.not_eq_false, Bool.or_eq_true, if_true, if_false, ite_self]
  | true =>
  simp (config := {maxSteps := 4000000, implicitDefEqProofs := false}) (disch := omega) only [go_sem, ↓reduceIte, Nat.reduceAdd, Nat.reduceSub, Nat.reduceMul, Nat.reduceLeDiff, Nat.reduceLT, Int.reduceEq, Int.reduceNe, Int.reduceLT, Int.reduceLE, Int.reduceAdd, Int.reduceSub, Int.reduceMul, Int.reduceNeg, Nat.zero_add, Nat.add_zero, Nat.mul_one, Int.toNat_natCast, Int.natCast_zero, Int.cast_ofNat_Int, or_false, false_or, or_true, true_or, Int.reduceToNat, Nat.sub_zero, Int.natCast_nonneg, Int.toNat_zero, Bool.true_and, Bool.and_true, Bool.false_and, Bool.and_false, Bool.true_or, Bool.or_true, Bool.false_or, Bool.or_false, Bool.not_true, Bool.not_false, Bool.not_not, true_and, and_true, false_and, and_false, not_true_eq_false, not_false_eq_true, eq_self, decide_true, decide_false, ne_eq, implies_true, forall_const, true_implies, false_implies, Bool.true_eq_false, Bool.false_eq_true, reduceCtorEq, List.map_cons, List.map_nil, List.all_cons, List.all_nil, List.length_cons, List.length_nil, List.length_map, List.length_append, List.nil_append, List.cons_append, List.set_cons_zero, List.set_cons_succ, List.set_nil, List.drop_zero, List.drop_succ_cons, List.drop_nil, List.take_zero, List.take_succ_cons, List.take_nil, Option.map_some, Option.map_none, Option.isSome_some, Nat.reduceEqDiff, Nat.reduceBEq, Nat.reduceGT, List.all_append, List.all_map, Function.comp_def, decide_eq_true_eq, Bool.and_eq_true, beq_self_eq_true, or_self, and_self, ite_true, ite_false, Nat.le_refl, Bool.not_eq_true, decide_not, Bool.not_eq_true', decide_eq_false_iff_not, Bool.not_eq_false, Bool.or_eq_true, if_true, if_false, ite_self, tC_len, tC_sure, tC_ltA, tC_lt1, tC_ro, tC_take, tC_all1, zC_len, zC_ltA, zC_lt1, zC_sure, zC_ro, zC_take, set_tl, set_tv, sc_tt, sc_zt, sc_tz, sc_zz, add16, tA_def, lA_def, natInt, u_tl, u_tv, st_take, st_ver, st_bytes, st_keys, st_ltA, st_sure, st_vers, stC_len, plenumref13_May_r1_eq]
  refine iter_ind (ι := {k : Nat // k ≤ 16 ∧ (List.range k).all (fun i => decide (s.t.ver i ≤ s.ver)) = true}) (fun k => ⟨[⟨1, ty_api_Store, 0, stC s⟩], [(1, OP 0 0), (3, nA k.1)]⟩) (fun k => 16 - k.1) (fun _ => some (bA (versB s && decide ((weightT s.t : Int) ≤ s.bytes) && decide (((allTo s.t 16).length : Int) ≤ s.keys)), [])) ?_ ⟨0, Nat.zero_le _, rfl⟩ (by dsimp only; omega)
  rintro ⟨k, hk, hall⟩ kc hkc
  dsimp only at hkc ⊢
  rw [plenumref13_May_b1_eq]
  by_cases hlt : k < 16
  · have hlt' : (k : Int) < 16 := by omega
    by_cases hv : s.t.ver k ≤ s.ver
    · have step := hkc ⟨k + 1, by omega, by rw [List.range_succ, List.all_append, hall]; simp [hv]⟩ (by dsimp only; omega)
      have hv' : ¬ s.ver < s.t.ver k := by omega
      simp (config := {maxSteps := 4000000, implicitDefEqProofs := false}) (disch := omega) only [go_sem, ↓reduceIte, Nat.reduceAdd, Nat.reduceSub, Nat.reduceMul, Nat.reduceLeDiff, Nat.reduceLT, Int.reduceEq, Int.reduceNe, Int.reduceLT, Int.reduceLE, Int.reduceAdd, Int.reduceSub, Int.reduceMul, Int.reduceNeg, Nat.zero_add, Nat.add_zero, Nat.mul_one, Int.toNat_natCast, Int.natCast_zero, Int.cast_ofNat_Int, or_false, false_or, or_true, true_or, Int.reduceToNat, Nat.sub_zero, Int.natCast_nonneg, Int.toNat_zero, Bool.true_and, Bool.and_true, Bool.false_and, Bool.and_false, Bool.true_or, Bool.or_true, Bool.false_or, Bool.or_false, Bool.not_true, Bool.not_false, Bool.not_not, true_and, and_true, false_and, and_false, not_true_eq_false, not_false_eq_true, eq_self, decide_true, decide_false, ne_eq, implies_true, forall_const, true_implies, false_implies, Bool.true_eq_false, Bool.false_eq_true, reduceCtorEq, List.map_cons, List.map_nil, List.all_cons, List.all_nil, List.length_cons, List.length_nil, List.length_map, List.length_append, List.nil_append, List.cons_append, List.set_cons_zero, List.set_cons_succ, List.set_nil, List.drop_zero, List.drop_succ_cons, List.drop_nil, List.take_zero, List.take_succ_cons, List.take_nil, Option.map_some, Option.map_none, Option.isSome_some, Nat.reduceEqDiff, Nat.reduceBEq, Nat.reduceGT, List.all_append, List.all_map, Function.comp_def, decide_eq_true_eq, Bool.and_eq_true, beq_self_eq_true, or_self, and_self, ite_true, ite_false, Nat.le_refl, Bool.not_eq_true, decide_not, Bool.not_eq_true', decide_eq_false_iff_not, Bool.not_eq_false, Bool.or_eq_true, if_true, if_false, ite_self, tC_len, tC_sure, tC_ltA, tC_lt1, tC_ro, tC_take, tC_all1, zC_len, zC_ltA, zC_lt1, zC_sure, zC_ro, zC_take, set_tl, set_tv, sc_tt, sc_zt, sc_tz, sc_zz, add16, tA_def, lA_def, natInt, u_tl, u_tv, hlt', st_tv, Nat.add_sub_cancel_left, st_ver, st_ltA, stC_len, hv', w_i64]
      exact step
    · have hv' : s.ver < s.t.ver k := by omega
      simp (config := {maxSteps := 4000000, implicitDefEqProofs := false}) (disch := omega) only [go_sem, ↓reduceIte, Nat.reduceAdd, Nat.reduceSub, Nat.reduceMul, Nat.reduceLeDiff, Nat.reduceLT, Int.reduceEq, Int.reduceNe, Int.reduceLT, Int.reduceLE, Int.reduceAdd, Int.reduceSub, Int.reduceMul, Int.reduceNeg, Nat.zero_add, Nat.add_zero, Nat.mul_one, Int.toNat_natCast, Int.natCast_zero, Int.cast_ofNat_Int, or_false, false_or, or_true, true_or, Int.reduceToNat, Nat.sub_zero, Int.natCast_nonneg, Int.toNat_zero, Bool.true_and, Bool.and_true, Bool.false_and, Bool.and_false, Bool.true_or, Bool.or_true, Bool.false_or, Bool.or_false, Bool.not_true, Bool.not_false, Bool.not_not, true_and, and_true, false_and, and_false, not_true_eq_false, not_false_eq_true, eq_self, decide_true, decide_false, ne_eq, implies_true, forall_const, true_implies, false_implies, Bool.true_eq_false, Bool.false_eq_true, reduceCtorEq, List.map_cons, List.map_nil, List.all_cons, List.all_nil, List.length_cons, List.length_nil, List.length_map, List.length_append, List.nil_append, List.cons_append, List.set_cons_zero, List.set_cons_succ, List.set_nil, List.drop_zero, List.drop_succ_cons, List.drop_nil, List.take_zero, List.take_succ_cons, List.take_nil, Option.map_some, Option.map_none, Option.isSome_some, Nat.reduceEqDiff, Nat.reduceBEq, Nat.reduceGT, List.all_append, List.all_map, Function.comp_def, decide_eq_true_eq, Bool.and_eq_true, beq_self_eq_true, or_self, and_self, ite_true, ite_false, Nat.le_refl, Bool.not_eq_true, decide_not, Bool.not_eq_true', decide_eq_false_iff_not, Bool.not_eq_false, Bool.or_eq_true, if_true, if_false, ite_self, tC_len, tC_sure, tC_ltA, tC_lt1, tC_ro, tC_take, tC_all1, zC_len, zC_ltA, zC_lt1, zC_sure, zC_ro, zC_take, set_tl, set_tv, sc_tt, sc_zt, sc_tz, sc_zz, add16, tA_def, lA_def, natInt, u_tl, u_tv, hlt', st_tv, Nat.add_sub_cancel_left, st_ver, st_ltA, stC_len, hv', w_i64]
      rw [vers_no hlt hv]
      rfl
  · have hlt' : ¬ (k : Int) < 16 := by omega
    have : k = 16 := by omega
    subst this
    have hv : versB s = true := hall
    simp (config := {maxSteps := 4000000, implicitDefEqProofs := false}) (disch := omega) only [go_sem, ↓reduceIte, Nat.reduceAdd, Nat.reduceSub, Nat.reduceMul, Nat.reduceLeDiff, Nat.reduceLT, Int.reduceEq, Int.reduceNe, Int.reduceLT, Int.reduceLE, Int.reduceAdd, Int.reduceSub, Int.reduceMul, Int.reduceNeg, Nat.zero_add, Nat.add_zero, Nat.mul_one, Int.toNat_natCast, Int.natCast_zero, Int.cast_ofNat_Int, or_false, false_or, or_true, true_or, Int.reduceToNat, Nat.sub_zero, Int.natCast_nonneg, Int.toNat_zero, Bool.true_and, Bool.and_true, Bool.false_and, Bool.and_false, Bool.true_or, Bool.or_true, Bool.false_or, Bool.or_false, Bool.not_true, Bool.not_false, Bool.not_not, true_and, and_true, false_and, and_false, not_true_eq_false, not_false_eq_true, eq_self, decide_true, decide_false, ne_eq, implies_true, forall_const, true_implies, false_implies, Bool.true_eq_false, Bool.false_eq_true, reduceCtorEq, List.map_cons, List.map_nil, List.all_cons, List.all_nil, List.length_cons, List.length_nil, List.length_map, List.length_append, List.nil_append, List.cons_append, List.set_cons_zero, List.set_cons_succ, List.set_nil, List.drop_zero, List.drop_succ_cons, List.drop_nil, List.take_zero, List.take_succ_cons, List.take_nil, Option.map_some, Option.map_none, Option.isSome_some, Nat.reduceEqDiff, Nat.reduceBEq, Nat.reduceGT, List.all_append, List.all_map, Function.comp_def, decide_eq_true_eq, Bool.and_eq_true, beq_self_eq_true, or_self, and_self, ite_true, ite_false, Nat.le_refl, Bool.not_eq_true, decide_not, Bool.not_eq_true', decide_eq_false_iff_not, Bool.not_eq_false, Bool.or_eq_true, if_true, if_false, ite_self, tC_len, tC_sure, tC_ltA, tC_lt1, tC_ro, tC_take, tC_all1, zC_len, zC_ltA, zC_lt1, zC_sure, zC_ro, zC_take, set_tl, set_tv, sc_tt, sc_zt, sc_tz, sc_zz, add16, tA_def, lA_def, natInt, u_tl, u_tv, hlt', hv, st_take, st_ver, st_bytes, st_keys, st_ltA, st_sure, stC_len, hW, hC, plenumref13_May_r2_eq]
    by_cases hw : (weightT s.t : Int) ≤ s.bytes
    · simp (config := {maxSteps := 4000000, implicitDefEqProofs := false}) only [go_sem, ↓reduceIte, Nat.reduceAdd, Nat.reduceSub, Nat.reduceMul, Nat.reduceLeDiff, Nat.reduceLT, Int.reduceEq, Int.reduceNe, Int.reduceLT, Int.reduceLE, Int.reduceAdd, Int.reduceSub, Int.reduceMul, Int.reduceNeg, Nat.zero_add, Nat.add_zero, Nat.mul_one, Int.toNat_natCast, Int.natCast_zero, Int.cast_ofNat_Int, or_false, false_or, or_true, true_or, Int.reduceToNat, Nat.sub_zero, Int.natCast_nonneg, Int.toNat_zero, Bool.true_and, Bool.and_true, Bool.false_and, Bool.and_false, Bool.true_or, Bool.or_true, Bool.false_or, Bool.or_false, Bool.not_true, Bool.not_false, Bool.not_not, true_and, and_true, false_and, and_false, not_true_eq_false, not_false_eq_true, eq_self, decide_true, decide_false, ne_eq, implies_true, forall_const, true_implies, false_implies, Bool.true_eq_false, Bool.false_eq_true, reduceCtorEq, List.map_cons, List.map_nil, List.all_cons, List.all_nil, List.length_cons, List.length_nil, List.length_map, List.length_append, List.nil_append, List.cons_append, List.set_cons_zero, List.set_cons_succ, List.set_nil, List.drop_zero, List.drop_succ_cons, List.drop_nil, List.take_zero, List.take_succ_cons, List.take_nil, Option.map_some, Option.map_none, Option.isSome_some, Nat.reduceEqDiff, Nat.reduceBEq, Nat.reduceGT, List.all_append, List.all_map, Function.comp_def, decide_eq_true_eq, Bool.and_eq_true, beq_self_eq_true, or_self, and_self, ite_true, ite_false, Nat.le_refl, Bool.not_eq_true, decide_not, Bool.not_eq_true', decide_eq_false_iff_not, Bool.not_eq_false, Bool.or_eq_true, if_true, if_false, ite_self, hw]
    · simp (config := {maxSteps := 4000000, implicitDefEqProofs := false}) only [go_sem, ↓reduceIte, Nat.reduceAdd, Nat.reduceSub, Nat.reduceMul, Nat.reduceLeDiff, Nat.reduceLT, Int.reduceEq, Int.reduceNe, Int.reduceLT, Int.reduceLE, Int.reduceAdd, Int.reduceSub, Int.reduceMul, Int.reduceNeg, Nat.zero_add, Nat.add_zero, Nat.mul_one, Int.toNat_natCast, Int.natCast_zero, Int.cast_ofNat_Int, or_false, false_or, or_true, true_or, Int.reduceToNat, Nat.sub_zero, Int.natCast_nonneg, Int.toNat_zero, Bool.true_and, Bool.and_true, Bool.false_and, Bool.and_false, Bool.true_or, Bool.or_true, Bool.false_or, Bool.or_false, Bool.not_true, Bool.not_false, Bool.not_not, true_and, and_true, false_and, and_false, not_true_eq_false, not_false_eq_true, eq_self, decide_true, decide_false, ne_eq, implies_true, forall_const, true_implies, false_implies, Bool.true_eq_false, Bool.false_eq_true, reduceCtorEq, List.map_cons, List.map_nil, List.all_cons, List.all_nil, List.length_cons, List.length_nil, List.length_map, List.length_append, List.nil_append, List.cons_append, List.set_cons_zero, List.set_cons_succ, List.set_nil, List.drop_zero, List.drop_succ_cons, List.drop_nil, List.take_zero, List.take_succ_cons, List.take_nil, Option.map_some, Option.map_none, Option.isSome_some, Nat.reduceEqDiff, Nat.reduceBEq, Nat.reduceGT, List.all_append, List.all_map, Function.comp_def, decide_eq_true_eq, Bool.and_eq_true, beq_self_eq_true, or_self, and_self, ite_true, ite_false, Nat.le_refl, Bool.not_eq_true, decide_not, Bool.not_eq_true', decide_eq_false_iff_not, Bool.not_eq_false, Bool.or_eq_true, if_true, if_false, ite_self, hw]
def sameS (a b : St) : Bool := decide (a.ver = b.ver) && decide (a.bytes = b.bytes) && decide (a.keys = b.keys) && sameT a.t b.t
theorem rsameS_s (m : Nat) (a b : St) (hm : 16 < m) (ha : ∀ i, (a.t.leaf i).length ≤ 34359738368) (hb : ∀ i, (b.t.leaf i).length ≤ 34359738368) : plenumref13_Same m (stA a) (stA b) = some (bA (sameS a b), []) := by
  have hS := rsame_s m a.t b.t hm ha hb
  rw [tA_def, tA_def] at hS
  rw [plenumref13_Same_eq, stA_def, stA_def]
  unfold sameS
  by_cases h1 : a.ver = b.ver
  · by_cases h2 : a.bytes = b.bytes
    · by_cases h3 : a.keys = b.keys
      · simp (config := {maxSteps := 4000000, implicitDefEqProofs := false}) (disch := omega) only [go_sem, ↓reduceIte, Nat.reduceAdd, Nat.reduceSub, Nat.reduceMul, Nat.reduceLeDiff, Nat.reduceLT, Int.reduceEq, Int.reduceNe, Int.reduceLT, Int.reduceLE, Int.reduceAdd, Int.reduceSub, Int.reduceMul, Int.reduceNeg, Nat.zero_add, Nat.add_zero, Nat.mul_one, Int.toNat_natCast, Int.natCast_zero, Int.cast_ofNat_Int, or_false, false_or, or_true, true_or, Int.reduceToNat, Nat.sub_zero, Int.natCast_nonneg, Int.toNat_zero, Bool.true_and, Bool.and_true, Bool.false_and, Bool.and_false, Bool.true_or, Bool.or_true, Bool.false_or, Bool.or_false, Bool.not_true, Bool.not_false, Bool.not_not, true_and, and_true, false_and, and_false, not_true_eq_false, not_false_eq_true, eq_self, decide_true, decide_false, ne_eq, implies_true, forall_const, true_implies, false_implies, Bool.true_eq_false, Bool.false_eq_true, reduceCtorEq, List.map_cons, List.map_nil, List.all_cons, List.all_nil, List.length_cons, List.length_nil, List.length_map, List.length_append, List.nil_append, List.cons_append, List.set_cons_zero, List.set_cons_succ, List.set_nil, List.drop_zero, List.drop_succ_cons, List.drop_nil, List.take_zero, List.take_succ_cons, List.take_nil, Option.map_some, Option.map_none, Option.isSome_some, Nat.reduceEqDiff, Nat.reduceBEq, Nat.reduceGT, List.all_append, List.all_map, Function.comp_def, decide_eq_true_eq, Bool.and_eq_true, beq_self_eq_true, or_self, and_self, ite_true, ite_false, Nat.le_refl, Bool.not_eq_true, decide_not, Bool.not_eq_true', decide_eq_false_iff_not, Bool.not_eq_false, Bool.or_eq_true, if_true, if_false, ite_self, tC_len, tC_sure, tC_ltA, tC_lt1, tC_ro, tC_take, tC_all1, zC_len, zC_ltA, zC_lt1, zC_sure, zC_ro, zC_take, set_tl, set_tv, sc_tt, sc_zt, sc_tz, sc_zz, add16, tA_def, lA_def, natInt, u_tl, u_tv, st_take, st_ver, st_bytes, st_keys, st_ltA, st_sure, stC_len, h1, h2, h3, hS]
      · simp (config := {maxSteps := 4000000, implicitDefEqProofs := false}) (disch := omega) only [go_sem, ↓reduceIte, Nat.reduceAdd, Nat.reduceSub, Nat.reduceMul, Nat.reduceLeDiff, Nat.reduceLT, Int.reduceEq, Int.reduceNe, Int.reduceLT, Int.reduceLE, Int.reduceAdd, Int.reduceSub, Int.reduceMul, Int.reduceNeg, Nat.zero_add, Nat.add_zero, Nat.mul_one, Int.toNat_natCast, Int.natCast_zero, Int.cast_ofNat_Int, or_false, false_or, or_true, true_or, Int.reduceToNat, Nat.sub_zero, Int.natCast_nonneg, Int.toNat_zero, Bool.true_and, Bool.and_true, Bool.false_and, Bool.and_false, Bool.true_or, Bool.or_true, Bool.false_or, Bool.or_false, Bool.not_true, Bool.not_false, Bool.not_not, true_and, and_true, false_and, and_false, not_true_eq_false, not_false_eq_true, eq_self, decide_true, decide_false, ne_eq, implies_true, forall_const, true_implies, false_implies, Bool.true_eq_false, Bool.false_eq_true, reduceCtorEq, List.map_cons, List.map_nil, List.all_cons, List.all_nil, List.length_cons, List.length_nil, List.length_map, List.length_append, List.nil_append, List.cons_append, List.set_cons_zero, List.set_cons_succ, List.set_nil, List.drop_zero, List.drop_succ_cons, List.drop_nil, List.take_zero, List.take_succ_cons, List.take_nil, Option.map_some, Option.map_none, Option.isSome_some, Nat.reduceEqDiff, Nat.reduceBEq, Nat.reduceGT, List.all_append, List.all_map, Function.comp_def, decide_eq_true_eq, Bool.and_eq_true, beq_self_eq_true, or_self, and_self, ite_true, ite_false, Nat.le_refl, Bool.not_eq_true, decide_not, Bool.not_eq_true', decide_eq_false_iff_not, Bool.not_eq_false, Bool.or_eq_true, if_true, if_false, ite_self, tC_len, tC_sure, tC_ltA, tC_lt1, tC_ro, tC_take, tC_all1, zC_len, zC_ltA, zC_lt1, zC_sure, zC_ro, zC_take, set_tl, set_tv, sc_tt, sc_zt, sc_tz, sc_zz, add16, tA_def, lA_def, natInt, u_tl, u_tv, st_take, st_ver, st_bytes, st_keys, st_ltA, st_sure, stC_len, h1, h2, h3, hS]
    · simp (config := {maxSteps := 4000000, implicitDefEqProofs := false}) (disch := omega) only [go_sem, ↓reduceIte, Nat.reduceAdd, Nat.reduceSub, Nat.reduceMul, Nat.reduceLeDiff, Nat.reduceLT, Int.reduceEq, Int.reduceNe, Int.reduceLT, Int.reduceLE, Int.reduceAdd, Int.reduceSub, Int.reduceMul, Int.reduceNeg, Nat.zero_add, Nat.add_zero, Nat.mul_one, Int.toNat_natCast, Int.natCast_zero, Int.cast_ofNat_Int, or_false, false_or, or_true, true_or, Int.reduceToNat, Nat.sub_zero, Int.natCast_nonneg, Int.toNat_zero, Bool.true_and, Bool.and_true, Bool.false_and, Bool.and_false, Bool.true_or, Bool.or_true, Bool.false_or, Bool.or_false, Bool.not_true, Bool.not_false, Bool.not_not, true_and, and_true, false_and, and_false, not_true_eq_false, not_false_eq_true, eq_self, decide_true, decide_false, ne_eq, implies_true, forall_const, true_implies, false_implies, Bool.true_eq_false, Bool.false_eq_true, reduceCtorEq, List.map_cons, List.map_nil, List.all_cons, List.all_nil, List.length_cons, List.length_nil, List.length_map, List.length_append, List.nil_append, List.cons_append, List.set_cons_zero, List.set_cons_succ, List.set_nil, List.drop_zero, List.drop_succ_cons, List.drop_nil, List.take_zero, List.take_succ_cons, List.take_nil, Option.map_some, Option.map_none, Option.isSome_some, Nat.reduceEqDiff, Nat.reduceBEq, Nat.reduceGT, List.all_append, List.all_map, Function.comp_def, decide_eq_true_eq, Bool.and_eq_true, beq_self_eq_true, or_self, and_self, ite_true, ite_false, Nat.le_refl, Bool.not_eq_true, decide_not, Bool.not_eq_true', decide_eq_false_iff_not, Bool.not_eq_false, Bool.or_eq_true, if_true, if_false, ite_self, tC_len, tC_sure, tC_ltA, tC_lt1, tC_ro, tC_take, tC_all1, zC_len, zC_ltA, zC_lt1, zC_sure, zC_ro, zC_take, set_tl, set_tv, sc_tt, sc_zt, sc_tz, sc_zz, add16, tA_def, lA_def, natInt, u_tl, u_tv, st_take, st_ver, st_bytes, st_keys, st_ltA, st_sure, stC_len, h1, h2, hS]
  · simp (config := {maxSteps := 4000000, implicitDefEqProofs := false}) (disch := omega) only [go_sem, ↓reduceIte, Nat.reduceAdd, Nat.reduceSub, Nat.reduceMul, Nat.reduceLeDiff, Nat.reduceLT, Int.reduceEq, Int.reduceNe, Int.reduceLT, Int.reduceLE, Int.reduceAdd, Int.reduceSub, Int.reduceMul, Int.reduceNeg, Nat.zero_add, Nat.add_zero, Nat.mul_one, Int.toNat_natCast, Int.natCast_zero, Int.cast_ofNat_Int, or_false, false_or, or_true, true_or, Int.reduceToNat, Nat.sub_zero, Int.natCast_nonneg, Int.toNat_zero, Bool.true_and, Bool.and_true, Bool.false_and, Bool.and_false, Bool.true_or, Bool.or_true, Bool.false_or, Bool.or_false, Bool.not_true, Bool.not_false, Bool.not_not, true_and, and_true, false_and, and_false, not_true_eq_false, not_false_eq_true, eq_self, decide_true, decide_false, ne_eq, implies_true, forall_const, true_implies, false_implies, Bool.true_eq_false, Bool.false_eq_true, reduceCtorEq, List.map_cons, List.map_nil, List.all_cons, List.all_nil, List.length_cons, List.length_nil, List.length_map, List.length_append, List.nil_append, List.cons_append, List.set_cons_zero, List.set_cons_succ, List.set_nil, List.drop_zero, List.drop_succ_cons, List.drop_nil, List.take_zero, List.take_succ_cons, List.take_nil, Option.map_some, Option.map_none, Option.isSome_some, Nat.reduceEqDiff, Nat.reduceBEq, Nat.reduceGT, List.all_append, List.all_map, Function.comp_def, decide_eq_true_eq, Bool.and_eq_true, beq_self_eq_true, or_self, and_self, ite_true, ite_false, Nat.le_refl, Bool.not_eq_true, decide_not, Bool.not_eq_true', decide_eq_false_iff_not, Bool.not_eq_false, Bool.or_eq_true, if_true, if_false, ite_self, tC_len, tC_sure, tC_ltA, tC_lt1, tC_ro, tC_take, tC_all1, zC_len, zC_ltA, zC_lt1, zC_sure, zC_ro, zC_take, set_tl, set_tv, sc_tt, sc_zt, sc_tz, sc_zz, add16, tA_def, lA_def, natInt, u_tl, u_tv, st_take, st_ver, st_bytes, st_keys, st_ltA, st_sure, stC_len, h1, hS]
theorem few13_s (m : Nat) (s : St) (h : ∀ i, (s.t.leaf i).length ≤ maxLen) : plenumlaw13_Few m (stA s) = some (stA { s with t := fewT s.t 16 }, []) := by
  have hF := plenumlaw10_Few_e m s.t h
  rw [tA_def, tA_def] at hF
  rw [plenumlaw13_Few_eq, stA_def]
  simp (config := {maxSteps := 4000000, implicitDefEqProofs := false}) (disch := omega) only [go_sem, ↓reduceIte, Nat.reduceAdd, Nat.reduceSub, Nat.reduceMul, Nat.reduceLeDiff, Nat.reduceLT, Int.reduceEq, Int.reduceNe, Int.reduceLT, Int.reduceLE, Int.reduceAdd, Int.reduceSub, Int.reduceMul, Int.reduceNeg, Nat.zero_add, Nat.add_zero, Nat.mul_one, Int.toNat_natCast, Int.natCast_zero, Int.cast_ofNat_Int, or_false, false_or, or_true, true_or, Int.reduceToNat, Nat.sub_zero, Int.natCast_nonneg, Int.toNat_zero, Bool.true_and, Bool.and_true, Bool.false_and, Bool.and_false, Bool.true_or, Bool.or_true, Bool.false_or, Bool.or_false, Bool.not_true, Bool.not_false, Bool.not_not, true_and, and_true, false_and, and_false, not_true_eq_false, not_false_eq_true, eq_self, decide_true, decide_false, ne_eq, implies_true, forall_const, true_implies, false_implies, Bool.true_eq_false, Bool.false_eq_true, reduceCtorEq, List.map_cons, List.map_nil, List.all_cons, List.all_nil, List.length_cons, List.length_nil, List.length_map, List.length_append, List.nil_append, List.cons_append, List.set_cons_zero, List.set_cons_succ, List.set_nil, List.drop_zero, List.drop_succ_cons, List.drop_nil, List.take_zero, List.take_succ_cons, List.take_nil, Option.map_some, Option.map_none, Option.isSome_some, Nat.reduceEqDiff, Nat.reduceBEq, Nat.reduceGT, List.all_append, List.all_map, Function.comp_def, decide_eq_true_eq, Bool.and_eq_true, beq_self_eq_true, or_self, and_self, ite_true, ite_false, Nat.le_refl, Bool.not_eq_true, decide_not, Bool.not_eq_true', decide_eq_false_iff_not, Bool.not_eq_false, Bool.or_eq_true, if_true, if_false, ite_self, tC_len, tC_sure, tC_ltA, tC_lt1, tC_ro, tC_take, tC_all1, zC_len, zC_ltA, zC_lt1, zC_sure, zC_ro, zC_take, set_tl, set_tv, sc_tt, sc_zt, sc_tz, sc_zz, add16, tA_def, lA_def, natInt, u_tl, u_tv, st_take, st_ltA, st_sure, stC_len, hF, st_set, st_take35, z_set, zcS_len, st_all1, st_ro, stA_def]
end Go.Proofs.YtopifabnobplcaaDoor

namespace Go.Proofs.YtopifabnobplcaaDoor
open Go.RowKit
set_option linter.unusedVariables false
set_option linter.unusedSimpArgs false
set_option maxRecDepth 20000
structure Sn where
  seq : Int
  s : St
def snE (x : Sn) : AV := .agg (nA x.seq :: stC x.s)
def lS (l : List Sn) : AV := SL (l.map snE)
theorem lS_def (l : List Sn) : lS l = SL (l.map snE) := _root_.id rfl
theorem sn_it (x : Sn) : snE x = .agg (nA x.seq :: stC x.s) := _root_.id rfl
section
variable {R : Type} {s : St} {i n : Nat} {q : Int} {K1 : AV → Option R} {H : List AObj}
theorem sn_ver : nthE (nA q :: stC s) 33 K1 = K1 (nA s.ver) := st_ver
theorem sn_bytes : nthE (nA q :: stC s) 34 K1 = K1 (nA s.bytes) := st_bytes
theorem sn_keys : nthE (nA q :: stC s) 35 K1 = K1 (nA s.keys) := st_keys
theorem sn_take : (nA q :: stC s).take 36 = nA q :: stC s := List.take_of_length_le (by rw [List.length_cons, stC_len]; exact Nat.le_refl _)
theorem zn_set : setCells zc_api_Snap 0 (nA q :: stC s) = nA q :: stC s := by
  rw [setCells_at _ _ _ (by rw [List.length_cons, stC_len]; exact Nat.le_refl _), List.length_cons, stC_len]
  simp [zc_api_Snap]
theorem zcN_len : zc_api_Snap.length = 36 := _root_.id rfl
end
def bad (was : Option Sn) (x : Sn) : Int := if x.seq < 0 ∨ mayS x.s = false then 1 else match was with
  | none => 0
  | some w => if w.seq < x.seq ∧ w.s.ver ≤ x.s.ver ∧ w.s.bytes = x.s.bytes ∧ w.s.keys = x.s.keys then 0 else 3
def chkG : Option Sn → Nat → List Sn → Int × Int
  | _, _, [] => (0, 0)
  | was, k, x :: r => if bad was x = 0 then chkG (some x) (k + 1) r else (bad was x, k)
def chkL (l : List Sn) : Int × Int := if 8 < l.length then (5, 8) else chkG none 0 l
def prevL (l : List Sn) (k : Nat) : Option Sn := if k = 0 then none else l[k - 1]?
theorem prevL_succ {l : List Sn} {k : Nat} (h : k < l.length) : prevL l (k + 1) = some l[k] := by
  unfold prevL
  rw [if_neg (by omega)]
  simp [h]
theorem chkG_at {l : List Sn} {k : Nat} {e a : Int} (hlt : k < l.length) (h : chkG (prevL l k) k (l.drop k) = (e, a)) : (bad (prevL l k) l[k] = 0 ∧ chkG (prevL l (k + 1)) (k + 1) (l.drop (k + 1)) = (e, a)) ∨ (bad (prevL l k) l[k] ≠ 0 ∧ e = bad (prevL l k) l[k] ∧ a = k) := by
  rw [List.drop_eq_getElem_cons hlt] at h
  unfold chkG at h
  split at h
  · rename_i h0
    exact .inl ⟨h0, by rw [prevL_succ hlt]; exact h⟩
  · rename_i h0
    injection h with h1 h2
    exact .inr ⟨h0, h1.symm, h2.symm⟩
theorem chkG_end {l : List Sn} {w : Option Sn} {k : Nat} {e a : Int} (h : chkG w k (l.drop l.length) = (e, a)) : e = 0 ∧ a = 0 := by
  rw [List.drop_length] at h
  unfold chkG at h
  injection h with h1 h2
  exact ⟨h1.symm, h2.symm⟩
theorem scheck_s (m : Nat) (l : List Sn) (hm : 16000000 < m) (h : ∀ x ∈ l, x.s.t.Ok) : snap_Check m (lS l) = some (TU [nA (chkL l).1, nA (chkL l).2], []) := by
  rw [snap_Check_eq, lS_def]
  unfold chkL
  by_cases h8 : 8 < l.length
  · have h8' : (8 : Int) < (l.length : Int) := by omega
    simp (config := {maxSteps := 4000000, implicitDefEqProofs := false}) (disch := omega) only [go_sem, ↓reduceIte, Nat.reduceAdd, Nat.reduceSub, Nat.reduceMul, Nat.reduceLeDiff, Nat.reduceLT, Int.reduceEq, Int.reduceNe, Int.reduceLT, Int.reduceLE, Int.reduceAdd, Int.reduceSub, Int.reduceMul, Int.reduceNeg, Nat.zero_add, Nat.add_zero, Nat.mul_one, Int.toNat_natCast, Int.natCast_zero, Int.cast_ofNat_Int, or_false, false_or, or_true, true_or, Int.reduceToNat, Nat.sub_zero, Int.natCast_nonneg, Int.toNat_zero, Bool.true_and, Bool.and_true, Bool.false_and, Bool.and_false, Bool.true_or, Bool.or_true, Bool.false_or, Bool.or_false, Bool.not_true, Bool.not_false, Bool.not_not, true_and, and_true, false_and, and_false, not_true_eq_false, not_false_eq_true, eq_self, decide_true, decide_false, ne_eq, implies_true, forall_const, true_implies, false_implies, Bool.true_eq_false, Bool.false_eq_true, reduceCtorEq, List.map_cons, List.map_nil, List.all_cons, List.all_nil, List.length_cons, List.length_nil, List.length_map, List.length_append, List.nil_append, List.cons_append, List.set_cons_zero, List.set_cons_succ, List.set_nil, List.drop_zero, List.drop_succ_cons, List.drop_nil, List.take_zero, List.take_succ_cons, List.take_nil, Option.map_some, Option.map_none, Option.isSome_some, Nat.reduceEqDiff, Nat.reduceBEq, Nat.reduceGT, List.all_append, List.all_map, Function.comp_def, decide_eq_true_eq, Bool.and_eq_true, beq_self_eq_true, or_self, and_self, ite_true, ite_false, Nat.le_refl, Bool.not_eq_true, decide_not, Bool.not_eq_true', decide_eq_false_iff_not, Bool.not_eq_false, Bool.or_eq_true, if_true, if_false, ite_self, h8, h8']
  have h8' : ¬ (8 : Int) < (l.length : Int) := by omega
  simp (config := {maxSteps := 4000000, implicitDefEqProofs := false}) (disch := omega) only [go_sem, ↓reduceIte, Nat.reduceAdd, Nat.reduceSub, Nat.reduceMul, Nat.reduceLeDiff, Nat.reduceLT, Int.reduceEq, Int.reduceNe, Int.reduceLT, Int.reduceLE, Int.reduceAdd, Int.reduceSub, Int.reduceMul, Int.reduceNeg, Nat.zero_add, Nat.add_zero, Nat.mul_one, Int.toNat_natCast, Int.natCast_zero, Int.cast_ofNat_Int, or_false, false_or, or_true, true_or, Int.reduceToNat, Nat.sub_zero, Int.natCast_nonneg, Int.toNat_zero, Bool.true_and, Bool.and_true, Bool.false_and, Bool.and_false, Bool.true_or, Bool.or_true, Bool.false_or, Bool.or_false, Bool.not_true, Bool.not_false, Bool.not_not, true_and, and_true, false_and, and_false, not_true_eq_false, not_false_eq_true, eq_self, decide_true, decide_false, ne_eq, implies_true, forall_const, true_implies, false_implies, Bool.true_eq_false, Bool.false_eq_true, reduceCtorEq, List.map_cons, List.map_nil, List.all_cons, List.all_nil, List.length_cons, List.length_nil, List.length_map, List.length_append, List.nil_append, List.cons_append, List.set_cons_zero, List.set_cons_succ, List.set_nil, List.drop_zero, List.drop_succ_cons, List.drop_nil, List.take_zero, List.take_succ_cons, List.take_nil, Option.map_some, Option.map_none, Option.isSome_some, Nat.reduceEqDiff, Nat.reduceBEq, Nat.reduceGT, List.all_append, List.all_map, Function.comp_def, decide_eq_true_eq, Bool.and_eq_true, beq_self_eq_true, or_self, and_self, ite_true, ite_false, Nat.le_refl, Bool.not_eq_true, decide_not, Bool.not_eq_true', decide_eq_false_iff_not, Bool.not_eq_false, Bool.or_eq_true, if_true, if_false, ite_self, h8, h8']
  generalize hR : chkG none 0 l = R
  obtain ⟨e, a⟩ := R
  refine iter_go (ι := {k : Nat // k ≤ l.length ∧ chkG (prevL l k) k (l.drop k) = (e, a)}) (fun k => ⟨[], [(0, SL (l.map snE)), (10, SL (l.map snE)), (11, nA l.length), (12, nA k.1)]⟩) (fun k => l.length - k.1) (fun _ => some (TU [nA e, nA a], [])) ?_ ⟨0, Nat.zero_le _, hR⟩ (by dsimp only; omega)
  rintro kx hkx ⟨k, hk, hinv⟩ kc hkc
  dsimp only at hkc ⊢
  rw [snap_Check_b1_eq]
  by_cases hlt : k < l.length
  · have hlt' : (k : Int) < (l.length : Int) := by omega
    have hx := h _ (List.getElem_mem hlt)
    have hM := smay_s m l[k].s (by omega) hx
    rw [stA_def] at hM
    have hcase := chkG_at hlt hinv
    have step : bad (prevL l k) l[k] = 0 → kc ⟨[], [(0, SL (l.map snE)), (10, SL (l.map snE)), (11, nA l.length), (12, nA ((k : Int) + 1))]⟩ = some (TU [nA e, nA a], []) := fun h0 => by
      rcases hcase with ⟨_, h2⟩ | ⟨h1, _⟩
      · exact hkc ⟨k + 1, by omega, h2⟩ (by dsimp only; omega)
      · exact absurd h0 h1
    have stop : bad (prevL l k) l[k] ≠ 0 → e = bad (prevL l k) l[k] ∧ a = k := fun h0 => by
      rcases hcase with ⟨h1, _⟩ | ⟨_, h2⟩
      · exact absurd h1 h0
      · exact h2
    by_cases h1 : l[k].seq < 0
    · have hb : bad (prevL l k) l[k] = 1 := by unfold bad; rw [if_pos (.inl h1)]
      obtain ⟨he, ha⟩ := stop (by rw [hb]; decide)
      rw [he, ha, hb]
      simp (config := {maxSteps := 4000000, implicitDefEqProofs := false}) (disch := omega) only [go_sem, ↓reduceIte, Nat.reduceAdd, Nat.reduceSub, Nat.reduceMul, Nat.reduceLeDiff, Nat.reduceLT, Int.reduceEq, Int.reduceNe, Int.reduceLT, Int.reduceLE, Int.reduceAdd, Int.reduceSub, Int.reduceMul, Int.reduceNeg, Nat.zero_add, Nat.add_zero, Nat.mul_one, Int.toNat_natCast, Int.natCast_zero, Int.cast_ofNat_Int, or_false, false_or, or_true, true_or, Int.reduceToNat, Nat.sub_zero, Int.natCast_nonneg, Int.toNat_zero, Bool.true_and, Bool.and_true, Bool.false_and, Bool.and_false, Bool.true_or, Bool.or_true, Bool.false_or, Bool.or_false, Bool.not_true, Bool.not_false, Bool.not_not, true_and, and_true, false_and, and_false, not_true_eq_false, not_false_eq_true, eq_self, decide_true, decide_false, ne_eq, implies_true, forall_const, true_implies, false_implies, Bool.true_eq_false, Bool.false_eq_true, reduceCtorEq, List.map_cons, List.map_nil, List.all_cons, List.all_nil, List.length_cons, List.length_nil, List.length_map, List.length_append, List.nil_append, List.cons_append, List.set_cons_zero, List.set_cons_succ, List.set_nil, List.drop_zero, List.drop_succ_cons, List.drop_nil, List.take_zero, List.take_succ_cons, List.take_nil, Option.map_some, Option.map_none, Option.isSome_some, Nat.reduceEqDiff, Nat.reduceBEq, Nat.reduceGT, List.all_append, List.all_map, Function.comp_def, decide_eq_true_eq, Bool.and_eq_true, beq_self_eq_true, or_self, and_self, ite_true, ite_false, Nat.le_refl, Bool.not_eq_true, decide_not, Bool.not_eq_true', decide_eq_false_iff_not, Bool.not_eq_false, Bool.or_eq_true, if_true, if_false, ite_self, tC_len, tC_sure, tC_ltA, tC_lt1, tC_ro, tC_take, tC_all1, zC_len, zC_ltA, zC_lt1, zC_sure, zC_ro, zC_take, set_tl, set_tv, sc_tt, sc_zt, sc_tz, sc_zz, add16, tA_def, lA_def, natInt, u_tl, u_tv, hlt', u_nthM, sn_it, sn_ver, sn_bytes, sn_keys, sn_take, zn_set, zcN_len, st_take35, st_ltA, st_sure, st_lt1, st_all1, st_ro, stC_len, hM, w_i64, h1, hkx, snap_Check_r2_eq]
    have h1' : ¬ l[k].seq < 0 := h1
    cases h2 : mayS l[k].s with
    | false =>
      have hb : bad (prevL l k) l[k] = 1 := by unfold bad; rw [if_pos (.inr h2)]
      obtain ⟨he, ha⟩ := stop (by rw [hb]; decide)
      rw [h2] at hM
      rw [he, ha, hb]
      simp (config := {maxSteps := 4000000, implicitDefEqProofs := false}) (disch := omega) only [go_sem, ↓reduceIte, Nat.reduceAdd, Nat.reduceSub, Nat.reduceMul, Nat.reduceLeDiff, Nat.reduceLT, Int.reduceEq, Int.reduceNe, Int.reduceLT, Int.reduceLE, Int.reduceAdd, Int.reduceSub, Int.reduceMul, Int.reduceNeg, Nat.zero_add, Nat.add_zero, Nat.mul_one, Int.toNat_natCast, Int.natCast_zero, Int.cast_ofNat_Int, or_false, false_or, or_true, true_or, Int.reduceToNat, Nat.sub_zero, Int.natCast_nonneg, Int.toNat_zero, Bool.true_and, Bool.and_true, Bool.false_and, Bool.and_false, Bool.true_or, Bool.or_true, Bool.false_or, Bool.or_false, Bool.not_true, Bool.not_false, Bool.not_not, true_and, and_true, false_and, and_false, not_true_eq_false, not_false_eq_true, eq_self, decide_true, decide_false, ne_eq, implies_true, forall_const, true_implies, false_implies, Bool.true_eq_false, Bool.false_eq_true, reduceCtorEq, List.map_cons, List.map_nil, List.all_cons, List.all_nil, List.length_cons, List.length_nil, List.length_map, List.length_append, List.nil_append, List.cons_append, List.set_cons_zero, List.set_cons_succ, List.set_nil, List.drop_zero, List.drop_succ_cons, List.drop_nil, List.take_zero, List.take_succ_cons, List.take_nil, Option.map_some, Option.map_none, Option.isSome_some, Nat.reduceEqDiff, Nat.reduceBEq, Nat.reduceGT, List.all_append, List.all_map, Function.comp_def, decide_eq_true_eq, Bool.and_eq_true, beq_self_eq_true, or_self, and_self, ite_true, ite_false, Nat.le_refl, Bool.not_eq_true, decide_not, Bool.not_eq_true', decide_eq_false_iff_not, Bool.not_eq_false, Bool.or_eq_true, if_true, if_false, ite_self, tC_len, tC_sure, tC_ltA, tC_lt1, tC_ro, tC_take, tC_all1, zC_len, zC_ltA, zC_lt1, zC_sure, zC_ro, zC_take, set_tl, set_tv, sc_tt, sc_zt, sc_tz, sc_zz, add16, tA_def, lA_def, natInt, u_tl, u_tv, hlt', u_nthM, sn_it, sn_ver, sn_bytes, sn_keys, sn_take, zn_set, zcN_len, st_take35, st_ltA, st_sure, st_lt1, st_all1, st_ro, stC_len, hM, w_i64, h1, hkx, snap_Check_r2_eq]
    | true =>
      rw [h2] at hM
      have hn : ¬ (l[k].seq < 0 ∨ mayS l[k].s = false) := by rw [h2]; simp [h1]
      by_cases h0 : k = 0
      · subst h0
        have hz : (0 : Int) < (l.length : Int) := by omega
        have hb : bad (prevL l 0) l[0] = 0 := by unfold bad; rw [if_neg hn]; simp [prevL]
        have step := step hb
        simp only [Int.natCast_zero, Int.zero_add] at step
        simp (config := {maxSteps := 4000000, implicitDefEqProofs := false}) (disch := omega) only [go_sem, ↓reduceIte, Nat.reduceAdd, Nat.reduceSub, Nat.reduceMul, Nat.reduceLeDiff, Nat.reduceLT, Int.reduceEq, Int.reduceNe, Int.reduceLT, Int.reduceLE, Int.reduceAdd, Int.reduceSub, Int.reduceMul, Int.reduceNeg, Nat.zero_add, Nat.add_zero, Nat.mul_one, Int.toNat_natCast, Int.natCast_zero, Int.cast_ofNat_Int, or_false, false_or, or_true, true_or, Int.reduceToNat, Nat.sub_zero, Int.natCast_nonneg, Int.toNat_zero, Bool.true_and, Bool.and_true, Bool.false_and, Bool.and_false, Bool.true_or, Bool.or_true, Bool.false_or, Bool.or_false, Bool.not_true, Bool.not_false, Bool.not_not, true_and, and_true, false_and, and_false, not_true_eq_false, not_false_eq_true, eq_self, decide_true, decide_false, ne_eq, implies_true, forall_const, true_implies, false_implies, Bool.true_eq_false, Bool.false_eq_true, reduceCtorEq, List.map_cons, List.map_nil, List.all_cons, List.all_nil, List.length_cons, List.length_nil, List.length_map, List.length_append, List.nil_append, List.cons_append, List.set_cons_zero, List.set_cons_succ, List.set_nil, List.drop_zero, List.drop_succ_cons, List.drop_nil, List.take_zero, List.take_succ_cons, List.take_nil, Option.map_some, Option.map_none, Option.isSome_some, Nat.reduceEqDiff, Nat.reduceBEq, Nat.reduceGT, List.all_append, List.all_map, Function.comp_def, decide_eq_true_eq, Bool.and_eq_true, beq_self_eq_true, or_self, and_self, ite_true, ite_false, Nat.le_refl, Bool.not_eq_true, decide_not, Bool.not_eq_true', decide_eq_false_iff_not, Bool.not_eq_false, Bool.or_eq_true, if_true, if_false, ite_self, tC_len, tC_sure, tC_ltA, tC_lt1, tC_ro, tC_take, tC_all1, zC_len, zC_ltA, zC_lt1, zC_sure, zC_ro, zC_take, set_tl, set_tv, sc_tt, sc_zt, sc_tz, sc_zz, add16, tA_def, lA_def, natInt, u_tl, u_tv, hlt', u_nthM, sn_it, sn_ver, sn_bytes, sn_keys, sn_take, zn_set, zcN_len, st_take35, st_ltA, st_sure, st_lt1, st_all1, st_ro, stC_len, hM, w_i64, hz, h1, snap_Check_r2_eq, snap_Check_r3_eq, snap_Check_r5_eq]
        exact step
      · obtain ⟨j, rfl⟩ : ∃ j, k = j + 1 := ⟨k - 1, by omega⟩
        have h0' : ¬ ((j + 1 : Nat) : Int) = 0 := by omega
        have hj : ((j + 1 : Nat) : Int) - 1 = (j : Int) := by omega
        have hjl : j < l.length := by omega
        have hjl' : (j : Int) < (l.length : Int) := by omega
        have hb : bad (prevL l (j + 1)) l[j + 1] = if l[j].seq < l[j + 1].seq ∧ l[j].s.ver ≤ l[j + 1].s.ver ∧ l[j].s.bytes = l[j + 1].s.bytes ∧ l[j].s.keys = l[j + 1].s.keys then 0 else 3 := by
          unfold bad; rw [if_neg hn, prevL_succ hjl]
        by_cases g : l[j].seq < l[j + 1].seq ∧ l[j].s.ver ≤ l[j + 1].s.ver ∧ l[j].s.bytes = l[j + 1].s.bytes ∧ l[j].s.keys = l[j + 1].s.keys
        · have step := step (by rw [hb, if_pos g])
          obtain ⟨g1, g2, g3, g4⟩ := g
          have g1' : ¬ l[j + 1].seq ≤ l[j].seq := by omega
          have g2' : ¬ l[j + 1].s.ver < l[j].s.ver := by omega
          simp (config := {maxSteps := 4000000, implicitDefEqProofs := false}) (disch := omega) only [go_sem, ↓reduceIte, Nat.reduceAdd, Nat.reduceSub, Nat.reduceMul, Nat.reduceLeDiff, Nat.reduceLT, Int.reduceEq, Int.reduceNe, Int.reduceLT, Int.reduceLE, Int.reduceAdd, Int.reduceSub, Int.reduceMul, Int.reduceNeg, Nat.zero_add, Nat.add_zero, Nat.mul_one, Int.toNat_natCast, Int.natCast_zero, Int.cast_ofNat_Int, or_false, false_or, or_true, true_or, Int.reduceToNat, Nat.sub_zero, Int.natCast_nonneg, Int.toNat_zero, Bool.true_and, Bool.and_true, Bool.false_and, Bool.and_false, Bool.true_or, Bool.or_true, Bool.false_or, Bool.or_false, Bool.not_true, Bool.not_false, Bool.not_not, true_and, and_true, false_and, and_false, not_true_eq_false, not_false_eq_true, eq_self, decide_true, decide_false, ne_eq, implies_true, forall_const, true_implies, false_implies, Bool.true_eq_false, Bool.false_eq_true, reduceCtorEq, List.map_cons, List.map_nil, List.all_cons, List.all_nil, List.length_cons, List.length_nil, List.length_map, List.length_append, List.nil_append, List.cons_append, List.set_cons_zero, List.set_cons_succ, List.set_nil, List.drop_zero, List.drop_succ_cons, List.drop_nil, List.take_zero, List.take_succ_cons, List.take_nil, Option.map_some, Option.map_none, Option.isSome_some, Nat.reduceEqDiff, Nat.reduceBEq, Nat.reduceGT, List.all_append, List.all_map, Function.comp_def, decide_eq_true_eq, Bool.and_eq_true, beq_self_eq_true, or_self, and_self, ite_true, ite_false, Nat.le_refl, Bool.not_eq_true, decide_not, Bool.not_eq_true', decide_eq_false_iff_not, Bool.not_eq_false, Bool.or_eq_true, if_true, if_false, ite_self, tC_len, tC_sure, tC_ltA, tC_lt1, tC_ro, tC_take, tC_all1, zC_len, zC_ltA, zC_lt1, zC_sure, zC_ro, zC_take, set_tl, set_tv, sc_tt, sc_zt, sc_tz, sc_zz, add16, tA_def, lA_def, natInt, u_tl, u_tv, hlt', u_nthM, sn_it, sn_ver, sn_bytes, sn_keys, sn_take, zn_set, zcN_len, st_take35, st_ltA, st_sure, st_lt1, st_all1, st_ro, stC_len, hM, w_i64, h1, h0', hj, hjl', g1', g2', g3, g4, snap_Check_r2_eq, snap_Check_r3_eq, snap_Check_r6_eq, snap_Check_r7_eq]
          exact step
        · obtain ⟨he, ha⟩ := stop (by rw [hb, if_neg g]; decide)
          rw [hb, if_neg g] at he
          rw [he, ha]
          by_cases g1 : l[j + 1].seq ≤ l[j].seq
          · simp (config := {maxSteps := 4000000, implicitDefEqProofs := false}) (disch := omega) only [go_sem, ↓reduceIte, Nat.reduceAdd, Nat.reduceSub, Nat.reduceMul, Nat.reduceLeDiff, Nat.reduceLT, Int.reduceEq, Int.reduceNe, Int.reduceLT, Int.reduceLE, Int.reduceAdd, Int.reduceSub, Int.reduceMul, Int.reduceNeg, Nat.zero_add, Nat.add_zero, Nat.mul_one, Int.toNat_natCast, Int.natCast_zero, Int.cast_ofNat_Int, or_false, false_or, or_true, true_or, Int.reduceToNat, Nat.sub_zero, Int.natCast_nonneg, Int.toNat_zero, Bool.true_and, Bool.and_true, Bool.false_and, Bool.and_false, Bool.true_or, Bool.or_true, Bool.false_or, Bool.or_false, Bool.not_true, Bool.not_false, Bool.not_not, true_and, and_true, false_and, and_false, not_true_eq_false, not_false_eq_true, eq_self, decide_true, decide_false, ne_eq, implies_true, forall_const, true_implies, false_implies, Bool.true_eq_false, Bool.false_eq_true, reduceCtorEq, List.map_cons, List.map_nil, List.all_cons, List.all_nil, List.length_cons, List.length_nil, List.length_map, List.length_append, List.nil_append, List.cons_append, List.set_cons_zero, List.set_cons_succ, List.set_nil, List.drop_zero, List.drop_succ_cons, List.drop_nil, List.take_zero, List.take_succ_cons, List.take_nil, Option.map_some, Option.map_none, Option.isSome_some, Nat.reduceEqDiff, Nat.reduceBEq, Nat.reduceGT, List.all_append, List.all_map, Function.comp_def, decide_eq_true_eq, Bool.and_eq_true, beq_self_eq_true, or_self, and_self, ite_true, ite_false, Nat.le_refl, Bool.not_eq_true, decide_not, Bool.not_eq_true', decide_eq_false_iff_not, Bool.not_eq_false, Bool.or_eq_true, if_true, if_false, ite_self, tC_len, tC_sure, tC_ltA, tC_lt1, tC_ro, tC_take, tC_all1, zC_len, zC_ltA, zC_lt1, zC_sure, zC_ro, zC_take, set_tl, set_tv, sc_tt, sc_zt, sc_tz, sc_zz, add16, tA_def, lA_def, natInt, u_tl, u_tv, hlt', u_nthM, sn_it, sn_ver, sn_bytes, sn_keys, sn_take, zn_set, zcN_len, st_take35, st_ltA, st_sure, st_lt1, st_all1, st_ro, stC_len, hM, w_i64, h1, h0', hj, hjl', g1, hkx, snap_Check_r2_eq, snap_Check_r3_eq, snap_Check_r6_eq]
          by_cases g2 : l[j + 1].s.ver < l[j].s.ver
          · simp (config := {maxSteps := 4000000, implicitDefEqProofs := false}) (disch := omega) only [go_sem, ↓reduceIte, Nat.reduceAdd, Nat.reduceSub, Nat.reduceMul, Nat.reduceLeDiff, Nat.reduceLT, Int.reduceEq, Int.reduceNe, Int.reduceLT, Int.reduceLE, Int.reduceAdd, Int.reduceSub, Int.reduceMul, Int.reduceNeg, Nat.zero_add, Nat.add_zero, Nat.mul_one, Int.toNat_natCast, Int.natCast_zero, Int.cast_ofNat_Int, or_false, false_or, or_true, true_or, Int.reduceToNat, Nat.sub_zero, Int.natCast_nonneg, Int.toNat_zero, Bool.true_and, Bool.and_true, Bool.false_and, Bool.and_false, Bool.true_or, Bool.or_true, Bool.false_or, Bool.or_false, Bool.not_true, Bool.not_false, Bool.not_not, true_and, and_true, false_and, and_false, not_true_eq_false, not_false_eq_true, eq_self, decide_true, decide_false, ne_eq, implies_true, forall_const, true_implies, false_implies, Bool.true_eq_false, Bool.false_eq_true, reduceCtorEq, List.map_cons, List.map_nil, List.all_cons, List.all_nil, List.length_cons, List.length_nil, List.length_map, List.length_append, List.nil_append, List.cons_append, List.set_cons_zero, List.set_cons_succ, List.set_nil, List.drop_zero, List.drop_succ_cons, List.drop_nil, List.take_zero, List.take_succ_cons, List.take_nil, Option.map_some, Option.map_none, Option.isSome_some, Nat.reduceEqDiff, Nat.reduceBEq, Nat.reduceGT, List.all_append, List.all_map, Function.comp_def, decide_eq_true_eq, Bool.and_eq_true, beq_self_eq_true, or_self, and_self, ite_true, ite_false, Nat.le_refl, Bool.not_eq_true, decide_not, Bool.not_eq_true', decide_eq_false_iff_not, Bool.not_eq_false, Bool.or_eq_true, if_true, if_false, ite_self, tC_len, tC_sure, tC_ltA, tC_lt1, tC_ro, tC_take, tC_all1, zC_len, zC_ltA, zC_lt1, zC_sure, zC_ro, zC_take, set_tl, set_tv, sc_tt, sc_zt, sc_tz, sc_zz, add16, tA_def, lA_def, natInt, u_tl, u_tv, hlt', u_nthM, sn_it, sn_ver, sn_bytes, sn_keys, sn_take, zn_set, zcN_len, st_take35, st_ltA, st_sure, st_lt1, st_all1, st_ro, stC_len, hM, w_i64, h1, h0', hj, hjl', g1, g2, hkx, snap_Check_r2_eq, snap_Check_r3_eq, snap_Check_r6_eq]
          by_cases g3 : l[j + 1].s.bytes = l[j].s.bytes
          · by_cases g4 : l[j + 1].s.keys = l[j].s.keys
            · exact absurd ⟨by omega, by omega, g3.symm, g4.symm⟩ g
            · simp (config := {maxSteps := 4000000, implicitDefEqProofs := false}) (disch := omega) only [go_sem, ↓reduceIte, Nat.reduceAdd, Nat.reduceSub, Nat.reduceMul, Nat.reduceLeDiff, Nat.reduceLT, Int.reduceEq, Int.reduceNe, Int.reduceLT, Int.reduceLE, Int.reduceAdd, Int.reduceSub, Int.reduceMul, Int.reduceNeg, Nat.zero_add, Nat.add_zero, Nat.mul_one, Int.toNat_natCast, Int.natCast_zero, Int.cast_ofNat_Int, or_false, false_or, or_true, true_or, Int.reduceToNat, Nat.sub_zero, Int.natCast_nonneg, Int.toNat_zero, Bool.true_and, Bool.and_true, Bool.false_and, Bool.and_false, Bool.true_or, Bool.or_true, Bool.false_or, Bool.or_false, Bool.not_true, Bool.not_false, Bool.not_not, true_and, and_true, false_and, and_false, not_true_eq_false, not_false_eq_true, eq_self, decide_true, decide_false, ne_eq, implies_true, forall_const, true_implies, false_implies, Bool.true_eq_false, Bool.false_eq_true, reduceCtorEq, List.map_cons, List.map_nil, List.all_cons, List.all_nil, List.length_cons, List.length_nil, List.length_map, List.length_append, List.nil_append, List.cons_append, List.set_cons_zero, List.set_cons_succ, List.set_nil, List.drop_zero, List.drop_succ_cons, List.drop_nil, List.take_zero, List.take_succ_cons, List.take_nil, Option.map_some, Option.map_none, Option.isSome_some, Nat.reduceEqDiff, Nat.reduceBEq, Nat.reduceGT, List.all_append, List.all_map, Function.comp_def, decide_eq_true_eq, Bool.and_eq_true, beq_self_eq_true, or_self, and_self, ite_true, ite_false, Nat.le_refl, Bool.not_eq_true, decide_not, Bool.not_eq_true', decide_eq_false_iff_not, Bool.not_eq_false, Bool.or_eq_true, if_true, if_false, ite_self, tC_len, tC_sure, tC_ltA, tC_lt1, tC_ro, tC_take, tC_all1, zC_len, zC_ltA, zC_lt1, zC_sure, zC_ro, zC_take, set_tl, set_tv, sc_tt, sc_zt, sc_tz, sc_zz, add16, tA_def, lA_def, natInt, u_tl, u_tv, hlt', u_nthM, sn_it, sn_ver, sn_bytes, sn_keys, sn_take, zn_set, zcN_len, st_take35, st_ltA, st_sure, st_lt1, st_all1, st_ro, stC_len, hM, w_i64, h1, h0', hj, hjl', g1, g2, g3, g4, hkx, snap_Check_r2_eq, snap_Check_r3_eq, snap_Check_r6_eq]
          · simp (config := {maxSteps := 4000000, implicitDefEqProofs := false}) (disch := omega) only [go_sem, ↓reduceIte, Nat.reduceAdd, Nat.reduceSub, Nat.reduceMul, Nat.reduceLeDiff, Nat.reduceLT, Int.reduceEq, Int.reduceNe, Int.reduceLT, Int.reduceLE, Int.reduceAdd, Int.reduceSub, Int.reduceMul, Int.reduceNeg, Nat.zero_add, Nat.add_zero, Nat.mul_one, Int.toNat_natCast, Int.natCast_zero, Int.cast_ofNat_Int, or_false, false_or, or_true, true_or, Int.reduceToNat, Nat.sub_zero, Int.natCast_nonneg, Int.toNat_zero, Bool.true_and, Bool.and_true, Bool.false_and, Bool.and_false, Bool.true_or, Bool.or_true, Bool.false_or, Bool.or_false, Bool.not_true, Bool.not_false, Bool.not_not, true_and, and_true, false_and, and_false, not_true_eq_false, not_false_eq_true, eq_self, decide_true, decide_false, ne_eq, implies_true, forall_const, true_implies, false_implies, Bool.true_eq_false, Bool.false_eq_true, reduceCtorEq, List.map_cons, List.map_nil, List.all_cons, List.all_nil, List.length_cons, List.length_nil, List.length_map, List.length_append, List.nil_append, List.cons_append, List.set_cons_zero, List.set_cons_succ, List.set_nil, List.drop_zero, List.drop_succ_cons, List.drop_nil, List.take_zero, List.take_succ_cons, List.take_nil, Option.map_some, Option.map_none, Option.isSome_some, Nat.reduceEqDiff, Nat.reduceBEq, Nat.reduceGT, List.all_append, List.all_map, Function.comp_def, decide_eq_true_eq, Bool.and_eq_true, beq_self_eq_true, or_self, and_self, ite_true, ite_false, Nat.le_refl, Bool.not_eq_true, decide_not, Bool.not_eq_true', decide_eq_false_iff_not, Bool.not_eq_false, Bool.or_eq_true, if_true, if_false, ite_self, tC_len, tC_sure, tC_ltA, tC_lt1, tC_ro, tC_take, tC_all1, zC_len, zC_ltA, zC_lt1, zC_sure, zC_ro, zC_take, set_tl, set_tv, sc_tt, sc_zt, sc_tz, sc_zz, add16, tA_def, lA_def, natInt, u_tl, u_tv, hlt', u_nthM, sn_it, sn_ver, sn_bytes, sn_keys, sn_take, zn_set, zcN_len, st_take35, st_ltA, st_sure, st_lt1, st_all1, st_ro, stC_len, hM, w_i64, h1, h0', hj, hjl', g1, g2, g3, hkx, snap_Check_r2_eq, snap_Check_r3_eq, snap_Check_r6_eq]
  · have hlt' : ¬ (k : Int) < (l.length : Int) := by omega
    have : k = l.length := by omega
    subst this
    obtain ⟨h1, h2⟩ := chkG_end hinv
    rw [h1, h2]
    simp (config := {maxSteps := 4000000, implicitDefEqProofs := false}) (disch := omega) only [go_sem, ↓reduceIte, Nat.reduceAdd, Nat.reduceSub, Nat.reduceMul, Nat.reduceLeDiff, Nat.reduceLT, Int.reduceEq, Int.reduceNe, Int.reduceLT, Int.reduceLE, Int.reduceAdd, Int.reduceSub, Int.reduceMul, Int.reduceNeg, Nat.zero_add, Nat.add_zero, Nat.mul_one, Int.toNat_natCast, Int.natCast_zero, Int.cast_ofNat_Int, or_false, false_or, or_true, true_or, Int.reduceToNat, Nat.sub_zero, Int.natCast_nonneg, Int.toNat_zero, Bool.true_and, Bool.and_true, Bool.false_and, Bool.and_false, Bool.true_or, Bool.or_true, Bool.false_or, Bool.or_false, Bool.not_true, Bool.not_false, Bool.not_not, true_and, and_true, false_and, and_false, not_true_eq_false, not_false_eq_true, eq_self, decide_true, decide_false, ne_eq, implies_true, forall_const, true_implies, false_implies, Bool.true_eq_false, Bool.false_eq_true, reduceCtorEq, List.map_cons, List.map_nil, List.all_cons, List.all_nil, List.length_cons, List.length_nil, List.length_map, List.length_append, List.nil_append, List.cons_append, List.set_cons_zero, List.set_cons_succ, List.set_nil, List.drop_zero, List.drop_succ_cons, List.drop_nil, List.take_zero, List.take_succ_cons, List.take_nil, Option.map_some, Option.map_none, Option.isSome_some, Nat.reduceEqDiff, Nat.reduceBEq, Nat.reduceGT, List.all_append, List.all_map, Function.comp_def, decide_eq_true_eq, Bool.and_eq_true, beq_self_eq_true, or_self, and_self, ite_true, ite_false, Nat.le_refl, Bool.not_eq_true, decide_not, Bool.not_eq_true', decide_eq_false_iff_not, Bool.not_eq_false, Bool.or_eq_true, if_true, if_false, ite_self, hlt', hkx, snap_Check_r7_eq, snap_Check_r6_eq, snap_Check_r5_eq, snap_Check_r4_eq, snap_Check_r3_eq, snap_Check_r2_eq, snap_Check_r1_eq]
theorem rcheck_s (m : Nat) (l : List Sn) (hm : 16000000 < m) (h : ∀ x ∈ l, x.s.t.Ok) : plenumref14_Check m (lS l) = some (TU [nA (chkL l).1, nA (chkL l).2], []) := by
  rw [plenumref14_Check_eq, lS_def]
  unfold chkL
  by_cases h8 : 8 < l.length
  · have h8' : (8 : Int) < (l.length : Int) := by omega
    simp (config := {maxSteps := 4000000, implicitDefEqProofs := false}) (disch := omega) only [go_sem, ↓reduceIte, Nat.reduceAdd, Nat.reduceSub, Nat.reduceMul, Nat.reduceLeDiff, Nat.reduceLT, Int.reduceEq, Int.reduceNe, Int.reduceLT, Int.reduceLE, Int.reduceAdd, Int.reduceSub, Int.reduceMul, Int.reduceNeg, Nat.zero_add, Nat.add_zero, Nat.mul_one, Int.toNat_natCast, Int.natCast_zero, Int.cast_ofNat_Int, or_false, false_or, or_true, true_or, Int.reduceToNat, Nat.sub_zero, Int.natCast_nonneg, Int.toNat_zero, Bool.true_and, Bool.and_true, Bool.false_and, Bool.and_false, Bool.true_or, Bool.or_true, Bool.false_or, Bool.or_false, Bool.not_true, Bool.not_false, Bool.not_not, true_and, and_true, false_and, and_false, not_true_eq_false, not_false_eq_true, eq_self, decide_true, decide_false, ne_eq, implies_true, forall_const, true_implies, false_implies, Bool.true_eq_false, Bool.false_eq_true, reduceCtorEq, List.map_cons, List.map_nil, List.all_cons, List.all_nil, List.length_cons, List.length_nil, List.length_map, List.length_append, List.nil_append, List.cons_append, List.set_cons_zero, List.set_cons_succ, List.set_nil, List.drop_zero, List.drop_succ_cons, List.drop_nil, List.take_zero, List.take_succ_cons, List.take_nil, Option.map_some, Option.map_none, Option.isSome_some, Nat.reduceEqDiff, Nat.reduceBEq, Nat.reduceGT, List.all_append, List.all_map, Function.comp_def, decide_eq_true_eq, Bool.and_eq_true, beq_self_eq_true, or_self, and_self, ite_true, ite_false, Nat.le_refl, Bool.not_eq_true, decide_not, Bool.not_eq_true', decide_eq_false_iff_not, Bool.not_eq_false, Bool.or_eq_true, if_true, if_false, ite_self, h8, h8']
  have h8' : ¬ (8 : Int) < (l.length : Int) := by omega
  simp (config := {maxSteps := 4000000, implicitDefEqProofs := false}) (disch := omega) only [go_sem, ↓reduceIte, Nat.reduceAdd, Nat.reduceSub, Nat.reduceMul, Nat.reduceLeDiff, Nat.reduceLT, Int.reduceEq, Int.reduceNe, Int.reduceLT, Int.reduceLE, Int.reduceAdd, Int.reduceSub, Int.reduceMul, Int.reduceNeg, Nat.zero_add, Nat.add_zero, Nat.mul_one, Int.toNat_natCast, Int.natCast_zero, Int.cast_ofNat_Int, or_false, false_or, or_true, true_or, Int.reduceToNat, Nat.sub_zero, Int.natCast_nonneg, Int.toNat_zero, Bool.true_and, Bool.and_true, Bool.false_and, Bool.and_false, Bool.true_or, Bool.or_true, Bool.false_or, Bool.or_false, Bool.not_true, Bool.not_false, Bool.not_not, true_and, and_true, false_and, and_false, not_true_eq_false, not_false_eq_true, eq_self, decide_true, decide_false, ne_eq, implies_true, forall_const, true_implies, false_implies, Bool.true_eq_false, Bool.false_eq_true, reduceCtorEq, List.map_cons, List.map_nil, List.all_cons, List.all_nil, List.length_cons, List.length_nil, List.length_map, List.length_append, List.nil_append, List.cons_append, List.set_cons_zero, List.set_cons_succ, List.set_nil, List.drop_zero, List.drop_succ_cons, List.drop_nil, List.take_zero, List.take_succ_cons, List.take_nil, Option.map_some, Option.map_none, Option.isSome_some, Nat.reduceEqDiff, Nat.reduceBEq, Nat.reduceGT, List.all_append, List.all_map, Function.comp_def, decide_eq_true_eq, Bool.and_eq_true, beq_self_eq_true, or_self, and_self, ite_true, ite_false, Nat.le_refl, Bool.not_eq_true, decide_not, Bool.not_eq_true', decide_eq_false_iff_not, Bool.not_eq_false, Bool.or_eq_true, if_true, if_false, ite_self, h8, h8']
  generalize hR : chkG none 0 l = R
  obtain ⟨e, a⟩ := R
  refine iter_go (ι := {k : Nat // k ≤ l.length ∧ chkG (prevL l k) k (l.drop k) = (e, a)}) (fun k => ⟨[], [(0, SL (l.map snE)), (4, nA k.1)]⟩) (fun k => l.length - k.1) (fun _ => some (TU [nA e, nA a], [])) ?_ ⟨0, Nat.zero_le _, hR⟩ (by dsimp only; omega)
  rintro kx hkx ⟨k, hk, hinv⟩ kc hkc
  dsimp only at hkc ⊢
  rw [plenumref14_Check_b1_eq]
  by_cases hlt : k < l.length
  · have hlt' : (k : Int) < (l.length : Int) := by omega
    have hx := h _ (List.getElem_mem hlt)
    have hM := rmayS_s m l[k].s hm hx
    rw [stA_def] at hM
    have hcase := chkG_at hlt hinv
    have step : bad (prevL l k) l[k] = 0 → kc ⟨[], [(0, SL (l.map snE)), (4, nA ((k : Int) + 1))]⟩ = some (TU [nA e, nA a], []) := fun h0 => by
      rcases hcase with ⟨_, h2⟩ | ⟨h1, _⟩
      · exact hkc ⟨k + 1, by omega, h2⟩ (by dsimp only; omega)
      · exact absurd h0 h1
    have stop : bad (prevL l k) l[k] ≠ 0 → e = bad (prevL l k) l[k] ∧ a = k := fun h0 => by
      rcases hcase with ⟨h1, _⟩ | ⟨_, h2⟩
      · exact absurd h1 h0
      · exact h2
    by_cases h1 : l[k].seq < 0
    · have hb : bad (prevL l k) l[k] = 1 := by unfold bad; rw [if_pos (.inl h1)]
      obtain ⟨he, ha⟩ := stop (by rw [hb]; decide)
      rw [he, ha, hb]
      simp (config := {maxSteps := 4000000, implicitDefEqProofs := false}) (disch := omega) only [go_sem, ↓reduceIte, Nat.reduceAdd, Nat.reduceSub, Nat.reduceMul, Nat.reduceLeDiff, Nat.reduceLT, Int.reduceEq, Int.reduceNe, Int.reduceLT, Int.reduceLE, Int.reduceAdd, Int.reduceSub, Int.reduceMul, Int.reduceNeg, Nat.zero_add, Nat.add_zero, Nat.mul_one, Int.toNat_natCast, Int.natCast_zero, Int.cast_ofNat_Int, or_false, false_or, or_true, true_or, Int.reduceToNat, Nat.sub_zero, Int.natCast_nonneg, Int.toNat_zero, Bool.true_and, Bool.and_true, Bool.false_and, Bool.and_false, Bool.true_or, Bool.or_true, Bool.false_or, Bool.or_false, Bool.not_true, Bool.not_false, Bool.not_not, true_and, and_true, false_and, and_false, not_true_eq_false, not_false_eq_true, eq_self, decide_true, decide_false, ne_eq, implies_true, forall_const, true_implies, false_implies, Bool.true_eq_false, Bool.false_eq_true, reduceCtorEq, List.map_cons, List.map_nil, List.all_cons, List.all_nil, List.length_cons, List.length_nil, List.length_map, List.length_append, List.nil_append, List.cons_append, List.set_cons_zero, List.set_cons_succ, List.set_nil, List.drop_zero, List.drop_succ_cons, List.drop_nil, List.take_zero, List.take_succ_cons, List.take_nil, Option.map_some, Option.map_none, Option.isSome_some, Nat.reduceEqDiff, Nat.reduceBEq, Nat.reduceGT, List.all_append, List.all_map, Function.comp_def, decide_eq_true_eq, Bool.and_eq_true, beq_self_eq_true, or_self, and_self, ite_true, ite_false, Nat.le_refl, Bool.not_eq_true, decide_not, Bool.not_eq_true', decide_eq_false_iff_not, Bool.not_eq_false, Bool.or_eq_true, if_true, if_false, ite_self, tC_len, tC_sure, tC_ltA, tC_lt1, tC_ro, tC_take, tC_all1, zC_len, zC_ltA, zC_lt1, zC_sure, zC_ro, zC_take, set_tl, set_tv, sc_tt, sc_zt, sc_tz, sc_zz, add16, tA_def, lA_def, natInt, u_tl, u_tv, hlt', u_nthM, sn_it, st_ver, st_bytes, st_keys, sn_ver, sn_bytes, sn_keys, sn_take, zn_set, zcN_len, st_take35, st_ltA, st_sure, st_lt1, st_all1, st_ro, stC_len, hM, w_i64, h1, hkx, plenumref14_Check_r7_eq, plenumref14_Check_r6_eq, plenumref14_Check_r5_eq, plenumref14_Check_r4_eq, plenumref14_Check_r3_eq, plenumref14_Check_r2_eq, plenumref14_Check_r1_eq]
    have h1' : ¬ l[k].seq < 0 := h1
    cases h2 : mayS l[k].s with
    | false =>
      have hb : bad (prevL l k) l[k] = 1 := by unfold bad; rw [if_pos (.inr h2)]
      obtain ⟨he, ha⟩ := stop (by rw [hb]; decide)
      rw [h2] at hM
      rw [he, ha, hb]
      simp (config := {maxSteps := 4000000, implicitDefEqProofs := false}) (disch := omega) only [go_sem, ↓reduceIte, Nat.reduceAdd, Nat.reduceSub, Nat.reduceMul, Nat.reduceLeDiff, Nat.reduceLT, Int.reduceEq, Int.reduceNe, Int.reduceLT, Int.reduceLE, Int.reduceAdd, Int.reduceSub, Int.reduceMul, Int.reduceNeg, Nat.zero_add, Nat.add_zero, Nat.mul_one, Int.toNat_natCast, Int.natCast_zero, Int.cast_ofNat_Int, or_false, false_or, or_true, true_or, Int.reduceToNat, Nat.sub_zero, Int.natCast_nonneg, Int.toNat_zero, Bool.true_and, Bool.and_true, Bool.false_and, Bool.and_false, Bool.true_or, Bool.or_true, Bool.false_or, Bool.or_false, Bool.not_true, Bool.not_false, Bool.not_not, true_and, and_true, false_and, and_false, not_true_eq_false, not_false_eq_true, eq_self, decide_true, decide_false, ne_eq, implies_true, forall_const, true_implies, false_implies, Bool.true_eq_false, Bool.false_eq_true, reduceCtorEq, List.map_cons, List.map_nil, List.all_cons, List.all_nil, List.length_cons, List.length_nil, List.length_map, List.length_append, List.nil_append, List.cons_append, List.set_cons_zero, List.set_cons_succ, List.set_nil, List.drop_zero, List.drop_succ_cons, List.drop_nil, List.take_zero, List.take_succ_cons, List.take_nil, Option.map_some, Option.map_none, Option.isSome_some, Nat.reduceEqDiff, Nat.reduceBEq, Nat.reduceGT, List.all_append, List.all_map, Function.comp_def, decide_eq_true_eq, Bool.and_eq_true, beq_self_eq_true, or_self, and_self, ite_true, ite_false, Nat.le_refl, Bool.not_eq_true, decide_not, Bool.not_eq_true', decide_eq_false_iff_not, Bool.not_eq_false, Bool.or_eq_true, if_true, if_false, ite_self, tC_len, tC_sure, tC_ltA, tC_lt1, tC_ro, tC_take, tC_all1, zC_len, zC_ltA, zC_lt1, zC_sure, zC_ro, zC_take, set_tl, set_tv, sc_tt, sc_zt, sc_tz, sc_zz, add16, tA_def, lA_def, natInt, u_tl, u_tv, hlt', u_nthM, sn_it, st_ver, st_bytes, st_keys, sn_ver, sn_bytes, sn_keys, sn_take, zn_set, zcN_len, st_take35, st_ltA, st_sure, st_lt1, st_all1, st_ro, stC_len, hM, w_i64, h1, hkx, plenumref14_Check_r7_eq, plenumref14_Check_r6_eq, plenumref14_Check_r5_eq, plenumref14_Check_r4_eq, plenumref14_Check_r3_eq, plenumref14_Check_r2_eq, plenumref14_Check_r1_eq]
    | true =>
      rw [h2] at hM
      have hn : ¬ (l[k].seq < 0 ∨ mayS l[k].s = false) := by rw [h2]; simp [h1]
      by_cases h0 : k = 0
      · subst h0
        have hz : (0 : Int) < (l.length : Int) := by omega
        have hb : bad (prevL l 0) l[0] = 0 := by unfold bad; rw [if_neg hn]; simp [prevL]
        have step := step hb
        simp only [Int.natCast_zero, Int.zero_add] at step
        simp (config := {maxSteps := 4000000, implicitDefEqProofs := false}) (disch := omega) only [go_sem, ↓reduceIte, Nat.reduceAdd, Nat.reduceSub, Nat.reduceMul, Nat.reduceLeDiff, Nat.reduceLT, Int.reduceEq, Int.reduceNe, Int.reduceLT, Int.reduceLE, Int.reduceAdd, Int.reduceSub, Int.reduceMul, Int.reduceNeg, Nat.zero_add, Nat.add_zero, Nat.mul_one, Int.toNat_natCast, Int.natCast_zero, Int.cast_ofNat_Int, or_false, false_or, or_true, true_or, Int.reduceToNat, Nat.sub_zero, Int.natCast_nonneg, Int.toNat_zero, Bool.true_and, Bool.and_true, Bool.false_and, Bool.and_false, Bool.true_or, Bool.or_true, Bool.false_or, Bool.or_false, Bool.not_true, Bool.not_false, Bool.not_not, true_and, and_true, false_and, and_false, not_true_eq_false, not_false_eq_true, eq_self, decide_true, decide_false, ne_eq, implies_true, forall_const, true_implies, false_implies, Bool.true_eq_false, Bool.false_eq_true, reduceCtorEq, List.map_cons, List.map_nil, List.all_cons, List.all_nil, List.length_cons, List.length_nil, List.length_map, List.length_append, List.nil_append, List.cons_append, List.set_cons_zero, List.set_cons_succ, List.set_nil, List.drop_zero, List.drop_succ_cons, List.drop_nil, List.take_zero, List.take_succ_cons, List.take_nil, Option.map_some, Option.map_none, Option.isSome_some, Nat.reduceEqDiff, Nat.reduceBEq, Nat.reduceGT, List.all_append, List.all_map, Function.comp_def, decide_eq_true_eq, Bool.and_eq_true, beq_self_eq_true, or_self, and_self, ite_true, ite_false, Nat.le_refl, Bool.not_eq_true, decide_not, Bool.not_eq_true', decide_eq_false_iff_not, Bool.not_eq_false, Bool.or_eq_true, if_true, if_false, ite_self, tC_len, tC_sure, tC_ltA, tC_lt1, tC_ro, tC_take, tC_all1, zC_len, zC_ltA, zC_lt1, zC_sure, zC_ro, zC_take, set_tl, set_tv, sc_tt, sc_zt, sc_tz, sc_zz, add16, tA_def, lA_def, natInt, u_tl, u_tv, hlt', u_nthM, sn_it, st_ver, st_bytes, st_keys, sn_ver, sn_bytes, sn_keys, sn_take, zn_set, zcN_len, st_take35, st_ltA, st_sure, st_lt1, st_all1, st_ro, stC_len, hM, w_i64, hz, h1, plenumref14_Check_r7_eq, plenumref14_Check_r6_eq, plenumref14_Check_r5_eq, plenumref14_Check_r4_eq, plenumref14_Check_r3_eq, plenumref14_Check_r2_eq, plenumref14_Check_r1_eq]
        exact step
      · obtain ⟨j, rfl⟩ : ∃ j, k = j + 1 := ⟨k - 1, by omega⟩
        have h0' : (0 : Int) < ((j + 1 : Nat) : Int) := by omega
        have hj : ((j + 1 : Nat) : Int) - 1 = (j : Int) := by omega
        have hjl : j < l.length := by omega
        have hjl' : (j : Int) < (l.length : Int) := by omega
        have hb : bad (prevL l (j + 1)) l[j + 1] = if l[j].seq < l[j + 1].seq ∧ l[j].s.ver ≤ l[j + 1].s.ver ∧ l[j].s.bytes = l[j + 1].s.bytes ∧ l[j].s.keys = l[j + 1].s.keys then 0 else 3 := by
          unfold bad; rw [if_neg hn, prevL_succ hjl]
        by_cases g : l[j].seq < l[j + 1].seq ∧ l[j].s.ver ≤ l[j + 1].s.ver ∧ l[j].s.bytes = l[j + 1].s.bytes ∧ l[j].s.keys = l[j + 1].s.keys
        · have step := step (by rw [hb, if_pos g])
          obtain ⟨g1, g2, g3, g4⟩ := g
          simp (config := {maxSteps := 4000000, implicitDefEqProofs := false}) (disch := omega) only [go_sem, ↓reduceIte, Nat.reduceAdd, Nat.reduceSub, Nat.reduceMul, Nat.reduceLeDiff, Nat.reduceLT, Int.reduceEq, Int.reduceNe, Int.reduceLT, Int.reduceLE, Int.reduceAdd, Int.reduceSub, Int.reduceMul, Int.reduceNeg, Nat.zero_add, Nat.add_zero, Nat.mul_one, Int.toNat_natCast, Int.natCast_zero, Int.cast_ofNat_Int, or_false, false_or, or_true, true_or, Int.reduceToNat, Nat.sub_zero, Int.natCast_nonneg, Int.toNat_zero, Bool.true_and, Bool.and_true, Bool.false_and, Bool.and_false, Bool.true_or, Bool.or_true, Bool.false_or, Bool.or_false, Bool.not_true, Bool.not_false, Bool.not_not, true_and, and_true, false_and, and_false, not_true_eq_false, not_false_eq_true, eq_self, decide_true, decide_false, ne_eq, implies_true, forall_const, true_implies, false_implies, Bool.true_eq_false, Bool.false_eq_true, reduceCtorEq, List.map_cons, List.map_nil, List.all_cons, List.all_nil, List.length_cons, List.length_nil, List.length_map, List.length_append, List.nil_append, List.cons_append, List.set_cons_zero, List.set_cons_succ, List.set_nil, List.drop_zero, List.drop_succ_cons, List.drop_nil, List.take_zero, List.take_succ_cons, List.take_nil, Option.map_some, Option.map_none, Option.isSome_some, Nat.reduceEqDiff, Nat.reduceBEq, Nat.reduceGT, List.all_append, List.all_map, Function.comp_def, decide_eq_true_eq, Bool.and_eq_true, beq_self_eq_true, or_self, and_self, ite_true, ite_false, Nat.le_refl, Bool.not_eq_true, decide_not, Bool.not_eq_true', decide_eq_false_iff_not, Bool.not_eq_false, Bool.or_eq_true, if_true, if_false, ite_self, tC_len, tC_sure, tC_ltA, tC_lt1, tC_ro, tC_take, tC_all1, zC_len, zC_ltA, zC_lt1, zC_sure, zC_ro, zC_take, set_tl, set_tv, sc_tt, sc_zt, sc_tz, sc_zz, add16, tA_def, lA_def, natInt, u_tl, u_tv, hlt', u_nthM, sn_it, st_ver, st_bytes, st_keys, sn_ver, sn_bytes, sn_keys, sn_take, zn_set, zcN_len, st_take35, st_ltA, st_sure, st_lt1, st_all1, st_ro, stC_len, hM, w_i64, h1, h0', hj, hjl', g1, g2, g3, g4, plenumref14_Check_r7_eq, plenumref14_Check_r6_eq, plenumref14_Check_r5_eq, plenumref14_Check_r4_eq, plenumref14_Check_r3_eq, plenumref14_Check_r2_eq, plenumref14_Check_r1_eq]
          exact step
        · obtain ⟨he, ha⟩ := stop (by rw [hb, if_neg g]; decide)
          rw [hb, if_neg g] at he
          rw [he, ha]
          by_cases g1 : ¬ l[j].seq < l[j + 1].seq
          · simp (config := {maxSteps := 4000000, implicitDefEqProofs := false}) (disch := omega) only [go_sem, ↓reduceIte, Nat.reduceAdd, Nat.reduceSub, Nat.reduceMul, Nat.reduceLeDiff, Nat.reduceLT, Int.reduceEq, Int.reduceNe, Int.reduceLT, Int.reduceLE, Int.reduceAdd, Int.reduceSub, Int.reduceMul, Int.reduceNeg, Nat.zero_add, Nat.add_zero, Nat.mul_one, Int.toNat_natCast, Int.natCast_zero, Int.cast_ofNat_Int, or_false, false_or, or_true, true_or, Int.reduceToNat, Nat.sub_zero, Int.natCast_nonneg, Int.toNat_zero, Bool.true_and, Bool.and_true, Bool.false_and, Bool.and_false, Bool.true_or, Bool.or_true, Bool.false_or, Bool.or_false, Bool.not_true, Bool.not_false, Bool.not_not, true_and, and_true, false_and, and_false, not_true_eq_false, not_false_eq_true, eq_self, decide_true, decide_false, ne_eq, implies_true, forall_const, true_implies, false_implies, Bool.true_eq_false, Bool.false_eq_true, reduceCtorEq, List.map_cons, List.map_nil, List.all_cons, List.all_nil, List.length_cons, List.length_nil, List.length_map, List.length_append, List.nil_append, List.cons_append, List.set_cons_zero, List.set_cons_succ, List.set_nil, List.drop_zero, List.drop_succ_cons, List.drop_nil, List.take_zero, List.take_succ_cons, List.take_nil, Option.map_some, Option.map_none, Option.isSome_some, Nat.reduceEqDiff, Nat.reduceBEq, Nat.reduceGT, List.all_append, List.all_map, Function.comp_def, decide_eq_true_eq, Bool.and_eq_true, beq_self_eq_true, or_self, and_self, ite_true, ite_false, Nat.le_refl, Bool.not_eq_true, decide_not, Bool.not_eq_true', decide_eq_false_iff_not, Bool.not_eq_false, Bool.or_eq_true, if_true, if_false, ite_self, tC_len, tC_sure, tC_ltA, tC_lt1, tC_ro, tC_take, tC_all1, zC_len, zC_ltA, zC_lt1, zC_sure, zC_ro, zC_take, set_tl, set_tv, sc_tt, sc_zt, sc_tz, sc_zz, add16, tA_def, lA_def, natInt, u_tl, u_tv, hlt', u_nthM, sn_it, st_ver, st_bytes, st_keys, sn_ver, sn_bytes, sn_keys, sn_take, zn_set, zcN_len, st_take35, st_ltA, st_sure, st_lt1, st_all1, st_ro, stC_len, hM, w_i64, h1, h0', hj, hjl', g1, hkx, plenumref14_Check_r7_eq, plenumref14_Check_r6_eq, plenumref14_Check_r5_eq, plenumref14_Check_r4_eq, plenumref14_Check_r3_eq, plenumref14_Check_r2_eq, plenumref14_Check_r1_eq]
          have g1 := Classical.not_not.1 g1
          by_cases g2 : ¬ l[j].s.ver ≤ l[j + 1].s.ver
          · simp (config := {maxSteps := 4000000, implicitDefEqProofs := false}) (disch := omega) only [go_sem, ↓reduceIte, Nat.reduceAdd, Nat.reduceSub, Nat.reduceMul, Nat.reduceLeDiff, Nat.reduceLT, Int.reduceEq, Int.reduceNe, Int.reduceLT, Int.reduceLE, Int.reduceAdd, Int.reduceSub, Int.reduceMul, Int.reduceNeg, Nat.zero_add, Nat.add_zero, Nat.mul_one, Int.toNat_natCast, Int.natCast_zero, Int.cast_ofNat_Int, or_false, false_or, or_true, true_or, Int.reduceToNat, Nat.sub_zero, Int.natCast_nonneg, Int.toNat_zero, Bool.true_and, Bool.and_true, Bool.false_and, Bool.and_false, Bool.true_or, Bool.or_true, Bool.false_or, Bool.or_false, Bool.not_true, Bool.not_false, Bool.not_not, true_and, and_true, false_and, and_false, not_true_eq_false, not_false_eq_true, eq_self, decide_true, decide_false, ne_eq, implies_true, forall_const, true_implies, false_implies, Bool.true_eq_false, Bool.false_eq_true, reduceCtorEq, List.map_cons, List.map_nil, List.all_cons, List.all_nil, List.length_cons, List.length_nil, List.length_map, List.length_append, List.nil_append, List.cons_append, List.set_cons_zero, List.set_cons_succ, List.set_nil, List.drop_zero, List.drop_succ_cons, List.drop_nil, List.take_zero, List.take_succ_cons, List.take_nil, Option.map_some, Option.map_none, Option.isSome_some, Nat.reduceEqDiff, Nat.reduceBEq, Nat.reduceGT, List.all_append, List.all_map, Function.comp_def, decide_eq_true_eq, Bool.and_eq_true, beq_self_eq_true, or_self, and_self, ite_true, ite_false, Nat.le_refl, Bool.not_eq_true, decide_not, Bool.not_eq_true', decide_eq_false_iff_not, Bool.not_eq_false, Bool.or_eq_true, if_true, if_false, ite_self, tC_len, tC_sure, tC_ltA, tC_lt1, tC_ro, tC_take, tC_all1, zC_len, zC_ltA, zC_lt1, zC_sure, zC_ro, zC_take, set_tl, set_tv, sc_tt, sc_zt, sc_tz, sc_zz, add16, tA_def, lA_def, natInt, u_tl, u_tv, hlt', u_nthM, sn_it, st_ver, st_bytes, st_keys, sn_ver, sn_bytes, sn_keys, sn_take, zn_set, zcN_len, st_take35, st_ltA, st_sure, st_lt1, st_all1, st_ro, stC_len, hM, w_i64, h1, h0', hj, hjl', g1, g2, hkx, plenumref14_Check_r7_eq, plenumref14_Check_r6_eq, plenumref14_Check_r5_eq, plenumref14_Check_r4_eq, plenumref14_Check_r3_eq, plenumref14_Check_r2_eq, plenumref14_Check_r1_eq]
          have g2 := Classical.not_not.1 g2
          by_cases g3 : l[j].s.bytes = l[j + 1].s.bytes
          · by_cases g4 : l[j].s.keys = l[j + 1].s.keys
            · exact absurd ⟨g1, g2, g3, g4⟩ g
            · simp (config := {maxSteps := 4000000, implicitDefEqProofs := false}) (disch := omega) only [go_sem, ↓reduceIte, Nat.reduceAdd, Nat.reduceSub, Nat.reduceMul, Nat.reduceLeDiff, Nat.reduceLT, Int.reduceEq, Int.reduceNe, Int.reduceLT, Int.reduceLE, Int.reduceAdd, Int.reduceSub, Int.reduceMul, Int.reduceNeg, Nat.zero_add, Nat.add_zero, Nat.mul_one, Int.toNat_natCast, Int.natCast_zero, Int.cast_ofNat_Int, or_false, false_or, or_true, true_or, Int.reduceToNat, Nat.sub_zero, Int.natCast_nonneg, Int.toNat_zero, Bool.true_and, Bool.and_true, Bool.false_and, Bool.and_false, Bool.true_or, Bool.or_true, Bool.false_or, Bool.or_false, Bool.not_true, Bool.not_false, Bool.not_not, true_and, and_true, false_and, and_false, not_true_eq_false, not_false_eq_true, eq_self, decide_true, decide_false, ne_eq, implies_true, forall_const, true_implies, false_implies, Bool.true_eq_false, Bool.false_eq_true, reduceCtorEq, List.map_cons, List.map_nil, List.all_cons, List.all_nil, List.length_cons, List.length_nil, List.length_map, List.length_append, List.nil_append, List.cons_append, List.set_cons_zero, List.set_cons_succ, List.set_nil, List.drop_zero, List.drop_succ_cons, List.drop_nil, List.take_zero, List.take_succ_cons, List.take_nil, Option.map_some, Option.map_none, Option.isSome_some, Nat.reduceEqDiff, Nat.reduceBEq, Nat.reduceGT, List.all_append, List.all_map, Function.comp_def, decide_eq_true_eq, Bool.and_eq_true, beq_self_eq_true, or_self, and_self, ite_true, ite_false, Nat.le_refl, Bool.not_eq_true, decide_not, Bool.not_eq_true', decide_eq_false_iff_not, Bool.not_eq_false, Bool.or_eq_true, if_true, if_false, ite_self, tC_len, tC_sure, tC_ltA, tC_lt1, tC_ro, tC_take, tC_all1, zC_len, zC_ltA, zC_lt1, zC_sure, zC_ro, zC_take, set_tl, set_tv, sc_tt, sc_zt, sc_tz, sc_zz, add16, tA_def, lA_def, natInt, u_tl, u_tv, hlt', u_nthM, sn_it, st_ver, st_bytes, st_keys, sn_ver, sn_bytes, sn_keys, sn_take, zn_set, zcN_len, st_take35, st_ltA, st_sure, st_lt1, st_all1, st_ro, stC_len, hM, w_i64, h1, h0', hj, hjl', g1, g2, g3, g4, hkx, plenumref14_Check_r7_eq, plenumref14_Check_r6_eq, plenumref14_Check_r5_eq, plenumref14_Check_r4_eq, plenumref14_Check_r3_eq, plenumref14_Check_r2_eq, plenumref14_Check_r1_eq]
          · simp (config := {maxSteps := 4000000, implicitDefEqProofs := false}) (disch := omega) only [go_sem, ↓reduceIte, Nat.reduceAdd, Nat.reduceSub, Nat.reduceMul, Nat.reduceLeDiff, Nat.reduceLT, Int.reduceEq, Int.reduceNe, Int.reduceLT, Int.reduceLE, Int.reduceAdd, Int.reduceSub, Int.reduceMul, Int.reduceNeg, Nat.zero_add, Nat.add_zero, Nat.mul_one, Int.toNat_natCast, Int.natCast_zero, Int.cast_ofNat_Int, or_false, false_or, or_true, true_or, Int.reduceToNat, Nat.sub_zero, Int.natCast_nonneg, Int.toNat_zero, Bool.true_and, Bool.and_true, Bool.false_and, Bool.and_false, Bool.true_or, Bool.or_true, Bool.false_or, Bool.or_false, Bool.not_true, Bool.not_false, Bool.not_not, true_and, and_true, false_and, and_false, not_true_eq_false, not_false_eq_true, eq_self, decide_true, decide_false, ne_eq, implies_true, forall_const, true_implies, false_implies, Bool.true_eq_false, Bool.false_eq_true, reduceCtorEq, List.map_cons, List.map_nil, List.all_cons, List.all_nil, List.length_cons, List.length_nil, List.length_map, List.length_append, List.nil_append, List.cons_append, List.set_cons_zero, List.set_cons_succ, List.set_nil, List.drop_zero, List.drop_succ_cons, List.drop_nil, List.take_zero, List.take_succ_cons, List.take_nil, Option.map_some, Option.map_none, Option.isSome_some, Nat.reduceEqDiff, Nat.reduceBEq, Nat.reduceGT, List.all_append, List.all_map, Function.comp_def, decide_eq_true_eq, Bool.and_eq_true, beq_self_eq_true, or_self, and_self, ite_true, ite_false, Nat.le_refl, Bool.not_eq_true, decide_not, Bool.not_eq_true', decide_eq_false_iff_not, Bool.not_eq_false, Bool.or_eq_true, if_true, if_false, ite_self, tC_len, tC_sure, tC_ltA, tC_lt1, tC_ro, tC_take, tC_all1, zC_len, zC_ltA, zC_lt1, zC_sure, zC_ro, zC_take, set_tl, set_tv, sc_tt, sc_zt, sc_tz, sc_zz, add16, tA_def, lA_def, natInt, u_tl, u_tv, hlt', u_nthM, sn_it, st_ver, st_bytes, st_keys, sn_ver, sn_bytes, sn_keys, sn_take, zn_set, zcN_len, st_take35, st_ltA, st_sure, st_lt1, st_all1, st_ro, stC_len, hM, w_i64, h1, h0', hj, hjl', g1, g2, g3, hkx, plenumref14_Check_r7_eq, plenumref14_Check_r6_eq, plenumref14_Check_r5_eq, plenumref14_Check_r4_eq, plenumref14_Check_r3_eq, plenumref14_Check_r2_eq, plenumref14_Check_r1_eq]
  · have hlt' : ¬ (k : Int) < (l.length : Int) := by omega
    have : k = l.length := by omega
    subst this
    obtain ⟨h1, h2⟩ := chkG_end hinv
    rw [h1, h2]
    simp (config := {maxSteps := 4000000, implicitDefEqProofs := false}) (disch := omega) only [go_sem, ↓reduceIte, Nat.reduceAdd, Nat.reduceSub, Nat.reduceMul, Nat.reduceLeDiff, Nat.reduceLT, Int.reduceEq, Int.reduceNe, Int.reduceLT, Int.reduceLE, Int.reduceAdd, Int.reduceSub, Int.reduceMul, Int.reduceNeg, Nat.zero_add, Nat.add_zero, Nat.mul_one, Int.toNat_natCast, Int.natCast_zero, Int.cast_ofNat_Int, or_false, false_or, or_true, true_or, Int.reduceToNat, Nat.sub_zero, Int.natCast_nonneg, Int.toNat_zero, Bool.true_and, Bool.and_true, Bool.false_and, Bool.and_false, Bool.true_or, Bool.or_true, Bool.false_or, Bool.or_false, Bool.not_true, Bool.not_false, Bool.not_not, true_and, and_true, false_and, and_false, not_true_eq_false, not_false_eq_true, eq_self, decide_true, decide_false, ne_eq, implies_true, forall_const, true_implies, false_implies, Bool.true_eq_false, Bool.false_eq_true, reduceCtorEq, List.map_cons, List.map_nil, List.all_cons, List.all_nil, List.length_cons, List.length_nil, List.length_map, List.length_append, List.nil_append, List.cons_append, List.set_cons_zero, List.set_cons_succ, List.set_nil, List.drop_zero, List.drop_succ_cons, List.drop_nil, List.take_zero, List.take_succ_cons, List.take_nil, Option.map_some, Option.map_none, Option.isSome_some, Nat.reduceEqDiff, Nat.reduceBEq, Nat.reduceGT, List.all_append, List.all_map, Function.comp_def, decide_eq_true_eq, Bool.and_eq_true, beq_self_eq_true, or_self, and_self, ite_true, ite_false, Nat.le_refl, Bool.not_eq_true, decide_not, Bool.not_eq_true', decide_eq_false_iff_not, Bool.not_eq_false, Bool.or_eq_true, if_true, if_false, ite_self, hlt', hkx, plenumref14_Check_r7_eq, plenumref14_Check_r6_eq, plenumref14_Check_r5_eq, plenumref14_Check_r4_eq, plenumref14_Check_r3_eq, plenumref14_Check_r2_eq, plenumref14_Check_r1_eq]
def isL (l : List Sn) : Bool := decide ((chkL l).1 = 0)
theorem sis_s (m : Nat) (l : List Sn) (hm : 16000000 < m) (h : ∀ x ∈ l, x.s.t.Ok) : snap_is m (lS l) = some (bA (isL l), []) := by
  have hC := scheck_s m l hm h
  rw [lS_def] at hC ⊢
  rw [snap_is_eq]
  unfold isL
  generalize chkL l = R at hC ⊢
  simp (config := {maxSteps := 4000000, implicitDefEqProofs := false}) (disch := omega) only [go_sem, ↓reduceIte, Nat.reduceAdd, Nat.reduceSub, Nat.reduceMul, Nat.reduceLeDiff, Nat.reduceLT, Int.reduceEq, Int.reduceNe, Int.reduceLT, Int.reduceLE, Int.reduceAdd, Int.reduceSub, Int.reduceMul, Int.reduceNeg, Nat.zero_add, Nat.add_zero, Nat.mul_one, Int.toNat_natCast, Int.natCast_zero, Int.cast_ofNat_Int, or_false, false_or, or_true, true_or, Int.reduceToNat, Nat.sub_zero, Int.natCast_nonneg, Int.toNat_zero, Bool.true_and, Bool.and_true, Bool.false_and, Bool.and_false, Bool.true_or, Bool.or_true, Bool.false_or, Bool.or_false, Bool.not_true, Bool.not_false, Bool.not_not, true_and, and_true, false_and, and_false, not_true_eq_false, not_false_eq_true, eq_self, decide_true, decide_false, ne_eq, implies_true, forall_const, true_implies, false_implies, Bool.true_eq_false, Bool.false_eq_true, reduceCtorEq, List.map_cons, List.map_nil, List.all_cons, List.all_nil, List.length_cons, List.length_nil, List.length_map, List.length_append, List.nil_append, List.cons_append, List.set_cons_zero, List.set_cons_succ, List.set_nil, List.drop_zero, List.drop_succ_cons, List.drop_nil, List.take_zero, List.take_succ_cons, List.take_nil, Option.map_some, Option.map_none, Option.isSome_some, Nat.reduceEqDiff, Nat.reduceBEq, Nat.reduceGT, List.all_append, List.all_map, Function.comp_def, decide_eq_true_eq, Bool.and_eq_true, beq_self_eq_true, or_self, and_self, ite_true, ite_false, Nat.le_refl, Bool.not_eq_true, decide_not, Bool.not_eq_true', decide_eq_false_iff_not, Bool.not_eq_false, Bool.or_eq_true, if_true, if_false, ite_self, sn_it, st_ltA, hC]
theorem ris_s (m : Nat) (l : List Sn) (hm : 16000000 < m) (h : ∀ x ∈ l, x.s.t.Ok) : plenumref14_Is m (lS l) = some (bA (isL l), []) := by
  have hC := rcheck_s m l hm h
  rw [lS_def] at hC ⊢
  rw [plenumref14_Is_eq]
  unfold isL
  generalize chkL l = R at hC ⊢
  simp (config := {maxSteps := 4000000, implicitDefEqProofs := false}) (disch := omega) only [go_sem, ↓reduceIte, Nat.reduceAdd, Nat.reduceSub, Nat.reduceMul, Nat.reduceLeDiff, Nat.reduceLT, Int.reduceEq, Int.reduceNe, Int.reduceLT, Int.reduceLE, Int.reduceAdd, Int.reduceSub, Int.reduceMul, Int.reduceNeg, Nat.zero_add, Nat.add_zero, Nat.mul_one, Int.toNat_natCast, Int.natCast_zero, Int.cast_ofNat_Int, or_false, false_or, or_true, true_or, Int.reduceToNat, Nat.sub_zero, Int.natCast_nonneg, Int.toNat_zero, Bool.true_and, Bool.and_true, Bool.false_and, Bool.and_false, Bool.true_or, Bool.or_true, Bool.false_or, Bool.or_false, Bool.not_true, Bool.not_false, Bool.not_not, true_and, and_true, false_and, and_false, not_true_eq_false, not_false_eq_true, eq_self, decide_true, decide_false, ne_eq, implies_true, forall_const, true_implies, false_implies, Bool.true_eq_false, Bool.false_eq_true, reduceCtorEq, List.map_cons, List.map_nil, List.all_cons, List.all_nil, List.length_cons, List.length_nil, List.length_map, List.length_append, List.nil_append, List.cons_append, List.set_cons_zero, List.set_cons_succ, List.set_nil, List.drop_zero, List.drop_succ_cons, List.drop_nil, List.take_zero, List.take_succ_cons, List.take_nil, Option.map_some, Option.map_none, Option.isSome_some, Nat.reduceEqDiff, Nat.reduceBEq, Nat.reduceGT, List.all_append, List.all_map, Function.comp_def, decide_eq_true_eq, Bool.and_eq_true, beq_self_eq_true, or_self, and_self, ite_true, ite_false, Nat.le_refl, Bool.not_eq_true, decide_not, Bool.not_eq_true', decide_eq_false_iff_not, Bool.not_eq_false, Bool.or_eq_true, if_true, if_false, ite_self, sn_it, st_ltA, hC]
end Go.Proofs.YtopifabnobplcaaDoor

namespace Go.Proofs.YtopifabnobplcaaDoor
open Go.RowKit
set_option linter.unusedVariables false
set_option linter.unusedSimpArgs false
set_option maxRecDepth 20000
def St.zero : St := ⟨Tr.zero, 0, 0, 0⟩
def zS : List AV := zC ++ [nA 0, nA 0, nA 0]
theorem zcS_eq : zc_api_Store = zS := _root_.id rfl
theorem zS_len : zS.length = 35 := _root_.id rfl
section
variable {R : Type} {s u : St} {i n : Nat} {q : Int} {K1 : AV → Option R} {H : List AObj}
theorem zS_sure : zS.all sure = true := _root_.id rfl
theorem zS_ltA : zS.all (ltA n) = true := _root_.id rfl
theorem zS_lt1 : zS.all (lt1 n) = true := _root_.id rfl
theorem zS_all1 : (zS.all fun x => lt1 n (ro1 H x)) = true := _root_.id rfl
theorem zS_ro : zS.map (ro1 H) = stC St.zero := _root_.id rfl
theorem zS_take : zS.take 35 = zS := _root_.id rfl
theorem set_all {a b : List AV} (h : a.length = b.length) : setCells a 0 b = b := by
  rw [setCells_at _ _ _ (by omega)]
  rw [List.drop_of_length_le (by omega)]
  simp
theorem ss_set : setCells (stC s) 0 (stC u) = stC u := set_all (by rw [stC_len, stC_len])
theorem ss_zs : setCells zS 0 (stC u) = stC u := set_all (by rw [stC_len, zS_len])
theorem ss_sz : setCells (stC s) 0 zS = zS := set_all (by rw [stC_len, zS_len])
theorem ss_zz : setCells zS 0 zS = zS := set_all rfl
theorem st_sl : ((stC s).all fun y => sure y && lt1 n y) = true := stC_all s _ (tC_all (fun _ => rfl) fun _ => rfl) fun _ => rfl
theorem u_bS0 : buildE (some pl_api_Store) (some zS) [] K1 = K1 (.agg zS) := _root_.id rfl
theorem u_bSn : buildE (some pl_api_Snap) (some zc_api_Snap) [(0, nA q), (1, .agg (stC s))] K1 = K1 (.agg (nA q :: stC s)) := by
  have h1 : setCells zc_api_Snap 0 [nA q] = nA q :: zc_api_Snap.tail := rfl
  have h2 : setCells (nA q :: zc_api_Snap.tail) 1 (stC s) = nA q :: stC s := by
    rw [setCells_at _ _ _ (by rw [stC_len]; exact Nat.le_refl _), stC_len]
    simp [zc_api_Snap]
  have h3 : aFill (pl_api_Snap[·]?) [(0, nA q), (1, .agg (stC s))] zc_api_Snap = some (nA q :: stC s) := by
    rw [fil_cons, show pl_api_Snap[0]? = some (0, 1) from rfl, filB_some, if_pos ⟨rfl, (by show 0 + 1 ≤ 36; omega), rfl⟩, fil_cons, show pl_api_Snap[1]? = some (1, 35) from rfl, filB_some]
    rw [if_pos ⟨stC_len s, (by show 1 + (stC s).length ≤ 36; rw [stC_len]; exact Nat.le_refl _), st_sure⟩]
    show some (setCells (setCells zc_api_Snap 0 [nA q]) 1 (stC s)) = _
    rw [h1, h2]
  show (match aFill (pl_api_Snap[·]?) [(0, nA q), (1, .agg (stC s))] zc_api_Snap with | some cs => K1 (.agg cs) | none => none) = _
  rw [h3]
end
def fewN (x : Sn) : Sn := ⟨x.seq, { x.s with t := fewT x.s.t 16 }⟩
def fewS (l : List Sn) : List Sn := (l.take 10).map fewN
theorem sn_len5 {l : List Sn} : (l.all fun x => decide ((cellsOf (snE x)).length = 36)) = true := List.all_eq_true.2 fun x _ => by
  show decide ((nA x.seq :: stC x.s).length = 36) = true
  rw [List.length_cons, stC_len]; rfl
theorem sn_allA {l : List Sn} {n : Nat} : (l.all fun x => ltA n (snE x)) = true := List.all_eq_true.2 fun x _ => by
  show ((nA x.seq :: stC x.s).all fun y => ltA n y) = true
  rw [List.all_cons, st_ltA]
  rfl
theorem few14_s (m : Nat) (l : List Sn) (hm : 10 < m) (hl : l.length ≤ maxLen) (h : ∀ x ∈ l, ∀ i, (x.s.t.leaf i).length ≤ maxLen) : plenumlaw14_Few m (lS l) = some (lS (fewS l), []) := by
  have main : ∀ a : List Sn, a.length ≤ 10 → (∀ x ∈ a, ∀ i, (x.s.t.leaf i).length ≤ maxLen) → plenumlaw14_Few_r1 m ⟨[], [(0, SL (a.map snE))]⟩ = some (SL ((a.map fewN).map snE), []) := by
    intro a ha h
    rw [plenumlaw14_Few_r1_eq]
    simp (config := {maxSteps := 4000000, implicitDefEqProofs := false}) (disch := omega) only [go_sem, ↓reduceIte, Nat.reduceAdd, Nat.reduceSub, Nat.reduceMul, Nat.reduceLeDiff, Nat.reduceLT, Int.reduceEq, Int.reduceNe, Int.reduceLT, Int.reduceLE, Int.reduceAdd, Int.reduceSub, Int.reduceMul, Int.reduceNeg, Nat.zero_add, Nat.add_zero, Nat.mul_one, Int.toNat_natCast, Int.natCast_zero, Int.cast_ofNat_Int, or_false, false_or, or_true, true_or, Int.reduceToNat, Nat.sub_zero, Int.natCast_nonneg, Int.toNat_zero, Bool.true_and, Bool.and_true, Bool.false_and, Bool.and_false, Bool.true_or, Bool.or_true, Bool.false_or, Bool.or_false, Bool.not_true, Bool.not_false, Bool.not_not, true_and, and_true, false_and, and_false, not_true_eq_false, not_false_eq_true, eq_self, decide_true, decide_false, ne_eq, implies_true, forall_const, true_implies, false_implies, Bool.true_eq_false, Bool.false_eq_true, reduceCtorEq, List.map_cons, List.map_nil, List.all_cons, List.all_nil, List.length_cons, List.length_nil, List.length_map, List.length_append, List.nil_append, List.cons_append, List.set_cons_zero, List.set_cons_succ, List.set_nil, List.drop_zero, List.drop_succ_cons, List.drop_nil, List.take_zero, List.take_succ_cons, List.take_nil, Option.map_some, Option.map_none, Option.isSome_some, Nat.reduceEqDiff, Nat.reduceBEq, Nat.reduceGT, List.all_append, List.all_map, Function.comp_def, decide_eq_true_eq, Bool.and_eq_true, beq_self_eq_true, or_self, and_self, ite_true, ite_false, Nat.le_refl, Bool.not_eq_true, decide_not, Bool.not_eq_true', decide_eq_false_iff_not, Bool.not_eq_false, Bool.or_eq_true, if_true, if_false, ite_self, ha]
    refine iter_go (ι := {k : Nat // k ≤ a.length}) (fun k => ⟨[⟨2, ty_api_Snap, 36, ((a.take k.1).map fewN).map snE⟩], [(0, SL (a.map snE)), (3, OW 0 k.1), (4, nA k.1)]⟩) (fun k => a.length - k.1) (fun _ => some (SL ((a.map fewN).map snE), [])) ?_ ⟨0, Nat.zero_le _⟩ (by dsimp only; omega)
    rintro kx hkx ⟨k, hk⟩ kc hkc
    dsimp only at hkc ⊢
    rw [plenumlaw14_Few_b1_eq]
    by_cases hlt : k < a.length
    · have hlt' : (k : Int) < (a.length : Int) := by omega
      have hF := few13_s m a[k].s (h _ (List.getElem_mem hlt))
      have step := hkc ⟨k + 1, by omega⟩ (by dsimp only; omega)
      dsimp only at step
      rw [stA_def, stA_def] at hF
      rw [List.take_succ_eq_append_getElem hlt, List.map_append, List.map_append] at step
      have hkm : k + 1 ≤ 34359738368 := by omega
      simp (config := {maxSteps := 4000000, implicitDefEqProofs := false}) (disch := omega) only [go_sem, ↓reduceIte, Nat.reduceAdd, Nat.reduceSub, Nat.reduceMul, Nat.reduceLeDiff, Nat.reduceLT, Int.reduceEq, Int.reduceNe, Int.reduceLT, Int.reduceLE, Int.reduceAdd, Int.reduceSub, Int.reduceMul, Int.reduceNeg, Nat.zero_add, Nat.add_zero, Nat.mul_one, Int.toNat_natCast, Int.natCast_zero, Int.cast_ofNat_Int, or_false, false_or, or_true, true_or, Int.reduceToNat, Nat.sub_zero, Int.natCast_nonneg, Int.toNat_zero, Bool.true_and, Bool.and_true, Bool.false_and, Bool.and_false, Bool.true_or, Bool.or_true, Bool.false_or, Bool.or_false, Bool.not_true, Bool.not_false, Bool.not_not, true_and, and_true, false_and, and_false, not_true_eq_false, not_false_eq_true, eq_self, decide_true, decide_false, ne_eq, implies_true, forall_const, true_implies, false_implies, Bool.true_eq_false, Bool.false_eq_true, reduceCtorEq, List.map_cons, List.map_nil, List.all_cons, List.all_nil, List.length_cons, List.length_nil, List.length_map, List.length_append, List.nil_append, List.cons_append, List.set_cons_zero, List.set_cons_succ, List.set_nil, List.drop_zero, List.drop_succ_cons, List.drop_nil, List.take_zero, List.take_succ_cons, List.take_nil, Option.map_some, Option.map_none, Option.isSome_some, Nat.reduceEqDiff, Nat.reduceBEq, Nat.reduceGT, List.all_append, List.all_map, Function.comp_def, decide_eq_true_eq, Bool.and_eq_true, beq_self_eq_true, or_self, and_self, ite_true, ite_false, Nat.le_refl, Bool.not_eq_true, decide_not, Bool.not_eq_true', decide_eq_false_iff_not, Bool.not_eq_false, Bool.or_eq_true, if_true, if_false, ite_self, tC_len, tC_sure, tC_ltA, tC_lt1, tC_ro, tC_take, tC_all1, zC_len, zC_ltA, zC_lt1, zC_sure, zC_ro, zC_take, set_tl, set_tv, sc_tt, sc_zt, sc_tz, sc_zz, add16, tA_def, lA_def, natInt, u_tl, u_tv, hlt', u_nthM, sn_it, st_take35, st_ltA, st_sure, st_all1, st_ro, stC_len, hF, u_bSn, w_i64, hkm, List.length_take, Nat.min_eq_left, st_lt1, st_sl, all_tt]
      exact step
    · have hlt' : ¬ (k : Int) < (a.length : Int) := by omega
      have : k = a.length := by omega
      subst this
      simp (config := {maxSteps := 4000000, implicitDefEqProofs := false}) (disch := omega) only [go_sem, ↓reduceIte, Nat.reduceAdd, Nat.reduceSub, Nat.reduceMul, Nat.reduceLeDiff, Nat.reduceLT, Int.reduceEq, Int.reduceNe, Int.reduceLT, Int.reduceLE, Int.reduceAdd, Int.reduceSub, Int.reduceMul, Int.reduceNeg, Nat.zero_add, Nat.add_zero, Nat.mul_one, Int.toNat_natCast, Int.natCast_zero, Int.cast_ofNat_Int, or_false, false_or, or_true, true_or, Int.reduceToNat, Nat.sub_zero, Int.natCast_nonneg, Int.toNat_zero, Bool.true_and, Bool.and_true, Bool.false_and, Bool.and_false, Bool.true_or, Bool.or_true, Bool.false_or, Bool.or_false, Bool.not_true, Bool.not_false, Bool.not_not, true_and, and_true, false_and, and_false, not_true_eq_false, not_false_eq_true, eq_self, decide_true, decide_false, ne_eq, implies_true, forall_const, true_implies, false_implies, Bool.true_eq_false, Bool.false_eq_true, reduceCtorEq, List.map_cons, List.map_nil, List.all_cons, List.all_nil, List.length_cons, List.length_nil, List.length_map, List.length_append, List.nil_append, List.cons_append, List.set_cons_zero, List.set_cons_succ, List.set_nil, List.drop_zero, List.drop_succ_cons, List.drop_nil, List.take_zero, List.take_succ_cons, List.take_nil, Option.map_some, Option.map_none, Option.isSome_some, Nat.reduceEqDiff, Nat.reduceBEq, Nat.reduceGT, List.all_append, List.all_map, Function.comp_def, decide_eq_true_eq, Bool.and_eq_true, beq_self_eq_true, or_self, and_self, ite_true, ite_false, Nat.le_refl, Bool.not_eq_true, decide_not, Bool.not_eq_true', decide_eq_false_iff_not, Bool.not_eq_false, Bool.or_eq_true, if_true, if_false, ite_self, hlt', hkx, List.take_length, plenumlaw14_Few_r2_eq, plenumlaw14_Few_r1_eq]
  rw [plenumlaw14_Few_eq, lS_def, lS_def]
  unfold fewS
  by_cases h10 : 10 < l.length
  · have h10' : (10 : Int) < (l.length : Int) := by omega
    have h10l : 10 ≤ l.length := by omega
    have := main (l.take 10) (by rw [List.length_take]; omega) (fun x hx => h x (List.mem_of_mem_take hx))
    have h10z : (10 : Int) ≤ (l.length : Int) := by omega
    simp (config := {maxSteps := 4000000, implicitDefEqProofs := false}) (disch := omega) only [go_sem, ↓reduceIte, Nat.reduceAdd, Nat.reduceSub, Nat.reduceMul, Nat.reduceLeDiff, Nat.reduceLT, Int.reduceEq, Int.reduceNe, Int.reduceLT, Int.reduceLE, Int.reduceAdd, Int.reduceSub, Int.reduceMul, Int.reduceNeg, Nat.zero_add, Nat.add_zero, Nat.mul_one, Int.toNat_natCast, Int.natCast_zero, Int.cast_ofNat_Int, or_false, false_or, or_true, true_or, Int.reduceToNat, Nat.sub_zero, Int.natCast_nonneg, Int.toNat_zero, Bool.true_and, Bool.and_true, Bool.false_and, Bool.and_false, Bool.true_or, Bool.or_true, Bool.false_or, Bool.or_false, Bool.not_true, Bool.not_false, Bool.not_not, true_and, and_true, false_and, and_false, not_true_eq_false, not_false_eq_true, eq_self, decide_true, decide_false, ne_eq, implies_true, forall_const, true_implies, false_implies, Bool.true_eq_false, Bool.false_eq_true, reduceCtorEq, List.map_cons, List.map_nil, List.all_cons, List.all_nil, List.length_cons, List.length_nil, List.length_map, List.length_append, List.nil_append, List.cons_append, List.set_cons_zero, List.set_cons_succ, List.set_nil, List.drop_zero, List.drop_succ_cons, List.drop_nil, List.take_zero, List.take_succ_cons, List.take_nil, Option.map_some, Option.map_none, Option.isSome_some, Nat.reduceEqDiff, Nat.reduceBEq, Nat.reduceGT, List.all_append, List.all_map, Function.comp_def, decide_eq_true_eq, Bool.and_eq_true, beq_self_eq_true, or_self, and_self, ite_true, ite_false, Nat.le_refl, Bool.not_eq_true, decide_not, Bool.not_eq_true', decide_eq_false_iff_not, Bool.not_eq_false, Bool.or_eq_true, if_true, if_false, ite_self, h10', h10l, h10z, sn_len5]
    rw [← List.map_take]
    exact this
  · have h10' : ¬ (10 : Int) < (l.length : Int) := by omega
    rw [List.take_of_length_le (by omega)]
    have := main l (by omega) h
    simp (config := {maxSteps := 4000000, implicitDefEqProofs := false}) (disch := omega) only [go_sem, ↓reduceIte, Nat.reduceAdd, Nat.reduceSub, Nat.reduceMul, Nat.reduceLeDiff, Nat.reduceLT, Int.reduceEq, Int.reduceNe, Int.reduceLT, Int.reduceLE, Int.reduceAdd, Int.reduceSub, Int.reduceMul, Int.reduceNeg, Nat.zero_add, Nat.add_zero, Nat.mul_one, Int.toNat_natCast, Int.natCast_zero, Int.cast_ofNat_Int, or_false, false_or, or_true, true_or, Int.reduceToNat, Nat.sub_zero, Int.natCast_nonneg, Int.toNat_zero, Bool.true_and, Bool.and_true, Bool.false_and, Bool.and_false, Bool.true_or, Bool.or_true, Bool.false_or, Bool.or_false, Bool.not_true, Bool.not_false, Bool.not_not, true_and, and_true, false_and, and_false, not_true_eq_false, not_false_eq_true, eq_self, decide_true, decide_false, ne_eq, implies_true, forall_const, true_implies, false_implies, Bool.true_eq_false, Bool.false_eq_true, reduceCtorEq, List.map_cons, List.map_nil, List.all_cons, List.all_nil, List.length_cons, List.length_nil, List.length_map, List.length_append, List.nil_append, List.cons_append, List.set_cons_zero, List.set_cons_succ, List.set_nil, List.drop_zero, List.drop_succ_cons, List.drop_nil, List.take_zero, List.take_succ_cons, List.take_nil, Option.map_some, Option.map_none, Option.isSome_some, Nat.reduceEqDiff, Nat.reduceBEq, Nat.reduceGT, List.all_append, List.all_map, Function.comp_def, decide_eq_true_eq, Bool.and_eq_true, beq_self_eq_true, or_self, and_self, ite_true, ite_false, Nat.le_refl, Bool.not_eq_true, decide_not, Bool.not_eq_true', decide_eq_false_iff_not, Bool.not_eq_false, Bool.or_eq_true, if_true, if_false, ite_self, h10']
    exact this
def lastG (l : List Sn) (q : Int) : Nat → Int × St × Int
  | 0 => (0, St.zero, 6)
  | k + 1 => match l[k]? with
    | none => lastG l q k
    | some x => if x.seq ≤ q then (x.seq, x.s, 0) else lastG l q k
def lastL (l : List Sn) (q : Int) : Int × St × Int := if isL l then lastG l q l.length else (0, St.zero, 1)
theorem isL_len {l : List Sn} (h : isL l = true) : l.length ≤ 8 := by
  unfold isL chkL at h
  split at h
  · simp at h
  · omega
theorem last_fin (s : ASt) : snap_Last_fin .ret s = loadE 37 s.H (gt s.T 5) fun d => tellK s.H (ro s.H (oneOf [gt s.T 4, d, gt s.T 6])) := by kernel_rfl
theorem last_s (m : Nat) (l : List Sn) (q : Int) (hm : 16000000 < m) (h : ∀ x ∈ l, x.s.t.Ok) : snap_Last m (lS l) (nA q) = some (TU [nA (lastL l q).1, stA (lastL l q).2.1, nA (lastL l q).2.2], []) := by
  have hI := sis_s m l hm h
  rw [lS_def] at hI ⊢
  rw [snap_Last_eq]
  unfold lastL
  cases hi : isL l with
  | false =>
    rw [hi] at hI
    simp (config := {maxSteps := 4000000, implicitDefEqProofs := false}) (disch := omega) only [go_sem, ↓reduceIte, Nat.reduceAdd, Nat.reduceSub, Nat.reduceMul, Nat.reduceLeDiff, Nat.reduceLT, Int.reduceEq, Int.reduceNe, Int.reduceLT, Int.reduceLE, Int.reduceAdd, Int.reduceSub, Int.reduceMul, Int.reduceNeg, Nat.zero_add, Nat.add_zero, Nat.mul_one, Int.toNat_natCast, Int.natCast_zero, Int.cast_ofNat_Int, or_false, false_or, or_true, true_or, Int.reduceToNat, Nat.sub_zero, Int.natCast_nonneg, Int.toNat_zero, Bool.true_and, Bool.and_true, Bool.false_and, Bool.and_false, Bool.true_or, Bool.or_true, Bool.false_or, Bool.or_false, Bool.not_true, Bool.not_false, Bool.not_not, true_and, and_true, false_and, and_false, not_true_eq_false, not_false_eq_true, eq_self, decide_true, decide_false, ne_eq, implies_true, forall_const, true_implies, false_implies, Bool.true_eq_false, Bool.false_eq_true, reduceCtorEq, List.map_cons, List.map_nil, List.all_cons, List.all_nil, List.length_cons, List.length_nil, List.length_map, List.length_append, List.nil_append, List.cons_append, List.set_cons_zero, List.set_cons_succ, List.set_nil, List.drop_zero, List.drop_succ_cons, List.drop_nil, List.take_zero, List.take_succ_cons, List.take_nil, Option.map_some, Option.map_none, Option.isSome_some, Nat.reduceEqDiff, Nat.reduceBEq, Nat.reduceGT, List.all_append, List.all_map, Function.comp_def, decide_eq_true_eq, Bool.and_eq_true, beq_self_eq_true, or_self, and_self, ite_true, ite_false, Nat.le_refl, Bool.not_eq_true, decide_not, Bool.not_eq_true', decide_eq_false_iff_not, Bool.not_eq_false, Bool.or_eq_true, if_true, if_false, ite_self, hI, sn_it, sn_allA, zcS_eq, zS_len, zS_sure, zS_ltA, zS_lt1, zS_all1, zS_ro, zS_take, ss_set, ss_zs, ss_sz, ss_zz, u_bS0, stA_def]
  | true =>
    rw [hi] at hI
    generalize hR : lastG l q l.length = R
    obtain ⟨r1, r2, r3⟩ := R
    have h8 := isL_len hi
    simp (config := {maxSteps := 4000000, implicitDefEqProofs := false}) (disch := omega) only [go_sem, ↓reduceIte, Nat.reduceAdd, Nat.reduceSub, Nat.reduceMul, Nat.reduceLeDiff, Nat.reduceLT, Int.reduceEq, Int.reduceNe, Int.reduceLT, Int.reduceLE, Int.reduceAdd, Int.reduceSub, Int.reduceMul, Int.reduceNeg, Nat.zero_add, Nat.add_zero, Nat.mul_one, Int.toNat_natCast, Int.natCast_zero, Int.cast_ofNat_Int, or_false, false_or, or_true, true_or, Int.reduceToNat, Nat.sub_zero, Int.natCast_nonneg, Int.toNat_zero, Bool.true_and, Bool.and_true, Bool.false_and, Bool.and_false, Bool.true_or, Bool.or_true, Bool.false_or, Bool.or_false, Bool.not_true, Bool.not_false, Bool.not_not, true_and, and_true, false_and, and_false, not_true_eq_false, not_false_eq_true, eq_self, decide_true, decide_false, ne_eq, implies_true, forall_const, true_implies, false_implies, Bool.true_eq_false, Bool.false_eq_true, reduceCtorEq, List.map_cons, List.map_nil, List.all_cons, List.all_nil, List.length_cons, List.length_nil, List.length_map, List.length_append, List.nil_append, List.cons_append, List.set_cons_zero, List.set_cons_succ, List.set_nil, List.drop_zero, List.drop_succ_cons, List.drop_nil, List.take_zero, List.take_succ_cons, List.take_nil, Option.map_some, Option.map_none, Option.isSome_some, Nat.reduceEqDiff, Nat.reduceBEq, Nat.reduceGT, List.all_append, List.all_map, Function.comp_def, decide_eq_true_eq, Bool.and_eq_true, beq_self_eq_true, or_self, and_self, ite_true, ite_false, Nat.le_refl, Bool.not_eq_true, decide_not, Bool.not_eq_true', decide_eq_false_iff_not, Bool.not_eq_false, Bool.or_eq_true, if_true, if_false, ite_self, hI, sn_it, sn_allA, zcS_eq, zS_len, w_i64]
    refine iter_go (ι := {k : Nat // k ≤ l.length ∧ lastG l q k = (r1, r2, r3)}) (fun k => ⟨[⟨1, ty_api_Store, 0, zS⟩], [(0, SL (l.map snE)), (1, nA q), (5, OP 0 0), (7, nA ((k.1 : Int) - 1))]⟩) (fun k => k.1) (fun _ => some (TU [nA r1, stA r2, nA r3], [])) ?_ ⟨l.length, Nat.le_refl _, hR⟩ (by dsimp only; omega)
    rintro kx hkx ⟨k, hk, hinv⟩ kc hkc
    dsimp only at hkc ⊢
    rw [snap_Last_b1_eq]
    cases k with
    | zero =>
      unfold lastG at hinv
      injection hinv with e1 e2
      injection e2 with e2 e3
      rw [← e1, ← e2, ← e3]
      simp (config := {maxSteps := 4000000, implicitDefEqProofs := false}) (disch := omega) only [go_sem, ↓reduceIte, Nat.reduceAdd, Nat.reduceSub, Nat.reduceMul, Nat.reduceLeDiff, Nat.reduceLT, Int.reduceEq, Int.reduceNe, Int.reduceLT, Int.reduceLE, Int.reduceAdd, Int.reduceSub, Int.reduceMul, Int.reduceNeg, Nat.zero_add, Nat.add_zero, Nat.mul_one, Int.toNat_natCast, Int.natCast_zero, Int.cast_ofNat_Int, or_false, false_or, or_true, true_or, Int.reduceToNat, Nat.sub_zero, Int.natCast_nonneg, Int.toNat_zero, Bool.true_and, Bool.and_true, Bool.false_and, Bool.and_false, Bool.true_or, Bool.or_true, Bool.false_or, Bool.or_false, Bool.not_true, Bool.not_false, Bool.not_not, true_and, and_true, false_and, and_false, not_true_eq_false, not_false_eq_true, eq_self, decide_true, decide_false, ne_eq, implies_true, forall_const, true_implies, false_implies, Bool.true_eq_false, Bool.false_eq_true, reduceCtorEq, List.map_cons, List.map_nil, List.all_cons, List.all_nil, List.length_cons, List.length_nil, List.length_map, List.length_append, List.nil_append, List.cons_append, List.set_cons_zero, List.set_cons_succ, List.set_nil, List.drop_zero, List.drop_succ_cons, List.drop_nil, List.take_zero, List.take_succ_cons, List.take_nil, Option.map_some, Option.map_none, Option.isSome_some, Nat.reduceEqDiff, Nat.reduceBEq, Nat.reduceGT, List.all_append, List.all_map, Function.comp_def, decide_eq_true_eq, Bool.and_eq_true, beq_self_eq_true, or_self, and_self, ite_true, ite_false, Nat.le_refl, Bool.not_eq_true, decide_not, Bool.not_eq_true', decide_eq_false_iff_not, Bool.not_eq_false, Bool.or_eq_true, if_true, if_false, ite_self, hkx, snap_Last_r1_eq, zcS_eq, zS_len, zS_sure, zS_ltA, zS_lt1, zS_all1, zS_ro, zS_take, ss_set, ss_zs, ss_sz, ss_zz, u_bS0, stA_def]
    | succ j =>
      have hj : ((j + 1 : Nat) : Int) - 1 = (j : Int) := by omega
      have hjl : j < l.length := by omega
      have hjl' : (j : Int) < (l.length : Int) := by omega
      have hj0 : (0 : Int) ≤ (j : Int) := by omega
      unfold lastG at hinv
      rw [List.getElem?_eq_getElem hjl] at hinv
      dsimp only at hinv
      by_cases hs : l[j].seq ≤ q
      · rw [if_pos hs] at hinv
        injection hinv with e1 e2
        injection e2 with e2 e3
        rw [← e1, ← e2, ← e3]
        simp (config := {maxSteps := 4000000, implicitDefEqProofs := false}) (disch := omega) only [go_sem, ↓reduceIte, Nat.reduceAdd, Nat.reduceSub, Nat.reduceMul, Nat.reduceLeDiff, Nat.reduceLT, Int.reduceEq, Int.reduceNe, Int.reduceLT, Int.reduceLE, Int.reduceAdd, Int.reduceSub, Int.reduceMul, Int.reduceNeg, Nat.zero_add, Nat.add_zero, Nat.mul_one, Int.toNat_natCast, Int.natCast_zero, Int.cast_ofNat_Int, or_false, false_or, or_true, true_or, Int.reduceToNat, Nat.sub_zero, Int.natCast_nonneg, Int.toNat_zero, Bool.true_and, Bool.and_true, Bool.false_and, Bool.and_false, Bool.true_or, Bool.or_true, Bool.false_or, Bool.or_false, Bool.not_true, Bool.not_false, Bool.not_not, true_and, and_true, false_and, and_false, not_true_eq_false, not_false_eq_true, eq_self, decide_true, decide_false, ne_eq, implies_true, forall_const, true_implies, false_implies, Bool.true_eq_false, Bool.false_eq_true, reduceCtorEq, List.map_cons, List.map_nil, List.all_cons, List.all_nil, List.length_cons, List.length_nil, List.length_map, List.length_append, List.nil_append, List.cons_append, List.set_cons_zero, List.set_cons_succ, List.set_nil, List.drop_zero, List.drop_succ_cons, List.drop_nil, List.take_zero, List.take_succ_cons, List.take_nil, Option.map_some, Option.map_none, Option.isSome_some, Nat.reduceEqDiff, Nat.reduceBEq, Nat.reduceGT, List.all_append, List.all_map, Function.comp_def, decide_eq_true_eq, Bool.and_eq_true, beq_self_eq_true, or_self, and_self, ite_true, ite_false, Nat.le_refl, Bool.not_eq_true, decide_not, Bool.not_eq_true', decide_eq_false_iff_not, Bool.not_eq_false, Bool.or_eq_true, if_true, if_false, ite_self, hkx, tC_len, tC_sure, tC_ltA, tC_lt1, tC_ro, tC_take, tC_all1, zC_len, zC_ltA, zC_lt1, zC_sure, zC_ro, zC_take, set_tl, set_tv, sc_tt, sc_zt, sc_tz, sc_zz, add16, tA_def, lA_def, natInt, u_tl, u_tv, hj, hjl', hj0, u_nthM, sn_it, hs, st_take35, st_ltA, st_sure, st_lt1, st_all1, st_ro, stC_len, zcS_eq, zS_len, ss_zs, stA_def]
        refine (last_fin _).trans ?_
        simp (config := {maxSteps := 4000000, implicitDefEqProofs := false}) (disch := omega) only [go_sem, ↓reduceIte, Nat.reduceAdd, Nat.reduceSub, Nat.reduceMul, Nat.reduceLeDiff, Nat.reduceLT, Int.reduceEq, Int.reduceNe, Int.reduceLT, Int.reduceLE, Int.reduceAdd, Int.reduceSub, Int.reduceMul, Int.reduceNeg, Nat.zero_add, Nat.add_zero, Nat.mul_one, Int.toNat_natCast, Int.natCast_zero, Int.cast_ofNat_Int, or_false, false_or, or_true, true_or, Int.reduceToNat, Nat.sub_zero, Int.natCast_nonneg, Int.toNat_zero, Bool.true_and, Bool.and_true, Bool.false_and, Bool.and_false, Bool.true_or, Bool.or_true, Bool.false_or, Bool.or_false, Bool.not_true, Bool.not_false, Bool.not_not, true_and, and_true, false_and, and_false, not_true_eq_false, not_false_eq_true, eq_self, decide_true, decide_false, ne_eq, implies_true, forall_const, true_implies, false_implies, Bool.true_eq_false, Bool.false_eq_true, reduceCtorEq, List.map_cons, List.map_nil, List.all_cons, List.all_nil, List.length_cons, List.length_nil, List.length_map, List.length_append, List.nil_append, List.cons_append, List.set_cons_zero, List.set_cons_succ, List.set_nil, List.drop_zero, List.drop_succ_cons, List.drop_nil, List.take_zero, List.take_succ_cons, List.take_nil, Option.map_some, Option.map_none, Option.isSome_some, Nat.reduceEqDiff, Nat.reduceBEq, Nat.reduceGT, List.all_append, List.all_map, Function.comp_def, decide_eq_true_eq, Bool.and_eq_true, beq_self_eq_true, or_self, and_self, ite_true, ite_false, Nat.le_refl, Bool.not_eq_true, decide_not, Bool.not_eq_true', decide_eq_false_iff_not, Bool.not_eq_false, Bool.or_eq_true, if_true, if_false, ite_self, tC_len, tC_sure, tC_ltA, tC_lt1, tC_ro, tC_take, tC_all1, zC_len, zC_ltA, zC_lt1, zC_sure, zC_ro, zC_take, set_tl, set_tv, sc_tt, sc_zt, sc_tz, sc_zz, add16, tA_def, lA_def, natInt, u_tl, u_tv, st_take35, st_ltA, st_sure, st_lt1, st_all1, st_ro, stC_len, gt_eq, oneOf]
      · rw [if_neg hs] at hinv
        have step := hkc ⟨j, by omega, hinv⟩ (by dsimp only; omega)
        simp (config := {maxSteps := 4000000, implicitDefEqProofs := false}) (disch := omega) only [go_sem, ↓reduceIte, Nat.reduceAdd, Nat.reduceSub, Nat.reduceMul, Nat.reduceLeDiff, Nat.reduceLT, Int.reduceEq, Int.reduceNe, Int.reduceLT, Int.reduceLE, Int.reduceAdd, Int.reduceSub, Int.reduceMul, Int.reduceNeg, Nat.zero_add, Nat.add_zero, Nat.mul_one, Int.toNat_natCast, Int.natCast_zero, Int.cast_ofNat_Int, or_false, false_or, or_true, true_or, Int.reduceToNat, Nat.sub_zero, Int.natCast_nonneg, Int.toNat_zero, Bool.true_and, Bool.and_true, Bool.false_and, Bool.and_false, Bool.true_or, Bool.or_true, Bool.false_or, Bool.or_false, Bool.not_true, Bool.not_false, Bool.not_not, true_and, and_true, false_and, and_false, not_true_eq_false, not_false_eq_true, eq_self, decide_true, decide_false, ne_eq, implies_true, forall_const, true_implies, false_implies, Bool.true_eq_false, Bool.false_eq_true, reduceCtorEq, List.map_cons, List.map_nil, List.all_cons, List.all_nil, List.length_cons, List.length_nil, List.length_map, List.length_append, List.nil_append, List.cons_append, List.set_cons_zero, List.set_cons_succ, List.set_nil, List.drop_zero, List.drop_succ_cons, List.drop_nil, List.take_zero, List.take_succ_cons, List.take_nil, Option.map_some, Option.map_none, Option.isSome_some, Nat.reduceEqDiff, Nat.reduceBEq, Nat.reduceGT, List.all_append, List.all_map, Function.comp_def, decide_eq_true_eq, Bool.and_eq_true, beq_self_eq_true, or_self, and_self, ite_true, ite_false, Nat.le_refl, Bool.not_eq_true, decide_not, Bool.not_eq_true', decide_eq_false_iff_not, Bool.not_eq_false, Bool.or_eq_true, if_true, if_false, ite_self, hj, hjl', hj0, natInt, u_nthM, sn_it, hs, zS_lt1, zS_ltA, stC_len, w_i64]
        exact step
end Go.Proofs.YtopifabnobplcaaDoor

namespace Go.Proofs.YtopifabnobplcaaDoor
open Go.RowKit
set_option linter.unusedVariables false
set_option linter.unusedSimpArgs false
set_option maxRecDepth 20000
def fromL (l : List Sn) (q : Int) : Nat := l.findIdx fun x => decide (q ≤ x.seq)
def Inc (l : List Sn) : Prop := ∀ (i j : Nat) (hj : j < l.length) (hi : i < j), (l[i]'(Nat.lt_trans hi hj)).seq < l[j].seq
theorem fromL_at {l : List Sn} {q : Int} {k : Nat} (hk : k ≤ l.length) (h1 : ∀ (i : Nat) (h : i < k), (l[i]'(Nat.lt_of_lt_of_le h hk)).seq < q) (h2 : ∀ h : k < l.length, q ≤ l[k].seq) : fromL l q = k := by
  unfold fromL
  rcases Nat.lt_or_ge k l.length with hlt | hge
  · rw [List.findIdx_eq hlt]
    refine ⟨by simpa using h2 hlt, fun j hj => ?_⟩
    have := h1 j hj
    simp
    omega
  · have : k = l.length := by omega
    subst this
    rw [List.findIdx_eq_length]
    intro x hx
    obtain ⟨i, hi, rfl⟩ := List.getElem_of_mem hx
    have := h1 i hi
    simp
    omega
theorem callV_1 {R : Type} {m d : Nat} {H : List AObj} {K : AV → List AObj → Option R} : callVE (sort_Search_env m) (CL (.func 43) 0 [OP 0 0, OP 1 0]) [nA d] H K = keepE (snap_from_1_t m [nA d, OP 0 0, OP 1 0] H) K := _root_.id rfl
theorem from_s (m : Nat) (l : List Sn) (q : Int) (hm : 100 < m) (hl : l.length ≤ 64) (hinc : Inc l) : snap_from m (lS l) (nA q) = some (nA (fromL l q), []) := by
  rw [snap_from_eq, lS_def]
  have hS : sort_Search m (nA l.length) (CL (.func 43) 0 [OP 0 0, OP 1 0]) [⟨1, ty_sl_api_Snap, 0, [SL (l.map snE)]⟩, ⟨1, ty_int, 0, [nA q]⟩] = some (nA (fromL l q), [⟨1, ty_sl_api_Snap, 0, [SL (l.map snE)]⟩, ⟨1, ty_int, 0, [nA q]⟩]) := by
    rw [sort_Search_eq]
    refine iter_go (ι := {p : Nat × Nat // p.1 ≤ p.2 ∧ p.2 ≤ l.length ∧ (∀ (i : Nat) (h : i < l.length), i < p.1 → l[i].seq < q) ∧ (∀ (i : Nat) (h : i < l.length), p.2 ≤ i → q ≤ l[i].seq)}) (fun p => ⟨[⟨1, ty_sl_api_Snap, 0, [SL (l.map snE)]⟩, ⟨1, ty_int, 0, [nA q]⟩], [(1, CL (.func 43) 0 [OP 0 0, OP 1 0]), (5, nA p.1.1), (6, nA p.1.2)]⟩) (fun p => p.1.2 - p.1.1) (fun _ => some (nA (fromL l q), ([⟨1, ty_sl_api_Snap, 0, [SL (l.map snE)]⟩, ⟨1, ty_int, 0, [nA q]⟩] : List AObj))) ?_ ⟨(0, l.length), Nat.zero_le _, Nat.le_refl _, (by intro i h h2; omega), (by intro i h h2; dsimp only at h2; omega)⟩ (by dsimp only; omega)
    rintro kx hkx ⟨⟨lo, hi⟩, h1, h2, h3, h4⟩ kc hkc
    dsimp only at hkc h1 h2 h3 h4 ⊢
    rw [sort_Search_b1_eq]
    by_cases hlt : lo < hi
    · have hlt' : (lo : Int) < (hi : Int) := by omega
      obtain ⟨d, hd⟩ : ∃ d : Nat, d = (lo + hi) / 2 := ⟨_, rfl⟩
      have hdl : d < l.length := by omega
      have hdl' : (d : Int) < (l.length : Int) := by omega
      have hdd : ((lo : Int) + (hi : Int)) / 2 = (d : Int) := by omega
      have hw : IntKind.i64.wrap ((IntKind.u64.wrap ((lo : Int) + (hi : Int))).fdiv (2 ^ min 1 64)) = (d : Int) := by
        rw [w_u64 (by omega) (by omega), Int.fdiv_eq_ediv_of_nonneg _ (by decide)]
        show IntKind.i64.wrap (((lo : Int) + (hi : Int)) / 2) = _
        rw [hdd, w_i64 (by omega) (by omega)]
      have hF : snap_from_1_t m [nA d, OP 0 0, OP 1 0] [⟨1, ty_sl_api_Snap, 0, [SL (l.map snE)]⟩, ⟨1, ty_int, 0, [nA q]⟩] = some (bA (decide (q ≤ l[d].seq)), [⟨1, ty_sl_api_Snap, 0, [SL (l.map snE)]⟩, ⟨1, ty_int, 0, [nA q]⟩]) := by
        show snap_from_1 m _ _ _ _ = _
        rw [snap_from_1_eq]
        simp (config := {maxSteps := 4000000, implicitDefEqProofs := false}) (disch := omega) only [go_sem, ↓reduceIte, Nat.reduceAdd, Nat.reduceSub, Nat.reduceMul, Nat.reduceLeDiff, Nat.reduceLT, Int.reduceEq, Int.reduceNe, Int.reduceLT, Int.reduceLE, Int.reduceAdd, Int.reduceSub, Int.reduceMul, Int.reduceNeg, Nat.zero_add, Nat.add_zero, Nat.mul_one, Int.toNat_natCast, Int.natCast_zero, Int.cast_ofNat_Int, or_false, false_or, or_true, true_or, Int.reduceToNat, Nat.sub_zero, Int.natCast_nonneg, Int.toNat_zero, Bool.true_and, Bool.and_true, Bool.false_and, Bool.and_false, Bool.true_or, Bool.or_true, Bool.false_or, Bool.or_false, Bool.not_true, Bool.not_false, Bool.not_not, true_and, and_true, false_and, and_false, not_true_eq_false, not_false_eq_true, eq_self, decide_true, decide_false, ne_eq, implies_true, forall_const, true_implies, false_implies, Bool.true_eq_false, Bool.false_eq_true, reduceCtorEq, List.map_cons, List.map_nil, List.all_cons, List.all_nil, List.length_cons, List.length_nil, List.length_map, List.length_append, List.nil_append, List.cons_append, List.set_cons_zero, List.set_cons_succ, List.set_nil, List.drop_zero, List.drop_succ_cons, List.drop_nil, List.take_zero, List.take_succ_cons, List.take_nil, Option.map_some, Option.map_none, Option.isSome_some, Nat.reduceEqDiff, Nat.reduceBEq, Nat.reduceGT, List.all_append, List.all_map, Function.comp_def, decide_eq_true_eq, Bool.and_eq_true, beq_self_eq_true, or_self, and_self, ite_true, ite_false, Nat.le_refl, Bool.not_eq_true, decide_not, Bool.not_eq_true', decide_eq_false_iff_not, Bool.not_eq_false, Bool.or_eq_true, if_true, if_false, ite_self, natInt, u_nthM, sn_it, hdl', stC_len]
      by_cases hq : q ≤ l[d].seq
      · have step := hkc ⟨(lo, d), by omega, by omega, h3, fun i h hi' => by
          rcases Nat.lt_or_ge d i with e | e
          · have := hinc d i h e; omega
          · have : i = d := by omega
            subst this; exact hq⟩ (by dsimp only; omega)
        simp (config := {maxSteps := 4000000, implicitDefEqProofs := false}) (disch := omega) only [go_sem, ↓reduceIte, Nat.reduceAdd, Nat.reduceSub, Nat.reduceMul, Nat.reduceLeDiff, Nat.reduceLT, Int.reduceEq, Int.reduceNe, Int.reduceLT, Int.reduceLE, Int.reduceAdd, Int.reduceSub, Int.reduceMul, Int.reduceNeg, Nat.zero_add, Nat.add_zero, Nat.mul_one, Int.toNat_natCast, Int.natCast_zero, Int.cast_ofNat_Int, or_false, false_or, or_true, true_or, Int.reduceToNat, Nat.sub_zero, Int.natCast_nonneg, Int.toNat_zero, Bool.true_and, Bool.and_true, Bool.false_and, Bool.and_false, Bool.true_or, Bool.or_true, Bool.false_or, Bool.or_false, Bool.not_true, Bool.not_false, Bool.not_not, true_and, and_true, false_and, and_false, not_true_eq_false, not_false_eq_true, eq_self, decide_true, decide_false, ne_eq, implies_true, forall_const, true_implies, false_implies, Bool.true_eq_false, Bool.false_eq_true, reduceCtorEq, List.map_cons, List.map_nil, List.all_cons, List.all_nil, List.length_cons, List.length_nil, List.length_map, List.length_append, List.nil_append, List.cons_append, List.set_cons_zero, List.set_cons_succ, List.set_nil, List.drop_zero, List.drop_succ_cons, List.drop_nil, List.take_zero, List.take_succ_cons, List.take_nil, Option.map_some, Option.map_none, Option.isSome_some, Nat.reduceEqDiff, Nat.reduceBEq, Nat.reduceGT, List.all_append, List.all_map, Function.comp_def, decide_eq_true_eq, Bool.and_eq_true, beq_self_eq_true, or_self, and_self, ite_true, ite_false, Nat.le_refl, Bool.not_eq_true, decide_not, Bool.not_eq_true', decide_eq_false_iff_not, Bool.not_eq_false, Bool.or_eq_true, if_true, if_false, ite_self, hlt', hw, w_i64, callV_1, hF, hq]
        exact step
      · have step := hkc ⟨(d + 1, hi), by omega, h2, (fun i h hi' => by
          rcases Nat.lt_or_ge i d with e | e
          · have := hinc i d hdl e; omega
          · have : i = d := by omega
            subst this; omega), h4⟩ (by dsimp only; omega)
        simp (config := {maxSteps := 4000000, implicitDefEqProofs := false}) (disch := omega) only [go_sem, ↓reduceIte, Nat.reduceAdd, Nat.reduceSub, Nat.reduceMul, Nat.reduceLeDiff, Nat.reduceLT, Int.reduceEq, Int.reduceNe, Int.reduceLT, Int.reduceLE, Int.reduceAdd, Int.reduceSub, Int.reduceMul, Int.reduceNeg, Nat.zero_add, Nat.add_zero, Nat.mul_one, Int.toNat_natCast, Int.natCast_zero, Int.cast_ofNat_Int, or_false, false_or, or_true, true_or, Int.reduceToNat, Nat.sub_zero, Int.natCast_nonneg, Int.toNat_zero, Bool.true_and, Bool.and_true, Bool.false_and, Bool.and_false, Bool.true_or, Bool.or_true, Bool.false_or, Bool.or_false, Bool.not_true, Bool.not_false, Bool.not_not, true_and, and_true, false_and, and_false, not_true_eq_false, not_false_eq_true, eq_self, decide_true, decide_false, ne_eq, implies_true, forall_const, true_implies, false_implies, Bool.true_eq_false, Bool.false_eq_true, reduceCtorEq, List.map_cons, List.map_nil, List.all_cons, List.all_nil, List.length_cons, List.length_nil, List.length_map, List.length_append, List.nil_append, List.cons_append, List.set_cons_zero, List.set_cons_succ, List.set_nil, List.drop_zero, List.drop_succ_cons, List.drop_nil, List.take_zero, List.take_succ_cons, List.take_nil, Option.map_some, Option.map_none, Option.isSome_some, Nat.reduceEqDiff, Nat.reduceBEq, Nat.reduceGT, List.all_append, List.all_map, Function.comp_def, decide_eq_true_eq, Bool.and_eq_true, beq_self_eq_true, or_self, and_self, ite_true, ite_false, Nat.le_refl, Bool.not_eq_true, decide_not, Bool.not_eq_true', decide_eq_false_iff_not, Bool.not_eq_false, Bool.or_eq_true, if_true, if_false, ite_self, hlt', hw, w_i64, callV_1, hF, hq]
        exact step
    · have hlt' : ¬ (lo : Int) < (hi : Int) := by omega
      have : lo = hi := by omega
      subst this
      have hf := fromL_at (q := q) h2 (fun i h => h3 i (by omega) h) (fun h => h4 lo h (Nat.le_refl _))
      rw [hf]
      simp (config := {maxSteps := 4000000, implicitDefEqProofs := false}) (disch := omega) only [go_sem, ↓reduceIte, Nat.reduceAdd, Nat.reduceSub, Nat.reduceMul, Nat.reduceLeDiff, Nat.reduceLT, Int.reduceEq, Int.reduceNe, Int.reduceLT, Int.reduceLE, Int.reduceAdd, Int.reduceSub, Int.reduceMul, Int.reduceNeg, Nat.zero_add, Nat.add_zero, Nat.mul_one, Int.toNat_natCast, Int.natCast_zero, Int.cast_ofNat_Int, or_false, false_or, or_true, true_or, Int.reduceToNat, Nat.sub_zero, Int.natCast_nonneg, Int.toNat_zero, Bool.true_and, Bool.and_true, Bool.false_and, Bool.and_false, Bool.true_or, Bool.or_true, Bool.false_or, Bool.or_false, Bool.not_true, Bool.not_false, Bool.not_not, true_and, and_true, false_and, and_false, not_true_eq_false, not_false_eq_true, eq_self, decide_true, decide_false, ne_eq, implies_true, forall_const, true_implies, false_implies, Bool.true_eq_false, Bool.false_eq_true, reduceCtorEq, List.map_cons, List.map_nil, List.all_cons, List.all_nil, List.length_cons, List.length_nil, List.length_map, List.length_append, List.nil_append, List.cons_append, List.set_cons_zero, List.set_cons_succ, List.set_nil, List.drop_zero, List.drop_succ_cons, List.drop_nil, List.take_zero, List.take_succ_cons, List.take_nil, Option.map_some, Option.map_none, Option.isSome_some, Nat.reduceEqDiff, Nat.reduceBEq, Nat.reduceGT, List.all_append, List.all_map, Function.comp_def, decide_eq_true_eq, Bool.and_eq_true, beq_self_eq_true, or_self, and_self, ite_true, ite_false, Nat.le_refl, Bool.not_eq_true, decide_not, Bool.not_eq_true', decide_eq_false_iff_not, Bool.not_eq_false, Bool.or_eq_true, if_true, if_false, ite_self, hlt', hkx, sort_Search_r1_eq]
  simp (config := {maxSteps := 4000000, implicitDefEqProofs := false}) (disch := omega) only [go_sem, ↓reduceIte, Nat.reduceAdd, Nat.reduceSub, Nat.reduceMul, Nat.reduceLeDiff, Nat.reduceLT, Int.reduceEq, Int.reduceNe, Int.reduceLT, Int.reduceLE, Int.reduceAdd, Int.reduceSub, Int.reduceMul, Int.reduceNeg, Nat.zero_add, Nat.add_zero, Nat.mul_one, Int.toNat_natCast, Int.natCast_zero, Int.cast_ofNat_Int, or_false, false_or, or_true, true_or, Int.reduceToNat, Nat.sub_zero, Int.natCast_nonneg, Int.toNat_zero, Bool.true_and, Bool.and_true, Bool.false_and, Bool.and_false, Bool.true_or, Bool.or_true, Bool.false_or, Bool.or_false, Bool.not_true, Bool.not_false, Bool.not_not, true_and, and_true, false_and, and_false, not_true_eq_false, not_false_eq_true, eq_self, decide_true, decide_false, ne_eq, implies_true, forall_const, true_implies, false_implies, Bool.true_eq_false, Bool.false_eq_true, reduceCtorEq, List.map_cons, List.map_nil, List.all_cons, List.all_nil, List.length_cons, List.length_nil, List.length_map, List.length_append, List.nil_append, List.cons_append, List.set_cons_zero, List.set_cons_succ, List.set_nil, List.drop_zero, List.drop_succ_cons, List.drop_nil, List.take_zero, List.take_succ_cons, List.take_nil, Option.map_some, Option.map_none, Option.isSome_some, Nat.reduceEqDiff, Nat.reduceBEq, Nat.reduceGT, List.all_append, List.all_map, Function.comp_def, decide_eq_true_eq, Bool.and_eq_true, beq_self_eq_true, or_self, and_self, ite_true, ite_false, Nat.le_refl, Bool.not_eq_true, decide_not, Bool.not_eq_true', decide_eq_false_iff_not, Bool.not_eq_false, Bool.or_eq_true, if_true, if_false, ite_self, hS, sn_it, sn_allA]
theorem bad_0 {w : Option Sn} {x : Sn} (h : bad w x = 0) : 0 ≤ x.seq ∧ mayS x.s = true ∧ ∀ y, w = some y → y.seq < x.seq := by
  unfold bad at h
  split at h
  · simp at h
  · rename_i hn
    refine ⟨by omega, by simpa using fun q => hn (.inr q), fun y hy => ?_⟩
    subst hy
    dsimp only at h
    split at h
    · rename_i g; exact g.1
    · simp at h
theorem chkG_ok : ∀ (l : List Sn) (w : Option Sn) (k : Nat), (chkG w k l).1 = 0 → (∀ x ∈ l, 0 ≤ x.seq ∧ mayS x.s = true) ∧ l.Pairwise (fun a b => a.seq < b.seq) ∧ ∀ y, w = some y → ∀ x ∈ l, y.seq < x.seq
  | [], w, k, h => ⟨fun x hx => absurd hx List.not_mem_nil, List.Pairwise.nil, fun y _ x hx => absurd hx List.not_mem_nil⟩
  | x :: r, w, k, h => by
    unfold chkG at h
    split at h
    · rename_i hb
      obtain ⟨b1, b2, b3⟩ := bad_0 hb
      obtain ⟨i1, i2, i3⟩ := chkG_ok r (some x) (k + 1) h
      refine ⟨fun y hy => ?_, List.Pairwise.cons (fun y hy => i3 x rfl y hy) i2, fun y hy z hz => ?_⟩
      · rcases List.mem_cons.1 hy with e | e
        · subst e; exact ⟨b1, b2⟩
        · exact i1 y e
      · rcases List.mem_cons.1 hz with e | e
        · subst e; exact b3 y hy
        · have := i3 x rfl z e; have := b3 y hy; omega
    · rename_i hb
      exact absurd h hb
theorem isL_ok {l : List Sn} (h : isL l = true) : (∀ x ∈ l, 0 ≤ x.seq ∧ mayS x.s = true) ∧ l.Pairwise (fun a b => a.seq < b.seq) := by
  have h8 := isL_len h
  unfold isL chkL at h
  rw [if_neg (by omega)] at h
  have := chkG_ok l none 0 (by simpa using h)
  exact ⟨this.1, this.2.1⟩
theorem isL_inc {l : List Sn} (h : isL l = true) : Inc l := fun i j hj hi => List.pairwise_iff_getElem.1 (isL_ok h).2 i j (by omega) hj hi
theorem u_addS {R : Type} {X : AV} {Y H : List AObj} {K : AV → List AObj → Option R} : addE (some (X, Y)) H K = K X (H ++ Y) := _root_.id rfl
def dropN (l : List Sn) (q : Int) : Nat := min (fromL l q) (l.length - 1)
def dropL (l : List Sn) (q : Int) : List Sn × Int := if isL l then (l.drop (dropN l q), 0) else ([], 1)
theorem fromL_le (l : List Sn) (q : Int) : fromL l q ≤ l.length := List.findIdx_le_length
theorem drop_s (m : Nat) (l : List Sn) (q : Int) (hm : 16000000 < m) (h : ∀ x ∈ l, x.s.t.Ok) : snap_Drop m (lS l) (nA q) = some (TU [lS (dropL l q).1, nA (dropL l q).2], []) := by
  have hI := sis_s m l hm h
  rw [lS_def] at hI
  rw [snap_Drop_eq, lS_def, lS_def]
  unfold dropL
  cases hi : isL l with
  | false =>
    rw [hi] at hI
    simp (config := {maxSteps := 4000000, implicitDefEqProofs := false}) (disch := omega) only [go_sem, ↓reduceIte, Nat.reduceAdd, Nat.reduceSub, Nat.reduceMul, Nat.reduceLeDiff, Nat.reduceLT, Int.reduceEq, Int.reduceNe, Int.reduceLT, Int.reduceLE, Int.reduceAdd, Int.reduceSub, Int.reduceMul, Int.reduceNeg, Nat.zero_add, Nat.add_zero, Nat.mul_one, Int.toNat_natCast, Int.natCast_zero, Int.cast_ofNat_Int, or_false, false_or, or_true, true_or, Int.reduceToNat, Nat.sub_zero, Int.natCast_nonneg, Int.toNat_zero, Bool.true_and, Bool.and_true, Bool.false_and, Bool.and_false, Bool.true_or, Bool.or_true, Bool.false_or, Bool.or_false, Bool.not_true, Bool.not_false, Bool.not_not, true_and, and_true, false_and, and_false, not_true_eq_false, not_false_eq_true, eq_self, decide_true, decide_false, ne_eq, implies_true, forall_const, true_implies, false_implies, Bool.true_eq_false, Bool.false_eq_true, reduceCtorEq, List.map_cons, List.map_nil, List.all_cons, List.all_nil, List.length_cons, List.length_nil, List.length_map, List.length_append, List.nil_append, List.cons_append, List.set_cons_zero, List.set_cons_succ, List.set_nil, List.drop_zero, List.drop_succ_cons, List.drop_nil, List.take_zero, List.take_succ_cons, List.take_nil, Option.map_some, Option.map_none, Option.isSome_some, Nat.reduceEqDiff, Nat.reduceBEq, Nat.reduceGT, List.all_append, List.all_map, Function.comp_def, decide_eq_true_eq, Bool.and_eq_true, beq_self_eq_true, or_self, and_self, ite_true, ite_false, Nat.le_refl, Bool.not_eq_true, decide_not, Bool.not_eq_true', decide_eq_false_iff_not, Bool.not_eq_false, Bool.or_eq_true, if_true, if_false, ite_self, hI, sn_it, sn_allA]
  | true =>
    rw [hi] at hI
    have h8 := isL_len hi
    have hF := from_s m l q (by omega) (by omega) (isL_inc hi)
    have hfl := fromL_le l q
    rw [lS_def] at hF
    have hmx : (if (l.length : Int) - 1 > 0 then (l.length : Int) - 1 else 0) = ((l.length - 1 : Nat) : Int) := by split <;> omega
    have hmn : (if ((l.length - 1 : Nat) : Int) < (fromL l q : Int) then ((l.length - 1 : Nat) : Int) else (fromL l q : Int)) = (dropN l q : Int) := by unfold dropN; split <;> omega
    have hdl : dropN l q ≤ l.length := by unfold dropN; omega
    have hdl' : (dropN l q : Int) ≤ (l.length : Int) := by omega
    have hC : ∀ n, slices_Clone_Snap_t m [SL ((l.drop (dropN l q)).map snE)] n = some (OW n ((l.drop (dropN l q)).map snE).length, [⟨2, ty_api_Snap, 36, (l.drop (dropN l q)).map snE⟩]) := fun n => slices_Clone_Snap_e m n ((l.drop (dropN l q)).map snE) (by unfold allCE; rw [List.all_map]; exact sn_len5) (by rw [List.length_map, List.length_drop]; omega)
    have hcut : cutE (l.map snE) (dropN l q : Int) (l.length : Int) = (l.drop (dropN l q)).map snE := by
      unfold cutE
      simp [List.map_drop, List.take_of_length_le]
    simp (config := {maxSteps := 4000000, implicitDefEqProofs := false}) (disch := omega) only [go_sem, ↓reduceIte, Nat.reduceAdd, Nat.reduceSub, Nat.reduceMul, Nat.reduceLeDiff, Nat.reduceLT, Int.reduceEq, Int.reduceNe, Int.reduceLT, Int.reduceLE, Int.reduceAdd, Int.reduceSub, Int.reduceMul, Int.reduceNeg, Nat.zero_add, Nat.add_zero, Nat.mul_one, Int.toNat_natCast, Int.natCast_zero, Int.cast_ofNat_Int, or_false, false_or, or_true, true_or, Int.reduceToNat, Nat.sub_zero, Int.natCast_nonneg, Int.toNat_zero, Bool.true_and, Bool.and_true, Bool.false_and, Bool.and_false, Bool.true_or, Bool.or_true, Bool.false_or, Bool.or_false, Bool.not_true, Bool.not_false, Bool.not_not, true_and, and_true, false_and, and_false, not_true_eq_false, not_false_eq_true, eq_self, decide_true, decide_false, ne_eq, implies_true, forall_const, true_implies, false_implies, Bool.true_eq_false, Bool.false_eq_true, reduceCtorEq, List.map_cons, List.map_nil, List.all_cons, List.all_nil, List.length_cons, List.length_nil, List.length_map, List.length_append, List.nil_append, List.cons_append, List.set_cons_zero, List.set_cons_succ, List.set_nil, List.drop_zero, List.drop_succ_cons, List.drop_nil, List.take_zero, List.take_succ_cons, List.take_nil, Option.map_some, Option.map_none, Option.isSome_some, Nat.reduceEqDiff, Nat.reduceBEq, Nat.reduceGT, List.all_append, List.all_map, Function.comp_def, decide_eq_true_eq, Bool.and_eq_true, beq_self_eq_true, or_self, and_self, ite_true, ite_false, Nat.le_refl, Bool.not_eq_true, decide_not, Bool.not_eq_true', decide_eq_false_iff_not, Bool.not_eq_false, Bool.or_eq_true, if_true, if_false, ite_self, hI, sn_it, sn_allA, hF, w_i64, hmx, hmn, hdl, hdl', stC_len, st_ltA, all_tt, Int.le_refl, hcut, hC, List.length_drop, u_addS]
end Go.Proofs.YtopifabnobplcaaDoor

namespace Go.Proofs.YtopifabnobplcaaDoor
open Go.RowKit
set_option linter.unusedVariables false
set_option linter.unusedSimpArgs false
set_option maxRecDepth 20000
def out1 (l : List Sn) (q : Int) (s : St) : List Sn := if 8 < l.length + 1 then (l ++ [(⟨q, s⟩ : Sn)]).drop 1 else l ++ [(⟨q, s⟩ : Sn)]
def keep2 (l : List Sn) (q : Int) (s : St) : List Sn × Int := if (chkL (out1 l q s)).1 = 0 then (out1 l q s, 0) else ([], (chkL (out1 l q s)).1)
def keepL (l : List Sn) (q : Int) (s : St) : List Sn × Int := if isL l then (match l[l.length - 1]? with
  | none => keep2 l q s
  | some w => if q ≤ w.seq then ([], 18) else keep2 l q s) else ([], 1)
theorem keep1_s (m : Nat) (l : List Sn) (q : Int) (s : St) (hm : 16000000 < m) (h8 : l.length ≤ 8) (h : ∀ x ∈ l, x.s.t.Ok) (hs : s.t.Ok) : snap_Keep_r1 m ⟨[⟨1, ty_api_Store, 0, stC s⟩], [(0, SL (l.map snE)), (1, nA q), (5, OP 0 0)]⟩ = some (TU [lS (keep2 l q s).1, nA (keep2 l q s).2], []) := by
  have hC : ∀ n, slices_Clone_Snap_t m [SL (l.map snE)] n = some (OW n (l.map snE).length, [⟨2, ty_api_Snap, 36, l.map snE⟩]) := fun n => slices_Clone_Snap_e m n (l.map snE) (by unfold allCE; rw [List.all_map]; exact sn_len5) (by rw [List.length_map]; omega)
  have hK := scheck_s m (out1 l q s) hm (by
    intro x hx
    have hx : x ∈ l ++ [(⟨q, s⟩ : Sn)] := by
      unfold out1 at hx
      split at hx
      · exact List.mem_of_mem_drop hx
      · exact hx
    rcases List.mem_append.1 hx with e | e
    · exact h x e
    · rw [List.mem_singleton.1 e]; exact hs)
  rw [lS_def] at hK ⊢
  rw [snap_Keep_r1_eq]
  have hl1 : l.length + 1 ≤ 34359738368 := by omega
  have hmap : l.map snE ++ [.agg (nA q :: stC s)] = (l ++ [(⟨q, s⟩ : Sn)]).map snE := by rw [List.map_append]; rfl
  unfold keep2
  generalize hR : chkL (out1 l q s) = R at hK ⊢
  obtain ⟨e, a⟩ := R
  by_cases hg : 8 < l.length + 1
  · have hg' : (8 : Int) < ((l.length + 1 : Nat) : Int) := by omega
    have hg1 : (1 : Int) ≤ ((l.length + 1 : Nat) : Int) := by omega
    have ho : out1 l q s = (l ++ [(⟨q, s⟩ : Sn)]).drop 1 := by unfold out1; rw [if_pos hg]
    rw [ho] at hK ⊢
    simp (config := {maxSteps := 4000000, implicitDefEqProofs := false}) (disch := omega) only [go_sem, ↓reduceIte, Nat.reduceAdd, Nat.reduceSub, Nat.reduceMul, Nat.reduceLeDiff, Nat.reduceLT, Int.reduceEq, Int.reduceNe, Int.reduceLT, Int.reduceLE, Int.reduceAdd, Int.reduceSub, Int.reduceMul, Int.reduceNeg, Nat.zero_add, Nat.add_zero, Nat.mul_one, Int.toNat_natCast, Int.natCast_zero, Int.cast_ofNat_Int, or_false, false_or, or_true, true_or, Int.reduceToNat, Nat.sub_zero, Int.natCast_nonneg, Int.toNat_zero, Bool.true_and, Bool.and_true, Bool.false_and, Bool.and_false, Bool.true_or, Bool.or_true, Bool.false_or, Bool.or_false, Bool.not_true, Bool.not_false, Bool.not_not, true_and, and_true, false_and, and_false, not_true_eq_false, not_false_eq_true, eq_self, decide_true, decide_false, ne_eq, implies_true, forall_const, true_implies, false_implies, Bool.true_eq_false, Bool.false_eq_true, reduceCtorEq, List.map_cons, List.map_nil, List.all_cons, List.all_nil, List.length_cons, List.length_nil, List.length_map, List.length_append, List.nil_append, List.cons_append, List.set_cons_zero, List.set_cons_succ, List.set_nil, List.drop_zero, List.drop_succ_cons, List.drop_nil, List.take_zero, List.take_succ_cons, List.take_nil, Option.map_some, Option.map_none, Option.isSome_some, Nat.reduceEqDiff, Nat.reduceBEq, Nat.reduceGT, List.all_append, List.all_map, Function.comp_def, decide_eq_true_eq, Bool.and_eq_true, beq_self_eq_true, or_self, and_self, ite_true, ite_false, Nat.le_refl, Bool.not_eq_true, decide_not, Bool.not_eq_true', decide_eq_false_iff_not, Bool.not_eq_false, Bool.or_eq_true, if_true, if_false, ite_self, tC_len, tC_sure, tC_ltA, tC_lt1, tC_ro, tC_take, tC_all1, zC_len, zC_ltA, zC_lt1, zC_sure, zC_ro, zC_take, set_tl, set_tv, sc_tt, sc_zt, sc_tz, sc_zz, add16, tA_def, lA_def, natInt, u_tl, u_tv, hC, u_addS, sn_allA, sn_it, st_take35, st_ltA, st_sure, st_lt1, st_sl, st_all1, st_ro, stC_len, all_tt, u_bSn, hl1, hg', hg1, Int.le_refl]
    rw [hmap, ← List.map_drop, snap_Keep_r2_eq]
    by_cases he : e = 0
    · simp (config := {maxSteps := 4000000, implicitDefEqProofs := false}) (disch := omega) only [go_sem, ↓reduceIte, Nat.reduceAdd, Nat.reduceSub, Nat.reduceMul, Nat.reduceLeDiff, Nat.reduceLT, Int.reduceEq, Int.reduceNe, Int.reduceLT, Int.reduceLE, Int.reduceAdd, Int.reduceSub, Int.reduceMul, Int.reduceNeg, Nat.zero_add, Nat.add_zero, Nat.mul_one, Int.toNat_natCast, Int.natCast_zero, Int.cast_ofNat_Int, or_false, false_or, or_true, true_or, Int.reduceToNat, Nat.sub_zero, Int.natCast_nonneg, Int.toNat_zero, Bool.true_and, Bool.and_true, Bool.false_and, Bool.and_false, Bool.true_or, Bool.or_true, Bool.false_or, Bool.or_false, Bool.not_true, Bool.not_false, Bool.not_not, true_and, and_true, false_and, and_false, not_true_eq_false, not_false_eq_true, eq_self, decide_true, decide_false, ne_eq, implies_true, forall_const, true_implies, false_implies, Bool.true_eq_false, Bool.false_eq_true, reduceCtorEq, List.map_cons, List.map_nil, List.all_cons, List.all_nil, List.length_cons, List.length_nil, List.length_map, List.length_append, List.nil_append, List.cons_append, List.set_cons_zero, List.set_cons_succ, List.set_nil, List.drop_zero, List.drop_succ_cons, List.drop_nil, List.take_zero, List.take_succ_cons, List.take_nil, Option.map_some, Option.map_none, Option.isSome_some, Nat.reduceEqDiff, Nat.reduceBEq, Nat.reduceGT, List.all_append, List.all_map, Function.comp_def, decide_eq_true_eq, Bool.and_eq_true, beq_self_eq_true, or_self, and_self, ite_true, ite_false, Nat.le_refl, Bool.not_eq_true, decide_not, Bool.not_eq_true', decide_eq_false_iff_not, Bool.not_eq_false, Bool.or_eq_true, if_true, if_false, ite_self, hK, he, sn_allA, sn_it, st_ltA]
    · simp (config := {maxSteps := 4000000, implicitDefEqProofs := false}) (disch := omega) only [go_sem, ↓reduceIte, Nat.reduceAdd, Nat.reduceSub, Nat.reduceMul, Nat.reduceLeDiff, Nat.reduceLT, Int.reduceEq, Int.reduceNe, Int.reduceLT, Int.reduceLE, Int.reduceAdd, Int.reduceSub, Int.reduceMul, Int.reduceNeg, Nat.zero_add, Nat.add_zero, Nat.mul_one, Int.toNat_natCast, Int.natCast_zero, Int.cast_ofNat_Int, or_false, false_or, or_true, true_or, Int.reduceToNat, Nat.sub_zero, Int.natCast_nonneg, Int.toNat_zero, Bool.true_and, Bool.and_true, Bool.false_and, Bool.and_false, Bool.true_or, Bool.or_true, Bool.false_or, Bool.or_false, Bool.not_true, Bool.not_false, Bool.not_not, true_and, and_true, false_and, and_false, not_true_eq_false, not_false_eq_true, eq_self, decide_true, decide_false, ne_eq, implies_true, forall_const, true_implies, false_implies, Bool.true_eq_false, Bool.false_eq_true, reduceCtorEq, List.map_cons, List.map_nil, List.all_cons, List.all_nil, List.length_cons, List.length_nil, List.length_map, List.length_append, List.nil_append, List.cons_append, List.set_cons_zero, List.set_cons_succ, List.set_nil, List.drop_zero, List.drop_succ_cons, List.drop_nil, List.take_zero, List.take_succ_cons, List.take_nil, Option.map_some, Option.map_none, Option.isSome_some, Nat.reduceEqDiff, Nat.reduceBEq, Nat.reduceGT, List.all_append, List.all_map, Function.comp_def, decide_eq_true_eq, Bool.and_eq_true, beq_self_eq_true, or_self, and_self, ite_true, ite_false, Nat.le_refl, Bool.not_eq_true, decide_not, Bool.not_eq_true', decide_eq_false_iff_not, Bool.not_eq_false, Bool.or_eq_true, if_true, if_false, ite_self, hK, he, sn_allA, sn_it, st_ltA]
  · have hg' : ¬ (8 : Int) < ((l.length + 1 : Nat) : Int) := by omega
    have ho : out1 l q s = l ++ [(⟨q, s⟩ : Sn)] := by unfold out1; rw [if_neg hg]
    rw [ho] at hK ⊢
    simp (config := {maxSteps := 4000000, implicitDefEqProofs := false}) (disch := omega) only [go_sem, ↓reduceIte, Nat.reduceAdd, Nat.reduceSub, Nat.reduceMul, Nat.reduceLeDiff, Nat.reduceLT, Int.reduceEq, Int.reduceNe, Int.reduceLT, Int.reduceLE, Int.reduceAdd, Int.reduceSub, Int.reduceMul, Int.reduceNeg, Nat.zero_add, Nat.add_zero, Nat.mul_one, Int.toNat_natCast, Int.natCast_zero, Int.cast_ofNat_Int, or_false, false_or, or_true, true_or, Int.reduceToNat, Nat.sub_zero, Int.natCast_nonneg, Int.toNat_zero, Bool.true_and, Bool.and_true, Bool.false_and, Bool.and_false, Bool.true_or, Bool.or_true, Bool.false_or, Bool.or_false, Bool.not_true, Bool.not_false, Bool.not_not, true_and, and_true, false_and, and_false, not_true_eq_false, not_false_eq_true, eq_self, decide_true, decide_false, ne_eq, implies_true, forall_const, true_implies, false_implies, Bool.true_eq_false, Bool.false_eq_true, reduceCtorEq, List.map_cons, List.map_nil, List.all_cons, List.all_nil, List.length_cons, List.length_nil, List.length_map, List.length_append, List.nil_append, List.cons_append, List.set_cons_zero, List.set_cons_succ, List.set_nil, List.drop_zero, List.drop_succ_cons, List.drop_nil, List.take_zero, List.take_succ_cons, List.take_nil, Option.map_some, Option.map_none, Option.isSome_some, Nat.reduceEqDiff, Nat.reduceBEq, Nat.reduceGT, List.all_append, List.all_map, Function.comp_def, decide_eq_true_eq, Bool.and_eq_true, beq_self_eq_true, or_self, and_self, ite_true, ite_false, Nat.le_refl, Bool.not_eq_true, decide_not, Bool.not_eq_true', decide_eq_false_iff_not, Bool.not_eq_false, Bool.or_eq_true, if_true, if_false, ite_self, tC_len, tC_sure, tC_ltA, tC_lt1, tC_ro, tC_take, tC_all1, zC_len, zC_ltA, zC_lt1, zC_sure, zC_ro, zC_take, set_tl, set_tv, sc_tt, sc_zt, sc_tz, sc_zz, add16, tA_def, lA_def, natInt, u_tl, u_tv, hC, u_addS, sn_allA, sn_it, st_take35, st_ltA, st_sure, st_lt1, st_sl, st_all1, st_ro, stC_len, all_tt, u_bSn, hl1, hg']
    rw [hmap, snap_Keep_r2_eq]
    by_cases he : e = 0
    · simp (config := {maxSteps := 4000000, implicitDefEqProofs := false}) (disch := omega) only [go_sem, ↓reduceIte, Nat.reduceAdd, Nat.reduceSub, Nat.reduceMul, Nat.reduceLeDiff, Nat.reduceLT, Int.reduceEq, Int.reduceNe, Int.reduceLT, Int.reduceLE, Int.reduceAdd, Int.reduceSub, Int.reduceMul, Int.reduceNeg, Nat.zero_add, Nat.add_zero, Nat.mul_one, Int.toNat_natCast, Int.natCast_zero, Int.cast_ofNat_Int, or_false, false_or, or_true, true_or, Int.reduceToNat, Nat.sub_zero, Int.natCast_nonneg, Int.toNat_zero, Bool.true_and, Bool.and_true, Bool.false_and, Bool.and_false, Bool.true_or, Bool.or_true, Bool.false_or, Bool.or_false, Bool.not_true, Bool.not_false, Bool.not_not, true_and, and_true, false_and, and_false, not_true_eq_false, not_false_eq_true, eq_self, decide_true, decide_false, ne_eq, implies_true, forall_const, true_implies, false_implies, Bool.true_eq_false, Bool.false_eq_true, reduceCtorEq, List.map_cons, List.map_nil, List.all_cons, List.all_nil, List.length_cons, List.length_nil, List.length_map, List.length_append, List.nil_append, List.cons_append, List.set_cons_zero, List.set_cons_succ, List.set_nil, List.drop_zero, List.drop_succ_cons, List.drop_nil, List.take_zero, List.take_succ_cons, List.take_nil, Option.map_some, Option.map_none, Option.isSome_some, Nat.reduceEqDiff, Nat.reduceBEq, Nat.reduceGT, List.all_append, List.all_map, Function.comp_def, decide_eq_true_eq, Bool.and_eq_true, beq_self_eq_true, or_self, and_self, ite_true, ite_false, Nat.le_refl, Bool.not_eq_true, decide_not, Bool.not_eq_true', decide_eq_false_iff_not, Bool.not_eq_false, Bool.or_eq_true, if_true, if_false, ite_self, hK, he, sn_allA, sn_it, st_ltA]
    · simp (config := {maxSteps := 4000000, implicitDefEqProofs := false}) (disch := omega) only [go_sem, ↓reduceIte, Nat.reduceAdd, Nat.reduceSub, Nat.reduceMul, Nat.reduceLeDiff, Nat.reduceLT, Int.reduceEq, Int.reduceNe, Int.reduceLT, Int.reduceLE, Int.reduceAdd, Int.reduceSub, Int.reduceMul, Int.reduceNeg, Nat.zero_add, Nat.add_zero, Nat.mul_one, Int.toNat_natCast, Int.natCast_zero, Int.cast_ofNat_Int, or_false, false_or, or_true, true_or, Int.reduceToNat, Nat.sub_zero, Int.natCast_nonneg, Int.toNat_zero, Bool.true_and, Bool.and_true, Bool.false_and, Bool.and_false, Bool.true_or, Bool.or_true, Bool.false_or, Bool.or_false, Bool.not_true, Bool.not_false, Bool.not_not, true_and, and_true, false_and, and_false, not_true_eq_false, not_false_eq_true, eq_self, decide_true, decide_false, ne_eq, implies_true, forall_const, true_implies, false_implies, Bool.true_eq_false, Bool.false_eq_true, reduceCtorEq, List.map_cons, List.map_nil, List.all_cons, List.all_nil, List.length_cons, List.length_nil, List.length_map, List.length_append, List.nil_append, List.cons_append, List.set_cons_zero, List.set_cons_succ, List.set_nil, List.drop_zero, List.drop_succ_cons, List.drop_nil, List.take_zero, List.take_succ_cons, List.take_nil, Option.map_some, Option.map_none, Option.isSome_some, Nat.reduceEqDiff, Nat.reduceBEq, Nat.reduceGT, List.all_append, List.all_map, Function.comp_def, decide_eq_true_eq, Bool.and_eq_true, beq_self_eq_true, or_self, and_self, ite_true, ite_false, Nat.le_refl, Bool.not_eq_true, decide_not, Bool.not_eq_true', decide_eq_false_iff_not, Bool.not_eq_false, Bool.or_eq_true, if_true, if_false, ite_self, hK, he, sn_allA, sn_it, st_ltA]
theorem keep_s (m : Nat) (l : List Sn) (q : Int) (s : St) (hm : 16000000 < m) (h : ∀ x ∈ l, x.s.t.Ok) (hs : s.t.Ok) : snap_Keep m (lS l) (nA q) (stA s) = some (TU [lS (keepL l q s).1, nA (keepL l q s).2], []) := by
  have hI := sis_s m l hm h
  rw [lS_def] at hI
  rw [snap_Keep_eq, lS_def, stA_def]
  unfold keepL
  cases hi : isL l with
  | false =>
    rw [hi] at hI
    rw [lS_def]
    simp (config := {maxSteps := 4000000, implicitDefEqProofs := false}) (disch := omega) only [go_sem, ↓reduceIte, Nat.reduceAdd, Nat.reduceSub, Nat.reduceMul, Nat.reduceLeDiff, Nat.reduceLT, Int.reduceEq, Int.reduceNe, Int.reduceLT, Int.reduceLE, Int.reduceAdd, Int.reduceSub, Int.reduceMul, Int.reduceNeg, Nat.zero_add, Nat.add_zero, Nat.mul_one, Int.toNat_natCast, Int.natCast_zero, Int.cast_ofNat_Int, or_false, false_or, or_true, true_or, Int.reduceToNat, Nat.sub_zero, Int.natCast_nonneg, Int.toNat_zero, Bool.true_and, Bool.and_true, Bool.false_and, Bool.and_false, Bool.true_or, Bool.or_true, Bool.false_or, Bool.or_false, Bool.not_true, Bool.not_false, Bool.not_not, true_and, and_true, false_and, and_false, not_true_eq_false, not_false_eq_true, eq_self, decide_true, decide_false, ne_eq, implies_true, forall_const, true_implies, false_implies, Bool.true_eq_false, Bool.false_eq_true, reduceCtorEq, List.map_cons, List.map_nil, List.all_cons, List.all_nil, List.length_cons, List.length_nil, List.length_map, List.length_append, List.nil_append, List.cons_append, List.set_cons_zero, List.set_cons_succ, List.set_nil, List.drop_zero, List.drop_succ_cons, List.drop_nil, List.take_zero, List.take_succ_cons, List.take_nil, Option.map_some, Option.map_none, Option.isSome_some, Nat.reduceEqDiff, Nat.reduceBEq, Nat.reduceGT, List.all_append, List.all_map, Function.comp_def, decide_eq_true_eq, Bool.and_eq_true, beq_self_eq_true, or_self, and_self, ite_true, ite_false, Nat.le_refl, Bool.not_eq_true, decide_not, Bool.not_eq_true', decide_eq_false_iff_not, Bool.not_eq_false, Bool.or_eq_true, if_true, if_false, ite_self, hI, sn_it, sn_allA, st_ltA, st_sure, stC_len]
  | true =>
    rw [hi] at hI
    have h8 := isL_len hi
    have hK := keep1_s m l q s hm h8 h hs
    by_cases h0 : 0 < l.length
    · have h0' : (0 : Int) < (l.length : Int) := by omega
      have hl1 : l.length - 1 < l.length := by omega
      have hl1' : ((l.length - 1 : Nat) : Int) < (l.length : Int) := by omega
      have hc : (l.length : Int) - 1 = ((l.length - 1 : Nat) : Int) := by omega
      rw [List.getElem?_eq_getElem hl1]
      dsimp only
      by_cases hq : q ≤ l[l.length - 1].seq
      · rw [lS_def]
        simp (config := {maxSteps := 4000000, implicitDefEqProofs := false}) (disch := omega) only [go_sem, ↓reduceIte, Nat.reduceAdd, Nat.reduceSub, Nat.reduceMul, Nat.reduceLeDiff, Nat.reduceLT, Int.reduceEq, Int.reduceNe, Int.reduceLT, Int.reduceLE, Int.reduceAdd, Int.reduceSub, Int.reduceMul, Int.reduceNeg, Nat.zero_add, Nat.add_zero, Nat.mul_one, Int.toNat_natCast, Int.natCast_zero, Int.cast_ofNat_Int, or_false, false_or, or_true, true_or, Int.reduceToNat, Nat.sub_zero, Int.natCast_nonneg, Int.toNat_zero, Bool.true_and, Bool.and_true, Bool.false_and, Bool.and_false, Bool.true_or, Bool.or_true, Bool.false_or, Bool.or_false, Bool.not_true, Bool.not_false, Bool.not_not, true_and, and_true, false_and, and_false, not_true_eq_false, not_false_eq_true, eq_self, decide_true, decide_false, ne_eq, implies_true, forall_const, true_implies, false_implies, Bool.true_eq_false, Bool.false_eq_true, reduceCtorEq, List.map_cons, List.map_nil, List.all_cons, List.all_nil, List.length_cons, List.length_nil, List.length_map, List.length_append, List.nil_append, List.cons_append, List.set_cons_zero, List.set_cons_succ, List.set_nil, List.drop_zero, List.drop_succ_cons, List.drop_nil, List.take_zero, List.take_succ_cons, List.take_nil, Option.map_some, Option.map_none, Option.isSome_some, Nat.reduceEqDiff, Nat.reduceBEq, Nat.reduceGT, List.all_append, List.all_map, Function.comp_def, decide_eq_true_eq, Bool.and_eq_true, beq_self_eq_true, or_self, and_self, ite_true, ite_false, Nat.le_refl, Bool.not_eq_true, decide_not, Bool.not_eq_true', decide_eq_false_iff_not, Bool.not_eq_false, Bool.or_eq_true, if_true, if_false, ite_self, hI, h0', hc, hl1', w_i64, natInt, u_nthM, sn_it, sn_allA, st_ltA, st_sure, stC_len, hq]
      · simp (config := {maxSteps := 4000000, implicitDefEqProofs := false}) (disch := omega) only [go_sem, ↓reduceIte, Nat.reduceAdd, Nat.reduceSub, Nat.reduceMul, Nat.reduceLeDiff, Nat.reduceLT, Int.reduceEq, Int.reduceNe, Int.reduceLT, Int.reduceLE, Int.reduceAdd, Int.reduceSub, Int.reduceMul, Int.reduceNeg, Nat.zero_add, Nat.add_zero, Nat.mul_one, Int.toNat_natCast, Int.natCast_zero, Int.cast_ofNat_Int, or_false, false_or, or_true, true_or, Int.reduceToNat, Nat.sub_zero, Int.natCast_nonneg, Int.toNat_zero, Bool.true_and, Bool.and_true, Bool.false_and, Bool.and_false, Bool.true_or, Bool.or_true, Bool.false_or, Bool.or_false, Bool.not_true, Bool.not_false, Bool.not_not, true_and, and_true, false_and, and_false, not_true_eq_false, not_false_eq_true, eq_self, decide_true, decide_false, ne_eq, implies_true, forall_const, true_implies, false_implies, Bool.true_eq_false, Bool.false_eq_true, reduceCtorEq, List.map_cons, List.map_nil, List.all_cons, List.all_nil, List.length_cons, List.length_nil, List.length_map, List.length_append, List.nil_append, List.cons_append, List.set_cons_zero, List.set_cons_succ, List.set_nil, List.drop_zero, List.drop_succ_cons, List.drop_nil, List.take_zero, List.take_succ_cons, List.take_nil, Option.map_some, Option.map_none, Option.isSome_some, Nat.reduceEqDiff, Nat.reduceBEq, Nat.reduceGT, List.all_append, List.all_map, Function.comp_def, decide_eq_true_eq, Bool.and_eq_true, beq_self_eq_true, or_self, and_self, ite_true, ite_false, Nat.le_refl, Bool.not_eq_true, decide_not, Bool.not_eq_true', decide_eq_false_iff_not, Bool.not_eq_false, Bool.or_eq_true, if_true, if_false, ite_self, hI, h0', hc, hl1', w_i64, natInt, u_nthM, sn_it, sn_allA, st_ltA, st_sure, stC_len, hq]
        exact hK
    · have h0' : ¬ (0 : Int) < (l.length : Int) := by omega
      have : l[l.length - 1]? = none := List.getElem?_eq_none (by omega)
      rw [this]
      simp (config := {maxSteps := 4000000, implicitDefEqProofs := false}) (disch := omega) only [go_sem, ↓reduceIte, Nat.reduceAdd, Nat.reduceSub, Nat.reduceMul, Nat.reduceLeDiff, Nat.reduceLT, Int.reduceEq, Int.reduceNe, Int.reduceLT, Int.reduceLE, Int.reduceAdd, Int.reduceSub, Int.reduceMul, Int.reduceNeg, Nat.zero_add, Nat.add_zero, Nat.mul_one, Int.toNat_natCast, Int.natCast_zero, Int.cast_ofNat_Int, or_false, false_or, or_true, true_or, Int.reduceToNat, Nat.sub_zero, Int.natCast_nonneg, Int.toNat_zero, Bool.true_and, Bool.and_true, Bool.false_and, Bool.and_false, Bool.true_or, Bool.or_true, Bool.false_or, Bool.or_false, Bool.not_true, Bool.not_false, Bool.not_not, true_and, and_true, false_and, and_false, not_true_eq_false, not_false_eq_true, eq_self, decide_true, decide_false, ne_eq, implies_true, forall_const, true_implies, false_implies, Bool.true_eq_false, Bool.false_eq_true, reduceCtorEq, List.map_cons, List.map_nil, List.all_cons, List.all_nil, List.length_cons, List.length_nil, List.length_map, List.length_append, List.nil_append, List.cons_append, List.set_cons_zero, List.set_cons_succ, List.set_nil, List.drop_zero, List.drop_succ_cons, List.drop_nil, List.take_zero, List.take_succ_cons, List.take_nil, Option.map_some, Option.map_none, Option.isSome_some, Nat.reduceEqDiff, Nat.reduceBEq, Nat.reduceGT, List.all_append, List.all_map, Function.comp_def, decide_eq_true_eq, Bool.and_eq_true, beq_self_eq_true, or_self, and_self, ite_true, ite_false, Nat.le_refl, Bool.not_eq_true, decide_not, Bool.not_eq_true', decide_eq_false_iff_not, Bool.not_eq_false, Bool.or_eq_true, if_true, if_false, ite_self, hI, h0', sn_it, sn_allA, st_ltA, st_sure, stC_len]
      exact hK
end Go.Proofs.YtopifabnobplcaaDoor

namespace Go.Proofs.YtopifabnobplcaaDoor
open Go.RowKit
set_option linter.unusedVariables false
set_option linter.unusedSimpArgs false
set_option maxRecDepth 20000
def S9 : St := ⟨Tr.zero, 0, 9, 9⟩
def z9 : List AV := zC ++ [nA 0, nA 9, nA 9]
def L9 : List Sn := [⟨5, S9⟩]
theorem nilOk : ([] : List Item).length ≤ 1000000 ∧ (∀ x ∈ ([] : List Item), x.key.length ≤ maxLen ∧ NumOk x) ∧ weightP [] ≤ 1000000000 := ⟨Nat.zero_le _, (by intro x hx; cases hx), Nat.le_of_ble_eq_true (by kernel_rfl)⟩
theorem ok_zero : Tr.zero.Ok := fun i => nilOk
theorem ok_L9 : ∀ x ∈ L9, x.s.t.Ok := fun x hx => by rw [List.mem_singleton.1 hx]; exact ok_zero
theorem ex_k1 : keepL [] 5 S9 = (L9, 0) := by kernel_rfl
theorem ex_k2 : keepL L9 5 S9 = ([], 18) := by kernel_rfl
theorem ex_l : lastL L9 9 = (5, S9, 0) := by kernel_rfl
theorem ex_d : dropL L9 9 = (L9, 0) := by kernel_rfl
theorem ex_s : sameS S9 S9 = true := by kernel_rfl
section
variable {R : Type} {n : Nat} {s : St} {K1 : AV → Option R} {H : List AObj}
theorem z9_len : z9.length = 35 := _root_.id rfl
theorem z9_sure : z9.all sure = true := _root_.id rfl
theorem z9_lt1 : z9.all (lt1 n) = true := _root_.id rfl
theorem z9_ltA : z9.all (ltA n) = true := _root_.id rfl
theorem z9_all1 : (z9.all fun x => lt1 n (ro1 H x)) = true := _root_.id rfl
theorem z9_ro : z9.map (ro1 H) = stC S9 := _root_.id rfl
theorem z9_take : z9.take 35 = z9 := _root_.id rfl
theorem z9_set : setCells zS 0 z9 = z9 := set_all rfl
theorem u_b9 : buildE (some pl_api_Store) (some zS) [(2, V (.int .i64 9)), (3, V (.int .i64 9))] K1 = K1 (.agg z9) := _root_.id rfl
end
theorem awake14_s (m : Nat) (hm : 16000000 < m) : plenumlaw14_awake m = some (bA true, []) := by
  have h1 := keep_s m [] 5 S9 hm (fun x hx => absurd hx List.not_mem_nil) ok_zero
  have h2 := keep_s m L9 5 S9 hm ok_L9 ok_zero
  have h3 := last_s m L9 9 hm ok_L9
  have h4 := drop_s m L9 9 hm ok_L9
  have h5 := rsameS_s m S9 S9 (by omega) (fun i => Nat.zero_le _) (fun i => Nat.zero_le _)
  rw [ex_k1, lS_def, lS_def, stA_def] at h1
  rw [ex_k2, lS_def, lS_def, stA_def] at h2
  rw [ex_l, lS_def, stA_def] at h3
  rw [ex_d, lS_def] at h4
  rw [ex_s, stA_def] at h5
  simp only [List.map_nil] at h1 h2
  have hlen : (L9.map snE).length = 1 := rfl
  generalize hL : L9.map snE = es at h1 h2 h3 h4 hlen
  have hall : es.all (ltA 0) = true := by rw [← hL, List.all_map]; exact sn_allA
  rw [plenumlaw14_awake_eq]
  simp (config := {maxSteps := 4000000, implicitDefEqProofs := false}) (disch := omega) only [go_sem, ↓reduceIte, Nat.reduceAdd, Nat.reduceSub, Nat.reduceMul, Nat.reduceLeDiff, Nat.reduceLT, Int.reduceEq, Int.reduceNe, Int.reduceLT, Int.reduceLE, Int.reduceAdd, Int.reduceSub, Int.reduceMul, Int.reduceNeg, Nat.zero_add, Nat.add_zero, Nat.mul_one, Int.toNat_natCast, Int.natCast_zero, Int.cast_ofNat_Int, or_false, false_or, or_true, true_or, Int.reduceToNat, Nat.sub_zero, Int.natCast_nonneg, Int.toNat_zero, Bool.true_and, Bool.and_true, Bool.false_and, Bool.and_false, Bool.true_or, Bool.or_true, Bool.false_or, Bool.or_false, Bool.not_true, Bool.not_false, Bool.not_not, true_and, and_true, false_and, and_false, not_true_eq_false, not_false_eq_true, eq_self, decide_true, decide_false, ne_eq, implies_true, forall_const, true_implies, false_implies, Bool.true_eq_false, Bool.false_eq_true, reduceCtorEq, List.map_cons, List.map_nil, List.all_cons, List.all_nil, List.length_cons, List.length_nil, List.length_map, List.length_append, List.nil_append, List.cons_append, List.set_cons_zero, List.set_cons_succ, List.set_nil, List.drop_zero, List.drop_succ_cons, List.drop_nil, List.take_zero, List.take_succ_cons, List.take_nil, Option.map_some, Option.map_none, Option.isSome_some, Nat.reduceEqDiff, Nat.reduceBEq, Nat.reduceGT, List.all_append, List.all_map, Function.comp_def, decide_eq_true_eq, Bool.and_eq_true, beq_self_eq_true, or_self, and_self, ite_true, ite_false, Nat.le_refl, Bool.not_eq_true, decide_not, Bool.not_eq_true', decide_eq_false_iff_not, Bool.not_eq_false, Bool.or_eq_true, if_true, if_false, ite_self, h1, h2, h3, h4, h5, zcS_eq, zS_len, z9_len, z9_sure, z9_lt1, z9_ltA, z9_all1, z9_ro, z9_take, z9_set, u_b9, st_ltA, st_sure, stC_len, st_take35, st_lt1, st_all1, st_ro, ss_zs, hlen]
end Go.Proofs.YtopifabnobplcaaDoor

namespace Go.Proofs.YtopifabnobplcaaDoor
open Go.RowKit
set_option linter.unusedVariables false
set_option linter.unusedSimpArgs false
set_option maxRecDepth 100000
theorem keyB_max {k : Bytes} (h : k.length ≤ 60) : k.length ≤ maxLen := Nat.le_trans h (by decide)
theorem weight_le {l : List Item} (hl : leafB l = true) (hn : ∀ x ∈ l, NumOk x) (hk : ∀ x ∈ l, x.key.length ≤ 60) : weight l ≤ l.length * 160 := by
  have hv := ((leafB_iff l).1 hl).2.1
  clear hl
  unfold weight
  induction l with
  | nil => exact Nat.zero_le _
  | cons x r ih =>
    have h1 := ih (fun y hy => hn y (List.mem_cons_of_mem _ hy)) (fun y hy => hk y (List.mem_cons_of_mem _ hy)) (fun y hy => hv y (List.mem_cons_of_mem _ hy))
    have h2 := hk x (List.mem_cons_self ..)
    have h3 := hn x (List.mem_cons_self ..)
    have h4 := hv x (List.mem_cons_self ..)
    have h5 : valB x.kind x.i x.s = true := by
      unfold itemB at h4
      simp only [Bool.and_eq_true] at h4
      exact h4.1.1.1.2
    have h6 := encV_len h3.1 h3.2 h5
    simp only [List.map_cons, List.sum_cons, List.length_cons]
    omega
def Tr.In (t : Tr) : Prop := ∀ i, (t.leaf i).length ≤ maxLen ∧ (∀ x ∈ t.leaf i, NumOk x) ∧ (16 ≤ i → t.leaf i = [])
theorem few_ok {t : Tr} (h : t.In) : (fewT t 16).Ok := by
  intro i
  by_cases hi : i < 16
  · have e : (fewT t 16).leaf i = fewL (t.leaf i) := by simp [fewT, hi]
    have hlen : (fewL (t.leaf i)).length ≤ 66 := by simp [fewL]; omega
    have hx : ∀ x ∈ fewL (t.leaf i), x.key.length ≤ 60 ∧ NumOk x := by
      intro x hx
      simp only [fewL, List.mem_map] at hx
      obtain ⟨y, hy, rfl⟩ := hx
      exact ⟨by simp [Item.one]; omega, (h i).2.1 y (List.mem_of_mem_take hy)⟩
    rw [e]
    refine ⟨by omega, fun x hq => ⟨keyB_max (hx x hq).1, (hx x hq).2⟩, ?_⟩
    unfold weightP
    split
    · rename_i hl
      have := weight_le hl (fun x hq => (hx x hq).2) (fun x hq => (hx x hq).1)
      omega
    · omega
  · have e : (fewT t 16).leaf i = [] := by simp only [fewT, hi, if_false]; exact (h i).2.2 (by omega)
    rw [e]; exact nilOk
theorem Tr.In.len {t : Tr} (h : t.In) : ∀ i, (t.leaf i).length ≤ maxLen := fun i => (h i).1
theorem gok_sig {W : World} (h : Sig W) : GOk GG (SW W) := by
  intro g d hg j y hy
  simp only [GG, List.mem_singleton, Prod.mk.injEq] at hg
  obtain ⟨rfl, rfl⟩ := hg
  match j with
  | 0 => simp [cellsOf] at hy; subst hy; exact ⟨1, _, h.2.1, rfl, rfl, rfl⟩
  | 1 => simp [cellsOf] at hy; subst hy; exact ⟨1, _, h.2.2, rfl, rfl, rfl⟩
  | j + 2 => simp [cellsOf] at hy
theorem ofT_val {n : Nat} {ds : List AV} (h : ofT Tryd.prog n 66 ds) : ∃ (k i : Int) (s : Bytes), ds = [nA k, nA i, sA s] ∧ (-9223372036854775808 ≤ i ∧ i < 9223372036854775808) ∧ s.length ≤ maxLen := by
  obtain ⟨m, a1, b1, rfl, h1, a2, b2, rfl, h2, a3, b3, rfl, h3, rfl⟩ := ofT_struct Tryd.underlying66 h
  obtain ⟨k, rfl, _⟩ := ofT_i64 Tryd.underlying3 h1
  obtain ⟨i, rfl, hi⟩ := ofT_i64 Tryd.underlying2 h2
  obtain ⟨s, rfl, hs⟩ := ofT_str Tryd.underlying9 h3
  exact ⟨k, i, s, rfl, hi, hs⟩
theorem ofT_item {n : Nat} {ds : List AV} (h : ofT Tryd.prog n 68 ds) : ∃ x : Item, ds = x.cells.map (fun u => V u) ∧ ItemIn x := by
  obtain ⟨m, a1, b1, rfl, h1, a2, b2, rfl, h2, a3, b3, rfl, h3, rfl⟩ := ofT_struct Tryd.underlying68 h
  obtain ⟨k, rfl, hk⟩ := ofT_str Tryd.underlying9 h1
  obtain ⟨kd, i, s, rfl, hi, hs⟩ := ofT_val h2
  obtain ⟨v, rfl, _⟩ := ofT_i64 Tryd.underlying3 h3
  exact ⟨⟨k, kd, i, s, v⟩, rfl, hk, hs, hi⟩
theorem agg_item : aggT Tryd.prog 68 = true := by kernel_rfl
theorem ofT_items {n : Nat} {ds : List AV} (h : ofT Tryd.prog n 31 ds) : ∃ l : List Item, ds = [lA l] ∧ l.length ≤ maxLen ∧ ∀ x ∈ l, ItemIn x := by
  obtain ⟨m, es, rfl, hl, he⟩ := ofT_slice Tryd.underlying31 h
  obtain ⟨l, rfl, hi⟩ := list_of (f := flA Item.cells) (Q := ItemIn) fun x hx => by
    obtain ⟨q1, q2⟩ := he x hx
    obtain ⟨y, hy, hi⟩ := ofT_item q1
    exact ⟨y, by rw [cells_agg (q2.trans agg_item), hy]; rfl, hi⟩
  exact ⟨l, rfl, by simpa using hl, hi⟩
theorem flat_one {α β : Type} {f : β → α} {k : List β} : (k.map fun y => [f y]).flatten = k.map f := by
  induction k with
  | nil => rfl
  | cons x r ih => simp [ih]
theorem map_get {α β : Type} (f : α → β) (l : List α) (d : α) : l.map f = (List.range l.length).map fun i => f (l.getD i d) := by
  refine List.ext_getElem (by simp) fun i h1 h2 => ?_
  simp only [List.length_map] at h1
  simp [List.getElem_map, h1]
theorem ofT_trunk {n : Nat} {ds : List AV} (h : ofT Tryd.prog n 35 ds) : ∃ t : Tr, ds = tC t ∧ t.In := by
  obtain ⟨m, a1, b1, rfl, h1, a2, b2, rfl, h2, rfl⟩ := ofT_struct Tryd.underlying35 h
  obtain ⟨m1, ps, hp, rfl, hq⟩ := ofT_array Tryd.underlying32 h1
  obtain ⟨m2, qs, hp2, rfl, hq2⟩ := ofT_array Tryd.underlying33 h2
  obtain ⟨L, rfl, hL⟩ := list_of (f := fun l : List Item => [lA l]) (Q := fun l => l.length ≤ maxLen ∧ ∀ x ∈ l, ItemIn x) fun x hx => ofT_items (hq x hx)
  obtain ⟨Z, rfl, hZ⟩ := list_of (f := fun z : Int => [nA z]) (Q := fun _ => True) fun x hx => by
    obtain ⟨i, e, _⟩ := ofT_i64 Tryd.underlying3 (hq2 x hx)
    exact ⟨i, e, trivial⟩
  rw [List.length_map] at hp hp2
  refine ⟨⟨fun i => L.getD i [], fun i => Z.getD i 0⟩, ?_, fun i => ?_⟩
  · rw [List.append_nil, flat_one, flat_one, map_get lA L [], map_get nA Z 0, hp, hp2]
    rfl
  · dsimp only
    by_cases hi : i < L.length
    · have e : L.getD i [] = L[i] := by simp [hi]
      have hm := hL L[i] (List.getElem_mem hi)
      rw [e]
      exact ⟨hm.1, fun x hx => (hm.2 x hx).2.2, fun q => by omega⟩
    · have e : L.getD i [] = [] := by simp [List.getD, List.getElem?_eq_none (Nat.le_of_not_lt hi)]
      rw [e]
      exact ⟨Nat.zero_le _, (by intro x hx; cases hx), fun _ => rfl⟩
theorem ofT_store {n : Nat} {ds : List AV} (h : ofT Tryd.prog n 37 ds) : ∃ s : St, ds = stC s ∧ s.t.In := by
  obtain ⟨m, a1, b1, rfl, h1, a2, b2, rfl, h2, a3, b3, rfl, h3, a4, b4, rfl, h4, rfl⟩ := ofT_struct Tryd.underlying37 h
  obtain ⟨t, rfl, ht⟩ := ofT_trunk h1
  obtain ⟨v, rfl, _⟩ := ofT_i64 Tryd.underlying3 h2
  obtain ⟨b, rfl, _⟩ := ofT_i64 Tryd.underlying3 h3
  obtain ⟨k, rfl, _⟩ := ofT_i64 Tryd.underlying3 h4
  exact ⟨⟨t, v, b, k⟩, rfl, ht⟩
theorem ofT_snap {n : Nat} {ds : List AV} (h : ofT Tryd.prog n 40 ds) : ∃ x : Sn, ds = nA x.seq :: stC x.s ∧ x.s.t.In := by
  obtain ⟨m, a1, b1, rfl, h1, a2, b2, rfl, h2, rfl⟩ := ofT_struct Tryd.underlying40 h
  obtain ⟨q, rfl, _⟩ := ofT_i64 Tryd.underlying3 h1
  obtain ⟨s, rfl, hs⟩ := ofT_store h2
  exact ⟨⟨q, s⟩, by rw [List.append_nil]; rfl, hs⟩
theorem agg_snap : aggT Tryd.prog 40 = true := by kernel_rfl
theorem ofT_snaps {n : Nat} {ds : List AV} (h : ofT Tryd.prog n 22 ds) : ∃ l : List Sn, ds = [lS l] ∧ l.length ≤ maxLen ∧ ∀ x ∈ l, x.s.t.In := by
  obtain ⟨m, es, rfl, hl, he⟩ := ofT_slice Tryd.underlying22 h
  obtain ⟨l, rfl, hi⟩ := list_of (f := snE) (Q := fun x => x.s.t.In) fun x hx => by
    obtain ⟨q1, q2⟩ := he x hx
    obtain ⟨y, hy, hi⟩ := ofT_snap q1
    exact ⟨y, by rw [cells_agg (q2.trans agg_snap), hy]; rfl, hi⟩
  exact ⟨l, rfl, by simpa using hl, hi⟩
theorem mk_snaps {d : AV} : mkA Tryd.prog 22 [d] = d := by
  unfold mkA
  rw [if_neg (by rw [show aggT Tryd.prog 22 = false by kernel_rfl]; decide)]
  rfl
theorem mk_store {ds : List AV} : mkA Tryd.prog 37 ds = .agg ds := by
  unfold mkA
  rw [if_pos (show aggT Tryd.prog 37 = true by kernel_rfl)]
theorem mk_int {d : AV} : mkA Tryd.prog 3 [d] = d := by
  unfold mkA
  rw [if_neg (by rw [show aggT Tryd.prog 3 = false by kernel_rfl]; decide)]
  rfl
theorem arg_snaps {W : World} {v : Value} (h : Arg Tryd.prog W 22 v) : ∃ l : List Sn, (l.length ≤ maxLen ∧ ∀ x ∈ l, x.s.t.In) ∧ rep (SW W) [] (lS l) v := by
  obtain ⟨n, ds, h1, h2⟩ := h
  obtain ⟨t, rfl, ht⟩ := ofT_snaps h1
  rw [mk_snaps] at h2
  exact ⟨t, ht, h2⟩
theorem arg_store {W : World} {v : Value} (h : Arg Tryd.prog W 37 v) : ∃ s : St, s.t.In ∧ rep (SW W) [] (stA s) v := by
  obtain ⟨n, ds, h1, h2⟩ := h
  obtain ⟨t, rfl, ht⟩ := ofT_store h1
  rw [mk_store] at h2
  exact ⟨t, ht, h2⟩
theorem arg_int {W : World} {v : Value} (h : Arg Tryd.prog W 3 v) : ∃ i : Int, (-9223372036854775808 ≤ i ∧ i < 9223372036854775808) ∧ rep (SW W) [] (nA i) v := by
  obtain ⟨n, ds, h1, h2⟩ := h
  obtain ⟨t, rfl, ht⟩ := ofT_i64 Tryd.underlying3 h1
  rw [mk_int] at h2
  exact ⟨t, ht, h2⟩
theorem fewS_ok {l : List Sn} (h : ∀ x ∈ l, x.s.t.In) : ∀ x ∈ fewS l, x.s.t.Ok := by
  intro x hx
  unfold fewS at hx
  obtain ⟨y, hy, rfl⟩ := List.mem_map.1 hx
  exact few_ok (h y (List.mem_of_mem_take hy))
theorem reps2 {S : SS} {d0 d1 : AV} {v0 v1 : Value} (h0 : rep S [] d0 v0) (h1 : rep S [] d1 v1) : ∀ (j : Nat) (d : AV) (v : Value), [d0, d1][j]? = some d → [v0, v1][j]? = some v → rep S [] d v := by
  intro j d v hd hv
  match j with
  | 0 => simp at hd hv; subst hd hv; exact h0
  | 1 => simp at hd hv; subst hd hv; exact h1
  | j + 2 => simp at hd
theorem reps3 {S : SS} {d0 d1 d2 : AV} {v0 v1 v2 : Value} (h0 : rep S [] d0 v0) (h1 : rep S [] d1 v1) (h2 : rep S [] d2 v2) : ∀ (j : Nat) (d : AV) (v : Value), [d0, d1, d2][j]? = some d → [v0, v1, v2][j]? = some v → rep S [] d v := by
  intro j d v hd hv
  match j with
  | 0 => simp at hd hv; subst hd hv; exact h0
  | 1 => simp at hd hv; subst hd hv; exact h1
  | 2 => simp at hd hv; subst hd hv; exact h2
  | j + 3 => simp at hd
end Go.Proofs.YtopifabnobplcaaDoor

namespace Go.Proofs.YtopifabnobplcaaDoor
open Go.RowKit
set_option linter.unusedVariables false
set_option maxRecDepth 100000
noncomputable def plenumlaw14_SnapFinds_c : Code := (Tryd.f5.body).getD .skip
def plenumlaw14_SnapFinds_h : Hint := (.two .n (.two .n (.two .n (.two .n (.two .n (.two (.two .n (.two (.two .n .n) .n)) (.join [0, 1, 7, 8, 9, 10] (.two .n (.two .n (.two (.join [0, 1, 7, 8, 9, 10, 68] .n (.two (.two .n .n) .n)) (.join [0, 1, 7, 8, 9, 10, 80] .n (.two (.two .n .n) .n))))) (.two .n (.join [0, 7, 8, 9, 10, 12] (.two .n (.one (.lp [] [0, 1, 7, 8, 9, 10, 12, 13] [0, 7, 8, 9, 10, 12] (.two (.two .n (.two .n .n)) (.join [0, 1, 7, 8, 9, 10, 12, 13] (.one (.two .n (.two .n .n))) .n))))) (.two (.two .n (.two (.two .n .n) .n)) (.two .n .n)))))))))))
noncomputable def plenumlaw14_SnapFinds_env (m : Nat) : Env := [(8, .tell (plenumlaw14_Few_t m)), (16, .tell (snap_At_t m)), (17, .tell (snap_Last_t m)), (18, .tell (plenumref14_Is_t m)), (19, .tell (plenumref13_Same_t m)), (11, .tell (plenumlaw14_awake_t m)), (20, .tell (plenumref14_At_t m))]
noncomputable abbrev plenumlaw14_SnapFinds_fin : KO (AV × List AObj) := tellFK Tryd.prog [.tmp 4]
noncomputable def plenumlaw14_SnapFinds_r5 (m : Nat) (n0 : Nat) (kc : ASt → RO) (kx : KO (AV × List AObj)) (s : ASt) : RO := joinW Tryd.prog GG (plenumlaw14_SnapFinds_env m) m 134 (cdR (cdR (cdL (cdL (cdR (cdL (cdR (cdR (cdR (cdR (cdR (cdR (cdR (cdR plenumlaw14_SnapFinds_c)))))))))))))) plenumlaw14_SnapFinds_h.r.r.r.r.r.r.r.r.l.r.c.c.r.r s (backW n0 [0, 1, 7, 8, 9, 10, 12, 13] [0, 7, 8, 9, 10, 12] kc kx)
noncomputable def plenumlaw14_SnapFinds_r4 (m : Nat) (s : ASt) : RO := joinW Tryd.prog GG (plenumlaw14_SnapFinds_env m) m 134 (cdR (cdR (cdR (cdR (cdR (cdR (cdR (cdR (cdR plenumlaw14_SnapFinds_c))))))))) plenumlaw14_SnapFinds_h.r.r.r.r.r.r.r.r.r s (plenumlaw14_SnapFinds_fin)
noncomputable def plenumlaw14_SnapFinds_b1 (m : Nat) (s : ASt) (kc : ASt → RO) (kx : KO (AV × List AObj)) : RO := bodyW Tryd.prog GG (plenumlaw14_SnapFinds_env m) m 134 (cdL (cdL (cdR (cdL (cdR (cdR (cdR (cdR (cdR (cdR (cdR (cdR plenumlaw14_SnapFinds_c)))))))))))) plenumlaw14_SnapFinds_h.r.r.r.r.r.r.r.r.l.r.c.c [0, 1, 7, 8, 9, 10, 12, 13] [0, 7, 8, 9, 10, 12] s kc kx
noncomputable def plenumlaw14_SnapFinds_r3 (m : Nat) (s : ASt) : RO := joinW Tryd.prog GG (plenumlaw14_SnapFinds_env m) m 134 (cdR (cdR (cdR (cdR (cdR (cdR (cdR plenumlaw14_SnapFinds_c))))))) plenumlaw14_SnapFinds_h.r.r.r.r.r.r.r s (plenumlaw14_SnapFinds_fin)
noncomputable def plenumlaw14_SnapFinds_r2 (m : Nat) (s : ASt) : RO := joinW Tryd.prog GG (plenumlaw14_SnapFinds_env m) m 134 (cdR (cdR (cdR (cdR (cdL (cdR (cdR (cdR (cdR (cdR (cdR plenumlaw14_SnapFinds_c))))))))))) plenumlaw14_SnapFinds_h.r.r.r.r.r.r.l.r.r.r.r s (seqX (fun s => plenumlaw14_SnapFinds_r3 m ⟨s.H, [(0, gt s.T 0), (1, gt s.T 1), (7, gt s.T 7), (8, gt s.T 8), (9, gt s.T 9), (10, gt s.T 10)]⟩) (plenumlaw14_SnapFinds_fin))
noncomputable def plenumlaw14_SnapFinds_r1 (m : Nat) (s : ASt) : RO := joinW Tryd.prog GG (plenumlaw14_SnapFinds_env m) m 134 (cdR (cdL (cdR (cdR (cdL (cdR (cdR (cdR (cdR (cdR (cdR plenumlaw14_SnapFinds_c))))))))))) plenumlaw14_SnapFinds_h.r.r.r.r.r.r.l.r.r.l.r s (seqX (fun s => plenumlaw14_SnapFinds_r3 m ⟨s.H, [(0, gt s.T 0), (1, gt s.T 1), (7, gt s.T 7), (8, gt s.T 8), (9, gt s.T 9), (10, gt s.T 10)]⟩) (plenumlaw14_SnapFinds_fin))
noncomputable def plenumlaw14_SnapFinds (m : Nat) (t0 t1 : AV) : RO := exec Tryd.prog GG (plenumlaw14_SnapFinds_env m) m 134 plenumlaw14_SnapFinds_c plenumlaw14_SnapFinds_h ⟨[], argsT 0 [t0, t1]⟩ (plenumlaw14_SnapFinds_fin)
theorem plenumlaw14_SnapFinds_r5_eq (m : Nat) (n0 : Nat) (kc : ASt → RO) (kx : KO (AV × List AObj)) (H : List AObj) (t0 t1 t7 t8 t9 t10 t12 t13 : AV) : plenumlaw14_SnapFinds_r5 m n0 kc kx ⟨H, [(0, t0), (1, t1), (7, t7), (8, t8), (9, t9), (10, t10), (12, t12), (13, t13)]⟩ =
  binE none false false .add t13 (V (.int .i64 1)) fun t86 =>
  backE n0 H [(0, t0), (1, t1), (7, t7), (8, t8), (9, t9), (10, t10), (12, t12), (13, t86)] kc := by
  refine (joinW_eq Tryd.prog GG (plenumlaw14_SnapFinds_env m) m 134 (cdR (cdR (cdL (cdL (cdR (cdL (cdR (cdR (cdR (cdR (cdR (cdR (cdR (cdR plenumlaw14_SnapFinds_c)))))))))))))) plenumlaw14_SnapFinds_h.r.r.r.r.r.r.r.r.l.r.c.c.r.r ⟨H, [(0, t0), (1, t1), (7, t7), (8, t8), (9, t9), (10, t10), (12, t12), (13, t13)]⟩ (backW n0 [0, 1, 7, 8, 9, 10, 12, 13] [0, 7, 8, 9, 10, 12] kc kx)).trans ?_
  kernel_rfl
theorem plenumlaw14_SnapFinds_r4_eq (m : Nat) (H : List AObj) (t0 t7 t8 t9 t10 t12 : AV) : plenumlaw14_SnapFinds_r4 m ⟨H, [(0, t0), (7, t7), (8, t8), (9, t9), (10, t10), (12, t12)]⟩ =
  binE none false false .lss t12 (V (.int .i64 0)) fun t96 =>
  condE t96 (
   binE none false false .eql t7 (V (.int .i64 0)) fun t98 =>
   condE t98 (
    loadE 37 H t8 fun t100 =>
    loadE 37 H t10 fun t101 =>
    tellE (plenumref13_Same m (ro H t100) (ro H t101)) [(ro H t100), (ro H t101)] fun t102 =>
    condE t102 (
    binE none false false .eql t9 (V (.int .i64 6)) fun t106 =>
    condE t106 (
    tellE (plenumlaw14_awake m) [] fun t109 =>
    tellK H (ro H t109)) (
    tellK H (ro H (V (.bool false))))) (
    tellK H (ro H (V (.bool false))))) (
    tellK H (ro H (V (.bool false))))) (
   idxSE 38 H t0 t12 fun t114 =>
   fieldE (some (0, 1)) t114 fun t115 =>
   loadE 1 H t115 fun t116 =>
   binE none false false .eql t7 t116 fun t117 =>
   condE t117 (
    loadE 37 H t8 fun t119 =>
    idxSE 38 H t0 t12 fun t122 =>
    fieldE (some (1, 37)) t122 fun t123 =>
    loadE 37 H t123 fun t124 =>
    tellE (plenumref13_Same m (ro H t119) (ro H t124)) [(ro H t119), (ro H t124)] fun t125 =>
    condE t125 (
    binE none false false .eql t9 (V (.int .i64 0)) fun t129 =>
    condE t129 (
    tellE (plenumlaw14_awake m) [] fun t132 =>
    tellK H (ro H t132)) (
    tellK H (ro H (V (.bool false))))) (
    tellK H (ro H (V (.bool false))))) (
    tellK H (ro H (V (.bool false))))) := by
  refine (joinW_eq Tryd.prog GG (plenumlaw14_SnapFinds_env m) m 134 (cdR (cdR (cdR (cdR (cdR (cdR (cdR (cdR (cdR plenumlaw14_SnapFinds_c))))))))) plenumlaw14_SnapFinds_h.r.r.r.r.r.r.r.r.r ⟨H, [(0, t0), (7, t7), (8, t8), (9, t9), (10, t10), (12, t12)]⟩ (plenumlaw14_SnapFinds_fin)).trans ?_
  kernel_rfl
theorem plenumlaw14_SnapFinds_b1_eq (m : Nat) (H : List AObj) (t0 t1 t7 t8 t9 t10 t12 t13 : AV) (kc : ASt → RO) (kx : KO (AV × List AObj)) : plenumlaw14_SnapFinds_b1 m ⟨H, [(0, t0), (1, t1), (7, t7), (8, t8), (9, t9), (10, t10), (12, t12), (13, t13)]⟩ kc kx =
  lenE false true H t0 fun t83 =>
  binE none false false .lss t13 t83 fun t84 =>
  condE t84 (
   idxSE 38 H t0 t13 fun t89 =>
   fieldE (some (0, 1)) t89 fun t90 =>
   loadE 1 H t90 fun t91 =>
   binE none false false .leq t91 t1 fun t93 =>
   condE t93 (
    plenumlaw14_SnapFinds_r5 m H.length kc kx ⟨H, [(0, t0), (1, t1), (7, t7), (8, t8), (9, t9), (10, t10), (12, t13), (13, t13)]⟩) (
    plenumlaw14_SnapFinds_r5 m H.length kc kx ⟨H, [(0, t0), (1, t1), (7, t7), (8, t8), (9, t9), (10, t10), (12, t12), (13, t13)]⟩)) (
   kx (.exit 0) ⟨H, [(0, t0), (7, t7), (8, t8), (9, t9), (10, t10), (12, t12)]⟩) := by
  refine (bodyW_eq Tryd.prog GG (plenumlaw14_SnapFinds_env m) m 134 (cdL (cdL (cdR (cdL (cdR (cdR (cdR (cdR (cdR (cdR (cdR (cdR plenumlaw14_SnapFinds_c)))))))))))) plenumlaw14_SnapFinds_h.r.r.r.r.r.r.r.r.l.r.c.c [0, 1, 7, 8, 9, 10, 12, 13] [0, 7, 8, 9, 10, 12] ⟨H, [(0, t0), (1, t1), (7, t7), (8, t8), (9, t9), (10, t10), (12, t12), (13, t13)]⟩ kc kx).trans ?_
  kernel_rfl
theorem plenumlaw14_SnapFinds_r3_eq (m : Nat) (H : List AObj) (t0 t1 t7 t8 t9 t10 : AV) : plenumlaw14_SnapFinds_r3 m ⟨H, [(0, t0), (1, t1), (7, t7), (8, t8), (9, t9), (10, t10)]⟩ =
  iterC m (plenumlaw14_SnapFinds_b1 m) ⟨H, [(0, t0), (1, t1), (7, t7), (8, t8), (9, t9), (10, t10), (12, (V (.int .i64 (-1)))), (13, (V (.int .i64 0)))]⟩ (blockX 0 (seqX (fun s => plenumlaw14_SnapFinds_r4 m ⟨s.H, [(0, gt s.T 0), (7, gt s.T 7), (8, gt s.T 8), (9, gt s.T 9), (10, gt s.T 10), (12, gt s.T 12)]⟩) (plenumlaw14_SnapFinds_fin))) := by
  refine (joinW_eq Tryd.prog GG (plenumlaw14_SnapFinds_env m) m 134 (cdR (cdR (cdR (cdR (cdR (cdR (cdR plenumlaw14_SnapFinds_c))))))) plenumlaw14_SnapFinds_h.r.r.r.r.r.r.r ⟨H, [(0, t0), (1, t1), (7, t7), (8, t8), (9, t9), (10, t10)]⟩ (plenumlaw14_SnapFinds_fin)).trans ?_
  kernel_rfl
theorem plenumlaw14_SnapFinds_r2_eq (m : Nat) (H : List AObj) (t0 t1 t7 t8 t9 t10 t80 : AV) : plenumlaw14_SnapFinds_r2 m ⟨H, [(0, t0), (1, t1), (7, t7), (8, t8), (9, t9), (10, t10), (80, t80)]⟩ =
  condE t80 (
   tellK H (ro H (V (.bool false)))) (
   plenumlaw14_SnapFinds_r3 m ⟨H, [(0, t0), (1, t1), (7, t7), (8, t8), (9, t9), (10, t10)]⟩) := by
  refine (joinW_eq Tryd.prog GG (plenumlaw14_SnapFinds_env m) m 134 (cdR (cdR (cdR (cdR (cdL (cdR (cdR (cdR (cdR (cdR (cdR plenumlaw14_SnapFinds_c))))))))))) plenumlaw14_SnapFinds_h.r.r.r.r.r.r.l.r.r.r.r ⟨H, [(0, t0), (1, t1), (7, t7), (8, t8), (9, t9), (10, t10), (80, t80)]⟩ (seqX (fun s => plenumlaw14_SnapFinds_r3 m ⟨s.H, [(0, gt s.T 0), (1, gt s.T 1), (7, gt s.T 7), (8, gt s.T 8), (9, gt s.T 9), (10, gt s.T 10)]⟩) (plenumlaw14_SnapFinds_fin))).trans ?_
  kernel_rfl
theorem plenumlaw14_SnapFinds_r1_eq (m : Nat) (H : List AObj) (t0 t1 t7 t8 t9 t10 t68 : AV) : plenumlaw14_SnapFinds_r1 m ⟨H, [(0, t0), (1, t1), (7, t7), (8, t8), (9, t9), (10, t10), (68, t68)]⟩ =
  condE t68 (
   tellK H (ro H (V (.bool false)))) (
   plenumlaw14_SnapFinds_r3 m ⟨H, [(0, t0), (1, t1), (7, t7), (8, t8), (9, t9), (10, t10)]⟩) := by
  refine (joinW_eq Tryd.prog GG (plenumlaw14_SnapFinds_env m) m 134 (cdR (cdL (cdR (cdR (cdL (cdR (cdR (cdR (cdR (cdR (cdR plenumlaw14_SnapFinds_c))))))))))) plenumlaw14_SnapFinds_h.r.r.r.r.r.r.l.r.r.l.r ⟨H, [(0, t0), (1, t1), (7, t7), (8, t8), (9, t9), (10, t10), (68, t68)]⟩ (seqX (fun s => plenumlaw14_SnapFinds_r3 m ⟨s.H, [(0, gt s.T 0), (1, gt s.T 1), (7, gt s.T 7), (8, gt s.T 8), (9, gt s.T 9), (10, gt s.T 10)]⟩) (plenumlaw14_SnapFinds_fin))).trans ?_
  kernel_rfl
theorem plenumlaw14_SnapFinds_eq (m : Nat) (t0 t1 : AV) : plenumlaw14_SnapFinds m t0 t1 =
  tellE (plenumlaw14_Few m (ro [] t0)) [(ro [] t0)] fun t15 =>
  tellE (snap_At m (ro [] t15) (ro [] t1)) [(ro [] t15), (ro [] t1)] fun t19 =>
  extE t19 0 fun t20 =>
  extE t19 1 fun t21 =>
  allocE (some zc_api_Store) ty_api_Store [] fun t5 H1 =>
  storeE 37 H1 t5 t20 fun H2 =>
  tellE (snap_Last m (ro H2 t15) (ro H2 t1)) [(ro H2 t15), (ro H2 t1)] fun t25 =>
  extE t25 0 fun t26 =>
  extE t25 1 fun t27 =>
  extE t25 2 fun t28 =>
  allocE (some zc_api_Store) ty_api_Store H2 fun t8 H3 =>
  storeE 37 H3 t8 t27 fun H4 =>
  buildE (some pl_api_Store) (some zc_api_Store) [] fun t29 =>
  allocE (some zc_api_Store) ty_api_Store H4 fun t10 H5 =>
  storeE 37 H5 t10 t29 fun H6 =>
  tellE (plenumref14_Is m (ro H6 t15)) [(ro H6 t15)] fun t31 =>
  unE .not t31 fun t32 =>
  condE t32 (
   loadE 37 H6 t5 fun t33 =>
   loadE 37 H6 t10 fun t34 =>
   tellE (plenumref13_Same m (ro H6 t33) (ro H6 t34)) [(ro H6 t33), (ro H6 t34)] fun t35 =>
   condE t35 (
    binE none false false .eql t21 (V (.int .i64 1)) fun t38 =>
    condE t38 (
    binE none false false .eql t26 (V (.int .i64 0)) fun t42 =>
    condE t42 (
    loadE 37 H6 t8 fun t45 =>
    loadE 37 H6 t10 fun t46 =>
    tellE (plenumref13_Same m (ro H6 t45) (ro H6 t46)) [(ro H6 t45), (ro H6 t46)] fun t47 =>
    condE t47 (
    binE none false false .eql t28 (V (.int .i64 1)) fun t51 =>
    condE t51 (
    tellE (plenumlaw14_awake m) [] fun t54 =>
    tellK H6 (ro H6 t54)) (
    tellK H6 (ro H6 (V (.bool false))))) (
    tellK H6 (ro H6 (V (.bool false))))) (
    tellK H6 (ro H6 (V (.bool false))))) (
    tellK H6 (ro H6 (V (.bool false))))) (
    tellK H6 (ro H6 (V (.bool false))))) (
   tellE (plenumref14_At m (ro H6 t15) (ro H6 t1)) [(ro H6 t15), (ro H6 t1)] fun t58 =>
   binE none false false .lss t58 (V (.int .i64 0)) fun t60 =>
   condE t60 (
    loadE 37 H6 t5 fun t61 =>
    loadE 37 H6 t10 fun t62 =>
    tellE (plenumref13_Same m (ro H6 t61) (ro H6 t62)) [(ro H6 t61), (ro H6 t62)] fun t63 =>
    unE .not t63 fun t64 =>
    condE t64 (
     plenumlaw14_SnapFinds_r1 m ⟨H6, [(0, t15), (1, t1), (7, t26), (8, t8), (9, t28), (10, t10), (68, (V (.bool true)))]⟩) (
     binE none false false .neq t21 (V (.int .i64 6)) fun t67 =>
     plenumlaw14_SnapFinds_r1 m ⟨H6, [(0, t15), (1, t1), (7, t26), (8, t8), (9, t28), (10, t10), (68, t67)]⟩)) (
    loadE 37 H6 t5 fun t69 =>
    idxSE 38 H6 t15 t58 fun t72 =>
    fieldE (some (1, 37)) t72 fun t73 =>
    loadE 37 H6 t73 fun t74 =>
    tellE (plenumref13_Same m (ro H6 t69) (ro H6 t74)) [(ro H6 t69), (ro H6 t74)] fun t75 =>
    unE .not t75 fun t76 =>
    condE t76 (
     plenumlaw14_SnapFinds_r2 m ⟨H6, [(0, t15), (1, t1), (7, t26), (8, t8), (9, t28), (10, t10), (80, (V (.bool true)))]⟩) (
     binE none false false .neq t21 (V (.int .i64 0)) fun t79 =>
     plenumlaw14_SnapFinds_r2 m ⟨H6, [(0, t15), (1, t1), (7, t26), (8, t8), (9, t28), (10, t10), (80, t79)]⟩))) := by
  refine (tellX Tryd.prog GG (plenumlaw14_SnapFinds_env m) m 134 plenumlaw14_SnapFinds_c plenumlaw14_SnapFinds_h ⟨[], argsT 0 [t0, t1]⟩ [.tmp 4]).trans ?_
  kernel_rfl
noncomputable def plenumlaw14_SnapFinds_t (m : Nat) : List AV → RO | [t0, t1] => plenumlaw14_SnapFinds m t0 t1 | _ => none
theorem plenumlaw14_SnapFinds_ok (m : Nat) : ∀ args X H', plenumlaw14_SnapFinds_t m args = some (X, H') → ACp Tryd.prog GG 5 args X := by
  intro args X H' h
  unfold plenumlaw14_SnapFinds_t at h
  split at h
  · exact tell_okK MIX (by
    intro f e h
    simp only [plenumlaw14_SnapFinds_env, Prod.mk.injEq, List.mem_cons, List.not_mem_nil, or_false] at h
    rcases h with ⟨rfl, rfl⟩ | ⟨rfl, rfl⟩ | ⟨rfl, rfl⟩ | ⟨rfl, rfl⟩ | ⟨rfl, rfl⟩ | ⟨rfl, rfl⟩ | ⟨rfl, rfl⟩
    · exact plenumlaw14_Few_ok m
    · exact snap_At_ok m
    · exact snap_Last_ok m
    · exact plenumref14_Is_ok m
    · exact plenumref13_Same_ok m
    · exact plenumlaw14_awake_ok m
    · exact plenumref14_At_ok m) (f := 5) (c := plenumlaw14_SnapFinds_c) Tryd.func5 rfl (by kernel_rfl) _ rfl Tryd.ntmps5 (Nat.le_of_ble_eq_true rfl) plenumlaw14_SnapFinds_h h
  · cases h
end Go.Proofs.YtopifabnobplcaaDoor

namespace Go.Proofs.YtopifabnobplcaaDoor
open Go.RowKit
set_option linter.unusedVariables false
set_option linter.unusedSimpArgs false
set_option maxRecDepth 20000
def atL (l : List Sn) (q : Int) : St × Int := if isL l then (match l[fromL l q]? with
  | none => (St.zero, 6)
  | some x => if x.seq = q then (x.s, 0) else (St.zero, 6)) else (St.zero, 1)
theorem at_s (m : Nat) (l : List Sn) (q : Int) (hm : 16000000 < m) (h : ∀ x ∈ l, x.s.t.Ok) : snap_At m (lS l) (nA q) = some (TU [stA (atL l q).1, nA (atL l q).2], []) := by
  have hI := sis_s m l hm h
  rw [lS_def] at hI ⊢
  rw [snap_At_eq]
  unfold atL
  cases hi : isL l with
  | false =>
    rw [hi] at hI
    simp (config := {maxSteps := 4000000, implicitDefEqProofs := false}) (disch := omega) only [go_sem, ↓reduceIte, Nat.reduceAdd, Nat.reduceSub, Nat.reduceMul, Nat.reduceLeDiff, Nat.reduceLT, Int.reduceEq, Int.reduceNe, Int.reduceLT, Int.reduceLE, Int.reduceAdd, Int.reduceSub, Int.reduceMul, Int.reduceNeg, Nat.zero_add, Nat.add_zero, Nat.mul_one, Int.toNat_natCast, Int.natCast_zero, Int.cast_ofNat_Int, or_false, false_or, or_true, true_or, Int.reduceToNat, Nat.sub_zero, Int.natCast_nonneg, Int.toNat_zero, Bool.true_and, Bool.and_true, Bool.false_and, Bool.and_false, Bool.true_or, Bool.or_true, Bool.false_or, Bool.or_false, Bool.not_true, Bool.not_false, Bool.not_not, true_and, and_true, false_and, and_false, not_true_eq_false, not_false_eq_true, eq_self, decide_true, decide_false, ne_eq, implies_true, forall_const, true_implies, false_implies, Bool.true_eq_false, Bool.false_eq_true, reduceCtorEq, List.map_cons, List.map_nil, List.all_cons, List.all_nil, List.length_cons, List.length_nil, List.length_map, List.length_append, List.nil_append, List.cons_append, List.set_cons_zero, List.set_cons_succ, List.set_nil, List.drop_zero, List.drop_succ_cons, List.drop_nil, List.take_zero, List.take_succ_cons, List.take_nil, Option.map_some, Option.map_none, Option.isSome_some, Nat.reduceEqDiff, Nat.reduceBEq, Nat.reduceGT, List.all_append, List.all_map, Function.comp_def, decide_eq_true_eq, Bool.and_eq_true, beq_self_eq_true, or_self, and_self, ite_true, ite_false, Nat.le_refl, Bool.not_eq_true, decide_not, Bool.not_eq_true', decide_eq_false_iff_not, Bool.not_eq_false, Bool.or_eq_true, if_true, if_false, ite_self, hI, sn_it, sn_allA, zcS_eq, zS_len, zS_sure, zS_ltA, zS_lt1, zS_all1, zS_ro, zS_take, ss_zz, u_bS0, stA_def]
  | true =>
    rw [hi] at hI
    have h8 := isL_len hi
    have hF := from_s m l q (by omega) (by omega) (isL_inc hi)
    rw [lS_def] at hF
    have hfl := fromL_le l q
    generalize fromL l q = p at hF hfl
    by_cases hp : p = l.length
    · subst hp
      rw [List.getElem?_eq_none (Nat.le_refl _)]
      simp (config := {maxSteps := 4000000, implicitDefEqProofs := false}) (disch := omega) only [go_sem, ↓reduceIte, Nat.reduceAdd, Nat.reduceSub, Nat.reduceMul, Nat.reduceLeDiff, Nat.reduceLT, Int.reduceEq, Int.reduceNe, Int.reduceLT, Int.reduceLE, Int.reduceAdd, Int.reduceSub, Int.reduceMul, Int.reduceNeg, Nat.zero_add, Nat.add_zero, Nat.mul_one, Int.toNat_natCast, Int.natCast_zero, Int.cast_ofNat_Int, or_false, false_or, or_true, true_or, Int.reduceToNat, Nat.sub_zero, Int.natCast_nonneg, Int.toNat_zero, Bool.true_and, Bool.and_true, Bool.false_and, Bool.and_false, Bool.true_or, Bool.or_true, Bool.false_or, Bool.or_false, Bool.not_true, Bool.not_false, Bool.not_not, true_and, and_true, false_and, and_false, not_true_eq_false, not_false_eq_true, eq_self, decide_true, decide_false, ne_eq, implies_true, forall_const, true_implies, false_implies, Bool.true_eq_false, Bool.false_eq_true, reduceCtorEq, List.map_cons, List.map_nil, List.all_cons, List.all_nil, List.length_cons, List.length_nil, List.length_map, List.length_append, List.nil_append, List.cons_append, List.set_cons_zero, List.set_cons_succ, List.set_nil, List.drop_zero, List.drop_succ_cons, List.drop_nil, List.take_zero, List.take_succ_cons, List.take_nil, Option.map_some, Option.map_none, Option.isSome_some, Nat.reduceEqDiff, Nat.reduceBEq, Nat.reduceGT, List.all_append, List.all_map, Function.comp_def, decide_eq_true_eq, Bool.and_eq_true, beq_self_eq_true, or_self, and_self, ite_true, ite_false, Nat.le_refl, Bool.not_eq_true, decide_not, Bool.not_eq_true', decide_eq_false_iff_not, Bool.not_eq_false, Bool.or_eq_true, if_true, if_false, ite_self, hI, hF, sn_it, sn_allA, zcS_eq, zS_len, zS_sure, zS_ltA, zS_lt1, zS_all1, zS_ro, zS_take, ss_zz, u_bS0, stA_def, snap_At_r1_eq]
    · have hlt : p < l.length := by omega
      have hp' : ¬ (p : Int) = (l.length : Int) := by omega
      have hlt' : (p : Int) < (l.length : Int) := by omega
      rw [List.getElem?_eq_getElem hlt]
      by_cases hq : l[p].seq = q
      · simp (config := {maxSteps := 4000000, implicitDefEqProofs := false}) (disch := omega) only [go_sem, ↓reduceIte, Nat.reduceAdd, Nat.reduceSub, Nat.reduceMul, Nat.reduceLeDiff, Nat.reduceLT, Int.reduceEq, Int.reduceNe, Int.reduceLT, Int.reduceLE, Int.reduceAdd, Int.reduceSub, Int.reduceMul, Int.reduceNeg, Nat.zero_add, Nat.add_zero, Nat.mul_one, Int.toNat_natCast, Int.natCast_zero, Int.cast_ofNat_Int, or_false, false_or, or_true, true_or, Int.reduceToNat, Nat.sub_zero, Int.natCast_nonneg, Int.toNat_zero, Bool.true_and, Bool.and_true, Bool.false_and, Bool.and_false, Bool.true_or, Bool.or_true, Bool.false_or, Bool.or_false, Bool.not_true, Bool.not_false, Bool.not_not, true_and, and_true, false_and, and_false, not_true_eq_false, not_false_eq_true, eq_self, decide_true, decide_false, ne_eq, implies_true, forall_const, true_implies, false_implies, Bool.true_eq_false, Bool.false_eq_true, reduceCtorEq, List.map_cons, List.map_nil, List.all_cons, List.all_nil, List.length_cons, List.length_nil, List.length_map, List.length_append, List.nil_append, List.cons_append, List.set_cons_zero, List.set_cons_succ, List.set_nil, List.drop_zero, List.drop_succ_cons, List.drop_nil, List.take_zero, List.take_succ_cons, List.take_nil, Option.map_some, Option.map_none, Option.isSome_some, Nat.reduceEqDiff, Nat.reduceBEq, Nat.reduceGT, List.all_append, List.all_map, Function.comp_def, decide_eq_true_eq, Bool.and_eq_true, beq_self_eq_true, or_self, and_self, ite_true, ite_false, Nat.le_refl, Bool.not_eq_true, decide_not, Bool.not_eq_true', decide_eq_false_iff_not, Bool.not_eq_false, Bool.or_eq_true, if_true, if_false, ite_self, hI, hF, hp', hlt', natInt, u_nthM, sn_it, sn_allA, zcS_eq, zS_len, zS_lt1, ss_zs, stC_len, st_ltA, st_sure, st_lt1, st_all1, st_ro, st_take35, stA_def, hq, snap_At_r1_eq, snap_At_r2_eq]
      · simp (config := {maxSteps := 4000000, implicitDefEqProofs := false}) (disch := omega) only [go_sem, ↓reduceIte, Nat.reduceAdd, Nat.reduceSub, Nat.reduceMul, Nat.reduceLeDiff, Nat.reduceLT, Int.reduceEq, Int.reduceNe, Int.reduceLT, Int.reduceLE, Int.reduceAdd, Int.reduceSub, Int.reduceMul, Int.reduceNeg, Nat.zero_add, Nat.add_zero, Nat.mul_one, Int.toNat_natCast, Int.natCast_zero, Int.cast_ofNat_Int, or_false, false_or, or_true, true_or, Int.reduceToNat, Nat.sub_zero, Int.natCast_nonneg, Int.toNat_zero, Bool.true_and, Bool.and_true, Bool.false_and, Bool.and_false, Bool.true_or, Bool.or_true, Bool.false_or, Bool.or_false, Bool.not_true, Bool.not_false, Bool.not_not, true_and, and_true, false_and, and_false, not_true_eq_false, not_false_eq_true, eq_self, decide_true, decide_false, ne_eq, implies_true, forall_const, true_implies, false_implies, Bool.true_eq_false, Bool.false_eq_true, reduceCtorEq, List.map_cons, List.map_nil, List.all_cons, List.all_nil, List.length_cons, List.length_nil, List.length_map, List.length_append, List.nil_append, List.cons_append, List.set_cons_zero, List.set_cons_succ, List.set_nil, List.drop_zero, List.drop_succ_cons, List.drop_nil, List.take_zero, List.take_succ_cons, List.take_nil, Option.map_some, Option.map_none, Option.isSome_some, Nat.reduceEqDiff, Nat.reduceBEq, Nat.reduceGT, List.all_append, List.all_map, Function.comp_def, decide_eq_true_eq, Bool.and_eq_true, beq_self_eq_true, or_self, and_self, ite_true, ite_false, Nat.le_refl, Bool.not_eq_true, decide_not, Bool.not_eq_true', decide_eq_false_iff_not, Bool.not_eq_false, Bool.or_eq_true, if_true, if_false, ite_self, hI, hF, hp', hlt', natInt, u_nthM, sn_it, sn_allA, zcS_eq, zS_len, zS_sure, zS_ltA, zS_lt1, zS_all1, zS_ro, zS_take, ss_zz, u_bS0, stA_def, stC_len, st_ltA, hq, snap_At_r1_eq]
def ratL (l : List Sn) (q : Int) : Int := match l.findIdx? fun x => decide (x.seq = q) with
  | none => -1
  | some i => i
theorem rat14_s (m : Nat) (l : List Sn) (q : Int) (hm : l.length < m) (hl : l.length ≤ 100) : plenumref14_At m (lS l) (nA q) = some (nA (ratL l q), []) := by
  rw [plenumref14_At_eq, lS_def]
  refine iter_go (ι := {k : Nat // k ≤ l.length ∧ ∀ x ∈ l.take k, x.seq ≠ q}) (fun k => ⟨[], [(0, SL (l.map snE)), (1, nA q), (5, nA k.1)]⟩) (fun k => l.length - k.1) (fun _ => some (nA (ratL l q), [])) ?_ ⟨0, Nat.zero_le _, by simp⟩ (by dsimp only; omega)
  rintro kx hkx ⟨k, hk, hall⟩ kc hkc
  dsimp only at hkc ⊢
  rw [plenumref14_At_b1_eq]
  by_cases hlt : k < l.length
  · have hlt' : (k : Int) < (l.length : Int) := by omega
    by_cases hq : l[k].seq = q
    · have hr : ratL l q = k := by
        unfold ratL
        rw [List.findIdx?_eq_some_iff_getElem.2 ⟨hlt, by simp [hq], fun j hj => by
          have := hall l[j] (List.mem_take_iff_getElem.2 ⟨j, by omega, rfl⟩)
          simp [this]⟩]
      rw [hr]
      simp (config := {maxSteps := 4000000, implicitDefEqProofs := false}) (disch := omega) only [go_sem, ↓reduceIte, Nat.reduceAdd, Nat.reduceSub, Nat.reduceMul, Nat.reduceLeDiff, Nat.reduceLT, Int.reduceEq, Int.reduceNe, Int.reduceLT, Int.reduceLE, Int.reduceAdd, Int.reduceSub, Int.reduceMul, Int.reduceNeg, Nat.zero_add, Nat.add_zero, Nat.mul_one, Int.toNat_natCast, Int.natCast_zero, Int.cast_ofNat_Int, or_false, false_or, or_true, true_or, Int.reduceToNat, Nat.sub_zero, Int.natCast_nonneg, Int.toNat_zero, Bool.true_and, Bool.and_true, Bool.false_and, Bool.and_false, Bool.true_or, Bool.or_true, Bool.false_or, Bool.or_false, Bool.not_true, Bool.not_false, Bool.not_not, true_and, and_true, false_and, and_false, not_true_eq_false, not_false_eq_true, eq_self, decide_true, decide_false, ne_eq, implies_true, forall_const, true_implies, false_implies, Bool.true_eq_false, Bool.false_eq_true, reduceCtorEq, List.map_cons, List.map_nil, List.all_cons, List.all_nil, List.length_cons, List.length_nil, List.length_map, List.length_append, List.nil_append, List.cons_append, List.set_cons_zero, List.set_cons_succ, List.set_nil, List.drop_zero, List.drop_succ_cons, List.drop_nil, List.take_zero, List.take_succ_cons, List.take_nil, Option.map_some, Option.map_none, Option.isSome_some, Nat.reduceEqDiff, Nat.reduceBEq, Nat.reduceGT, List.all_append, List.all_map, Function.comp_def, decide_eq_true_eq, Bool.and_eq_true, beq_self_eq_true, or_self, and_self, ite_true, ite_false, Nat.le_refl, Bool.not_eq_true, decide_not, Bool.not_eq_true', decide_eq_false_iff_not, Bool.not_eq_false, Bool.or_eq_true, if_true, if_false, ite_self, hkx, hlt', natInt, u_nthM, sn_it, stC_len, hq]
    · have step := hkc ⟨k + 1, by omega, fun x hx => by
        rw [List.take_succ_eq_append_getElem hlt] at hx
        rcases List.mem_append.1 hx with e | e
        · exact hall x e
        · rw [List.mem_singleton.1 e]; exact hq⟩ (by dsimp only; omega)
      simp (config := {maxSteps := 4000000, implicitDefEqProofs := false}) (disch := omega) only [go_sem, ↓reduceIte, Nat.reduceAdd, Nat.reduceSub, Nat.reduceMul, Nat.reduceLeDiff, Nat.reduceLT, Int.reduceEq, Int.reduceNe, Int.reduceLT, Int.reduceLE, Int.reduceAdd, Int.reduceSub, Int.reduceMul, Int.reduceNeg, Nat.zero_add, Nat.add_zero, Nat.mul_one, Int.toNat_natCast, Int.natCast_zero, Int.cast_ofNat_Int, or_false, false_or, or_true, true_or, Int.reduceToNat, Nat.sub_zero, Int.natCast_nonneg, Int.toNat_zero, Bool.true_and, Bool.and_true, Bool.false_and, Bool.and_false, Bool.true_or, Bool.or_true, Bool.false_or, Bool.or_false, Bool.not_true, Bool.not_false, Bool.not_not, true_and, and_true, false_and, and_false, not_true_eq_false, not_false_eq_true, eq_self, decide_true, decide_false, ne_eq, implies_true, forall_const, true_implies, false_implies, Bool.true_eq_false, Bool.false_eq_true, reduceCtorEq, List.map_cons, List.map_nil, List.all_cons, List.all_nil, List.length_cons, List.length_nil, List.length_map, List.length_append, List.nil_append, List.cons_append, List.set_cons_zero, List.set_cons_succ, List.set_nil, List.drop_zero, List.drop_succ_cons, List.drop_nil, List.take_zero, List.take_succ_cons, List.take_nil, Option.map_some, Option.map_none, Option.isSome_some, Nat.reduceEqDiff, Nat.reduceBEq, Nat.reduceGT, List.all_append, List.all_map, Function.comp_def, decide_eq_true_eq, Bool.and_eq_true, beq_self_eq_true, or_self, and_self, ite_true, ite_false, Nat.le_refl, Bool.not_eq_true, decide_not, Bool.not_eq_true', decide_eq_false_iff_not, Bool.not_eq_false, Bool.or_eq_true, if_true, if_false, ite_self, hlt', natInt, u_nthM, sn_it, stC_len, hq, w_i64, sn_allA, st_ltA, all_tt]
      exact step
  · have hlt' : ¬ (k : Int) < (l.length : Int) := by omega
    have : k = l.length := by omega
    subst this
    have hr : ratL l q = -1 := by
      unfold ratL
      rw [List.findIdx?_eq_none_iff.2 (fun x hx => by have := hall x (by rw [List.take_length]; exact hx); simp [this])]
    rw [hr]
    simp (config := {maxSteps := 4000000, implicitDefEqProofs := false}) (disch := omega) only [go_sem, ↓reduceIte, Nat.reduceAdd, Nat.reduceSub, Nat.reduceMul, Nat.reduceLeDiff, Nat.reduceLT, Int.reduceEq, Int.reduceNe, Int.reduceLT, Int.reduceLE, Int.reduceAdd, Int.reduceSub, Int.reduceMul, Int.reduceNeg, Nat.zero_add, Nat.add_zero, Nat.mul_one, Int.toNat_natCast, Int.natCast_zero, Int.cast_ofNat_Int, or_false, false_or, or_true, true_or, Int.reduceToNat, Nat.sub_zero, Int.natCast_nonneg, Int.toNat_zero, Bool.true_and, Bool.and_true, Bool.false_and, Bool.and_false, Bool.true_or, Bool.or_true, Bool.false_or, Bool.or_false, Bool.not_true, Bool.not_false, Bool.not_not, true_and, and_true, false_and, and_false, not_true_eq_false, not_false_eq_true, eq_self, decide_true, decide_false, ne_eq, implies_true, forall_const, true_implies, false_implies, Bool.true_eq_false, Bool.false_eq_true, reduceCtorEq, List.map_cons, List.map_nil, List.all_cons, List.all_nil, List.length_cons, List.length_nil, List.length_map, List.length_append, List.nil_append, List.cons_append, List.set_cons_zero, List.set_cons_succ, List.set_nil, List.drop_zero, List.drop_succ_cons, List.drop_nil, List.take_zero, List.take_succ_cons, List.take_nil, Option.map_some, Option.map_none, Option.isSome_some, Nat.reduceEqDiff, Nat.reduceBEq, Nat.reduceGT, List.all_append, List.all_map, Function.comp_def, decide_eq_true_eq, Bool.and_eq_true, beq_self_eq_true, or_self, and_self, ite_true, ite_false, Nat.le_refl, Bool.not_eq_true, decide_not, Bool.not_eq_true', decide_eq_false_iff_not, Bool.not_eq_false, Bool.or_eq_true, if_true, if_false, ite_self, hkx, hlt', plenumref14_At_r1_eq]
end Go.Proofs.YtopifabnobplcaaDoor
