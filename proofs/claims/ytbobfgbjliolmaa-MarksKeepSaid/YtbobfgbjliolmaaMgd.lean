/-
  Texts laid together, part 4 of 5: laws of a walk over data, contracts of functions, each whole by itself.
-/
import Derived.Test.YtbobfgbjliolmaaMgc
import Derived.WalkKit
import Derived.KernelRfl
import Derived.Laws.Bits64
import Derived.Laws.Bits64b
import Derived.Laws.Bits128
namespace Go.Proofs.Ytbobfgbjliolmaa
open Go.RowKit
set_option linter.unusedVariables false
set_option linter.unusedSimpArgs false
set_option maxRecDepth 20000
theorem natInt (k : Nat) : ((k : Int)).toNat = k := Int.toNat_natCast k
theorem u_addS {R : Type} {X : AV} {Y H : List AObj} {K : AV → List AObj → Option R} : addE (some (X, Y)) H K = K X (H ++ Y) := _root_.id rfl
structure Mk where
  fr : Int
  sq : Int
  tm : Int
deriving DecidableEq
structure Ms where
  low : Int
  root : Int
  l : List Mk
deriving DecidableEq
def Mk.zero : Mk := ⟨0, 0, 0⟩
def mC (x : Mk) : List AV := [nA x.fr, nA x.sq, nA x.tm]
def mE (x : Mk) : AV := .agg (mC x)
def MC (s : Ms) : List AV := [nA s.low, nA s.root, SL (s.l.map mE)]
def ME (s : Ms) : AV := .agg (MC s)
theorem mE_it (x : Mk) : mE x = .agg (mC x) := _root_.id rfl
theorem ME_it (s : Ms) : ME s = .agg (MC s) := _root_.id rfl
section
variable {R : Type} {x y : Mk} {s t : Ms} {n : Nat} {H : List AObj} {K1 : AV → Option R} {a b : Int} {l : List Mk}
theorem mc_len : (mC x).length = 3 := _root_.id rfl
theorem mc_sure : (mC x).all sure = true := _root_.id rfl
theorem mc_ltA : (mC x).all (ltA n) = true := _root_.id rfl
theorem mc_lt1 : (mC x).all (lt1 n) = true := _root_.id rfl
theorem mc_all1 : ((mC x).all fun y => lt1 n (ro1 H y)) = true := _root_.id rfl
theorem mc_ro : (mC x).map (ro1 H) = mC x := _root_.id rfl
theorem mc_take : (mC x).take 3 = mC x := _root_.id rfl
theorem mc_sl : ((mC x).all fun y => sure y && lt1 n y) = true := _root_.id rfl
theorem mc_set : setCells (mC y) 0 (mC x) = mC x := _root_.id rfl
theorem mc_fr : nthE (mC x) 0 K1 = K1 (nA x.fr) := _root_.id rfl
theorem mc_sq : nthE (mC x) 1 K1 = K1 (nA x.sq) := _root_.id rfl
theorem mc_tm : nthE (mC x) 2 K1 = K1 (nA x.tm) := _root_.id rfl
theorem zcM_eq : zc_api_Mark = mC Mk.zero := _root_.id rfl
theorem ms_len : (MC s).length = 3 := _root_.id rfl
theorem ms_sure : (MC s).all sure = true := _root_.id rfl
theorem ms_ltA : (MC s).all (ltA n) = true := _root_.id rfl
theorem ms_lt1 : (MC s).all (lt1 n) = true := _root_.id rfl
theorem ms_all1 : ((MC s).all fun y => lt1 n (ro1 H y)) = true := _root_.id rfl
theorem ms_ro : (MC s).map (ro1 H) = MC s := _root_.id rfl
theorem ms_take : (MC s).take 3 = MC s := _root_.id rfl
theorem ms_set : setCells (MC t) 0 (MC s) = MC s := _root_.id rfl
theorem ms_setL : setCells (MC s) 2 [SL (l.map mE)] = MC ⟨s.low, s.root, l⟩ := _root_.id rfl
theorem ms_low : nthE (MC s) 0 K1 = K1 (nA s.low) := _root_.id rfl
theorem ms_root : nthE (MC s) 1 K1 = K1 (nA s.root) := _root_.id rfl
theorem ms_l : nthE (MC s) 2 K1 = K1 (SL (s.l.map mE)) := _root_.id rfl
def MZ : Ms := ⟨0, 0, []⟩
theorem zs_len : zc_api_Marks.length = 3 := _root_.id rfl
theorem zs_sure : zc_api_Marks.all sure = true := _root_.id rfl
theorem zs_ltA : zc_api_Marks.all (lt1 n) = true := _root_.id rfl
theorem zs_ro : zc_api_Marks.map (ro1 H) = MC MZ := _root_.id rfl
theorem zs_set : setCells zc_api_Marks 0 zc_api_Marks = zc_api_Marks := _root_.id rfl
theorem zs_set2 : setCells zc_api_Marks 0 (MC s) = MC s := _root_.id rfl
theorem zs_take : zc_api_Marks.take 3 = zc_api_Marks := _root_.id rfl
theorem zs_b : buildE (some pl_api_Marks) (some zc_api_Marks) [] K1 = K1 (.agg zc_api_Marks) := _root_.id rfl
theorem ms_b : buildE (some pl_api_Marks) (some zc_api_Marks) [(0, nA a), (1, nA b), (2, SL (l.map mE))] K1 = K1 (.agg (MC ⟨a, b, l⟩)) := _root_.id rfl
theorem me_ltA {l : List Mk} : (l.all fun x => ltA n (mE x)) = true := List.all_eq_true.2 fun _ _ => rfl
theorem me_len3 {l : List Mk} : (l.all fun x => decide ((cellsOf (mE x)).length = 3)) = true := List.all_eq_true.2 fun _ _ => rfl
end
def numB (v : Int) : Bool := decide (0 ≤ v) && decide (v ≤ 2147483647)
def dueB (q : Int) : Bool := decide (0 < q) && decide (q % 4 = 0)
def inB (low q : Int) : Bool := decide (low < q) && (decide (q - low ≤ 16) && decide (q ≤ 2147483647))
def ordI (a b : Mk) : Int := if a.sq = b.sq then a.fr - b.fr else a.sq - b.sq
def aheadB (a b : Mk) : Bool := decide (a.sq < b.sq) || (decide (a.sq = b.sq) && decide (a.fr < b.fr))
theorem number_s (m : Nat) (v : Int) : marks_number m (nA v) = some (bA (numB v), []) := by
  rw [marks_number_eq]
  unfold numB
  by_cases h1 : 0 ≤ v
  · simp (config := {maxSteps := 4000000, implicitDefEqProofs := false}) (disch := omega) only [go_sem, ↓reduceIte, Nat.reduceAdd, Nat.reduceSub, Nat.reduceMul, Nat.reduceLeDiff, Nat.reduceLT, Int.reduceEq, Int.reduceNe, Int.reduceLT, Int.reduceLE, Int.reduceAdd, Int.reduceSub, Int.reduceMul, Int.reduceNeg, Nat.zero_add, Nat.add_zero, Nat.mul_one, Int.toNat_natCast, Int.natCast_zero, Int.cast_ofNat_Int, or_false, false_or, or_true, true_or, Int.reduceToNat, Nat.sub_zero, Int.natCast_nonneg, Int.toNat_zero, Bool.true_and, Bool.and_true, Bool.false_and, Bool.and_false, Bool.true_or, Bool.or_true, Bool.false_or, Bool.or_false, Bool.not_true, Bool.not_false, Bool.not_not, true_and, and_true, false_and, and_false, not_true_eq_false, not_false_eq_true, eq_self, decide_true, decide_false, ne_eq, implies_true, forall_const, true_implies, false_implies, Bool.true_eq_false, Bool.false_eq_true, reduceCtorEq, List.map_cons, List.map_nil, List.all_cons, List.all_nil, List.length_cons, List.length_nil, List.length_map, List.length_append, List.nil_append, List.cons_append, List.set_cons_zero, List.set_cons_succ, List.set_nil, List.drop_zero, List.drop_succ_cons, List.drop_nil, List.take_zero, List.take_succ_cons, List.take_nil, Option.map_some, Option.map_none, Option.isSome_some, Nat.reduceEqDiff, Nat.reduceBEq, Nat.reduceGT, List.all_append, List.all_map, Function.comp_def, decide_eq_true_eq, Bool.and_eq_true, beq_self_eq_true, or_self, and_self, ite_true, ite_false, Nat.le_refl, Bool.not_eq_true, decide_not, Bool.not_eq_true', decide_eq_false_iff_not, Bool.not_eq_false, Bool.or_eq_true, if_true, if_false, ite_self, h1]
  · simp (config := {maxSteps := 4000000, implicitDefEqProofs := false}) (disch := omega) only [go_sem, ↓reduceIte, Nat.reduceAdd, Nat.reduceSub, Nat.reduceMul, Nat.reduceLeDiff, Nat.reduceLT, Int.reduceEq, Int.reduceNe, Int.reduceLT, Int.reduceLE, Int.reduceAdd, Int.reduceSub, Int.reduceMul, Int.reduceNeg, Nat.zero_add, Nat.add_zero, Nat.mul_one, Int.toNat_natCast, Int.natCast_zero, Int.cast_ofNat_Int, or_false, false_or, or_true, true_or, Int.reduceToNat, Nat.sub_zero, Int.natCast_nonneg, Int.toNat_zero, Bool.true_and, Bool.and_true, Bool.false_and, Bool.and_false, Bool.true_or, Bool.or_true, Bool.false_or, Bool.or_false, Bool.not_true, Bool.not_false, Bool.not_not, true_and, and_true, false_and, and_false, not_true_eq_false, not_false_eq_true, eq_self, decide_true, decide_false, ne_eq, implies_true, forall_const, true_implies, false_implies, Bool.true_eq_false, Bool.false_eq_true, reduceCtorEq, List.map_cons, List.map_nil, List.all_cons, List.all_nil, List.length_cons, List.length_nil, List.length_map, List.length_append, List.nil_append, List.cons_append, List.set_cons_zero, List.set_cons_succ, List.set_nil, List.drop_zero, List.drop_succ_cons, List.drop_nil, List.take_zero, List.take_succ_cons, List.take_nil, Option.map_some, Option.map_none, Option.isSome_some, Nat.reduceEqDiff, Nat.reduceBEq, Nat.reduceGT, List.all_append, List.all_map, Function.comp_def, decide_eq_true_eq, Bool.and_eq_true, beq_self_eq_true, or_self, and_self, ite_true, ite_false, Nat.le_refl, Bool.not_eq_true, decide_not, Bool.not_eq_true', decide_eq_false_iff_not, Bool.not_eq_false, Bool.or_eq_true, if_true, if_false, ite_self, h1]
theorem due_s (m : Nat) (q : Int) : marks_Due m (nA q) = some (bA (dueB q), []) := by
  rw [marks_Due_eq]
  unfold dueB
  by_cases h1 : 0 < q
  · have h2 : q.tmod 4 = q % 4 := tmod_pos (by omega)
    simp (config := {maxSteps := 4000000, implicitDefEqProofs := false}) (disch := omega) only [go_sem, ↓reduceIte, Nat.reduceAdd, Nat.reduceSub, Nat.reduceMul, Nat.reduceLeDiff, Nat.reduceLT, Int.reduceEq, Int.reduceNe, Int.reduceLT, Int.reduceLE, Int.reduceAdd, Int.reduceSub, Int.reduceMul, Int.reduceNeg, Nat.zero_add, Nat.add_zero, Nat.mul_one, Int.toNat_natCast, Int.natCast_zero, Int.cast_ofNat_Int, or_false, false_or, or_true, true_or, Int.reduceToNat, Nat.sub_zero, Int.natCast_nonneg, Int.toNat_zero, Bool.true_and, Bool.and_true, Bool.false_and, Bool.and_false, Bool.true_or, Bool.or_true, Bool.false_or, Bool.or_false, Bool.not_true, Bool.not_false, Bool.not_not, true_and, and_true, false_and, and_false, not_true_eq_false, not_false_eq_true, eq_self, decide_true, decide_false, ne_eq, implies_true, forall_const, true_implies, false_implies, Bool.true_eq_false, Bool.false_eq_true, reduceCtorEq, List.map_cons, List.map_nil, List.all_cons, List.all_nil, List.length_cons, List.length_nil, List.length_map, List.length_append, List.nil_append, List.cons_append, List.set_cons_zero, List.set_cons_succ, List.set_nil, List.drop_zero, List.drop_succ_cons, List.drop_nil, List.take_zero, List.take_succ_cons, List.take_nil, Option.map_some, Option.map_none, Option.isSome_some, Nat.reduceEqDiff, Nat.reduceBEq, Nat.reduceGT, List.all_append, List.all_map, Function.comp_def, decide_eq_true_eq, Bool.and_eq_true, beq_self_eq_true, or_self, and_self, ite_true, ite_false, Nat.le_refl, Bool.not_eq_true, decide_not, Bool.not_eq_true', decide_eq_false_iff_not, Bool.not_eq_false, Bool.or_eq_true, if_true, if_false, ite_self, h1, h2]
  · simp (config := {maxSteps := 4000000, implicitDefEqProofs := false}) (disch := omega) only [go_sem, ↓reduceIte, Nat.reduceAdd, Nat.reduceSub, Nat.reduceMul, Nat.reduceLeDiff, Nat.reduceLT, Int.reduceEq, Int.reduceNe, Int.reduceLT, Int.reduceLE, Int.reduceAdd, Int.reduceSub, Int.reduceMul, Int.reduceNeg, Nat.zero_add, Nat.add_zero, Nat.mul_one, Int.toNat_natCast, Int.natCast_zero, Int.cast_ofNat_Int, or_false, false_or, or_true, true_or, Int.reduceToNat, Nat.sub_zero, Int.natCast_nonneg, Int.toNat_zero, Bool.true_and, Bool.and_true, Bool.false_and, Bool.and_false, Bool.true_or, Bool.or_true, Bool.false_or, Bool.or_false, Bool.not_true, Bool.not_false, Bool.not_not, true_and, and_true, false_and, and_false, not_true_eq_false, not_false_eq_true, eq_self, decide_true, decide_false, ne_eq, implies_true, forall_const, true_implies, false_implies, Bool.true_eq_false, Bool.false_eq_true, reduceCtorEq, List.map_cons, List.map_nil, List.all_cons, List.all_nil, List.length_cons, List.length_nil, List.length_map, List.length_append, List.nil_append, List.cons_append, List.set_cons_zero, List.set_cons_succ, List.set_nil, List.drop_zero, List.drop_succ_cons, List.drop_nil, List.take_zero, List.take_succ_cons, List.take_nil, Option.map_some, Option.map_none, Option.isSome_some, Nat.reduceEqDiff, Nat.reduceBEq, Nat.reduceGT, List.all_append, List.all_map, Function.comp_def, decide_eq_true_eq, Bool.and_eq_true, beq_self_eq_true, or_self, and_self, ite_true, ite_false, Nat.le_refl, Bool.not_eq_true, decide_not, Bool.not_eq_true', decide_eq_false_iff_not, Bool.not_eq_false, Bool.or_eq_true, if_true, if_false, ite_self, h1]
theorem in_s (m : Nat) (low q : Int) (h0 : 0 ≤ low) (hq : q < 9223372036854775808) : marks_in m (nA low) (nA q) = some (bA (inB low q), []) := by
  rw [marks_in_eq]
  unfold inB
  by_cases h1 : low < q
  · by_cases h2 : q - low ≤ 16
    · simp (config := {maxSteps := 4000000, implicitDefEqProofs := false}) (disch := omega) only [go_sem, ↓reduceIte, Nat.reduceAdd, Nat.reduceSub, Nat.reduceMul, Nat.reduceLeDiff, Nat.reduceLT, Int.reduceEq, Int.reduceNe, Int.reduceLT, Int.reduceLE, Int.reduceAdd, Int.reduceSub, Int.reduceMul, Int.reduceNeg, Nat.zero_add, Nat.add_zero, Nat.mul_one, Int.toNat_natCast, Int.natCast_zero, Int.cast_ofNat_Int, or_false, false_or, or_true, true_or, Int.reduceToNat, Nat.sub_zero, Int.natCast_nonneg, Int.toNat_zero, Bool.true_and, Bool.and_true, Bool.false_and, Bool.and_false, Bool.true_or, Bool.or_true, Bool.false_or, Bool.or_false, Bool.not_true, Bool.not_false, Bool.not_not, true_and, and_true, false_and, and_false, not_true_eq_false, not_false_eq_true, eq_self, decide_true, decide_false, ne_eq, implies_true, forall_const, true_implies, false_implies, Bool.true_eq_false, Bool.false_eq_true, reduceCtorEq, List.map_cons, List.map_nil, List.all_cons, List.all_nil, List.length_cons, List.length_nil, List.length_map, List.length_append, List.nil_append, List.cons_append, List.set_cons_zero, List.set_cons_succ, List.set_nil, List.drop_zero, List.drop_succ_cons, List.drop_nil, List.take_zero, List.take_succ_cons, List.take_nil, Option.map_some, Option.map_none, Option.isSome_some, Nat.reduceEqDiff, Nat.reduceBEq, Nat.reduceGT, List.all_append, List.all_map, Function.comp_def, decide_eq_true_eq, Bool.and_eq_true, beq_self_eq_true, or_self, and_self, ite_true, ite_false, Nat.le_refl, Bool.not_eq_true, decide_not, Bool.not_eq_true', decide_eq_false_iff_not, Bool.not_eq_false, Bool.or_eq_true, if_true, if_false, ite_self, h1, h2, w_i64]
    · simp (config := {maxSteps := 4000000, implicitDefEqProofs := false}) (disch := omega) only [go_sem, ↓reduceIte, Nat.reduceAdd, Nat.reduceSub, Nat.reduceMul, Nat.reduceLeDiff, Nat.reduceLT, Int.reduceEq, Int.reduceNe, Int.reduceLT, Int.reduceLE, Int.reduceAdd, Int.reduceSub, Int.reduceMul, Int.reduceNeg, Nat.zero_add, Nat.add_zero, Nat.mul_one, Int.toNat_natCast, Int.natCast_zero, Int.cast_ofNat_Int, or_false, false_or, or_true, true_or, Int.reduceToNat, Nat.sub_zero, Int.natCast_nonneg, Int.toNat_zero, Bool.true_and, Bool.and_true, Bool.false_and, Bool.and_false, Bool.true_or, Bool.or_true, Bool.false_or, Bool.or_false, Bool.not_true, Bool.not_false, Bool.not_not, true_and, and_true, false_and, and_false, not_true_eq_false, not_false_eq_true, eq_self, decide_true, decide_false, ne_eq, implies_true, forall_const, true_implies, false_implies, Bool.true_eq_false, Bool.false_eq_true, reduceCtorEq, List.map_cons, List.map_nil, List.all_cons, List.all_nil, List.length_cons, List.length_nil, List.length_map, List.length_append, List.nil_append, List.cons_append, List.set_cons_zero, List.set_cons_succ, List.set_nil, List.drop_zero, List.drop_succ_cons, List.drop_nil, List.take_zero, List.take_succ_cons, List.take_nil, Option.map_some, Option.map_none, Option.isSome_some, Nat.reduceEqDiff, Nat.reduceBEq, Nat.reduceGT, List.all_append, List.all_map, Function.comp_def, decide_eq_true_eq, Bool.and_eq_true, beq_self_eq_true, or_self, and_self, ite_true, ite_false, Nat.le_refl, Bool.not_eq_true, decide_not, Bool.not_eq_true', decide_eq_false_iff_not, Bool.not_eq_false, Bool.or_eq_true, if_true, if_false, ite_self, h1, h2, w_i64]
  · simp (config := {maxSteps := 4000000, implicitDefEqProofs := false}) (disch := omega) only [go_sem, ↓reduceIte, Nat.reduceAdd, Nat.reduceSub, Nat.reduceMul, Nat.reduceLeDiff, Nat.reduceLT, Int.reduceEq, Int.reduceNe, Int.reduceLT, Int.reduceLE, Int.reduceAdd, Int.reduceSub, Int.reduceMul, Int.reduceNeg, Nat.zero_add, Nat.add_zero, Nat.mul_one, Int.toNat_natCast, Int.natCast_zero, Int.cast_ofNat_Int, or_false, false_or, or_true, true_or, Int.reduceToNat, Nat.sub_zero, Int.natCast_nonneg, Int.toNat_zero, Bool.true_and, Bool.and_true, Bool.false_and, Bool.and_false, Bool.true_or, Bool.or_true, Bool.false_or, Bool.or_false, Bool.not_true, Bool.not_false, Bool.not_not, true_and, and_true, false_and, and_false, not_true_eq_false, not_false_eq_true, eq_self, decide_true, decide_false, ne_eq, implies_true, forall_const, true_implies, false_implies, Bool.true_eq_false, Bool.false_eq_true, reduceCtorEq, List.map_cons, List.map_nil, List.all_cons, List.all_nil, List.length_cons, List.length_nil, List.length_map, List.length_append, List.nil_append, List.cons_append, List.set_cons_zero, List.set_cons_succ, List.set_nil, List.drop_zero, List.drop_succ_cons, List.drop_nil, List.take_zero, List.take_succ_cons, List.take_nil, Option.map_some, Option.map_none, Option.isSome_some, Nat.reduceEqDiff, Nat.reduceBEq, Nat.reduceGT, List.all_append, List.all_map, Function.comp_def, decide_eq_true_eq, Bool.and_eq_true, beq_self_eq_true, or_self, and_self, ite_true, ite_false, Nat.le_refl, Bool.not_eq_true, decide_not, Bool.not_eq_true', decide_eq_false_iff_not, Bool.not_eq_false, Bool.or_eq_true, if_true, if_false, ite_self, h1]
def Mk.Sm (x : Mk) : Prop := (0 ≤ x.fr ∧ x.fr < 64) ∧ 0 < x.sq ∧ x.sq ≤ 2147483647
theorem u_bs2 {R : Type} {t : TypeId} {a b : Int} {K1 : AV → Option R} : buildSE (some (t, 1)) 2 [(0, V (.int .i64 a)), (1, V (.int .i64 b))] K1 = K1 (SL [nA a, nA b]) := by
  simp [buildSE, whenE]
  rfl
theorem or_s (m : Nat) (a b : Int) (hm : 2 < m) : cmp_Or_int m (SL [nA a, nA b]) = some (nA (if a = 0 then b else a), []) := by
  rw [cmp_Or_int_eq]
  obtain ⟨m, rfl⟩ : ∃ k, m = k + 1 + 1 + 1 := ⟨m - 3, by omega⟩
  by_cases h1 : a = 0
  · subst h1
    by_cases h2 : b = 0
    · subst h2
      simp (config := {maxSteps := 4000000, implicitDefEqProofs := false}) (disch := omega) only [go_sem, ↓reduceIte, Nat.reduceAdd, Nat.reduceSub, Nat.reduceMul, Nat.reduceLeDiff, Nat.reduceLT, Int.reduceEq, Int.reduceNe, Int.reduceLT, Int.reduceLE, Int.reduceAdd, Int.reduceSub, Int.reduceMul, Int.reduceNeg, Nat.zero_add, Nat.add_zero, Nat.mul_one, Int.toNat_natCast, Int.natCast_zero, Int.cast_ofNat_Int, or_false, false_or, or_true, true_or, Int.reduceToNat, Nat.sub_zero, Int.natCast_nonneg, Int.toNat_zero, Bool.true_and, Bool.and_true, Bool.false_and, Bool.and_false, Bool.true_or, Bool.or_true, Bool.false_or, Bool.or_false, Bool.not_true, Bool.not_false, Bool.not_not, true_and, and_true, false_and, and_false, not_true_eq_false, not_false_eq_true, eq_self, decide_true, decide_false, ne_eq, implies_true, forall_const, true_implies, false_implies, Bool.true_eq_false, Bool.false_eq_true, reduceCtorEq, List.map_cons, List.map_nil, List.all_cons, List.all_nil, List.length_cons, List.length_nil, List.length_map, List.length_append, List.nil_append, List.cons_append, List.set_cons_zero, List.set_cons_succ, List.set_nil, List.drop_zero, List.drop_succ_cons, List.drop_nil, List.take_zero, List.take_succ_cons, List.take_nil, Option.map_some, Option.map_none, Option.isSome_some, Nat.reduceEqDiff, Nat.reduceBEq, Nat.reduceGT, List.all_append, List.all_map, Function.comp_def, decide_eq_true_eq, Bool.and_eq_true, beq_self_eq_true, or_self, and_self, ite_true, ite_false, Nat.le_refl, Bool.not_eq_true, decide_not, Bool.not_eq_true', decide_eq_false_iff_not, Bool.not_eq_false, Bool.or_eq_true, if_true, if_false, ite_self, iterC, cmp_Or_int_b1_eq, cmp_Or_int_r1_eq, w_i64]
    · simp (config := {maxSteps := 4000000, implicitDefEqProofs := false}) (disch := omega) only [go_sem, ↓reduceIte, Nat.reduceAdd, Nat.reduceSub, Nat.reduceMul, Nat.reduceLeDiff, Nat.reduceLT, Int.reduceEq, Int.reduceNe, Int.reduceLT, Int.reduceLE, Int.reduceAdd, Int.reduceSub, Int.reduceMul, Int.reduceNeg, Nat.zero_add, Nat.add_zero, Nat.mul_one, Int.toNat_natCast, Int.natCast_zero, Int.cast_ofNat_Int, or_false, false_or, or_true, true_or, Int.reduceToNat, Nat.sub_zero, Int.natCast_nonneg, Int.toNat_zero, Bool.true_and, Bool.and_true, Bool.false_and, Bool.and_false, Bool.true_or, Bool.or_true, Bool.false_or, Bool.or_false, Bool.not_true, Bool.not_false, Bool.not_not, true_and, and_true, false_and, and_false, not_true_eq_false, not_false_eq_true, eq_self, decide_true, decide_false, ne_eq, implies_true, forall_const, true_implies, false_implies, Bool.true_eq_false, Bool.false_eq_true, reduceCtorEq, List.map_cons, List.map_nil, List.all_cons, List.all_nil, List.length_cons, List.length_nil, List.length_map, List.length_append, List.nil_append, List.cons_append, List.set_cons_zero, List.set_cons_succ, List.set_nil, List.drop_zero, List.drop_succ_cons, List.drop_nil, List.take_zero, List.take_succ_cons, List.take_nil, Option.map_some, Option.map_none, Option.isSome_some, Nat.reduceEqDiff, Nat.reduceBEq, Nat.reduceGT, List.all_append, List.all_map, Function.comp_def, decide_eq_true_eq, Bool.and_eq_true, beq_self_eq_true, or_self, and_self, ite_true, ite_false, Nat.le_refl, Bool.not_eq_true, decide_not, Bool.not_eq_true', decide_eq_false_iff_not, Bool.not_eq_false, Bool.or_eq_true, if_true, if_false, ite_self, iterC, cmp_Or_int_b1_eq, cmp_Or_int_r1_eq, h2, w_i64]
  · simp (config := {maxSteps := 4000000, implicitDefEqProofs := false}) (disch := omega) only [go_sem, ↓reduceIte, Nat.reduceAdd, Nat.reduceSub, Nat.reduceMul, Nat.reduceLeDiff, Nat.reduceLT, Int.reduceEq, Int.reduceNe, Int.reduceLT, Int.reduceLE, Int.reduceAdd, Int.reduceSub, Int.reduceMul, Int.reduceNeg, Nat.zero_add, Nat.add_zero, Nat.mul_one, Int.toNat_natCast, Int.natCast_zero, Int.cast_ofNat_Int, or_false, false_or, or_true, true_or, Int.reduceToNat, Nat.sub_zero, Int.natCast_nonneg, Int.toNat_zero, Bool.true_and, Bool.and_true, Bool.false_and, Bool.and_false, Bool.true_or, Bool.or_true, Bool.false_or, Bool.or_false, Bool.not_true, Bool.not_false, Bool.not_not, true_and, and_true, false_and, and_false, not_true_eq_false, not_false_eq_true, eq_self, decide_true, decide_false, ne_eq, implies_true, forall_const, true_implies, false_implies, Bool.true_eq_false, Bool.false_eq_true, reduceCtorEq, List.map_cons, List.map_nil, List.all_cons, List.all_nil, List.length_cons, List.length_nil, List.length_map, List.length_append, List.nil_append, List.cons_append, List.set_cons_zero, List.set_cons_succ, List.set_nil, List.drop_zero, List.drop_succ_cons, List.drop_nil, List.take_zero, List.take_succ_cons, List.take_nil, Option.map_some, Option.map_none, Option.isSome_some, Nat.reduceEqDiff, Nat.reduceBEq, Nat.reduceGT, List.all_append, List.all_map, Function.comp_def, decide_eq_true_eq, Bool.and_eq_true, beq_self_eq_true, or_self, and_self, ite_true, ite_false, Nat.le_refl, Bool.not_eq_true, decide_not, Bool.not_eq_true', decide_eq_false_iff_not, Bool.not_eq_false, Bool.or_eq_true, if_true, if_false, ite_self, iterC, cmp_Or_int_b1_eq, cmp_Or_int_r1_eq, h1, w_i64]
theorem order_s (m : Nat) (a b : Mk) (hm : 2 < m) (ha : a.Sm) (hb : b.Sm) : marks_order m (mE a) (mE b) = some (nA (ordI a b), []) := by
  obtain ⟨⟨a1, a2⟩, a3, a4⟩ := ha
  obtain ⟨⟨b1, b2⟩, b3, b4⟩ := hb
  have hO := or_s m (a.sq - b.sq) (a.fr - b.fr) hm
  rw [marks_order_eq, mE_it, mE_it]
  simp (config := {maxSteps := 4000000, implicitDefEqProofs := false}) (disch := omega) only [go_sem, ↓reduceIte, Nat.reduceAdd, Nat.reduceSub, Nat.reduceMul, Nat.reduceLeDiff, Nat.reduceLT, Int.reduceEq, Int.reduceNe, Int.reduceLT, Int.reduceLE, Int.reduceAdd, Int.reduceSub, Int.reduceMul, Int.reduceNeg, Nat.zero_add, Nat.add_zero, Nat.mul_one, Int.toNat_natCast, Int.natCast_zero, Int.cast_ofNat_Int, or_false, false_or, or_true, true_or, Int.reduceToNat, Nat.sub_zero, Int.natCast_nonneg, Int.toNat_zero, Bool.true_and, Bool.and_true, Bool.false_and, Bool.and_false, Bool.true_or, Bool.or_true, Bool.false_or, Bool.or_false, Bool.not_true, Bool.not_false, Bool.not_not, true_and, and_true, false_and, and_false, not_true_eq_false, not_false_eq_true, eq_self, decide_true, decide_false, ne_eq, implies_true, forall_const, true_implies, false_implies, Bool.true_eq_false, Bool.false_eq_true, reduceCtorEq, List.map_cons, List.map_nil, List.all_cons, List.all_nil, List.length_cons, List.length_nil, List.length_map, List.length_append, List.nil_append, List.cons_append, List.set_cons_zero, List.set_cons_succ, List.set_nil, List.drop_zero, List.drop_succ_cons, List.drop_nil, List.take_zero, List.take_succ_cons, List.take_nil, Option.map_some, Option.map_none, Option.isSome_some, Nat.reduceEqDiff, Nat.reduceBEq, Nat.reduceGT, List.all_append, List.all_map, Function.comp_def, decide_eq_true_eq, Bool.and_eq_true, beq_self_eq_true, or_self, and_self, ite_true, ite_false, Nat.le_refl, Bool.not_eq_true, decide_not, Bool.not_eq_true', decide_eq_false_iff_not, Bool.not_eq_false, Bool.or_eq_true, if_true, if_false, ite_self, mE_it, mc_len, mc_sure, mc_ltA, mc_lt1, mc_all1, mc_ro, mc_take, mc_sl, mc_set, mc_fr, mc_sq, mc_tm, zcM_eq, ms_len, ms_sure, ms_ltA, ms_lt1, ms_all1, ms_ro, ms_take, ms_set, ms_low, ms_root, ms_l, zs_len, zs_sure, zs_ltA, zs_ro, zs_set, zs_set2, zs_take, zs_b, me_ltA, me_len3, natInt, u_nthM, all_tt, hO, u_bs2, w_i64]
  unfold ordI
  by_cases h : a.sq = b.sq
  · rw [if_pos (by omega), if_pos h]
  · rw [if_neg (by omega), if_neg h]
def okM (low : Int) (x : Mk) : Bool := decide (0 ≤ x.fr) && (decide (x.fr < 64) && (dueB x.sq && (inB low x.sq && numB x.tm)))
def mayG (low : Int) : Option Mk → List Mk → Bool
  | _, [] => true
  | p, x :: r => okM low x && (match p with | some y => aheadB y x | none => true) && mayG low (some x) r
def mayS (s : Ms) : Bool := numB s.low && (decide (s.low % 4 = 0) && (numB s.root && mayG s.low none s.l))
theorem ok_sm {low : Int} {x : Mk} (h : okM low x = true) : x.Sm := by
  unfold okM dueB inB at h
  simp only [Bool.and_eq_true, decide_eq_true_eq] at h
  exact ⟨⟨h.1, h.2.1⟩, h.2.2.1.1, h.2.2.2.1.2.2⟩
theorem ord_ahead {a b : Mk} : (0 ≤ ordI a b) = (aheadB a b = false) := by
  unfold ordI aheadB
  by_cases h : a.sq = b.sq
  · rw [if_pos h, h]
    have : ¬ b.sq < b.sq := by omega
    simp [this]
  · rw [if_neg h]
    simp [h]
def Ms.In (s : Ms) : Prop := ∀ x ∈ s.l, x.sq < 9223372036854775808
def prevL (l : List Mk) : Nat → Option Mk
  | 0 => none
  | k + 1 => l[k]?
theorem prevL_succ {l : List Mk} {k : Nat} : prevL l (k + 1) = l[k]? := _root_.id rfl
theorem may_s (m : Nat) (s : Ms) (hm : 2 < m) (hlm : s.l.length < m) (hl : s.l.length ≤ 34359738367) (h : s.In) : marks_May m (ME s) = some (bA (mayS s), []) := by
  have hN1 := number_s m s.low
  have hN2 := number_s m s.root
  rw [marks_May_eq, ME_it]
  unfold mayS
  cases c1 : numB s.low with
  | false =>
    rw [c1] at hN1
    simp (config := {maxSteps := 4000000, implicitDefEqProofs := false}) (disch := omega) only [go_sem, ↓reduceIte, Nat.reduceAdd, Nat.reduceSub, Nat.reduceMul, Nat.reduceLeDiff, Nat.reduceLT, Int.reduceEq, Int.reduceNe, Int.reduceLT, Int.reduceLE, Int.reduceAdd, Int.reduceSub, Int.reduceMul, Int.reduceNeg, Nat.zero_add, Nat.add_zero, Nat.mul_one, Int.toNat_natCast, Int.natCast_zero, Int.cast_ofNat_Int, or_false, false_or, or_true, true_or, Int.reduceToNat, Nat.sub_zero, Int.natCast_nonneg, Int.toNat_zero, Bool.true_and, Bool.and_true, Bool.false_and, Bool.and_false, Bool.true_or, Bool.or_true, Bool.false_or, Bool.or_false, Bool.not_true, Bool.not_false, Bool.not_not, true_and, and_true, false_and, and_false, not_true_eq_false, not_false_eq_true, eq_self, decide_true, decide_false, ne_eq, implies_true, forall_const, true_implies, false_implies, Bool.true_eq_false, Bool.false_eq_true, reduceCtorEq, List.map_cons, List.map_nil, List.all_cons, List.all_nil, List.length_cons, List.length_nil, List.length_map, List.length_append, List.nil_append, List.cons_append, List.set_cons_zero, List.set_cons_succ, List.set_nil, List.drop_zero, List.drop_succ_cons, List.drop_nil, List.take_zero, List.take_succ_cons, List.take_nil, Option.map_some, Option.map_none, Option.isSome_some, Nat.reduceEqDiff, Nat.reduceBEq, Nat.reduceGT, List.all_append, List.all_map, Function.comp_def, decide_eq_true_eq, Bool.and_eq_true, beq_self_eq_true, or_self, and_self, ite_true, ite_false, Nat.le_refl, Bool.not_eq_true, decide_not, Bool.not_eq_true', decide_eq_false_iff_not, Bool.not_eq_false, Bool.or_eq_true, if_true, if_false, ite_self, mE_it, mc_len, mc_sure, mc_ltA, mc_lt1, mc_all1, mc_ro, mc_take, mc_sl, mc_set, mc_fr, mc_sq, mc_tm, zcM_eq, ms_len, ms_sure, ms_ltA, ms_lt1, ms_all1, ms_ro, ms_take, ms_set, ms_low, ms_root, ms_l, zs_len, zs_sure, zs_ltA, zs_ro, zs_set, zs_set2, zs_take, zs_b, me_ltA, me_len3, natInt, u_nthM, all_tt, hN1, marks_May_r9_eq, marks_May_r8_eq, marks_May_r7_eq, marks_May_r6_eq, marks_May_r5_eq, marks_May_r4_eq, marks_May_r3_eq, marks_May_r2_eq, marks_May_r1_eq]
  | true =>
  rw [c1] at hN1
  have h0 : 0 ≤ s.low := by unfold numB at c1; simp at c1; exact c1.1
  have hmod : s.low.tmod 4 = s.low % 4 := tmod_pos h0
  by_cases c2 : s.low % 4 = 0
  case neg =>
    simp (config := {maxSteps := 4000000, implicitDefEqProofs := false}) (disch := omega) only [go_sem, ↓reduceIte, Nat.reduceAdd, Nat.reduceSub, Nat.reduceMul, Nat.reduceLeDiff, Nat.reduceLT, Int.reduceEq, Int.reduceNe, Int.reduceLT, Int.reduceLE, Int.reduceAdd, Int.reduceSub, Int.reduceMul, Int.reduceNeg, Nat.zero_add, Nat.add_zero, Nat.mul_one, Int.toNat_natCast, Int.natCast_zero, Int.cast_ofNat_Int, or_false, false_or, or_true, true_or, Int.reduceToNat, Nat.sub_zero, Int.natCast_nonneg, Int.toNat_zero, Bool.true_and, Bool.and_true, Bool.false_and, Bool.and_false, Bool.true_or, Bool.or_true, Bool.false_or, Bool.or_false, Bool.not_true, Bool.not_false, Bool.not_not, true_and, and_true, false_and, and_false, not_true_eq_false, not_false_eq_true, eq_self, decide_true, decide_false, ne_eq, implies_true, forall_const, true_implies, false_implies, Bool.true_eq_false, Bool.false_eq_true, reduceCtorEq, List.map_cons, List.map_nil, List.all_cons, List.all_nil, List.length_cons, List.length_nil, List.length_map, List.length_append, List.nil_append, List.cons_append, List.set_cons_zero, List.set_cons_succ, List.set_nil, List.drop_zero, List.drop_succ_cons, List.drop_nil, List.take_zero, List.take_succ_cons, List.take_nil, Option.map_some, Option.map_none, Option.isSome_some, Nat.reduceEqDiff, Nat.reduceBEq, Nat.reduceGT, List.all_append, List.all_map, Function.comp_def, decide_eq_true_eq, Bool.and_eq_true, beq_self_eq_true, or_self, and_self, ite_true, ite_false, Nat.le_refl, Bool.not_eq_true, decide_not, Bool.not_eq_true', decide_eq_false_iff_not, Bool.not_eq_false, Bool.or_eq_true, if_true, if_false, ite_self, mE_it, mc_len, mc_sure, mc_ltA, mc_lt1, mc_all1, mc_ro, mc_take, mc_sl, mc_set, mc_fr, mc_sq, mc_tm, zcM_eq, ms_len, ms_sure, ms_ltA, ms_lt1, ms_all1, ms_ro, ms_take, ms_set, ms_low, ms_root, ms_l, zs_len, zs_sure, zs_ltA, zs_ro, zs_set, zs_set2, zs_take, zs_b, me_ltA, me_len3, natInt, u_nthM, all_tt, hN1, hmod, c2, marks_May_r9_eq, marks_May_r8_eq, marks_May_r7_eq, marks_May_r6_eq, marks_May_r5_eq, marks_May_r4_eq, marks_May_r3_eq, marks_May_r2_eq, marks_May_r1_eq]
  cases c3 : numB s.root with
  | false =>
    rw [c3] at hN2
    simp (config := {maxSteps := 4000000, implicitDefEqProofs := false}) (disch := omega) only [go_sem, ↓reduceIte, Nat.reduceAdd, Nat.reduceSub, Nat.reduceMul, Nat.reduceLeDiff, Nat.reduceLT, Int.reduceEq, Int.reduceNe, Int.reduceLT, Int.reduceLE, Int.reduceAdd, Int.reduceSub, Int.reduceMul, Int.reduceNeg, Nat.zero_add, Nat.add_zero, Nat.mul_one, Int.toNat_natCast, Int.natCast_zero, Int.cast_ofNat_Int, or_false, false_or, or_true, true_or, Int.reduceToNat, Nat.sub_zero, Int.natCast_nonneg, Int.toNat_zero, Bool.true_and, Bool.and_true, Bool.false_and, Bool.and_false, Bool.true_or, Bool.or_true, Bool.false_or, Bool.or_false, Bool.not_true, Bool.not_false, Bool.not_not, true_and, and_true, false_and, and_false, not_true_eq_false, not_false_eq_true, eq_self, decide_true, decide_false, ne_eq, implies_true, forall_const, true_implies, false_implies, Bool.true_eq_false, Bool.false_eq_true, reduceCtorEq, List.map_cons, List.map_nil, List.all_cons, List.all_nil, List.length_cons, List.length_nil, List.length_map, List.length_append, List.nil_append, List.cons_append, List.set_cons_zero, List.set_cons_succ, List.set_nil, List.drop_zero, List.drop_succ_cons, List.drop_nil, List.take_zero, List.take_succ_cons, List.take_nil, Option.map_some, Option.map_none, Option.isSome_some, Nat.reduceEqDiff, Nat.reduceBEq, Nat.reduceGT, List.all_append, List.all_map, Function.comp_def, decide_eq_true_eq, Bool.and_eq_true, beq_self_eq_true, or_self, and_self, ite_true, ite_false, Nat.le_refl, Bool.not_eq_true, decide_not, Bool.not_eq_true', decide_eq_false_iff_not, Bool.not_eq_false, Bool.or_eq_true, if_true, if_false, ite_self, mE_it, mc_len, mc_sure, mc_ltA, mc_lt1, mc_all1, mc_ro, mc_take, mc_sl, mc_set, mc_fr, mc_sq, mc_tm, zcM_eq, ms_len, ms_sure, ms_ltA, ms_lt1, ms_all1, ms_ro, ms_take, ms_set, ms_low, ms_root, ms_l, zs_len, zs_sure, zs_ltA, zs_ro, zs_set, zs_set2, zs_take, zs_b, me_ltA, me_len3, natInt, u_nthM, all_tt, hN1, hN2, hmod, c2, marks_May_r9_eq, marks_May_r8_eq, marks_May_r7_eq, marks_May_r6_eq, marks_May_r5_eq, marks_May_r4_eq, marks_May_r3_eq, marks_May_r2_eq, marks_May_r1_eq]
  | true =>
  rw [c3] at hN2
  simp (config := {maxSteps := 4000000, implicitDefEqProofs := false}) (disch := omega) only [go_sem, ↓reduceIte, Nat.reduceAdd, Nat.reduceSub, Nat.reduceMul, Nat.reduceLeDiff, Nat.reduceLT, Int.reduceEq, Int.reduceNe, Int.reduceLT, Int.reduceLE, Int.reduceAdd, Int.reduceSub, Int.reduceMul, Int.reduceNeg, Nat.zero_add, Nat.add_zero, Nat.mul_one, Int.toNat_natCast, Int.natCast_zero, Int.cast_ofNat_Int, or_false, false_or, or_true, true_or, Int.reduceToNat, Nat.sub_zero, Int.natCast_nonneg, Int.toNat_zero, Bool.true_and, Bool.and_true, Bool.false_and, Bool.and_false, Bool.true_or, Bool.or_true, Bool.false_or, Bool.or_false, Bool.not_true, Bool.not_false, Bool.not_not, true_and, and_true, false_and, and_false, not_true_eq_false, not_false_eq_true, eq_self, decide_true, decide_false, ne_eq, implies_true, forall_const, true_implies, false_implies, Bool.true_eq_false, Bool.false_eq_true, reduceCtorEq, List.map_cons, List.map_nil, List.all_cons, List.all_nil, List.length_cons, List.length_nil, List.length_map, List.length_append, List.nil_append, List.cons_append, List.set_cons_zero, List.set_cons_succ, List.set_nil, List.drop_zero, List.drop_succ_cons, List.drop_nil, List.take_zero, List.take_succ_cons, List.take_nil, Option.map_some, Option.map_none, Option.isSome_some, Nat.reduceEqDiff, Nat.reduceBEq, Nat.reduceGT, List.all_append, List.all_map, Function.comp_def, decide_eq_true_eq, Bool.and_eq_true, beq_self_eq_true, or_self, and_self, ite_true, ite_false, Nat.le_refl, Bool.not_eq_true, decide_not, Bool.not_eq_true', decide_eq_false_iff_not, Bool.not_eq_false, Bool.or_eq_true, if_true, if_false, ite_self, mE_it, mc_len, mc_sure, mc_ltA, mc_lt1, mc_all1, mc_ro, mc_take, mc_sl, mc_set, mc_fr, mc_sq, mc_tm, zcM_eq, ms_len, ms_sure, ms_ltA, ms_lt1, ms_all1, ms_ro, ms_take, ms_set, ms_low, ms_root, ms_l, zs_len, zs_sure, zs_ltA, zs_ro, zs_set, zs_set2, zs_take, zs_b, me_ltA, me_len3, natInt, u_nthM, all_tt, hN1, hN2, hmod, c2, marks_May_r1_eq, marks_May_r2_eq]
  generalize hg : mayG s.low none s.l = g
  refine iter_go (ι := {k : Nat // k ≤ s.l.length ∧ (∀ (j : Nat) (hj : j < s.l.length), j < k → okM s.low s.l[j] = true) ∧ mayG s.low (prevL s.l k) (s.l.drop k) = g}) (fun k => ⟨[⟨1, ty_api_Marks, 0, MC s⟩], [(1, OP 0 0), (22, SL (s.l.map mE)), (23, nA s.l.length), (24, nA k.1)]⟩) (fun k => s.l.length - k.1) (fun _ => some (bA g, [])) ?_ ⟨0, Nat.zero_le _, fun j hj h => by omega, hg⟩ (by dsimp only; omega)
  rintro kx hkx ⟨k, hk, hall, hG⟩ kc hkc
  dsimp only at hkc ⊢
  rw [marks_May_b1_eq]
  by_cases hlt : k < s.l.length
  · have hlt' : (k : Int) < (s.l.length : Int) := by omega
    have hq := h _ (List.getElem_mem hlt)
    have hD := due_s m s.l[k].sq
    have hI := in_s m s.low s.l[k].sq h0 hq
    have hT := number_s m s.l[k].tm
    rw [List.drop_eq_getElem_cons hlt] at hG
    unfold mayG at hG
    generalize hx : s.l[k] = x at hG hD hI hT
    have nok : okM s.low x = false → g = false := fun e => by rw [← hG, e]; simp
    by_cases a1 : x.fr < 0
    · rw [nok (by unfold okM; simp; omega)]
      simp (config := {maxSteps := 4000000, implicitDefEqProofs := false}) (disch := omega) only [go_sem, ↓reduceIte, Nat.reduceAdd, Nat.reduceSub, Nat.reduceMul, Nat.reduceLeDiff, Nat.reduceLT, Int.reduceEq, Int.reduceNe, Int.reduceLT, Int.reduceLE, Int.reduceAdd, Int.reduceSub, Int.reduceMul, Int.reduceNeg, Nat.zero_add, Nat.add_zero, Nat.mul_one, Int.toNat_natCast, Int.natCast_zero, Int.cast_ofNat_Int, or_false, false_or, or_true, true_or, Int.reduceToNat, Nat.sub_zero, Int.natCast_nonneg, Int.toNat_zero, Bool.true_and, Bool.and_true, Bool.false_and, Bool.and_false, Bool.true_or, Bool.or_true, Bool.false_or, Bool.or_false, Bool.not_true, Bool.not_false, Bool.not_not, true_and, and_true, false_and, and_false, not_true_eq_false, not_false_eq_true, eq_self, decide_true, decide_false, ne_eq, implies_true, forall_const, true_implies, false_implies, Bool.true_eq_false, Bool.false_eq_true, reduceCtorEq, List.map_cons, List.map_nil, List.all_cons, List.all_nil, List.length_cons, List.length_nil, List.length_map, List.length_append, List.nil_append, List.cons_append, List.set_cons_zero, List.set_cons_succ, List.set_nil, List.drop_zero, List.drop_succ_cons, List.drop_nil, List.take_zero, List.take_succ_cons, List.take_nil, Option.map_some, Option.map_none, Option.isSome_some, Nat.reduceEqDiff, Nat.reduceBEq, Nat.reduceGT, List.all_append, List.all_map, Function.comp_def, decide_eq_true_eq, Bool.and_eq_true, beq_self_eq_true, or_self, and_self, ite_true, ite_false, Nat.le_refl, Bool.not_eq_true, decide_not, Bool.not_eq_true', decide_eq_false_iff_not, Bool.not_eq_false, Bool.or_eq_true, if_true, if_false, ite_self, mE_it, mc_len, mc_sure, mc_ltA, mc_lt1, mc_all1, mc_ro, mc_take, mc_sl, mc_set, mc_fr, mc_sq, mc_tm, zcM_eq, ms_len, ms_sure, ms_ltA, ms_lt1, ms_all1, ms_ro, ms_take, ms_set, ms_low, ms_root, ms_l, zs_len, zs_sure, zs_ltA, zs_ro, zs_set, zs_set2, zs_take, zs_b, me_ltA, me_len3, natInt, u_nthM, all_tt, hlt', hx, a1, hkx, marks_May_r9_eq, marks_May_r8_eq, marks_May_r7_eq, marks_May_r6_eq, marks_May_r5_eq, marks_May_r4_eq, marks_May_r3_eq, marks_May_r2_eq, marks_May_r1_eq]
    by_cases a2 : 64 ≤ x.fr
    · rw [nok (by unfold okM; simp; omega)]
      simp (config := {maxSteps := 4000000, implicitDefEqProofs := false}) (disch := omega) only [go_sem, ↓reduceIte, Nat.reduceAdd, Nat.reduceSub, Nat.reduceMul, Nat.reduceLeDiff, Nat.reduceLT, Int.reduceEq, Int.reduceNe, Int.reduceLT, Int.reduceLE, Int.reduceAdd, Int.reduceSub, Int.reduceMul, Int.reduceNeg, Nat.zero_add, Nat.add_zero, Nat.mul_one, Int.toNat_natCast, Int.natCast_zero, Int.cast_ofNat_Int, or_false, false_or, or_true, true_or, Int.reduceToNat, Nat.sub_zero, Int.natCast_nonneg, Int.toNat_zero, Bool.true_and, Bool.and_true, Bool.false_and, Bool.and_false, Bool.true_or, Bool.or_true, Bool.false_or, Bool.or_false, Bool.not_true, Bool.not_false, Bool.not_not, true_and, and_true, false_and, and_false, not_true_eq_false, not_false_eq_true, eq_self, decide_true, decide_false, ne_eq, implies_true, forall_const, true_implies, false_implies, Bool.true_eq_false, Bool.false_eq_true, reduceCtorEq, List.map_cons, List.map_nil, List.all_cons, List.all_nil, List.length_cons, List.length_nil, List.length_map, List.length_append, List.nil_append, List.cons_append, List.set_cons_zero, List.set_cons_succ, List.set_nil, List.drop_zero, List.drop_succ_cons, List.drop_nil, List.take_zero, List.take_succ_cons, List.take_nil, Option.map_some, Option.map_none, Option.isSome_some, Nat.reduceEqDiff, Nat.reduceBEq, Nat.reduceGT, List.all_append, List.all_map, Function.comp_def, decide_eq_true_eq, Bool.and_eq_true, beq_self_eq_true, or_self, and_self, ite_true, ite_false, Nat.le_refl, Bool.not_eq_true, decide_not, Bool.not_eq_true', decide_eq_false_iff_not, Bool.not_eq_false, Bool.or_eq_true, if_true, if_false, ite_self, mE_it, mc_len, mc_sure, mc_ltA, mc_lt1, mc_all1, mc_ro, mc_take, mc_sl, mc_set, mc_fr, mc_sq, mc_tm, zcM_eq, ms_len, ms_sure, ms_ltA, ms_lt1, ms_all1, ms_ro, ms_take, ms_set, ms_low, ms_root, ms_l, zs_len, zs_sure, zs_ltA, zs_ro, zs_set, zs_set2, zs_take, zs_b, me_ltA, me_len3, natInt, u_nthM, all_tt, hlt', hx, a1, a2, hkx, marks_May_r9_eq, marks_May_r8_eq, marks_May_r7_eq, marks_May_r6_eq, marks_May_r5_eq, marks_May_r4_eq, marks_May_r3_eq, marks_May_r2_eq, marks_May_r1_eq]
    cases a3 : dueB x.sq with
    | false =>
      rw [nok (by unfold okM; rw [a3]; simp)]
      rw [a3] at hD
      simp (config := {maxSteps := 4000000, implicitDefEqProofs := false}) (disch := omega) only [go_sem, ↓reduceIte, Nat.reduceAdd, Nat.reduceSub, Nat.reduceMul, Nat.reduceLeDiff, Nat.reduceLT, Int.reduceEq, Int.reduceNe, Int.reduceLT, Int.reduceLE, Int.reduceAdd, Int.reduceSub, Int.reduceMul, Int.reduceNeg, Nat.zero_add, Nat.add_zero, Nat.mul_one, Int.toNat_natCast, Int.natCast_zero, Int.cast_ofNat_Int, or_false, false_or, or_true, true_or, Int.reduceToNat, Nat.sub_zero, Int.natCast_nonneg, Int.toNat_zero, Bool.true_and, Bool.and_true, Bool.false_and, Bool.and_false, Bool.true_or, Bool.or_true, Bool.false_or, Bool.or_false, Bool.not_true, Bool.not_false, Bool.not_not, true_and, and_true, false_and, and_false, not_true_eq_false, not_false_eq_true, eq_self, decide_true, decide_false, ne_eq, implies_true, forall_const, true_implies, false_implies, Bool.true_eq_false, Bool.false_eq_true, reduceCtorEq, List.map_cons, List.map_nil, List.all_cons, List.all_nil, List.length_cons, List.length_nil, List.length_map, List.length_append, List.nil_append, List.cons_append, List.set_cons_zero, List.set_cons_succ, List.set_nil, List.drop_zero, List.drop_succ_cons, List.drop_nil, List.take_zero, List.take_succ_cons, List.take_nil, Option.map_some, Option.map_none, Option.isSome_some, Nat.reduceEqDiff, Nat.reduceBEq, Nat.reduceGT, List.all_append, List.all_map, Function.comp_def, decide_eq_true_eq, Bool.and_eq_true, beq_self_eq_true, or_self, and_self, ite_true, ite_false, Nat.le_refl, Bool.not_eq_true, decide_not, Bool.not_eq_true', decide_eq_false_iff_not, Bool.not_eq_false, Bool.or_eq_true, if_true, if_false, ite_self, mE_it, mc_len, mc_sure, mc_ltA, mc_lt1, mc_all1, mc_ro, mc_take, mc_sl, mc_set, mc_fr, mc_sq, mc_tm, zcM_eq, ms_len, ms_sure, ms_ltA, ms_lt1, ms_all1, ms_ro, ms_take, ms_set, ms_low, ms_root, ms_l, zs_len, zs_sure, zs_ltA, zs_ro, zs_set, zs_set2, zs_take, zs_b, me_ltA, me_len3, natInt, u_nthM, all_tt, hlt', hx, a1, a2, hD, hkx, marks_May_r9_eq, marks_May_r8_eq, marks_May_r7_eq, marks_May_r6_eq, marks_May_r5_eq, marks_May_r4_eq, marks_May_r3_eq, marks_May_r2_eq, marks_May_r1_eq]
    | true =>
    rw [a3] at hD
    cases a4 : inB s.low x.sq with
    | false =>
      rw [nok (by unfold okM; rw [a4]; simp)]
      rw [a4] at hI
      simp (config := {maxSteps := 4000000, implicitDefEqProofs := false}) (disch := omega) only [go_sem, ↓reduceIte, Nat.reduceAdd, Nat.reduceSub, Nat.reduceMul, Nat.reduceLeDiff, Nat.reduceLT, Int.reduceEq, Int.reduceNe, Int.reduceLT, Int.reduceLE, Int.reduceAdd, Int.reduceSub, Int.reduceMul, Int.reduceNeg, Nat.zero_add, Nat.add_zero, Nat.mul_one, Int.toNat_natCast, Int.natCast_zero, Int.cast_ofNat_Int, or_false, false_or, or_true, true_or, Int.reduceToNat, Nat.sub_zero, Int.natCast_nonneg, Int.toNat_zero, Bool.true_and, Bool.and_true, Bool.false_and, Bool.and_false, Bool.true_or, Bool.or_true, Bool.false_or, Bool.or_false, Bool.not_true, Bool.not_false, Bool.not_not, true_and, and_true, false_and, and_false, not_true_eq_false, not_false_eq_true, eq_self, decide_true, decide_false, ne_eq, implies_true, forall_const, true_implies, false_implies, Bool.true_eq_false, Bool.false_eq_true, reduceCtorEq, List.map_cons, List.map_nil, List.all_cons, List.all_nil, List.length_cons, List.length_nil, List.length_map, List.length_append, List.nil_append, List.cons_append, List.set_cons_zero, List.set_cons_succ, List.set_nil, List.drop_zero, List.drop_succ_cons, List.drop_nil, List.take_zero, List.take_succ_cons, List.take_nil, Option.map_some, Option.map_none, Option.isSome_some, Nat.reduceEqDiff, Nat.reduceBEq, Nat.reduceGT, List.all_append, List.all_map, Function.comp_def, decide_eq_true_eq, Bool.and_eq_true, beq_self_eq_true, or_self, and_self, ite_true, ite_false, Nat.le_refl, Bool.not_eq_true, decide_not, Bool.not_eq_true', decide_eq_false_iff_not, Bool.not_eq_false, Bool.or_eq_true, if_true, if_false, ite_self, mE_it, mc_len, mc_sure, mc_ltA, mc_lt1, mc_all1, mc_ro, mc_take, mc_sl, mc_set, mc_fr, mc_sq, mc_tm, zcM_eq, ms_len, ms_sure, ms_ltA, ms_lt1, ms_all1, ms_ro, ms_take, ms_set, ms_low, ms_root, ms_l, zs_len, zs_sure, zs_ltA, zs_ro, zs_set, zs_set2, zs_take, zs_b, me_ltA, me_len3, natInt, u_nthM, all_tt, hlt', hx, a1, a2, hD, hI, hkx, marks_May_r9_eq, marks_May_r8_eq, marks_May_r7_eq, marks_May_r6_eq, marks_May_r5_eq, marks_May_r4_eq, marks_May_r3_eq, marks_May_r2_eq, marks_May_r1_eq]
    | true =>
    rw [a4] at hI
    cases a5 : numB x.tm with
    | false =>
      rw [nok (by unfold okM; rw [a5]; simp)]
      rw [a5] at hT
      simp (config := {maxSteps := 4000000, implicitDefEqProofs := false}) (disch := omega) only [go_sem, ↓reduceIte, Nat.reduceAdd, Nat.reduceSub, Nat.reduceMul, Nat.reduceLeDiff, Nat.reduceLT, Int.reduceEq, Int.reduceNe, Int.reduceLT, Int.reduceLE, Int.reduceAdd, Int.reduceSub, Int.reduceMul, Int.reduceNeg, Nat.zero_add, Nat.add_zero, Nat.mul_one, Int.toNat_natCast, Int.natCast_zero, Int.cast_ofNat_Int, or_false, false_or, or_true, true_or, Int.reduceToNat, Nat.sub_zero, Int.natCast_nonneg, Int.toNat_zero, Bool.true_and, Bool.and_true, Bool.false_and, Bool.and_false, Bool.true_or, Bool.or_true, Bool.false_or, Bool.or_false, Bool.not_true, Bool.not_false, Bool.not_not, true_and, and_true, false_and, and_false, not_true_eq_false, not_false_eq_true, eq_self, decide_true, decide_false, ne_eq, implies_true, forall_const, true_implies, false_implies, Bool.true_eq_false, Bool.false_eq_true, reduceCtorEq, List.map_cons, List.map_nil, List.all_cons, List.all_nil, List.length_cons, List.length_nil, List.length_map, List.length_append, List.nil_append, List.cons_append, List.set_cons_zero, List.set_cons_succ, List.set_nil, List.drop_zero, List.drop_succ_cons, List.drop_nil, List.take_zero, List.take_succ_cons, List.take_nil, Option.map_some, Option.map_none, Option.isSome_some, Nat.reduceEqDiff, Nat.reduceBEq, Nat.reduceGT, List.all_append, List.all_map, Function.comp_def, decide_eq_true_eq, Bool.and_eq_true, beq_self_eq_true, or_self, and_self, ite_true, ite_false, Nat.le_refl, Bool.not_eq_true, decide_not, Bool.not_eq_true', decide_eq_false_iff_not, Bool.not_eq_false, Bool.or_eq_true, if_true, if_false, ite_self, mE_it, mc_len, mc_sure, mc_ltA, mc_lt1, mc_all1, mc_ro, mc_take, mc_sl, mc_set, mc_fr, mc_sq, mc_tm, zcM_eq, ms_len, ms_sure, ms_ltA, ms_lt1, ms_all1, ms_ro, ms_take, ms_set, ms_low, ms_root, ms_l, zs_len, zs_sure, zs_ltA, zs_ro, zs_set, zs_set2, zs_take, zs_b, me_ltA, me_len3, natInt, u_nthM, all_tt, hlt', hx, a1, a2, hD, hI, hT, hkx, marks_May_r9_eq, marks_May_r8_eq, marks_May_r7_eq, marks_May_r6_eq, marks_May_r5_eq, marks_May_r4_eq, marks_May_r3_eq, marks_May_r2_eq, marks_May_r1_eq]
    | true =>
    rw [a5] at hT
    have hok : okM s.low x = true := by unfold okM; rw [a3, a4, a5]; simp; omega
    rw [hok, Bool.true_and] at hG
    have next : (mayG s.low (some x) (s.l.drop (k + 1)) = g) → kc ⟨[⟨1, ty_api_Marks, 0, MC s⟩], [(1, OP 0 0), (22, SL (s.l.map mE)), (23, nA s.l.length), (24, nA (k + 1 : Nat))]⟩ = some (bA g, []) := fun e => hkc ⟨k + 1, by omega, fun j hj h => by
      rcases Nat.lt_or_ge j k with q | q
      · exact hall j hj q
      · have : j = k := by omega
        subst this; rw [hx]; exact hok, by rw [prevL_succ, List.getElem?_eq_getElem hlt, hx]; exact e⟩ (by dsimp only; omega)
    rcases Nat.eq_zero_or_pos k with rfl | hpos
    · have step := next (by simpa [prevL] using hG)
      have hlt0 : (0 : Int) < (s.l.length : Int) := by omega
      simp (config := {maxSteps := 4000000, implicitDefEqProofs := false}) (disch := omega) only [go_sem, ↓reduceIte, Nat.reduceAdd, Nat.reduceSub, Nat.reduceMul, Nat.reduceLeDiff, Nat.reduceLT, Int.reduceEq, Int.reduceNe, Int.reduceLT, Int.reduceLE, Int.reduceAdd, Int.reduceSub, Int.reduceMul, Int.reduceNeg, Nat.zero_add, Nat.add_zero, Nat.mul_one, Int.toNat_natCast, Int.natCast_zero, Int.cast_ofNat_Int, or_false, false_or, or_true, true_or, Int.reduceToNat, Nat.sub_zero, Int.natCast_nonneg, Int.toNat_zero, Bool.true_and, Bool.and_true, Bool.false_and, Bool.and_false, Bool.true_or, Bool.or_true, Bool.false_or, Bool.or_false, Bool.not_true, Bool.not_false, Bool.not_not, true_and, and_true, false_and, and_false, not_true_eq_false, not_false_eq_true, eq_self, decide_true, decide_false, ne_eq, implies_true, forall_const, true_implies, false_implies, Bool.true_eq_false, Bool.false_eq_true, reduceCtorEq, List.map_cons, List.map_nil, List.all_cons, List.all_nil, List.length_cons, List.length_nil, List.length_map, List.length_append, List.nil_append, List.cons_append, List.set_cons_zero, List.set_cons_succ, List.set_nil, List.drop_zero, List.drop_succ_cons, List.drop_nil, List.take_zero, List.take_succ_cons, List.take_nil, Option.map_some, Option.map_none, Option.isSome_some, Nat.reduceEqDiff, Nat.reduceBEq, Nat.reduceGT, List.all_append, List.all_map, Function.comp_def, decide_eq_true_eq, Bool.and_eq_true, beq_self_eq_true, or_self, and_self, ite_true, ite_false, Nat.le_refl, Bool.not_eq_true, decide_not, Bool.not_eq_true', decide_eq_false_iff_not, Bool.not_eq_false, Bool.or_eq_true, if_true, if_false, ite_self, mE_it, mc_len, mc_sure, mc_ltA, mc_lt1, mc_all1, mc_ro, mc_take, mc_sl, mc_set, mc_fr, mc_sq, mc_tm, zcM_eq, ms_len, ms_sure, ms_ltA, ms_lt1, ms_all1, ms_ro, ms_take, ms_set, ms_low, ms_root, ms_l, zs_len, zs_sure, zs_ltA, zs_ro, zs_set, zs_set2, zs_take, zs_b, me_ltA, me_len3, natInt, u_nthM, all_tt, hlt0, hx, a1, a2, hD, hI, hT, w_i64, marks_May_r9_eq, marks_May_r8_eq, marks_May_r7_eq, marks_May_r6_eq, marks_May_r5_eq, marks_May_r4_eq, marks_May_r3_eq, marks_May_r2_eq, marks_May_r1_eq]
      exact step
    · have hpos' : (0 : Int) < (k : Int) := by omega
      have hk1 : k - 1 < s.l.length := by omega
      have hk1' : (k : Int) - 1 = ((k - 1 : Nat) : Int) := by omega
      have hk2' : ((k - 1 : Nat) : Int) < (s.l.length : Int) := by omega
      have hpo := hall (k - 1) hk1 (by omega)
      have hO := order_s m s.l[k - 1] x hm (ok_sm hpo) (ok_sm hok)
      rw [mE_it, mE_it] at hO
      have hp : prevL s.l k = some s.l[k - 1] := by
        obtain ⟨j, rfl⟩ : ∃ j, k = j + 1 := ⟨k - 1, by omega⟩
        unfold prevL
        simp at hk1 ⊢
      rw [hp] at hG
      dsimp only at hG
      have hoa := ord_ahead (a := s.l[k - 1]) (b := x)
      cases hah : aheadB s.l[k - 1] x with
      | true =>
        rw [hah] at hG hoa
        have step := next (by simpa using hG)
        have hoa' : ¬ 0 ≤ ordI s.l[k - 1] x := by rw [hoa]; simp
        simp (config := {maxSteps := 4000000, implicitDefEqProofs := false}) (disch := omega) only [go_sem, ↓reduceIte, Nat.reduceAdd, Nat.reduceSub, Nat.reduceMul, Nat.reduceLeDiff, Nat.reduceLT, Int.reduceEq, Int.reduceNe, Int.reduceLT, Int.reduceLE, Int.reduceAdd, Int.reduceSub, Int.reduceMul, Int.reduceNeg, Nat.zero_add, Nat.add_zero, Nat.mul_one, Int.toNat_natCast, Int.natCast_zero, Int.cast_ofNat_Int, or_false, false_or, or_true, true_or, Int.reduceToNat, Nat.sub_zero, Int.natCast_nonneg, Int.toNat_zero, Bool.true_and, Bool.and_true, Bool.false_and, Bool.and_false, Bool.true_or, Bool.or_true, Bool.false_or, Bool.or_false, Bool.not_true, Bool.not_false, Bool.not_not, true_and, and_true, false_and, and_false, not_true_eq_false, not_false_eq_true, eq_self, decide_true, decide_false, ne_eq, implies_true, forall_const, true_implies, false_implies, Bool.true_eq_false, Bool.false_eq_true, reduceCtorEq, List.map_cons, List.map_nil, List.all_cons, List.all_nil, List.length_cons, List.length_nil, List.length_map, List.length_append, List.nil_append, List.cons_append, List.set_cons_zero, List.set_cons_succ, List.set_nil, List.drop_zero, List.drop_succ_cons, List.drop_nil, List.take_zero, List.take_succ_cons, List.take_nil, Option.map_some, Option.map_none, Option.isSome_some, Nat.reduceEqDiff, Nat.reduceBEq, Nat.reduceGT, List.all_append, List.all_map, Function.comp_def, decide_eq_true_eq, Bool.and_eq_true, beq_self_eq_true, or_self, and_self, ite_true, ite_false, Nat.le_refl, Bool.not_eq_true, decide_not, Bool.not_eq_true', decide_eq_false_iff_not, Bool.not_eq_false, Bool.or_eq_true, if_true, if_false, ite_self, mE_it, mc_len, mc_sure, mc_ltA, mc_lt1, mc_all1, mc_ro, mc_take, mc_sl, mc_set, mc_fr, mc_sq, mc_tm, zcM_eq, ms_len, ms_sure, ms_ltA, ms_lt1, ms_all1, ms_ro, ms_take, ms_set, ms_low, ms_root, ms_l, zs_len, zs_sure, zs_ltA, zs_ro, zs_set, zs_set2, zs_take, zs_b, me_ltA, me_len3, natInt, u_nthM, all_tt, hlt', hx, a1, a2, hD, hI, hT, hpos', hk1', hk2', hO, hoa', w_i64, marks_May_r9_eq, marks_May_r8_eq, marks_May_r7_eq, marks_May_r6_eq, marks_May_r5_eq, marks_May_r4_eq, marks_May_r3_eq, marks_May_r2_eq, marks_May_r1_eq]
        exact step
      | false =>
        rw [hah] at hG hoa
        have hoa' : 0 ≤ ordI s.l[k - 1] x := by rw [hoa]
        have : g = false := by rw [← hG]; simp
        rw [this]
        simp (config := {maxSteps := 4000000, implicitDefEqProofs := false}) (disch := omega) only [go_sem, ↓reduceIte, Nat.reduceAdd, Nat.reduceSub, Nat.reduceMul, Nat.reduceLeDiff, Nat.reduceLT, Int.reduceEq, Int.reduceNe, Int.reduceLT, Int.reduceLE, Int.reduceAdd, Int.reduceSub, Int.reduceMul, Int.reduceNeg, Nat.zero_add, Nat.add_zero, Nat.mul_one, Int.toNat_natCast, Int.natCast_zero, Int.cast_ofNat_Int, or_false, false_or, or_true, true_or, Int.reduceToNat, Nat.sub_zero, Int.natCast_nonneg, Int.toNat_zero, Bool.true_and, Bool.and_true, Bool.false_and, Bool.and_false, Bool.true_or, Bool.or_true, Bool.false_or, Bool.or_false, Bool.not_true, Bool.not_false, Bool.not_not, true_and, and_true, false_and, and_false, not_true_eq_false, not_false_eq_true, eq_self, decide_true, decide_false, ne_eq, implies_true, forall_const, true_implies, false_implies, Bool.true_eq_false, Bool.false_eq_true, reduceCtorEq, List.map_cons, List.map_nil, List.all_cons, List.all_nil, List.length_cons, List.length_nil, List.length_map, List.length_append, List.nil_append, List.cons_append, List.set_cons_zero, List.set_cons_succ, List.set_nil, List.drop_zero, List.drop_succ_cons, List.drop_nil, List.take_zero, List.take_succ_cons, List.take_nil, Option.map_some, Option.map_none, Option.isSome_some, Nat.reduceEqDiff, Nat.reduceBEq, Nat.reduceGT, List.all_append, List.all_map, Function.comp_def, decide_eq_true_eq, Bool.and_eq_true, beq_self_eq_true, or_self, and_self, ite_true, ite_false, Nat.le_refl, Bool.not_eq_true, decide_not, Bool.not_eq_true', decide_eq_false_iff_not, Bool.not_eq_false, Bool.or_eq_true, if_true, if_false, ite_self, mE_it, mc_len, mc_sure, mc_ltA, mc_lt1, mc_all1, mc_ro, mc_take, mc_sl, mc_set, mc_fr, mc_sq, mc_tm, zcM_eq, ms_len, ms_sure, ms_ltA, ms_lt1, ms_all1, ms_ro, ms_take, ms_set, ms_low, ms_root, ms_l, zs_len, zs_sure, zs_ltA, zs_ro, zs_set, zs_set2, zs_take, zs_b, me_ltA, me_len3, natInt, u_nthM, all_tt, hlt', hx, a1, a2, hD, hI, hT, hpos', hk1', hk2', hO, hoa', w_i64, hkx, marks_May_r9_eq, marks_May_r8_eq, marks_May_r7_eq, marks_May_r6_eq, marks_May_r5_eq, marks_May_r4_eq, marks_May_r3_eq, marks_May_r2_eq, marks_May_r1_eq]
  · have hlt' : ¬ (k : Int) < (s.l.length : Int) := by omega
    rw [List.drop_of_length_le (by omega)] at hG
    have : g = true := hG.symm
    subst this
    simp (config := {maxSteps := 4000000, implicitDefEqProofs := false}) (disch := omega) only [go_sem, ↓reduceIte, Nat.reduceAdd, Nat.reduceSub, Nat.reduceMul, Nat.reduceLeDiff, Nat.reduceLT, Int.reduceEq, Int.reduceNe, Int.reduceLT, Int.reduceLE, Int.reduceAdd, Int.reduceSub, Int.reduceMul, Int.reduceNeg, Nat.zero_add, Nat.add_zero, Nat.mul_one, Int.toNat_natCast, Int.natCast_zero, Int.cast_ofNat_Int, or_false, false_or, or_true, true_or, Int.reduceToNat, Nat.sub_zero, Int.natCast_nonneg, Int.toNat_zero, Bool.true_and, Bool.and_true, Bool.false_and, Bool.and_false, Bool.true_or, Bool.or_true, Bool.false_or, Bool.or_false, Bool.not_true, Bool.not_false, Bool.not_not, true_and, and_true, false_and, and_false, not_true_eq_false, not_false_eq_true, eq_self, decide_true, decide_false, ne_eq, implies_true, forall_const, true_implies, false_implies, Bool.true_eq_false, Bool.false_eq_true, reduceCtorEq, List.map_cons, List.map_nil, List.all_cons, List.all_nil, List.length_cons, List.length_nil, List.length_map, List.length_append, List.nil_append, List.cons_append, List.set_cons_zero, List.set_cons_succ, List.set_nil, List.drop_zero, List.drop_succ_cons, List.drop_nil, List.take_zero, List.take_succ_cons, List.take_nil, Option.map_some, Option.map_none, Option.isSome_some, Nat.reduceEqDiff, Nat.reduceBEq, Nat.reduceGT, List.all_append, List.all_map, Function.comp_def, decide_eq_true_eq, Bool.and_eq_true, beq_self_eq_true, or_self, and_self, ite_true, ite_false, Nat.le_refl, Bool.not_eq_true, decide_not, Bool.not_eq_true', decide_eq_false_iff_not, Bool.not_eq_false, Bool.or_eq_true, if_true, if_false, ite_self, mE_it, mc_len, mc_sure, mc_ltA, mc_lt1, mc_all1, mc_ro, mc_take, mc_sl, mc_set, mc_fr, mc_sq, mc_tm, zcM_eq, ms_len, ms_sure, ms_ltA, ms_lt1, ms_all1, ms_ro, ms_take, ms_set, ms_low, ms_root, ms_l, zs_len, zs_sure, zs_ltA, zs_ro, zs_set, zs_set2, zs_take, zs_b, me_ltA, me_len3, natInt, u_nthM, all_tt, hlt', hkx, marks_May_r9_eq, marks_May_r8_eq, marks_May_r7_eq, marks_May_r6_eq, marks_May_r5_eq, marks_May_r4_eq, marks_May_r3_eq, marks_May_r2_eq, marks_May_r1_eq]
end Go.Proofs.Ytbobfgbjliolmaa

namespace Go.Proofs.Ytbobfgbjliolmaa
open Go.RowKit
set_option linter.unusedVariables false
set_option linter.unusedSimpArgs false
set_option maxRecDepth 20000
def laterL (l : List Mk) (low : Int) : List Mk := l.filter fun x => decide (low < x.sq)
theorem filter_snoc {P : Mk → Bool} {l : List Mk} {k : Nat} (h : k < l.length) : (l.take (k + 1)).filter P = (l.take k).filter P ++ (if P l[k] = true then [l[k]] else []) := by
  rw [List.take_succ_eq_append_getElem h, List.filter_append]
  congr 1
  by_cases q : P l[k] = true
  · rw [if_pos q, List.filter_cons_of_pos q]; rfl
  · rw [if_neg q, List.filter_cons_of_neg q]; rfl
end Go.Proofs.Ytbobfgbjliolmaa

namespace Go.Proofs.Ytbobfgbjliolmaa
open Go.RowKit
set_option linter.unusedVariables false
set_option linter.unusedSimpArgs false
set_option maxRecDepth 20000
abbrev cFn : AV := CL (.func 38) 0 [OP 1 0]
theorem zs_lt {n : Nat} : zc_api_Marks.all (ltA n) = true := _root_.id rfl
abbrev HM5 (s : Ms) (low : Int) (l : List Mk) (y : Mk) : List AObj := [⟨1, ty_api_Marks, 0, MC s⟩, ⟨1, ty_int, 0, [nA low]⟩, ⟨1, ty_api_Marks, 0, zc_api_Marks⟩, ⟨4, ty_api_Mark, 3, l.map mE⟩, ⟨1, ty_api_Mark, 0, mC y⟩]
abbrev HM (s : Ms) (low : Int) (l : List Mk) : List AObj := [⟨1, ty_api_Marks, 0, MC s⟩, ⟨1, ty_int, 0, [nA low]⟩, ⟨1, ty_api_Marks, 0, zc_api_Marks⟩, ⟨4, ty_api_Mark, 3, l.map mE⟩]
theorem callV_x {R : Type} {m : Nat} {x : Mk} {H : List AObj} {K : AV → List AObj → Option R} : callVE (slices_IndexFunc_Mark_env m) cFn [.agg (mC x)] H K = keepE (marks_moved_1_t m [.agg (mC x), OP 1 0] H) K := _root_.id rfl
theorem callV_d {R : Type} {m : Nat} {x : Mk} {H : List AObj} {K : AV → List AObj → Option R} : callVE (slices_DeleteFunc_Mark_env m) cFn [.agg (mC x)] H K = keepE (marks_moved_1_t m [.agg (mC x), OP 1 0] H) K := _root_.id rfl
theorem clo_s (m : Nat) (s : Ms) (low : Int) (l : List Mk) (x : Mk) : marks_moved_1_t m [.agg (mC x), OP 1 0] (HM s low l) = some (bA (decide (x.sq ≤ low)), HM s low l) := by
  show marks_moved_1 m _ _ _ = _
  rw [marks_moved_1_eq]
  simp (config := {maxSteps := 4000000, implicitDefEqProofs := false}) (disch := omega) only [go_sem, ↓reduceIte, Nat.reduceAdd, Nat.reduceSub, Nat.reduceMul, Nat.reduceLeDiff, Nat.reduceLT, Int.reduceEq, Int.reduceNe, Int.reduceLT, Int.reduceLE, Int.reduceAdd, Int.reduceSub, Int.reduceMul, Int.reduceNeg, Nat.zero_add, Nat.add_zero, Nat.mul_one, Int.toNat_natCast, Int.natCast_zero, Int.cast_ofNat_Int, or_false, false_or, or_true, true_or, Int.reduceToNat, Nat.sub_zero, Int.natCast_nonneg, Int.toNat_zero, Bool.true_and, Bool.and_true, Bool.false_and, Bool.and_false, Bool.true_or, Bool.or_true, Bool.false_or, Bool.or_false, Bool.not_true, Bool.not_false, Bool.not_not, true_and, and_true, false_and, and_false, not_true_eq_false, not_false_eq_true, eq_self, decide_true, decide_false, ne_eq, implies_true, forall_const, true_implies, false_implies, Bool.true_eq_false, Bool.false_eq_true, reduceCtorEq, List.map_cons, List.map_nil, List.all_cons, List.all_nil, List.length_cons, List.length_nil, List.length_map, List.length_append, List.nil_append, List.cons_append, List.set_cons_zero, List.set_cons_succ, List.set_nil, List.drop_zero, List.drop_succ_cons, List.drop_nil, List.take_zero, List.take_succ_cons, List.take_nil, Option.map_some, Option.map_none, Option.isSome_some, Nat.reduceEqDiff, Nat.reduceBEq, Nat.reduceGT, List.all_append, List.all_map, Function.comp_def, decide_eq_true_eq, Bool.and_eq_true, beq_self_eq_true, or_self, and_self, ite_true, ite_false, Nat.le_refl, Bool.not_eq_true, decide_not, Bool.not_eq_true', decide_eq_false_iff_not, Bool.not_eq_false, Bool.or_eq_true, if_true, if_false, ite_self, mE_it, mc_len, mc_sure, mc_ltA, mc_lt1, mc_all1, mc_ro, mc_take, mc_sl, mc_set, mc_fr, mc_sq, mc_tm, zcM_eq, ms_len, ms_sure, ms_ltA, ms_lt1, ms_all1, ms_ro, ms_take, ms_set, ms_low, ms_root, ms_l, zs_len, zs_sure, zs_ltA, zs_ro, zs_set, zs_set2, zs_take, zs_b, me_ltA, me_len3, natInt, u_nthM, all_tt, zs_lt]
  try rfl
theorem clo_s2 (m : Nat) (s : Ms) (low : Int) (l : List Mk) (x y : Mk) : marks_moved_1_t m [.agg (mC x), OP 1 0] (HM5 s low l y) = some (bA (decide (x.sq ≤ low)), HM5 s low l y) := by
  show marks_moved_1 m _ _ _ = _
  rw [marks_moved_1_eq]
  simp (config := {maxSteps := 4000000, implicitDefEqProofs := false}) (disch := omega) only [go_sem, ↓reduceIte, Nat.reduceAdd, Nat.reduceSub, Nat.reduceMul, Nat.reduceLeDiff, Nat.reduceLT, Int.reduceEq, Int.reduceNe, Int.reduceLT, Int.reduceLE, Int.reduceAdd, Int.reduceSub, Int.reduceMul, Int.reduceNeg, Nat.zero_add, Nat.add_zero, Nat.mul_one, Int.toNat_natCast, Int.natCast_zero, Int.cast_ofNat_Int, or_false, false_or, or_true, true_or, Int.reduceToNat, Nat.sub_zero, Int.natCast_nonneg, Int.toNat_zero, Bool.true_and, Bool.and_true, Bool.false_and, Bool.and_false, Bool.true_or, Bool.or_true, Bool.false_or, Bool.or_false, Bool.not_true, Bool.not_false, Bool.not_not, true_and, and_true, false_and, and_false, not_true_eq_false, not_false_eq_true, eq_self, decide_true, decide_false, ne_eq, implies_true, forall_const, true_implies, false_implies, Bool.true_eq_false, Bool.false_eq_true, reduceCtorEq, List.map_cons, List.map_nil, List.all_cons, List.all_nil, List.length_cons, List.length_nil, List.length_map, List.length_append, List.nil_append, List.cons_append, List.set_cons_zero, List.set_cons_succ, List.set_nil, List.drop_zero, List.drop_succ_cons, List.drop_nil, List.take_zero, List.take_succ_cons, List.take_nil, Option.map_some, Option.map_none, Option.isSome_some, Nat.reduceEqDiff, Nat.reduceBEq, Nat.reduceGT, List.all_append, List.all_map, Function.comp_def, decide_eq_true_eq, Bool.and_eq_true, beq_self_eq_true, or_self, and_self, ite_true, ite_false, Nat.le_refl, Bool.not_eq_true, decide_not, Bool.not_eq_true', decide_eq_false_iff_not, Bool.not_eq_false, Bool.or_eq_true, if_true, if_false, ite_self, mE_it, mc_len, mc_sure, mc_ltA, mc_lt1, mc_all1, mc_ro, mc_take, mc_sl, mc_set, mc_fr, mc_sq, mc_tm, zcM_eq, ms_len, ms_sure, ms_ltA, ms_lt1, ms_all1, ms_ro, ms_take, ms_set, ms_low, ms_root, ms_l, zs_len, zs_sure, zs_ltA, zs_ro, zs_set, zs_set2, zs_take, zs_b, me_ltA, me_len3, natInt, u_nthM, all_tt, zs_lt]
  try rfl
theorem flM_len (l : List Mk) : (flat (l.map mE)).length = l.length * 3 := by
  have : allC 3 (l.map mE) := fun d hd => by
    obtain ⟨x, _, rfl⟩ := List.mem_map.1 hd
    rfl
  rw [flatE_length this, List.length_map]
theorem flM_get : ∀ (l : List Mk) (k : Nat) (h : k < l.length), List.take 3 (List.drop (k * 3) (flat (l.map mE))) = mC l[k]
  | [], k, h => by simp at h
  | x :: r, 0, h => by
    have e : flat ((x :: r).map mE) = mC x ++ flat (r.map mE) := by simp [flat]; rfl
    rw [e]
    rfl
  | x :: r, k + 1, h => by
    have e : flat ((x :: r).map mE) = mC x ++ flat (r.map mE) := by simp [flat]; rfl
    rw [e, show (k + 1) * 3 = (mC x).length + k * 3 by rw [mc_len]; omega, ← List.drop_drop, List.drop_left, flM_get r k (by simpa using h)]
    rfl
def firstG (low : Int) (l : List Mk) : Nat := l.findIdx fun x => decide (x.sq ≤ low)
theorem first_s (m : Nat) (s : Ms) (low : Int) (l : List Mk) (hm : l.length < m) (hl : l.length ≤ 1000000) : slices_IndexFunc_Mark m (PR 3 l.length) cFn (HM s low l) = some (nA (if firstG low l < l.length then (firstG low l : Int) else -1), HM s low l) := by
  rw [slices_IndexFunc_Mark_eq]
  simp (config := {maxSteps := 4000000, implicitDefEqProofs := false}) (disch := omega) only [go_sem, ↓reduceIte, Nat.reduceAdd, Nat.reduceSub, Nat.reduceMul, Nat.reduceLeDiff, Nat.reduceLT, Int.reduceEq, Int.reduceNe, Int.reduceLT, Int.reduceLE, Int.reduceAdd, Int.reduceSub, Int.reduceMul, Int.reduceNeg, Nat.zero_add, Nat.add_zero, Nat.mul_one, Int.toNat_natCast, Int.natCast_zero, Int.cast_ofNat_Int, or_false, false_or, or_true, true_or, Int.reduceToNat, Nat.sub_zero, Int.natCast_nonneg, Int.toNat_zero, Bool.true_and, Bool.and_true, Bool.false_and, Bool.and_false, Bool.true_or, Bool.or_true, Bool.false_or, Bool.or_false, Bool.not_true, Bool.not_false, Bool.not_not, true_and, and_true, false_and, and_false, not_true_eq_false, not_false_eq_true, eq_self, decide_true, decide_false, ne_eq, implies_true, forall_const, true_implies, false_implies, Bool.true_eq_false, Bool.false_eq_true, reduceCtorEq, List.map_cons, List.map_nil, List.all_cons, List.all_nil, List.length_cons, List.length_nil, List.length_map, List.length_append, List.nil_append, List.cons_append, List.set_cons_zero, List.set_cons_succ, List.set_nil, List.drop_zero, List.drop_succ_cons, List.drop_nil, List.take_zero, List.take_succ_cons, List.take_nil, Option.map_some, Option.map_none, Option.isSome_some, Nat.reduceEqDiff, Nat.reduceBEq, Nat.reduceGT, List.all_append, List.all_map, Function.comp_def, decide_eq_true_eq, Bool.and_eq_true, beq_self_eq_true, or_self, and_self, ite_true, ite_false, Nat.le_refl, Bool.not_eq_true, decide_not, Bool.not_eq_true', decide_eq_false_iff_not, Bool.not_eq_false, Bool.or_eq_true, if_true, if_false, ite_self, mE_it, mc_len, mc_sure, mc_ltA, mc_lt1, mc_all1, mc_ro, mc_take, mc_sl, mc_set, mc_fr, mc_sq, mc_tm, zcM_eq, ms_len, ms_sure, ms_ltA, ms_lt1, ms_all1, ms_ro, ms_take, ms_set, ms_low, ms_root, ms_l, zs_len, zs_sure, zs_ltA, zs_ro, zs_set, zs_set2, zs_take, zs_b, me_ltA, me_len3, natInt, u_nthM, all_tt]
  generalize hg : (if firstG low l < l.length then (firstG low l : Int) else -1) = g
  have hhit : ∀ k, k < l.length → (∀ (i : Nat) (h : i < l.length), i < k → low < l[i].sq) → (∀ h : k < l.length, l[k].sq ≤ low) → g = (k : Int) := by
    intro k hk h1 h2
    have : firstG low l = k := by
      unfold firstG
      refine (List.findIdx_eq hk).2 ⟨by simpa using h2 hk, fun j hj => by
        have := h1 j (by omega) hj
        simp; exact this⟩
    rw [← hg, this, if_pos hk]
  have hno : (∀ (i : Nat) (h : i < l.length), low < l[i].sq) → g = -1 := by
    intro h1
    have : firstG low l = l.length := by
      unfold firstG
      refine List.findIdx_eq_length.2 fun x hx => ?_
      obtain ⟨i, hi, rfl⟩ := List.getElem_of_mem hx
      have := h1 i hi
      simp; exact this
    rw [← hg, this, if_neg (by omega)]
  refine iter_go (ι := {k : Nat // k ≤ l.length ∧ ∀ (i : Nat) (h : i < l.length), i < k → low < l[i].sq}) (fun k => ⟨HM s low l, [(0, PR 3 l.length), (1, cFn), (7, nA l.length), (8, nA k.1)]⟩) (fun k => l.length - k.1) (fun _ => some (nA g, HM s low l)) ?_ ⟨0, Nat.zero_le _, fun i h h2 => by omega⟩ (by dsimp only; omega)
  rintro kx hkx ⟨k, hk, hall⟩ kc hkc
  dsimp only at hkc ⊢
  rw [slices_IndexFunc_Mark_b1_eq]
  by_cases hlt : k < l.length
  · have hlt' : (k : Int) < (l.length : Int) := by omega
    have hC := clo_s m s low l l[k]
    have hpos : 0 < l.length := by omega
    have hF1 : k * 3 + 3 ≤ (flat (l.map mE)).length := by rw [flM_len]; omega
    have hF2 := flM_get l k hlt
    by_cases hq : l[k].sq ≤ low
    · rw [hhit k hlt hall fun _ => hq]
      simp (config := {maxSteps := 4000000, implicitDefEqProofs := false}) (disch := omega) only [go_sem, ↓reduceIte, Nat.reduceAdd, Nat.reduceSub, Nat.reduceMul, Nat.reduceLeDiff, Nat.reduceLT, Int.reduceEq, Int.reduceNe, Int.reduceLT, Int.reduceLE, Int.reduceAdd, Int.reduceSub, Int.reduceMul, Int.reduceNeg, Nat.zero_add, Nat.add_zero, Nat.mul_one, Int.toNat_natCast, Int.natCast_zero, Int.cast_ofNat_Int, or_false, false_or, or_true, true_or, Int.reduceToNat, Nat.sub_zero, Int.natCast_nonneg, Int.toNat_zero, Bool.true_and, Bool.and_true, Bool.false_and, Bool.and_false, Bool.true_or, Bool.or_true, Bool.false_or, Bool.or_false, Bool.not_true, Bool.not_false, Bool.not_not, true_and, and_true, false_and, and_false, not_true_eq_false, not_false_eq_true, eq_self, decide_true, decide_false, ne_eq, implies_true, forall_const, true_implies, false_implies, Bool.true_eq_false, Bool.false_eq_true, reduceCtorEq, List.map_cons, List.map_nil, List.all_cons, List.all_nil, List.length_cons, List.length_nil, List.length_map, List.length_append, List.nil_append, List.cons_append, List.set_cons_zero, List.set_cons_succ, List.set_nil, List.drop_zero, List.drop_succ_cons, List.drop_nil, List.take_zero, List.take_succ_cons, List.take_nil, Option.map_some, Option.map_none, Option.isSome_some, Nat.reduceEqDiff, Nat.reduceBEq, Nat.reduceGT, List.all_append, List.all_map, Function.comp_def, decide_eq_true_eq, Bool.and_eq_true, beq_self_eq_true, or_self, and_self, ite_true, ite_false, Nat.le_refl, Bool.not_eq_true, decide_not, Bool.not_eq_true', decide_eq_false_iff_not, Bool.not_eq_false, Bool.or_eq_true, if_true, if_false, ite_self, mE_it, mc_len, mc_sure, mc_ltA, mc_lt1, mc_all1, mc_ro, mc_take, mc_sl, mc_set, mc_fr, mc_sq, mc_tm, zcM_eq, ms_len, ms_sure, ms_ltA, ms_lt1, ms_all1, ms_ro, ms_take, ms_set, ms_low, ms_root, ms_l, zs_len, zs_sure, zs_ltA, zs_ro, zs_set, zs_set2, zs_take, zs_b, me_ltA, me_len3, natInt, u_nthM, all_tt, zs_lt, hlt', hpos, hF1, hF2, callV_x, hC, hq, w_i64, hkx, slices_IndexFunc_Mark_r1_eq]
    · have step := hkc ⟨k + 1, by omega, fun i h h2 => by
        rcases Nat.lt_or_ge i k with q | q
        · exact hall i h q
        · have : i = k := by omega
          subst this; omega⟩ (by dsimp only; omega)
      simp (config := {maxSteps := 4000000, implicitDefEqProofs := false}) (disch := omega) only [go_sem, ↓reduceIte, Nat.reduceAdd, Nat.reduceSub, Nat.reduceMul, Nat.reduceLeDiff, Nat.reduceLT, Int.reduceEq, Int.reduceNe, Int.reduceLT, Int.reduceLE, Int.reduceAdd, Int.reduceSub, Int.reduceMul, Int.reduceNeg, Nat.zero_add, Nat.add_zero, Nat.mul_one, Int.toNat_natCast, Int.natCast_zero, Int.cast_ofNat_Int, or_false, false_or, or_true, true_or, Int.reduceToNat, Nat.sub_zero, Int.natCast_nonneg, Int.toNat_zero, Bool.true_and, Bool.and_true, Bool.false_and, Bool.and_false, Bool.true_or, Bool.or_true, Bool.false_or, Bool.or_false, Bool.not_true, Bool.not_false, Bool.not_not, true_and, and_true, false_and, and_false, not_true_eq_false, not_false_eq_true, eq_self, decide_true, decide_false, ne_eq, implies_true, forall_const, true_implies, false_implies, Bool.true_eq_false, Bool.false_eq_true, reduceCtorEq, List.map_cons, List.map_nil, List.all_cons, List.all_nil, List.length_cons, List.length_nil, List.length_map, List.length_append, List.nil_append, List.cons_append, List.set_cons_zero, List.set_cons_succ, List.set_nil, List.drop_zero, List.drop_succ_cons, List.drop_nil, List.take_zero, List.take_succ_cons, List.take_nil, Option.map_some, Option.map_none, Option.isSome_some, Nat.reduceEqDiff, Nat.reduceBEq, Nat.reduceGT, List.all_append, List.all_map, Function.comp_def, decide_eq_true_eq, Bool.and_eq_true, beq_self_eq_true, or_self, and_self, ite_true, ite_false, Nat.le_refl, Bool.not_eq_true, decide_not, Bool.not_eq_true', decide_eq_false_iff_not, Bool.not_eq_false, Bool.or_eq_true, if_true, if_false, ite_self, mE_it, mc_len, mc_sure, mc_ltA, mc_lt1, mc_all1, mc_ro, mc_take, mc_sl, mc_set, mc_fr, mc_sq, mc_tm, zcM_eq, ms_len, ms_sure, ms_ltA, ms_lt1, ms_all1, ms_ro, ms_take, ms_set, ms_low, ms_root, ms_l, zs_len, zs_sure, zs_ltA, zs_ro, zs_set, zs_set2, zs_take, zs_b, me_ltA, me_len3, natInt, u_nthM, all_tt, zs_lt, hlt', hpos, hF1, hF2, callV_x, hC, hq, w_i64, slices_IndexFunc_Mark_r1_eq]
      exact step
  · have hlt' : ¬ (k : Int) < (l.length : Int) := by omega
    rw [hno fun i h => hall i h (by omega)]
    simp (config := {maxSteps := 4000000, implicitDefEqProofs := false}) (disch := omega) only [go_sem, ↓reduceIte, Nat.reduceAdd, Nat.reduceSub, Nat.reduceMul, Nat.reduceLeDiff, Nat.reduceLT, Int.reduceEq, Int.reduceNe, Int.reduceLT, Int.reduceLE, Int.reduceAdd, Int.reduceSub, Int.reduceMul, Int.reduceNeg, Nat.zero_add, Nat.add_zero, Nat.mul_one, Int.toNat_natCast, Int.natCast_zero, Int.cast_ofNat_Int, or_false, false_or, or_true, true_or, Int.reduceToNat, Nat.sub_zero, Int.natCast_nonneg, Int.toNat_zero, Bool.true_and, Bool.and_true, Bool.false_and, Bool.and_false, Bool.true_or, Bool.or_true, Bool.false_or, Bool.or_false, Bool.not_true, Bool.not_false, Bool.not_not, true_and, and_true, false_and, and_false, not_true_eq_false, not_false_eq_true, eq_self, decide_true, decide_false, ne_eq, implies_true, forall_const, true_implies, false_implies, Bool.true_eq_false, Bool.false_eq_true, reduceCtorEq, List.map_cons, List.map_nil, List.all_cons, List.all_nil, List.length_cons, List.length_nil, List.length_map, List.length_append, List.nil_append, List.cons_append, List.set_cons_zero, List.set_cons_succ, List.set_nil, List.drop_zero, List.drop_succ_cons, List.drop_nil, List.take_zero, List.take_succ_cons, List.take_nil, Option.map_some, Option.map_none, Option.isSome_some, Nat.reduceEqDiff, Nat.reduceBEq, Nat.reduceGT, List.all_append, List.all_map, Function.comp_def, decide_eq_true_eq, Bool.and_eq_true, beq_self_eq_true, or_self, and_self, ite_true, ite_false, Nat.le_refl, Bool.not_eq_true, decide_not, Bool.not_eq_true', decide_eq_false_iff_not, Bool.not_eq_false, Bool.or_eq_true, if_true, if_false, ite_self, mE_it, mc_len, mc_sure, mc_ltA, mc_lt1, mc_all1, mc_ro, mc_take, mc_sl, mc_set, mc_fr, mc_sq, mc_tm, zcM_eq, ms_len, ms_sure, ms_ltA, ms_lt1, ms_all1, ms_ro, ms_take, ms_set, ms_low, ms_root, ms_l, zs_len, zs_sure, zs_ltA, zs_ro, zs_set, zs_set2, zs_take, zs_b, me_ltA, me_len3, natInt, u_nthM, all_tt, zs_lt, hlt', hkx, slices_IndexFunc_Mark_r1_eq]
theorem later_none {low : Int} {l : List Mk} (h : ¬ firstG low l < l.length) : laterL l low = l := by
  unfold laterL
  refine List.filter_eq_self.2 fun x hx => ?_
  have : firstG low l = l.length := Nat.le_antisymm List.findIdx_le_length (by omega)
  have := List.findIdx_eq_length.1 this x hx
  simp at this ⊢
  exact this
theorem later_first {low : Int} {l : List Mk} (h : firstG low l < l.length) : laterL (l.take (firstG low l)) low = l.take (firstG low l) ∧ l[firstG low l].sq ≤ low := by
  refine ⟨List.filter_eq_self.2 fun x hx => ?_, by have := List.findIdx_getElem (w := h); exact of_decide_eq_true this⟩
  obtain ⟨i, hi, rfl⟩ := List.getElem_of_mem hx
  rw [List.length_take] at hi
  have := List.not_of_lt_findIdx (show i < firstG low l by omega)
  simp at this ⊢
  exact this
theorem flM_set (l : List Mk) (k : Nat) (x : Mk) (h : k < l.length) : (l.map mE).set k (.agg (mC x)) = (l.set k x).map mE := by rw [List.map_set]; rfl
def Cut (low : Int) (l c : List Mk) (i j : Nat) : Prop := c.length = l.length ∧ i < j ∧ j ≤ l.length ∧ c.take i = laterL (l.take j) low ∧ c.drop j = l.drop j
theorem cut_get {low : Int} {l c : List Mk} {i j : Nat} (h : Cut low l c i j) (hj : j < l.length) : c[j]'(by rw [h.1]; exact hj) = l[j] := by
  have h5 := h.2.2.2.2
  have hc : j < c.length := by rw [h.1]; exact hj
  rw [List.drop_eq_getElem_cons hc, List.drop_eq_getElem_cons hj] at h5
  injection h5
theorem cut_keep {low : Int} {l c : List Mk} {i j : Nat} (h : Cut low l c i j) (hj : j < l.length) (hk : low < l[j].sq) : Cut low l (c.set i l[j]) (i + 1) (j + 1) := by
  obtain ⟨h1, h2, h3, h4, h5⟩ := h
  have hi : i < c.length := by omega
  refine ⟨by rw [List.length_set]; exact h1, by omega, by omega, ?_, ?_⟩
  · have hs : laterL (l.take (j + 1)) low = laterL (l.take j) low ++ (if decide (low < l[j].sq) = true then [l[j]] else []) := filter_snoc hj
    rw [hs, if_pos (decide_eq_true hk), ← h4, List.take_succ_eq_append_getElem (by rw [List.length_set]; exact hi), List.getElem_set_self, List.take_set_of_le (Nat.le_refl _)]
  · rw [List.drop_set_of_lt (by omega)]
    have : (c.drop j).drop 1 = (l.drop j).drop 1 := by rw [h5]
    rwa [List.drop_drop, List.drop_drop] at this
theorem cut_go {low : Int} {l c : List Mk} {i j : Nat} (h : Cut low l c i j) (hj : j < l.length) (hk : ¬ low < l[j].sq) : Cut low l c i (j + 1) := by
  obtain ⟨h1, h2, h3, h4, h5⟩ := h
  refine ⟨h1, by omega, by omega, ?_, ?_⟩
  · have hs : laterL (l.take (j + 1)) low = laterL (l.take j) low ++ (if decide (low < l[j].sq) = true then [l[j]] else []) := filter_snoc hj
    rw [hs, if_neg (by simp; omega), List.append_nil]
    exact h4
  · have : (c.drop j).drop 1 = (l.drop j).drop 1 := by rw [h5]
    rwa [List.drop_drop, List.drop_drop] at this
def delG (low : Int) (l : List Mk) : Nat → Nat → List Mk → Nat → List Mk × Nat
  | 0, j, c, i => (c, i)
  | n + 1, j, c, i => match l[j]? with
    | some x => if low < x.sq then delG low l n (j + 1) (c.set i x) (i + 1) else delG low l n (j + 1) c i
    | none => (c, i)
theorem delG_cut {low : Int} {l : List Mk} : ∀ (n j : Nat) (c : List Mk) (i : Nat), j + n = l.length → Cut low l c i j → Cut low l (delG low l n j c i).1 (delG low l n j c i).2 l.length
  | 0, j, c, i, h, hc => by
    have : j = l.length := by omega
    subst this
    exact hc
  | n + 1, j, c, i, h, hc => by
    have hj : j < l.length := by omega
    unfold delG
    rw [List.getElem?_eq_getElem hj]
    dsimp only
    by_cases hk : low < l[j].sq
    · rw [if_pos hk]
      exact delG_cut n (j + 1) _ _ (by omega) (cut_keep hc hj hk)
    · rw [if_neg hk]
      exact delG_cut n (j + 1) _ _ (by omega) (cut_go hc hj hk)
theorem lt_P4 {n : Nat} : ltA 4 (PR 3 n) = true := _root_.id rfl
theorem lt_P4t {n : Nat} : ltT 4 (PR 3 n) = true := _root_.id rfl
theorem lt_c4 : ltT 4 cFn = true := _root_.id rfl
theorem cut_first {low : Int} {l : List Mk} (h : firstG low l < l.length) : Cut low l l (firstG low l) (firstG low l + 1) := by
  obtain ⟨h1, h2⟩ := later_first h
  refine ⟨rfl, by omega, by omega, ?_, rfl⟩
  have hs : laterL (l.take (firstG low l + 1)) low = laterL (l.take (firstG low l)) low ++ (if decide (low < l[firstG low l].sq) = true then [l[firstG low l]] else []) := filter_snoc h
  rw [hs, if_neg (by simp; omega), List.append_nil, h1]
theorem del0_s (m : Nat) (s : Ms) (low : Int) (l : List Mk) (hm : l.length < m) (hl : l.length ≤ 1000000) : slices_DeleteFunc_Mark_t m [PR 3 l.length, cFn] (HM s low l) = some (if firstG low l < l.length then (TU [SL [], PR 3 l.length, nA ((delG low l (l.length - (firstG low l + 1)) (firstG low l + 1) l (firstG low l)).2 : Int)], HM s low (delG low l (l.length - (firstG low l + 1)) (firstG low l + 1) l (firstG low l)).1) else (TU [PR 3 l.length, PR 3 l.length], HM s low l)) := by
  have hI := first_s m s low l hm hl
  show slices_DeleteFunc_Mark m _ _ _ = _
  rw [slices_DeleteFunc_Mark_eq]
  by_cases hf : firstG low l < l.length
  case neg =>
    rw [if_neg hf] at hI
    rw [if_neg hf]
    simp (config := {maxSteps := 4000000, implicitDefEqProofs := false}) (disch := omega) only [go_sem, ↓reduceIte, Nat.reduceAdd, Nat.reduceSub, Nat.reduceMul, Nat.reduceLeDiff, Nat.reduceLT, Int.reduceEq, Int.reduceNe, Int.reduceLT, Int.reduceLE, Int.reduceAdd, Int.reduceSub, Int.reduceMul, Int.reduceNeg, Nat.zero_add, Nat.add_zero, Nat.mul_one, Int.toNat_natCast, Int.natCast_zero, Int.cast_ofNat_Int, or_false, false_or, or_true, true_or, Int.reduceToNat, Nat.sub_zero, Int.natCast_nonneg, Int.toNat_zero, Bool.true_and, Bool.and_true, Bool.false_and, Bool.and_false, Bool.true_or, Bool.or_true, Bool.false_or, Bool.or_false, Bool.not_true, Bool.not_false, Bool.not_not, true_and, and_true, false_and, and_false, not_true_eq_false, not_false_eq_true, eq_self, decide_true, decide_false, ne_eq, implies_true, forall_const, true_implies, false_implies, Bool.true_eq_false, Bool.false_eq_true, reduceCtorEq, List.map_cons, List.map_nil, List.all_cons, List.all_nil, List.length_cons, List.length_nil, List.length_map, List.length_append, List.nil_append, List.cons_append, List.set_cons_zero, List.set_cons_succ, List.set_nil, List.drop_zero, List.drop_succ_cons, List.drop_nil, List.take_zero, List.take_succ_cons, List.take_nil, Option.map_some, Option.map_none, Option.isSome_some, Nat.reduceEqDiff, Nat.reduceBEq, Nat.reduceGT, List.all_append, List.all_map, Function.comp_def, decide_eq_true_eq, Bool.and_eq_true, beq_self_eq_true, or_self, and_self, ite_true, ite_false, Nat.le_refl, Bool.not_eq_true, decide_not, Bool.not_eq_true', decide_eq_false_iff_not, Bool.not_eq_false, Bool.or_eq_true, if_true, if_false, ite_self, mE_it, mc_len, mc_sure, mc_ltA, mc_lt1, mc_all1, mc_ro, mc_take, mc_sl, mc_set, mc_fr, mc_sq, mc_tm, zcM_eq, ms_len, ms_sure, ms_ltA, ms_lt1, ms_all1, ms_ro, ms_take, ms_set, ms_low, ms_root, ms_l, zs_len, zs_sure, zs_ltA, zs_ro, zs_set, zs_set2, zs_take, zs_b, me_ltA, me_len3, natInt, u_nthM, all_tt, zs_lt, lt_P4, hI, slices_DeleteFunc_Mark_r1_eq]
  rw [if_pos hf] at hI
  rw [if_pos hf]
  have hcut := cut_first hf
  generalize firstG low l = p at hf hI hcut
  have hp1 : ¬ (p : Int) = -1 := by omega
  generalize hg : delG low l (l.length - (p + 1)) (p + 1) l p = G
  obtain ⟨C, I⟩ := G
  simp (config := {maxSteps := 4000000, implicitDefEqProofs := false}) (disch := omega) only [go_sem, ↓reduceIte, Nat.reduceAdd, Nat.reduceSub, Nat.reduceMul, Nat.reduceLeDiff, Nat.reduceLT, Int.reduceEq, Int.reduceNe, Int.reduceLT, Int.reduceLE, Int.reduceAdd, Int.reduceSub, Int.reduceMul, Int.reduceNeg, Nat.zero_add, Nat.add_zero, Nat.mul_one, Int.toNat_natCast, Int.natCast_zero, Int.cast_ofNat_Int, or_false, false_or, or_true, true_or, Int.reduceToNat, Nat.sub_zero, Int.natCast_nonneg, Int.toNat_zero, Bool.true_and, Bool.and_true, Bool.false_and, Bool.and_false, Bool.true_or, Bool.or_true, Bool.false_or, Bool.or_false, Bool.not_true, Bool.not_false, Bool.not_not, true_and, and_true, false_and, and_false, not_true_eq_false, not_false_eq_true, eq_self, decide_true, decide_false, ne_eq, implies_true, forall_const, true_implies, false_implies, Bool.true_eq_false, Bool.false_eq_true, reduceCtorEq, List.map_cons, List.map_nil, List.all_cons, List.all_nil, List.length_cons, List.length_nil, List.length_map, List.length_append, List.nil_append, List.cons_append, List.set_cons_zero, List.set_cons_succ, List.set_nil, List.drop_zero, List.drop_succ_cons, List.drop_nil, List.take_zero, List.take_succ_cons, List.take_nil, Option.map_some, Option.map_none, Option.isSome_some, Nat.reduceEqDiff, Nat.reduceBEq, Nat.reduceGT, List.all_append, List.all_map, Function.comp_def, decide_eq_true_eq, Bool.and_eq_true, beq_self_eq_true, or_self, and_self, ite_true, ite_false, Nat.le_refl, Bool.not_eq_true, decide_not, Bool.not_eq_true', decide_eq_false_iff_not, Bool.not_eq_false, Bool.or_eq_true, if_true, if_false, ite_self, mE_it, mc_len, mc_sure, mc_ltA, mc_lt1, mc_all1, mc_ro, mc_take, mc_sl, mc_set, mc_fr, mc_sq, mc_tm, zcM_eq, ms_len, ms_sure, ms_ltA, ms_lt1, ms_all1, ms_ro, ms_take, ms_set, ms_low, ms_root, ms_l, zs_len, zs_sure, zs_ltA, zs_ro, zs_set, zs_set2, zs_take, zs_b, me_ltA, me_len3, natInt, u_nthM, all_tt, zs_lt, lt_P4, hI, hp1, w_i64]
  refine iter_go (ι := {q : Nat × Nat × List Mk // Cut low l q.2.2 q.1 q.2.1 ∧ delG low l (l.length - q.2.1) q.2.1 q.2.2 q.1 = (C, I)}) (fun q => ⟨HM s low q.1.2.2, [(0, PR 3 l.length), (1, cFn), (4, V (.slice none 0 0)), (5, nA q.1.1), (6, nA q.1.2.1)]⟩) (fun q => l.length - q.1.2.1) (fun _ => some (TU [SL [], PR 3 l.length, nA I], HM s low C)) ?_ ⟨(p, p + 1, l), hcut, hg⟩ (by dsimp only; omega)
  rintro kx hkx ⟨⟨i, j, c⟩, hc, hG⟩ kc hkc
  dsimp only at hkc hc hG ⊢
  rw [slices_DeleteFunc_Mark_b1_eq]
  have hcl := hc.1
  by_cases hlt : j < l.length
  · have hlt' : (j : Int) < (l.length : Int) := by omega
    have hcj : j < c.length := by omega
    have hij : i < c.length := by have := hc.2.1; omega
    have hij' : (i : Int) < (l.length : Int) := by omega
    have hil : i < l.length := by omega
    have hpos : 0 < l.length := by omega
    have hF1 : j * 3 + 3 ≤ (flat (c.map mE)).length := by rw [flM_len]; omega
    have hF2 := flM_get c j hcj
    rw [cut_get hc hlt] at hF2
    have hC := clo_s2 m s low c l[j] l[j]
    obtain ⟨n, hn⟩ : ∃ n, l.length - j = n + 1 := ⟨l.length - j - 1, by omega⟩
    rw [hn] at hG
    unfold delG at hG
    rw [List.getElem?_eq_getElem hlt] at hG
    dsimp only at hG
    have hn2 : n = l.length - (j + 1) := by omega
    rw [hn2] at hG
    have hm7 : i * 3 % 3 = 0 := Nat.mul_mod_left i 3
    have hd7 : i * 3 / 3 = i := Nat.mul_div_cancel i (by omega)
    by_cases hq : low < l[j].sq
    · rw [if_pos hq] at hG
      have hq' : ¬ l[j].sq ≤ low := by omega
      have step := hkc ⟨(i + 1, j + 1, c.set i l[j]), cut_keep hc hlt hq, hG⟩ (by dsimp only; omega)
      dsimp only at step
      have hst := flM_set c i l[j] hij
      simp (config := {maxSteps := 4000000, implicitDefEqProofs := false}) (disch := omega) only [go_sem, ↓reduceIte, Nat.reduceAdd, Nat.reduceSub, Nat.reduceMul, Nat.reduceLeDiff, Nat.reduceLT, Int.reduceEq, Int.reduceNe, Int.reduceLT, Int.reduceLE, Int.reduceAdd, Int.reduceSub, Int.reduceMul, Int.reduceNeg, Nat.zero_add, Nat.add_zero, Nat.mul_one, Int.toNat_natCast, Int.natCast_zero, Int.cast_ofNat_Int, or_false, false_or, or_true, true_or, Int.reduceToNat, Nat.sub_zero, Int.natCast_nonneg, Int.toNat_zero, Bool.true_and, Bool.and_true, Bool.false_and, Bool.and_false, Bool.true_or, Bool.or_true, Bool.false_or, Bool.or_false, Bool.not_true, Bool.not_false, Bool.not_not, true_and, and_true, false_and, and_false, not_true_eq_false, not_false_eq_true, eq_self, decide_true, decide_false, ne_eq, implies_true, forall_const, true_implies, false_implies, Bool.true_eq_false, Bool.false_eq_true, reduceCtorEq, List.map_cons, List.map_nil, List.all_cons, List.all_nil, List.length_cons, List.length_nil, List.length_map, List.length_append, List.nil_append, List.cons_append, List.set_cons_zero, List.set_cons_succ, List.set_nil, List.drop_zero, List.drop_succ_cons, List.drop_nil, List.take_zero, List.take_succ_cons, List.take_nil, Option.map_some, Option.map_none, Option.isSome_some, Nat.reduceEqDiff, Nat.reduceBEq, Nat.reduceGT, List.all_append, List.all_map, Function.comp_def, decide_eq_true_eq, Bool.and_eq_true, beq_self_eq_true, or_self, and_self, ite_true, ite_false, Nat.le_refl, Bool.not_eq_true, decide_not, Bool.not_eq_true', decide_eq_false_iff_not, Bool.not_eq_false, Bool.or_eq_true, if_true, if_false, ite_self, mE_it, mc_len, mc_sure, mc_ltA, mc_lt1, mc_all1, mc_ro, mc_take, mc_sl, mc_set, mc_fr, mc_sq, mc_tm, zcM_eq, ms_len, ms_sure, ms_ltA, ms_lt1, ms_all1, ms_ro, ms_take, ms_set, ms_low, ms_root, ms_l, zs_len, zs_sure, zs_ltA, zs_ro, zs_set, zs_set2, zs_take, zs_b, me_ltA, me_len3, natInt, u_nthM, all_tt, zs_lt, lt_P4t, lt_c4, hlt', hcl, hpos, hF1, hF2, callV_d, hC, hq', hm7, hd7, hst, hij', hil, w_i64, slices_DeleteFunc_Mark_r1_eq]
      exact step
    · rw [if_neg hq] at hG
      have hq' : l[j].sq ≤ low := by omega
      have step := hkc ⟨(i, j + 1, c), cut_go hc hlt hq, hG⟩ (by dsimp only; omega)
      dsimp only at step
      simp (config := {maxSteps := 4000000, implicitDefEqProofs := false}) (disch := omega) only [go_sem, ↓reduceIte, Nat.reduceAdd, Nat.reduceSub, Nat.reduceMul, Nat.reduceLeDiff, Nat.reduceLT, Int.reduceEq, Int.reduceNe, Int.reduceLT, Int.reduceLE, Int.reduceAdd, Int.reduceSub, Int.reduceMul, Int.reduceNeg, Nat.zero_add, Nat.add_zero, Nat.mul_one, Int.toNat_natCast, Int.natCast_zero, Int.cast_ofNat_Int, or_false, false_or, or_true, true_or, Int.reduceToNat, Nat.sub_zero, Int.natCast_nonneg, Int.toNat_zero, Bool.true_and, Bool.and_true, Bool.false_and, Bool.and_false, Bool.true_or, Bool.or_true, Bool.false_or, Bool.or_false, Bool.not_true, Bool.not_false, Bool.not_not, true_and, and_true, false_and, and_false, not_true_eq_false, not_false_eq_true, eq_self, decide_true, decide_false, ne_eq, implies_true, forall_const, true_implies, false_implies, Bool.true_eq_false, Bool.false_eq_true, reduceCtorEq, List.map_cons, List.map_nil, List.all_cons, List.all_nil, List.length_cons, List.length_nil, List.length_map, List.length_append, List.nil_append, List.cons_append, List.set_cons_zero, List.set_cons_succ, List.set_nil, List.drop_zero, List.drop_succ_cons, List.drop_nil, List.take_zero, List.take_succ_cons, List.take_nil, Option.map_some, Option.map_none, Option.isSome_some, Nat.reduceEqDiff, Nat.reduceBEq, Nat.reduceGT, List.all_append, List.all_map, Function.comp_def, decide_eq_true_eq, Bool.and_eq_true, beq_self_eq_true, or_self, and_self, ite_true, ite_false, Nat.le_refl, Bool.not_eq_true, decide_not, Bool.not_eq_true', decide_eq_false_iff_not, Bool.not_eq_false, Bool.or_eq_true, if_true, if_false, ite_self, mE_it, mc_len, mc_sure, mc_ltA, mc_lt1, mc_all1, mc_ro, mc_take, mc_sl, mc_set, mc_fr, mc_sq, mc_tm, zcM_eq, ms_len, ms_sure, ms_ltA, ms_lt1, ms_all1, ms_ro, ms_take, ms_set, ms_low, ms_root, ms_l, zs_len, zs_sure, zs_ltA, zs_ro, zs_set, zs_set2, zs_take, zs_b, me_ltA, me_len3, natInt, u_nthM, all_tt, zs_lt, lt_P4t, lt_c4, hlt', hcl, hpos, hF1, hF2, callV_d, hC, hq', w_i64, slices_DeleteFunc_Mark_r1_eq]
      exact step
  · have hlt' : ¬ (j : Int) < (l.length : Int) := by omega
    have : l.length - j = 0 := by omega
    rw [this] at hG
    have hG2 : (c, i) = (C, I) := hG
    injection hG2 with g1 g2
    subst g1 g2
    simp (config := {maxSteps := 4000000, implicitDefEqProofs := false}) (disch := omega) only [go_sem, ↓reduceIte, Nat.reduceAdd, Nat.reduceSub, Nat.reduceMul, Nat.reduceLeDiff, Nat.reduceLT, Int.reduceEq, Int.reduceNe, Int.reduceLT, Int.reduceLE, Int.reduceAdd, Int.reduceSub, Int.reduceMul, Int.reduceNeg, Nat.zero_add, Nat.add_zero, Nat.mul_one, Int.toNat_natCast, Int.natCast_zero, Int.cast_ofNat_Int, or_false, false_or, or_true, true_or, Int.reduceToNat, Nat.sub_zero, Int.natCast_nonneg, Int.toNat_zero, Bool.true_and, Bool.and_true, Bool.false_and, Bool.and_false, Bool.true_or, Bool.or_true, Bool.false_or, Bool.or_false, Bool.not_true, Bool.not_false, Bool.not_not, true_and, and_true, false_and, and_false, not_true_eq_false, not_false_eq_true, eq_self, decide_true, decide_false, ne_eq, implies_true, forall_const, true_implies, false_implies, Bool.true_eq_false, Bool.false_eq_true, reduceCtorEq, List.map_cons, List.map_nil, List.all_cons, List.all_nil, List.length_cons, List.length_nil, List.length_map, List.length_append, List.nil_append, List.cons_append, List.set_cons_zero, List.set_cons_succ, List.set_nil, List.drop_zero, List.drop_succ_cons, List.drop_nil, List.take_zero, List.take_succ_cons, List.take_nil, Option.map_some, Option.map_none, Option.isSome_some, Nat.reduceEqDiff, Nat.reduceBEq, Nat.reduceGT, List.all_append, List.all_map, Function.comp_def, decide_eq_true_eq, Bool.and_eq_true, beq_self_eq_true, or_self, and_self, ite_true, ite_false, Nat.le_refl, Bool.not_eq_true, decide_not, Bool.not_eq_true', decide_eq_false_iff_not, Bool.not_eq_false, Bool.or_eq_true, if_true, if_false, ite_self, mE_it, mc_len, mc_sure, mc_ltA, mc_lt1, mc_all1, mc_ro, mc_take, mc_sl, mc_set, mc_fr, mc_sq, mc_tm, zcM_eq, ms_len, ms_sure, ms_ltA, ms_lt1, ms_all1, ms_ro, ms_take, ms_set, ms_low, ms_root, ms_l, zs_len, zs_sure, zs_ltA, zs_ro, zs_set, zs_set2, zs_take, zs_b, me_ltA, me_len3, natInt, u_nthM, all_tt, zs_lt, lt_P4, hlt', hcl, hkx, slices_DeleteFunc_Mark_r1_eq]
theorem del_t (m : Nat) (s : Ms) (low : Int) (l : List Mk) (hm : l.length < m) (hl : l.length ≤ 1000000) (hf : firstG low l < l.length) : ∃ c, slices_DeleteFuncD_Mark_t m [PR 3 l.length, cFn] (HM s low l) = some (SL ((laterL l low).map mE), [⟨1, ty_api_Marks, 0, MC s⟩, ⟨1, ty_int, 0, [nA low]⟩, ⟨1, ty_api_Marks, 0, zc_api_Marks⟩, c]) := by
  have h := del0_s m s low l hm hl
  rw [if_pos hf] at h
  have hc := delG_cut (l.length - (firstG low l + 1)) (firstG low l + 1) l (firstG low l) (by omega) (cut_first hf)
  generalize delG low l (l.length - (firstG low l + 1)) (firstG low l + 1) l (firstG low l) = G at h hc
  obtain ⟨C, I⟩ := G
  dsimp only at h hc
  obtain ⟨h1, h2, h3, h4, h5⟩ := hc
  rw [List.take_length] at h4
  have e : (C.map mE).take I = (laterL l low).map mE := by rw [← List.map_take, h4]
  have hall : (C.map mE).all (ltA 0) = true := by rw [List.all_map]; exact me_ltA
  refine ⟨⟨0, ty_api_Mark, 3, []⟩, ?_⟩
  unfold slices_DeleteFuncD_Mark_t
  rw [h]
  show whenE (decide (4 = 4) && decide (ty_api_Mark = ty_api_Mark) && decide (3 = 3) && decide (l.length = (C.map mE).length) && decide ((0 : Int) ≤ (I : Int)) && decide ((I : Int) < (l.length : Int)) && (C.map mE).all (ltA 0)) (some (SL ((C.map mE).take (I : Int).toNat), _)) = _
  have q1 : decide (l.length = (C.map mE).length) = true := decide_eq_true (by rw [List.length_map]; omega)
  have q2 : decide ((0 : Int) ≤ (I : Int)) = true := decide_eq_true (by omega)
  have q3 : decide ((I : Int) < (l.length : Int)) = true := decide_eq_true (by omega)
  rw [q1, q2, q3, hall, natInt, e]
  rfl
theorem del_n (m : Nat) (s : Ms) (low : Int) (l : List Mk) (hm : l.length < m) (hl : l.length ≤ 1000000) (hf : ¬ firstG low l < l.length) : slices_DeleteFuncD_Mark_t m [PR 3 l.length, cFn] (HM s low l) = some (PR 3 l.length, HM s low l) := by
  have h := del0_s m s low l hm hl
  rw [if_neg hf] at h
  unfold slices_DeleteFuncD_Mark_t
  rw [h]
  rfl
def pC (a b : Int) (n : Nat) : List AV := [nA a, nA b, PR 3 n]
section
variable {R : Type} {a b : Int} {n k : Nat} {H : List AObj} {K1 : AV → Option R} {l : List Mk} {X Y Z : AObj}
theorem pc_b : buildE (some pl_api_Marks) (some zc_api_Marks) [(0, nA a), (1, nA b), (2, PR 3 n)] K1 = K1 (.agg (pC a b n)) := _root_.id rfl
theorem pc_len : (pC a b n).length = 3 := _root_.id rfl
theorem pc_sure : (pC a b n).all sure = true := _root_.id rfl
theorem pc_set : setCells zc_api_Marks 0 (pC a b n) = pC a b n := _root_.id rfl
theorem pc_take : (pC a b n).take 3 = pC a b n := _root_.id rfl
theorem pc_ro : (pC a b n).map (ro1 H) = pC a b n := _root_.id rfl
theorem pc_lt : ((pC a b n).all fun y => lt1 0 (ro1 H y)) = false := _root_.id rfl
theorem pc_fz : fzV [X, Y, Z, ⟨4, ty_api_Mark, 3, l.map mE⟩] (.agg (pC a b l.length)) = .agg (MC ⟨a, b, l⟩) := by
  have hall : (l.map mE).all (ltA 0) = true := by rw [List.all_map]; exact me_ltA
  simp [fzV, fzA, pC, fz1, fzO, hall]
  rfl
end
theorem moved_s (m : Nat) (s : Ms) (low root : Int) (hm : s.l.length < m) (hl : s.l.length ≤ 1000000) : marks_moved m (ME s) (nA low) (nA root) = some (ME ⟨low, root, laterL s.l low⟩, []) := by
  have hC : ∀ n, slices_Clone_Mark_t m [SL (s.l.map mE)] n = some (PR n (s.l.map mE).length, [⟨4, ty_api_Mark, 3, s.l.map mE⟩]) := fun n => slices_Clone_Mark_e m n (s.l.map mE) (by unfold allCE; rw [List.all_map]; exact me_len3) (by rw [List.length_map]; omega)
  rw [marks_moved_eq, ME_it, ME_it]
  by_cases hf : firstG low s.l < s.l.length
  · obtain ⟨c, hD⟩ := del_t m s low s.l hm hl hf
    simp (config := {maxSteps := 4000000, implicitDefEqProofs := false}) (disch := omega) only [go_sem, ↓reduceIte, Nat.reduceAdd, Nat.reduceSub, Nat.reduceMul, Nat.reduceLeDiff, Nat.reduceLT, Int.reduceEq, Int.reduceNe, Int.reduceLT, Int.reduceLE, Int.reduceAdd, Int.reduceSub, Int.reduceMul, Int.reduceNeg, Nat.zero_add, Nat.add_zero, Nat.mul_one, Int.toNat_natCast, Int.natCast_zero, Int.cast_ofNat_Int, or_false, false_or, or_true, true_or, Int.reduceToNat, Nat.sub_zero, Int.natCast_nonneg, Int.toNat_zero, Bool.true_and, Bool.and_true, Bool.false_and, Bool.and_false, Bool.true_or, Bool.or_true, Bool.false_or, Bool.or_false, Bool.not_true, Bool.not_false, Bool.not_not, true_and, and_true, false_and, and_false, not_true_eq_false, not_false_eq_true, eq_self, decide_true, decide_false, ne_eq, implies_true, forall_const, true_implies, false_implies, Bool.true_eq_false, Bool.false_eq_true, reduceCtorEq, List.map_cons, List.map_nil, List.all_cons, List.all_nil, List.length_cons, List.length_nil, List.length_map, List.length_append, List.nil_append, List.cons_append, List.set_cons_zero, List.set_cons_succ, List.set_nil, List.drop_zero, List.drop_succ_cons, List.drop_nil, List.take_zero, List.take_succ_cons, List.take_nil, Option.map_some, Option.map_none, Option.isSome_some, Nat.reduceEqDiff, Nat.reduceBEq, Nat.reduceGT, List.all_append, List.all_map, Function.comp_def, decide_eq_true_eq, Bool.and_eq_true, beq_self_eq_true, or_self, and_self, ite_true, ite_false, Nat.le_refl, Bool.not_eq_true, decide_not, Bool.not_eq_true', decide_eq_false_iff_not, Bool.not_eq_false, Bool.or_eq_true, if_true, if_false, ite_self, mE_it, mc_len, mc_sure, mc_ltA, mc_lt1, mc_all1, mc_ro, mc_take, mc_sl, mc_set, mc_fr, mc_sq, mc_tm, zcM_eq, ms_len, ms_sure, ms_ltA, ms_lt1, ms_all1, ms_ro, ms_take, ms_set, ms_low, ms_root, ms_l, zs_len, zs_sure, zs_ltA, zs_ro, zs_set, zs_set2, zs_take, zs_b, me_ltA, me_len3, natInt, u_nthM, all_tt, zs_lt, hC, u_addS, hD, ms_b]
  · have hD := del_n m s low s.l hm hl hf
    rw [later_none hf]
    simp (config := {maxSteps := 4000000, implicitDefEqProofs := false}) (disch := omega) only [go_sem, ↓reduceIte, Nat.reduceAdd, Nat.reduceSub, Nat.reduceMul, Nat.reduceLeDiff, Nat.reduceLT, Int.reduceEq, Int.reduceNe, Int.reduceLT, Int.reduceLE, Int.reduceAdd, Int.reduceSub, Int.reduceMul, Int.reduceNeg, Nat.zero_add, Nat.add_zero, Nat.mul_one, Int.toNat_natCast, Int.natCast_zero, Int.cast_ofNat_Int, or_false, false_or, or_true, true_or, Int.reduceToNat, Nat.sub_zero, Int.natCast_nonneg, Int.toNat_zero, Bool.true_and, Bool.and_true, Bool.false_and, Bool.and_false, Bool.true_or, Bool.or_true, Bool.false_or, Bool.or_false, Bool.not_true, Bool.not_false, Bool.not_not, true_and, and_true, false_and, and_false, not_true_eq_false, not_false_eq_true, eq_self, decide_true, decide_false, ne_eq, implies_true, forall_const, true_implies, false_implies, Bool.true_eq_false, Bool.false_eq_true, reduceCtorEq, List.map_cons, List.map_nil, List.all_cons, List.all_nil, List.length_cons, List.length_nil, List.length_map, List.length_append, List.nil_append, List.cons_append, List.set_cons_zero, List.set_cons_succ, List.set_nil, List.drop_zero, List.drop_succ_cons, List.drop_nil, List.take_zero, List.take_succ_cons, List.take_nil, Option.map_some, Option.map_none, Option.isSome_some, Nat.reduceEqDiff, Nat.reduceBEq, Nat.reduceGT, List.all_append, List.all_map, Function.comp_def, decide_eq_true_eq, Bool.and_eq_true, beq_self_eq_true, or_self, and_self, ite_true, ite_false, Nat.le_refl, Bool.not_eq_true, decide_not, Bool.not_eq_true', decide_eq_false_iff_not, Bool.not_eq_false, Bool.or_eq_true, if_true, if_false, ite_self, mE_it, mc_len, mc_sure, mc_ltA, mc_lt1, mc_all1, mc_ro, mc_take, mc_sl, mc_set, mc_fr, mc_sq, mc_tm, zcM_eq, ms_len, ms_sure, ms_ltA, ms_lt1, ms_all1, ms_ro, ms_take, ms_set, ms_low, ms_root, ms_l, zs_len, zs_sure, zs_ltA, zs_ro, zs_set, zs_set2, zs_take, zs_b, me_ltA, me_len3, natInt, u_nthM, all_tt, zs_lt, hC, u_addS, hD, pc_b, pc_len, pc_sure, pc_set, pc_take, pc_ro, pc_lt, pc_fz, u_tellZ]
end Go.Proofs.Ytbobfgbjliolmaa

namespace Go.Proofs.Ytbobfgbjliolmaa
set_option linter.unusedVariables false
set_option linter.unusedSimpArgs false
def setL (s : Nat) : List Nat := (List.range 64).filter s.testBit
def cntS (s : Nat) : Nat := (setL s).length
def bv : List Nat → Nat
  | [] => 0
  | b :: r => 2 ^ 8 * bv r + b
theorem and_cons {h b m c : Nat} (hb : b < 2 ^ 8) (hc : c < 2 ^ 8) : (2 ^ 8 * h + b) &&& (2 ^ 8 * m + c) = 2 ^ 8 * (h &&& m) + (b &&& c) := by
  have hbc : b &&& c < 2 ^ 8 := Nat.lt_of_le_of_lt Nat.and_le_left hb
  refine Nat.eq_of_testBit_eq fun j => ?_
  rw [Nat.testBit_and, Nat.testBit_two_pow_mul_add _ hb, Nat.testBit_two_pow_mul_add _ hc, Nat.testBit_two_pow_mul_add _ hbc]
  split
  · rw [Nat.testBit_and]
  · rw [Nat.testBit_and]
theorem shr_and_cons {h b m c k : Nat} (hk : k ≤ 8) (hb : b < 2 ^ 8) (hc : c < 2 ^ (8 - k)) : (2 ^ 8 * h + b) / 2 ^ k &&& (2 ^ 8 * m + c) = 2 ^ 8 * (h / 2 ^ k &&& m) + (b / 2 ^ k &&& c) := by
  have hc8 : c < 2 ^ 8 := Nat.lt_of_lt_of_le hc (Nat.pow_le_pow_right (by decide) (by omega))
  have hbc : b / 2 ^ k &&& c < 2 ^ 8 := Nat.lt_of_le_of_lt Nat.and_le_right hc8
  refine Nat.eq_of_testBit_eq fun j => ?_
  rw [Nat.testBit_and, Nat.testBit_div_two_pow, Nat.testBit_two_pow_mul_add _ hb, Nat.testBit_two_pow_mul_add _ hc8, Nat.testBit_two_pow_mul_add _ hbc]
  by_cases hj : j < 8
  · rw [if_pos hj, if_pos hj, Nat.testBit_and, Nat.testBit_div_two_pow]
    by_cases hjk : j + k < 8
    · rw [if_pos hjk]
    · have : c.testBit j = false := Nat.testBit_lt_two_pow (Nat.lt_of_lt_of_le hc (Nat.pow_le_pow_right (by decide) (by omega)))
      rw [this, Bool.and_false, Bool.and_false]
  · rw [if_neg hj, if_neg hj, if_neg (by omega), Nat.testBit_and, Nat.testBit_div_two_pow]
    congr 2
    omega
def msk (c w : Nat) : Nat := bv (List.replicate w c)
def oc1 (w x : Nat) : Nat := (x / 2 ^ 1 &&& msk 85 w) + (x &&& msk 85 w)
def oc2 (w x : Nat) : Nat := (x / 2 ^ 2 &&& msk 51 w) + (x &&& msk 51 w)
def oc3 (w x : Nat) : Nat := (x / 2 ^ 4 + x) &&& msk 15 w
def f1 (b : Nat) : Nat := (b / 2 ^ 1 &&& 85) + (b &&& 85)
def f2 (b : Nat) : Nat := (b / 2 ^ 2 &&& 51) + (b &&& 51)
def f3 (b : Nat) : Nat := (b / 16 + b) &&& 15
theorem msk_cons (c w : Nat) : msk c (w + 1) = 2 ^ 8 * msk c w + c := rfl
theorem oc1_bv : ∀ (l : List Nat), (∀ b ∈ l, b < 2 ^ 8) → oc1 l.length (bv l) = bv (l.map f1)
  | [], _ => rfl
  | b :: r, h => by
    have ih := oc1_bv r fun x hx => h x (List.mem_cons_of_mem _ hx)
    have hb := h b (List.mem_cons_self ..)
    simp only [List.map_cons, bv, List.length_cons]
    rw [← ih]
    unfold oc1
    rw [msk_cons, shr_and_cons (by decide) hb (by decide), and_cons hb (by decide)]
    unfold f1
    omega
theorem oc2_bv : ∀ (l : List Nat), (∀ b ∈ l, b < 2 ^ 8) → oc2 l.length (bv l) = bv (l.map f2)
  | [], _ => rfl
  | b :: r, h => by
    have ih := oc2_bv r fun x hx => h x (List.mem_cons_of_mem _ hx)
    have hb := h b (List.mem_cons_self ..)
    simp only [List.map_cons, bv, List.length_cons]
    rw [← ih]
    unfold oc2
    rw [msk_cons, shr_and_cons (by decide) hb (by decide), and_cons hb (by decide)]
    unfold f2
    omega
def q4 (b : Nat) : Bool := decide (b % 16 ≤ 4) && decide (b / 16 ≤ 4)
theorem and15 (x : Nat) : x &&& 15 = x % 16 := Nat.and_two_pow_sub_one_eq_mod x 4
theorem oc3_bv : ∀ (l : List Nat), (∀ b ∈ l, q4 b = true) → oc3 l.length (bv l) = bv (l.map f3)
  | [], _ => rfl
  | b :: r, h => by
    have ih := oc3_bv r fun x hx => h x (List.mem_cons_of_mem _ hx)
    have hb := h b (List.mem_cons_self ..)
    unfold q4 at hb
    simp only [Bool.and_eq_true, decide_eq_true_eq] at hb
    have hr : bv r % 16 ≤ 4 := by
      cases r with
      | nil => exact Nat.zero_le _
      | cons c r' =>
        have hc := h c (List.mem_cons_of_mem _ (List.mem_cons_self ..))
        unfold q4 at hc
        simp only [Bool.and_eq_true, decide_eq_true_eq] at hc
        simp only [bv]
        omega
    simp only [List.map_cons, bv, List.length_cons]
    rw [← ih]
    unfold oc3
    rw [msk_cons]
    have e : (2 ^ 8 * bv r + b) / 2 ^ 4 + (2 ^ 8 * bv r + b) = 2 ^ 8 * (bv r / 2 ^ 4 + bv r) + (16 * (bv r % 16) + b / 16 + b) := by omega
    rw [e, and_cons (by omega) (by decide)]
    unfold f3
    rw [and15, and15]
    omega
def p8 (b : Nat) : Nat := ((List.range 8).filter b.testBit).length
theorem f_all : ∀ b, b < 256 → f1 b < 256 ∧ f2 (f1 b) < 256 ∧ q4 (f2 (f1 b)) = true ∧ f3 (f2 (f1 b)) = p8 b ∧ p8 b ≤ 8 := by decide +kernel
theorem range_add (n : Nat) : ∀ k, List.range (n + k) = List.range n ++ (List.range k).map (n + ·)
  | 0 => by simp
  | k + 1 => by rw [← Nat.add_assoc, List.range_succ, range_add n k, List.range_succ, List.map_append, ← List.append_assoc]; rfl
theorem cnt_bv : ∀ (l : List Nat), (∀ b ∈ l, b < 2 ^ 8) → ((List.range (8 * l.length)).filter (bv l).testBit).length = (l.map p8).sum
  | [], _ => rfl
  | b :: r, h => by
    have ih := cnt_bv r fun x hx => h x (List.mem_cons_of_mem _ hx)
    have hb := h b (List.mem_cons_self ..)
    simp only [List.length_cons, List.map_cons, List.sum_cons, bv]
    rw [show 8 * (r.length + 1) = 8 + 8 * r.length by omega, range_add, List.filter_append, List.length_append, List.filter_map, List.length_map]
    congr 1
    · unfold p8
      congr 1
      refine List.filter_congr fun i hi => ?_
      rw [Nat.testBit_two_pow_mul_add _ hb, if_pos (List.mem_range.1 hi)]
    · rw [← ih]
      congr 1
      refine List.filter_congr fun i hi => ?_
      show (2 ^ 8 * bv r + b).testBit (8 + i) = _
      rw [Nat.testBit_two_pow_mul_add _ hb, if_neg (by omega)]
      congr 1; omega
theorem as_bytes (s : Nat) (h : s < 2 ^ 64) : ∃ b0 b1 b2 b3 b4 b5 b6 b7 : Nat, s = bv [b0, b1, b2, b3, b4, b5, b6, b7] ∧ ∀ b ∈ [b0, b1, b2, b3, b4, b5, b6, b7], b < 2 ^ 8 := by
  refine ⟨s % 256, s / 256 % 256, s / 65536 % 256, s / 16777216 % 256, s / 4294967296 % 256, s / 1099511627776 % 256, s / 281474976710656 % 256, s / 72057594037927936 % 256, ?_, ?_⟩
  · simp only [bv]; omega
  · intro b hb
    simp only [List.mem_cons, List.not_mem_nil, or_false] at hb
    omega
theorem msk85 : msk 85 8 = 6148914691236517205 := by decide
theorem msk51 : msk 51 8 = 3689348814741910323 := by decide
theorem msk15 : msk 15 8 = 1085102592571150095 := by decide
theorem oc_sum (s : Nat) (h : s < 2 ^ 64) : ∃ c0 c1 c2 c3 c4 c5 c6 c7 : Nat, oc3 8 (oc2 8 (oc1 8 s)) = bv [c0, c1, c2, c3, c4, c5, c6, c7] ∧ (c0 ≤ 8 ∧ c1 ≤ 8 ∧ c2 ≤ 8 ∧ c3 ≤ 8 ∧ c4 ≤ 8 ∧ c5 ≤ 8 ∧ c6 ≤ 8 ∧ c7 ≤ 8) ∧ cntS s = c0 + c1 + c2 + c3 + c4 + c5 + c6 + c7 ∧ oc1 8 s < 2 ^ 64 ∧ oc2 8 (oc1 8 s) < 2 ^ 64 := by
  obtain ⟨b0, b1, b2, b3, b4, b5, b6, b7, rfl, hb⟩ := as_bytes s h
  have hlt : ∀ l : List Nat, l.length = 8 → (∀ b ∈ l, b < 256) → bv l < 2 ^ 64 := by
    intro l hl hb
    match l, hl with
    | [a0, a1, a2, a3, a4, a5, a6, a7], _ =>
      have h0 := hb a0 (by simp); have h1 := hb a1 (by simp); have h2 := hb a2 (by simp); have h3 := hb a3 (by simp)
      have h4 := hb a4 (by simp); have h5 := hb a5 (by simp); have h6 := hb a6 (by simp); have h7 := hb a7 (by simp)
      simp only [bv]; omega
  generalize hl : [b0, b1, b2, b3, b4, b5, b6, b7] = l at *
  have hlen : l.length = 8 := by rw [← hl]; rfl
  have e1 := oc1_bv l hb
  have hb1 : ∀ b ∈ l.map f1, b < 2 ^ 8 := fun b h => by
    obtain ⟨x, hx, rfl⟩ := List.mem_map.1 h
    exact (f_all x (hb x hx)).1
  have e2 := oc2_bv (l.map f1) hb1
  have hb2 : ∀ b ∈ (l.map f1).map f2, b < 2 ^ 8 := fun b h => by
    rw [List.map_map] at h
    obtain ⟨x, hx, rfl⟩ := List.mem_map.1 h
    exact (f_all x (hb x hx)).2.1
  have e3 := oc3_bv ((l.map f1).map f2) fun b h => by
    rw [List.map_map] at h
    obtain ⟨x, hx, rfl⟩ := List.mem_map.1 h
    exact (f_all x (hb x hx)).2.2.1
  have hc := cnt_bv l hb
  rw [hlen] at e1 hc
  rw [List.length_map, hlen] at e2
  rw [List.length_map, List.length_map, hlen] at e3
  have hp : ((l.map f1).map f2).map f3 = l.map p8 := by
    rw [List.map_map, List.map_map]
    exact List.map_congr_left fun x hx => (f_all x (hb x hx)).2.2.2.1
  rw [hp] at e3
  rw [e1, e2, e3]
  have h8 : ∀ x ∈ l, p8 x ≤ 8 := fun x hx => (f_all x (hb x hx)).2.2.2.2
  have l1 := hlt (l.map f1) (by simp [hlen]) hb1
  have l2 := hlt ((l.map f1).map f2) (by simp [hlen]) hb2
  refine ⟨p8 b0, p8 b1, p8 b2, p8 b3, p8 b4, p8 b5, p8 b6, p8 b7, by rw [← hl]; rfl, ?_, ?_, l1, l2⟩
  · subst hl
    exact ⟨h8 _ (by simp), h8 _ (by simp), h8 _ (by simp), h8 _ (by simp), h8 _ (by simp), h8 _ (by simp), h8 _ (by simp), h8 _ (by simp)⟩
  · show ((List.range (8 * 8)).filter (bv l).testBit).length = _
    rw [hc, ← hl]
    simp only [List.map_cons, List.map_nil, List.sum_cons, List.sum_nil]
    omega
theorem dv {a h m : Nat} (ha : a < m) : (a + m * h) / m = h := by
  rw [Nat.add_mul_div_left _ _ (by omega), Nat.div_eq_of_lt ha, Nat.zero_add]
theorem ln1 (c0 c1 c2 c3 c4 c5 c6 c7 : Nat) : (c0 + 256 * (c1 + 256 * (c2 + 256 * (c3 + 256 * (c4 + 256 * (c5 + 256 * (c6 + 256 * c7))))))) + (c1 + 256 * (c2 + 256 * (c3 + 256 * (c4 + 256 * (c5 + 256 * (c6 + 256 * c7)))))) =
    (c0 + c1 + 256 * (c1 + c2)) + 65536 * ((c2 + c3) + 256 * (c3 + c4 + 256 * (c4 + c5 + 256 * (c5 + c6 + 256 * (c6 + c7 + 256 * c7))))) := by omega
theorem ln2 (c0 c1 c2 c3 c4 c5 c6 c7 : Nat) : ((c0 + c1 + 256 * (c1 + c2)) + 65536 * ((c2 + c3) + 256 * (c3 + c4 + 256 * (c4 + c5 + 256 * (c5 + c6 + 256 * (c6 + c7 + 256 * c7)))))) + ((c2 + c3) + 256 * (c3 + c4 + 256 * (c4 + c5 + 256 * (c5 + c6 + 256 * (c6 + c7 + 256 * c7))))) =
    ((c0 + c1 + c2 + c3) + 256 * ((c1 + c2 + c3 + c4) + 256 * ((c2 + c3 + c4 + c5) + 256 * (c3 + c4 + c5 + c6)))) + 4294967296 * ((c4 + c5 + c6 + c7) + 256 * ((c5 + c6 + c7) + 256 * ((c6 + c7) + 256 * c7))) := by omega
theorem ln3 (c0 c1 c2 c3 c4 c5 c6 c7 : Nat) : (((c0 + c1 + c2 + c3) + 256 * ((c1 + c2 + c3 + c4) + 256 * ((c2 + c3 + c4 + c5) + 256 * (c3 + c4 + c5 + c6)))) + 4294967296 * ((c4 + c5 + c6 + c7) + 256 * ((c5 + c6 + c7) + 256 * ((c6 + c7) + 256 * c7)))) + ((c4 + c5 + c6 + c7) + 256 * ((c5 + c6 + c7) + 256 * ((c6 + c7) + 256 * c7))) =
    (c0 + c1 + c2 + c3 + c4 + c5 + c6 + c7) + 128 * (2 * ((c1 + c2 + c3 + c4 + c5 + c6 + c7) + 256 * ((c2 + c3 + c4 + c5 + c6 + c7) + 256 * (c3 + c4 + c5 + c6 + c7)) + 16777216 * ((c4 + c5 + c6 + c7) + 256 * ((c5 + c6 + c7) + 256 * ((c6 + c7) + 256 * c7))))) := by omega
theorem bv8 (c0 c1 c2 c3 c4 c5 c6 c7 : Nat) : bv [c0, c1, c2, c3, c4, c5, c6, c7] = c0 + 256 * (c1 + 256 * (c2 + 256 * (c3 + 256 * (c4 + 256 * (c5 + 256 * (c6 + 256 * c7)))))) := by
  simp only [bv]; omega
theorem oc_all (s : Nat) (h : s < 2 ^ 64) : ∃ x y z, oc3 8 (oc2 8 (oc1 8 s)) = x ∧ x < 2 ^ 60 ∧ x + x / 256 = y ∧ y < 2 ^ 61 ∧ y + y / 65536 = z ∧ z < 2 ^ 62 ∧ z + z / 4294967296 < 2 ^ 63 ∧ (z + z / 4294967296) % 128 = cntS s ∧ cntS s ≤ 64 := by
  obtain ⟨c0, c1, c2, c3, c4, c5, c6, c7, e, ⟨h0, h1, h2, h3, h4, h5, h6, h7⟩, hc, _, _⟩ := oc_sum s h
  have a1 := dv (a := c0) (m := 256) (h := c1 + 256 * (c2 + 256 * (c3 + 256 * (c4 + 256 * (c5 + 256 * (c6 + 256 * c7)))))) (by omega)
  have a2 := dv (a := c0 + c1 + 256 * (c1 + c2)) (m := 65536) (h := (c2 + c3) + 256 * (c3 + c4 + 256 * (c4 + c5 + 256 * (c5 + c6 + 256 * (c6 + c7 + 256 * c7))))) (by omega)
  have a3 := dv (a := (c0 + c1 + c2 + c3) + 256 * ((c1 + c2 + c3 + c4) + 256 * ((c2 + c3 + c4 + c5) + 256 * (c3 + c4 + c5 + c6)))) (m := 4294967296) (h := (c4 + c5 + c6 + c7) + 256 * ((c5 + c6 + c7) + 256 * ((c6 + c7) + 256 * c7))) (by omega)
  refine ⟨_, _, _, e.trans (bv8 ..), ?_, (congrArg _ a1).trans (ln1 ..), ?_, (congrArg _ a2).trans (ln2 ..), ?_, ?_, ?_, ?_⟩
  · clear a1 a2 a3 hc; omega
  · clear a1 a2 a3 hc; omega
  · clear a1 a2 a3 hc; omega
  · rw [a3]; clear a1 a2 a3 hc; omega
  · rw [a3, ln3, hc, Nat.add_mul_mod_self_left]
    exact Nat.mod_eq_of_lt (by clear a1 a2 a3 hc; omega)
  · clear a1 a2 a3; omega
end Go.Proofs.Ytbobfgbjliolmaa

namespace Go.Proofs.Ytbobfgbjliolmaa
open Go.RowKit
abbrev qA (s : Nat) : AV := V (.int .u64 (s : Int))
end Go.Proofs.Ytbobfgbjliolmaa

namespace Go.Proofs.Ytbobfgbjliolmaa
open Go.RowKit
set_option linter.unusedVariables false
set_option linter.unusedSimpArgs false
set_option maxRecDepth 20000
theorem wrap_u64n (a : Nat) (h : a < 2 ^ 64) : IntKind.u64.wrap (a : Int) = (a : Int) := by
  rw [IntKind.wrap_u64]; omega
theorem fdiv_nat (a n : Nat) : (a : Int).fdiv (2 ^ n) = ((a / 2 ^ n : Nat) : Int) := by
  have e : (2 : Int) ^ n = ((2 ^ n : Nat) : Int) := by norm_cast
  rw [e, Int.fdiv_eq_ediv_of_nonneg _ (Int.natCast_nonneg _), Int.natCast_ediv]
section
variable {R : Type} {K : AV → Option R} {k : IntKind}
theorem q_shr {a n : Nat} {b : Int} (hb : b = (n : Int)) (hn : n ≤ 64) : binE none false false .shr (qA a) (V (.int k b)) K = K (qA (a / 2 ^ n)) := by
  subst hb
  rw [u_shr, show min (n : Int).toNat IntKind.u64.bits = n by show min (n : Int).toNat 64 = n; rw [Int.toNat_natCast]; omega, fdiv_nat, show decide (0 ≤ (n : Int)) = true by simp]
  rfl
theorem q_and {a b : Nat} {c : Int} (hc : c = (b : Int)) (ha : a < 2 ^ 64) (hb : b < 2 ^ 64) : binE none false false .and (qA a) (V (.int .u64 c)) K = K (qA (a &&& b)) := by
  subst hc
  rw [u_and, bits_and_u64_nat a b ha hb]
theorem q_or {a b : Nat} (ha : a < 2 ^ 64) (hb : b < 2 ^ 64) : binE none false false .or (qA a) (qA b) K = K (qA (a ||| b)) := by
  rw [u_or, bits_or_u64_nat a b ha hb]
theorem q_add {a b : Nat} (h : a + b < 2 ^ 64) : binE none false false .add (qA a) (qA b) K = K (qA (a + b)) := by
  rw [u_add, show ((a : Int) + (b : Int)) = ((a + b : Nat) : Int) by omega, wrap_u64n _ h]
end
theorem q_tell {R : Type} {K : AV → Option R} {X d : AV} {H' : List AObj} (h : ltT 0 d = true) : tellE (some (X, H')) [d] K = K X := by
  rw [u_tell, show List.all [d] (ltT 0) = true by simp [h]]; rfl
theorem dlt {a n m : Nat} (h : a < m) : a / n < m := Nat.lt_of_le_of_lt (Nat.div_le_self ..) h
theorem ones_s (m s : Nat) (h : s < 2 ^ 64) : math_bits_OnesCount64 m (qA s) = some (nA (cntS s), []) := by
  obtain ⟨x, y, z, e1, hx, e2, hy, e3, hz, hw, hm, hc⟩ := oc_all s h
  obtain ⟨_, _, _, _, _, _, _, _, _, _, _, l1, l2⟩ := oc_sum s h
  have b85 : msk 85 8 < 2 ^ 64 := by rw [msk85]; decide
  have b51 : msk 51 8 < 2 ^ 64 := by rw [msk51]; decide
  have b15 : msk 15 8 < 2 ^ 64 := by rw [msk15]; decide
  have c85 : (6148914691236517205 : Int) = ((msk 85 8 : Nat) : Int) := by rw [msk85]; rfl
  have c51 : (3689348814741910323 : Int) = ((msk 51 8 : Nat) : Int) := by rw [msk51]; rfl
  have c15 : (1085102592571150095 : Int) = ((msk 15 8 : Nat) : Int) := by rw [msk15]; rfl
  have l3 : oc2 8 (oc1 8 s) < 2 ^ 63 := by
    unfold oc2
    have a1 : oc1 8 s / 2 ^ 2 &&& msk 51 8 ≤ msk 51 8 := Nat.and_le_right
    have a2 : oc1 8 s &&& msk 51 8 ≤ msk 51 8 := Nat.and_le_right
    rw [msk51] at a1 a2 ⊢
    omega
  have l4 : oc2 8 (oc1 8 s) / 2 ^ 4 + oc2 8 (oc1 8 s) < 2 ^ 64 := by omega
  rw [math_bits_OnesCount64_eq]
  rw [q_shr (a := s) (b := 1) (n := 1) rfl (by decide), q_and c85 (dlt h) b85, q_and c85 h b85, q_add (a := s / 2 ^ 1 &&& msk 85 8) (b := s &&& msk 85 8) l1]
  rw [show (s / 2 ^ 1 &&& msk 85 8) + (s &&& msk 85 8) = oc1 8 s from rfl]
  rw [q_shr (b := 2) (n := 2) rfl (by decide), q_and c51 (dlt l1) b51, q_and c51 l1 b51, q_add (a := oc1 8 s / 2 ^ 2 &&& msk 51 8) (b := oc1 8 s &&& msk 51 8) l2]
  rw [show (oc1 8 s / 2 ^ 2 &&& msk 51 8) + (oc1 8 s &&& msk 51 8) = oc2 8 (oc1 8 s) from rfl]
  rw [q_shr (b := 4) (n := 4) rfl (by decide), q_add l4, q_and c15 l4 b15]
  rw [show (oc2 8 (oc1 8 s) / 2 ^ 4 + oc2 8 (oc1 8 s)) &&& msk 15 8 = x from e1]
  rw [q_shr (b := 8) (n := 8) rfl (by decide), q_add (by rw [show 2 ^ 8 = 256 from rfl, e2]; omega), show x + x / 2 ^ 8 = y from e2]
  rw [q_shr (b := 16) (n := 16) rfl (by decide), q_add (by rw [show 2 ^ 16 = 65536 from rfl, e3]; omega), show y + y / 2 ^ 16 = z from e3]
  rw [q_shr (b := 32) (n := 32) rfl (by decide), q_add (by rw [show 2 ^ 32 = 4294967296 from rfl]; omega), show z + z / 2 ^ 32 = z + z / 4294967296 from rfl]
  rw [u_iconv, w_i64 (by omega) (by omega), u_and, i64_and127, show (((z + z / 4294967296 : Nat) : Int) % 128) = (cntS s : Int) by omega]
  rfl
def qb (i : Int) : Nat := if 0 ≤ i ∧ i ≤ 63 then 2 ^ i.toNat else 0
theorem qb_lt (i : Int) : qb i < 2 ^ 64 := by
  unfold qb
  split
  · exact Nat.pow_lt_pow_right (by decide) (by omega)
  · decide
theorem bit_s (m : Nat) (i : Int) : quorum_bit m (nA i) = some (qA (qb i), []) := by
  rw [quorum_bit_eq]
  by_cases h0 : i < 0
  · rw [u_lss, show decide (i < 0) = true by simpa using h0, u_condT]
    unfold qb
    rw [if_neg (by omega)]
    rfl
  · rw [u_lss, show decide (i < 0) = false by simpa using h0, u_condF]
    by_cases h9 : 63 < i
    · rw [u_gtr, show decide (63 < i) = true by simpa using h9, u_condT]
      unfold qb
      rw [if_neg (by omega)]
      rfl
    · rw [u_gtr, show decide (63 < i) = false by simpa using h9, u_condF, u_iconv, w_u64 (by omega) (by omega)]
      obtain ⟨n, rfl⟩ : ∃ n : Nat, i = n := ⟨i.toNat, by omega⟩
      have e : qb n = 2 ^ n := by unfold qb; rw [if_pos (by omega)]; simp
      have hlt := qb_lt n
      rw [e] at hlt
      rw [u_shl, show min (n : Int).toNat IntKind.u64.bits = n by show min (n : Int).toNat 64 = n; rw [Int.toNat_natCast]; omega, show decide (0 ≤ (n : Int)) = true by simp, e]
      rw [show ((1 : Int) * 2 ^ n) = ((2 ^ n : Nat) : Int) by rw [Int.one_mul]; norm_cast, wrap_u64n _ hlt]
      rfl
theorem with_s (m s : Nat) (i : Int) (h : s < 2 ^ 64) : quorum_With m (qA s) (nA i) = some (qA (s ||| qb i), []) := by
  have hb := bit_s m i
  rw [quorum_With_eq]
  rw [show (ro [] (nA i)) = nA i from rfl, hb, q_tell rfl]
  rw [q_or h (qb_lt i)]
  rfl
theorem count_s (m s : Nat) (h : s < 2 ^ 64) : quorum_Count m (qA s) = some (nA (cntS s), []) := by
  have hb := ones_s m s h
  rw [quorum_Count_eq]
  rw [show (ro [] (qA s)) = qA s from rfl, hb, q_tell rfl]
  rfl
theorem bitw {s : Nat} {i : Int} {j : Nat} (hj : j < 64) : (s ||| qb i).testBit j = (s.testBit j || decide (i = j)) := by
  rw [Nat.testBit_or]
  congr 1
  unfold qb
  split
  · rw [Nat.testBit_two_pow]
    rw [Bool.eq_iff_iff]; simp; omega
  · rw [Nat.zero_testBit, eq_comm, decide_eq_false_iff_not]; omega
end Go.Proofs.Ytbobfgbjliolmaa

namespace Go.Proofs.Ytbobfgbjliolmaa
open Go.RowKit
set_option linter.unusedVariables false
set_option linter.unusedSimpArgs false
set_option maxRecDepth 20000
def allN (n : Int) : Nat := if n < 1 then 0 else if 63 < n then 2 ^ 64 - 1 else 2 ^ n.toNat - 1
theorem allN_lt (n : Int) : allN n < 2 ^ 64 := by
  unfold allN
  split
  · decide
  · split
    · decide
    · have : 2 ^ n.toNat < 2 ^ 64 := Nat.pow_lt_pow_right (by decide) (by omega)
      omega
theorem allN_bit {n : Int} {j : Nat} (hj : j < 64) : (allN n).testBit j = decide ((j : Int) < n) := by
  unfold allN
  split
  · rw [Nat.zero_testBit, eq_comm, decide_eq_false_iff_not]; omega
  · split
    · rw [Nat.testBit_two_pow_sub_one, decide_eq_decide]; omega
    · rw [Nat.testBit_two_pow_sub_one, decide_eq_decide]; omega
theorem q_sub1 {R : Type} {K : AV → Option R} {a : Nat} (h : 1 ≤ a) (ha : a < 2 ^ 64) : binE none false false .sub (qA a) (V (.int .u64 1)) K = K (qA (a - 1)) := by
  rw [u_sub, show ((a : Int) - 1) = ((a - 1 : Nat) : Int) by omega, wrap_u64n _ (by omega)]
theorem all_s (m : Nat) (n : Int) : quorum_All m (nA n) = some (qA (allN n), []) := by
  have hb := bit_s m n
  rw [quorum_All_eq, show (ro [] (nA n)) = nA n from rfl, hb]
  unfold allN
  by_cases h0 : n < 1
  · rw [u_lss, show decide (n < 1) = true by simpa using h0, u_condT, if_pos h0]
    rfl
  · rw [u_lss, show decide (n < 1) = false by simpa using h0, u_condF, if_neg h0]
    by_cases h9 : 63 < n
    · rw [u_gtr, show decide (63 < n) = true by simpa using h9, u_condT, if_pos h9]
      rfl
    · have hp : 1 ≤ qb n := by unfold qb; rw [if_pos (by omega)]; exact Nat.one_le_two_pow
      rw [u_gtr, show decide (63 < n) = false by simpa using h9, u_condF, if_neg h9, q_tell rfl, q_sub1 hp (qb_lt n)]
      unfold qb
      rw [if_pos (by omega)]
      rfl
def okN (n : Int) : Bool := decide (n.tmod 3 = 1) && !decide (n < 4) && !decide (16 < n)
theorem okN_iff {n : Int} : okN n = true ↔ n = 4 ∨ n = 7 ∨ n = 10 ∨ n = 13 ∨ n = 16 := by
  unfold okN
  simp only [Bool.and_eq_true, decide_eq_true_eq, Bool.not_eq_true', decide_eq_false_iff_not]
  constructor
  · rintro ⟨⟨h1, h2⟩, h3⟩
    rw [Int.tmod_eq_emod_of_nonneg (by omega)] at h1
    omega
  · rintro (rfl | rfl | rfl | rfl | rfl) <;> decide
def fN (n : Int) : Nat := if okN n then (n / 3).toNat else 0
theorem fN_le (n : Int) : fN n ≤ 5 := by
  unfold fN
  split
  · rename_i h; have := okN_iff.1 h; omega
  · decide
theorem faults_s (m : Nat) (n : Int) : quorum_Faults m (nA n) = some (TU [nA (fN n), nA (if okN n then 0 else 1)], []) := by
  rw [quorum_Faults_eq]
  unfold fN okN
  by_cases h1 : n.tmod 3 = 1
  · by_cases h2 : n < 4
    · simp (config := {maxSteps := 4000000, implicitDefEqProofs := false}) only [go_sem, ↓reduceIte, Nat.reduceAdd, Nat.reduceSub, Nat.reduceMul, Nat.reduceLeDiff, Nat.reduceLT, Int.reduceEq, Int.reduceNe, Int.reduceLT, Int.reduceLE, Int.reduceAdd, Int.reduceSub, Int.reduceMul, Int.reduceNeg, Nat.zero_add, Nat.add_zero, Nat.mul_one, Int.toNat_natCast, Int.natCast_zero, Int.cast_ofNat_Int, or_false, false_or, or_true, true_or, Int.reduceToNat, Nat.sub_zero, Int.natCast_nonneg, Int.toNat_zero, Bool.true_and, Bool.and_true, Bool.false_and, Bool.and_false, Bool.true_or, Bool.or_true, Bool.false_or, Bool.or_false, Bool.not_true, Bool.not_false, Bool.not_not, true_and, and_true, false_and, and_false, not_true_eq_false, not_false_eq_true, eq_self, decide_true, decide_false, ne_eq, implies_true, forall_const, true_implies, false_implies, Bool.true_eq_false, Bool.false_eq_true, reduceCtorEq, List.map_cons, List.map_nil, List.all_cons, List.all_nil, List.length_cons, List.length_nil, List.length_map, List.length_append, List.nil_append, List.cons_append, List.set_cons_zero, List.set_cons_succ, List.set_nil, List.drop_zero, List.drop_succ_cons, List.drop_nil, List.take_zero, List.take_succ_cons, List.take_nil, Option.map_some, Option.map_none, Option.isSome_some, Nat.reduceEqDiff, Nat.reduceBEq, Nat.reduceGT, List.all_append, List.all_map, Function.comp_def, decide_eq_true_eq, Bool.and_eq_true, beq_self_eq_true, or_self, and_self, ite_true, ite_false, Nat.le_refl, Bool.not_eq_true, decide_not, Bool.not_eq_true', decide_eq_false_iff_not, Bool.not_eq_false, Bool.or_eq_true, if_true, if_false, ite_self, h1, h2]
    · by_cases h3 : 16 < n
      · simp (config := {maxSteps := 4000000, implicitDefEqProofs := false}) only [go_sem, ↓reduceIte, Nat.reduceAdd, Nat.reduceSub, Nat.reduceMul, Nat.reduceLeDiff, Nat.reduceLT, Int.reduceEq, Int.reduceNe, Int.reduceLT, Int.reduceLE, Int.reduceAdd, Int.reduceSub, Int.reduceMul, Int.reduceNeg, Nat.zero_add, Nat.add_zero, Nat.mul_one, Int.toNat_natCast, Int.natCast_zero, Int.cast_ofNat_Int, or_false, false_or, or_true, true_or, Int.reduceToNat, Nat.sub_zero, Int.natCast_nonneg, Int.toNat_zero, Bool.true_and, Bool.and_true, Bool.false_and, Bool.and_false, Bool.true_or, Bool.or_true, Bool.false_or, Bool.or_false, Bool.not_true, Bool.not_false, Bool.not_not, true_and, and_true, false_and, and_false, not_true_eq_false, not_false_eq_true, eq_self, decide_true, decide_false, ne_eq, implies_true, forall_const, true_implies, false_implies, Bool.true_eq_false, Bool.false_eq_true, reduceCtorEq, List.map_cons, List.map_nil, List.all_cons, List.all_nil, List.length_cons, List.length_nil, List.length_map, List.length_append, List.nil_append, List.cons_append, List.set_cons_zero, List.set_cons_succ, List.set_nil, List.drop_zero, List.drop_succ_cons, List.drop_nil, List.take_zero, List.take_succ_cons, List.take_nil, Option.map_some, Option.map_none, Option.isSome_some, Nat.reduceEqDiff, Nat.reduceBEq, Nat.reduceGT, List.all_append, List.all_map, Function.comp_def, decide_eq_true_eq, Bool.and_eq_true, beq_self_eq_true, or_self, and_self, ite_true, ite_false, Nat.le_refl, Bool.not_eq_true, decide_not, Bool.not_eq_true', decide_eq_false_iff_not, Bool.not_eq_false, Bool.or_eq_true, if_true, if_false, ite_self, h1, h2, h3]
      · have e : n.tdiv 3 = ((n / 3).toNat : Int) := by rw [Int.tdiv_eq_ediv_of_nonneg (by omega)]; omega
        have e2 : IntKind.i64.wrap (n.tdiv 3) = ((n / 3).toNat : Int) := by rw [w_i64 (by omega) (by omega), e]
        simp (config := {maxSteps := 4000000, implicitDefEqProofs := false}) only [go_sem, ↓reduceIte, Nat.reduceAdd, Nat.reduceSub, Nat.reduceMul, Nat.reduceLeDiff, Nat.reduceLT, Int.reduceEq, Int.reduceNe, Int.reduceLT, Int.reduceLE, Int.reduceAdd, Int.reduceSub, Int.reduceMul, Int.reduceNeg, Nat.zero_add, Nat.add_zero, Nat.mul_one, Int.toNat_natCast, Int.natCast_zero, Int.cast_ofNat_Int, or_false, false_or, or_true, true_or, Int.reduceToNat, Nat.sub_zero, Int.natCast_nonneg, Int.toNat_zero, Bool.true_and, Bool.and_true, Bool.false_and, Bool.and_false, Bool.true_or, Bool.or_true, Bool.false_or, Bool.or_false, Bool.not_true, Bool.not_false, Bool.not_not, true_and, and_true, false_and, and_false, not_true_eq_false, not_false_eq_true, eq_self, decide_true, decide_false, ne_eq, implies_true, forall_const, true_implies, false_implies, Bool.true_eq_false, Bool.false_eq_true, reduceCtorEq, List.map_cons, List.map_nil, List.all_cons, List.all_nil, List.length_cons, List.length_nil, List.length_map, List.length_append, List.nil_append, List.cons_append, List.set_cons_zero, List.set_cons_succ, List.set_nil, List.drop_zero, List.drop_succ_cons, List.drop_nil, List.take_zero, List.take_succ_cons, List.take_nil, Option.map_some, Option.map_none, Option.isSome_some, Nat.reduceEqDiff, Nat.reduceBEq, Nat.reduceGT, List.all_append, List.all_map, Function.comp_def, decide_eq_true_eq, Bool.and_eq_true, beq_self_eq_true, or_self, and_self, ite_true, ite_false, Nat.le_refl, Bool.not_eq_true, decide_not, Bool.not_eq_true', decide_eq_false_iff_not, Bool.not_eq_false, Bool.or_eq_true, if_true, if_false, ite_self, h1, h2, h3, e2]
  · simp (config := {maxSteps := 4000000, implicitDefEqProofs := false}) only [go_sem, ↓reduceIte, Nat.reduceAdd, Nat.reduceSub, Nat.reduceMul, Nat.reduceLeDiff, Nat.reduceLT, Int.reduceEq, Int.reduceNe, Int.reduceLT, Int.reduceLE, Int.reduceAdd, Int.reduceSub, Int.reduceMul, Int.reduceNeg, Nat.zero_add, Nat.add_zero, Nat.mul_one, Int.toNat_natCast, Int.natCast_zero, Int.cast_ofNat_Int, or_false, false_or, or_true, true_or, Int.reduceToNat, Nat.sub_zero, Int.natCast_nonneg, Int.toNat_zero, Bool.true_and, Bool.and_true, Bool.false_and, Bool.and_false, Bool.true_or, Bool.or_true, Bool.false_or, Bool.or_false, Bool.not_true, Bool.not_false, Bool.not_not, true_and, and_true, false_and, and_false, not_true_eq_false, not_false_eq_true, eq_self, decide_true, decide_false, ne_eq, implies_true, forall_const, true_implies, false_implies, Bool.true_eq_false, Bool.false_eq_true, reduceCtorEq, List.map_cons, List.map_nil, List.all_cons, List.all_nil, List.length_cons, List.length_nil, List.length_map, List.length_append, List.nil_append, List.cons_append, List.set_cons_zero, List.set_cons_succ, List.set_nil, List.drop_zero, List.drop_succ_cons, List.drop_nil, List.take_zero, List.take_succ_cons, List.take_nil, Option.map_some, Option.map_none, Option.isSome_some, Nat.reduceEqDiff, Nat.reduceBEq, Nat.reduceGT, List.all_append, List.all_map, Function.comp_def, decide_eq_true_eq, Bool.and_eq_true, beq_self_eq_true, or_self, and_self, ite_true, ite_false, Nat.le_refl, Bool.not_eq_true, decide_not, Bool.not_eq_true', decide_eq_false_iff_not, Bool.not_eq_false, Bool.or_eq_true, if_true, if_false, ite_self, h1]
theorem strong_s (m : Nat) (n : Int) : quorum_Strong m (nA n) = some (nA (if okN n then 2 * (fN n : Int) + 1 else 0), []) := by
  have h := faults_s m n
  have hl := fN_le n
  rw [quorum_Strong_eq]
  have e1 : IntKind.i64.wrap (2 * (fN n : Int)) = 2 * (fN n : Int) := w_i64 (by omega) (by omega)
  have e2 : IntKind.i64.wrap (2 * (fN n : Int) + 1) = 2 * (fN n : Int) + 1 := w_i64 (by omega) (by omega)
  cases ho : okN n with
  | true => rw [ho] at h; simp (config := {maxSteps := 4000000, implicitDefEqProofs := false}) only [go_sem, ↓reduceIte, Nat.reduceAdd, Nat.reduceSub, Nat.reduceMul, Nat.reduceLeDiff, Nat.reduceLT, Int.reduceEq, Int.reduceNe, Int.reduceLT, Int.reduceLE, Int.reduceAdd, Int.reduceSub, Int.reduceMul, Int.reduceNeg, Nat.zero_add, Nat.add_zero, Nat.mul_one, Int.toNat_natCast, Int.natCast_zero, Int.cast_ofNat_Int, or_false, false_or, or_true, true_or, Int.reduceToNat, Nat.sub_zero, Int.natCast_nonneg, Int.toNat_zero, Bool.true_and, Bool.and_true, Bool.false_and, Bool.and_false, Bool.true_or, Bool.or_true, Bool.false_or, Bool.or_false, Bool.not_true, Bool.not_false, Bool.not_not, true_and, and_true, false_and, and_false, not_true_eq_false, not_false_eq_true, eq_self, decide_true, decide_false, ne_eq, implies_true, forall_const, true_implies, false_implies, Bool.true_eq_false, Bool.false_eq_true, reduceCtorEq, List.map_cons, List.map_nil, List.all_cons, List.all_nil, List.length_cons, List.length_nil, List.length_map, List.length_append, List.nil_append, List.cons_append, List.set_cons_zero, List.set_cons_succ, List.set_nil, List.drop_zero, List.drop_succ_cons, List.drop_nil, List.take_zero, List.take_succ_cons, List.take_nil, Option.map_some, Option.map_none, Option.isSome_some, Nat.reduceEqDiff, Nat.reduceBEq, Nat.reduceGT, List.all_append, List.all_map, Function.comp_def, decide_eq_true_eq, Bool.and_eq_true, beq_self_eq_true, or_self, and_self, ite_true, ite_false, Nat.le_refl, Bool.not_eq_true, decide_not, Bool.not_eq_true', decide_eq_false_iff_not, Bool.not_eq_false, Bool.or_eq_true, if_true, if_false, ite_self, h, ho, e1, e2]
  | false => rw [ho] at h; simp (config := {maxSteps := 4000000, implicitDefEqProofs := false}) only [go_sem, ↓reduceIte, Nat.reduceAdd, Nat.reduceSub, Nat.reduceMul, Nat.reduceLeDiff, Nat.reduceLT, Int.reduceEq, Int.reduceNe, Int.reduceLT, Int.reduceLE, Int.reduceAdd, Int.reduceSub, Int.reduceMul, Int.reduceNeg, Nat.zero_add, Nat.add_zero, Nat.mul_one, Int.toNat_natCast, Int.natCast_zero, Int.cast_ofNat_Int, or_false, false_or, or_true, true_or, Int.reduceToNat, Nat.sub_zero, Int.natCast_nonneg, Int.toNat_zero, Bool.true_and, Bool.and_true, Bool.false_and, Bool.and_false, Bool.true_or, Bool.or_true, Bool.false_or, Bool.or_false, Bool.not_true, Bool.not_false, Bool.not_not, true_and, and_true, false_and, and_false, not_true_eq_false, not_false_eq_true, eq_self, decide_true, decide_false, ne_eq, implies_true, forall_const, true_implies, false_implies, Bool.true_eq_false, Bool.false_eq_true, reduceCtorEq, List.map_cons, List.map_nil, List.all_cons, List.all_nil, List.length_cons, List.length_nil, List.length_map, List.length_append, List.nil_append, List.cons_append, List.set_cons_zero, List.set_cons_succ, List.set_nil, List.drop_zero, List.drop_succ_cons, List.drop_nil, List.take_zero, List.take_succ_cons, List.take_nil, Option.map_some, Option.map_none, Option.isSome_some, Nat.reduceEqDiff, Nat.reduceBEq, Nat.reduceGT, List.all_append, List.all_map, Function.comp_def, decide_eq_true_eq, Bool.and_eq_true, beq_self_eq_true, or_self, and_self, ite_true, ite_false, Nat.le_refl, Bool.not_eq_true, decide_not, Bool.not_eq_true', decide_eq_false_iff_not, Bool.not_eq_false, Bool.or_eq_true, if_true, if_false, ite_self, h, ho]
theorem enough_s (m s : Nat) (n k : Int) (h : s < 2 ^ 64) : quorum_enough m (qA s) (nA n) (nA k) = some (bA (decide (0 < k) && decide (k ≤ (cntS (s &&& allN n) : Int))), []) := by
  have hlt := allN_lt n
  have ha := all_s m n
  have hc := count_s m (s &&& allN n) (Nat.lt_of_le_of_lt Nat.and_le_left h)
  have hb := bits_and_u64_nat s (allN n) h hlt
  rw [quorum_enough_eq]
  by_cases h0 : 0 < k
  · simp (config := {maxSteps := 4000000, implicitDefEqProofs := false}) only [go_sem, ↓reduceIte, Nat.reduceAdd, Nat.reduceSub, Nat.reduceMul, Nat.reduceLeDiff, Nat.reduceLT, Int.reduceEq, Int.reduceNe, Int.reduceLT, Int.reduceLE, Int.reduceAdd, Int.reduceSub, Int.reduceMul, Int.reduceNeg, Nat.zero_add, Nat.add_zero, Nat.mul_one, Int.toNat_natCast, Int.natCast_zero, Int.cast_ofNat_Int, or_false, false_or, or_true, true_or, Int.reduceToNat, Nat.sub_zero, Int.natCast_nonneg, Int.toNat_zero, Bool.true_and, Bool.and_true, Bool.false_and, Bool.and_false, Bool.true_or, Bool.or_true, Bool.false_or, Bool.or_false, Bool.not_true, Bool.not_false, Bool.not_not, true_and, and_true, false_and, and_false, not_true_eq_false, not_false_eq_true, eq_self, decide_true, decide_false, ne_eq, implies_true, forall_const, true_implies, false_implies, Bool.true_eq_false, Bool.false_eq_true, reduceCtorEq, List.map_cons, List.map_nil, List.all_cons, List.all_nil, List.length_cons, List.length_nil, List.length_map, List.length_append, List.nil_append, List.cons_append, List.set_cons_zero, List.set_cons_succ, List.set_nil, List.drop_zero, List.drop_succ_cons, List.drop_nil, List.take_zero, List.take_succ_cons, List.take_nil, Option.map_some, Option.map_none, Option.isSome_some, Nat.reduceEqDiff, Nat.reduceBEq, Nat.reduceGT, List.all_append, List.all_map, Function.comp_def, decide_eq_true_eq, Bool.and_eq_true, beq_self_eq_true, or_self, and_self, ite_true, ite_false, Nat.le_refl, Bool.not_eq_true, decide_not, Bool.not_eq_true', decide_eq_false_iff_not, Bool.not_eq_false, Bool.or_eq_true, if_true, if_false, ite_self, h0, ha, hc, hb]
  · simp (config := {maxSteps := 4000000, implicitDefEqProofs := false}) only [go_sem, ↓reduceIte, Nat.reduceAdd, Nat.reduceSub, Nat.reduceMul, Nat.reduceLeDiff, Nat.reduceLT, Int.reduceEq, Int.reduceNe, Int.reduceLT, Int.reduceLE, Int.reduceAdd, Int.reduceSub, Int.reduceMul, Int.reduceNeg, Nat.zero_add, Nat.add_zero, Nat.mul_one, Int.toNat_natCast, Int.natCast_zero, Int.cast_ofNat_Int, or_false, false_or, or_true, true_or, Int.reduceToNat, Nat.sub_zero, Int.natCast_nonneg, Int.toNat_zero, Bool.true_and, Bool.and_true, Bool.false_and, Bool.and_false, Bool.true_or, Bool.or_true, Bool.false_or, Bool.or_false, Bool.not_true, Bool.not_false, Bool.not_not, true_and, and_true, false_and, and_false, not_true_eq_false, not_false_eq_true, eq_self, decide_true, decide_false, ne_eq, implies_true, forall_const, true_implies, false_implies, Bool.true_eq_false, Bool.false_eq_true, reduceCtorEq, List.map_cons, List.map_nil, List.all_cons, List.all_nil, List.length_cons, List.length_nil, List.length_map, List.length_append, List.nil_append, List.cons_append, List.set_cons_zero, List.set_cons_succ, List.set_nil, List.drop_zero, List.drop_succ_cons, List.drop_nil, List.take_zero, List.take_succ_cons, List.take_nil, Option.map_some, Option.map_none, Option.isSome_some, Nat.reduceEqDiff, Nat.reduceBEq, Nat.reduceGT, List.all_append, List.all_map, Function.comp_def, decide_eq_true_eq, Bool.and_eq_true, beq_self_eq_true, or_self, and_self, ite_true, ite_false, Nat.le_refl, Bool.not_eq_true, decide_not, Bool.not_eq_true', decide_eq_false_iff_not, Bool.not_eq_false, Bool.or_eq_true, if_true, if_false, ite_self, h0]
theorem isStrong_s (m s : Nat) (n : Int) (h : s < 2 ^ 64) : quorum_IsStrong m (qA s) (nA n) = some (bA (okN n && decide (2 * (fN n : Int) + 1 ≤ (cntS (s &&& allN n) : Int))), []) := by
  have h1 := strong_s m n
  have h2 := enough_s m s n (if okN n then 2 * (fN n : Int) + 1 else 0) h
  rw [quorum_IsStrong_eq]
  cases ho : okN n with
  | true =>
    simp only [ho, if_true] at h1 h2
    have h0 : (0 : Int) < 2 * (fN n : Int) + 1 := by omega
    simp (config := {maxSteps := 4000000, implicitDefEqProofs := false}) only [go_sem, ↓reduceIte, Nat.reduceAdd, Nat.reduceSub, Nat.reduceMul, Nat.reduceLeDiff, Nat.reduceLT, Int.reduceEq, Int.reduceNe, Int.reduceLT, Int.reduceLE, Int.reduceAdd, Int.reduceSub, Int.reduceMul, Int.reduceNeg, Nat.zero_add, Nat.add_zero, Nat.mul_one, Int.toNat_natCast, Int.natCast_zero, Int.cast_ofNat_Int, or_false, false_or, or_true, true_or, Int.reduceToNat, Nat.sub_zero, Int.natCast_nonneg, Int.toNat_zero, Bool.true_and, Bool.and_true, Bool.false_and, Bool.and_false, Bool.true_or, Bool.or_true, Bool.false_or, Bool.or_false, Bool.not_true, Bool.not_false, Bool.not_not, true_and, and_true, false_and, and_false, not_true_eq_false, not_false_eq_true, eq_self, decide_true, decide_false, ne_eq, implies_true, forall_const, true_implies, false_implies, Bool.true_eq_false, Bool.false_eq_true, reduceCtorEq, List.map_cons, List.map_nil, List.all_cons, List.all_nil, List.length_cons, List.length_nil, List.length_map, List.length_append, List.nil_append, List.cons_append, List.set_cons_zero, List.set_cons_succ, List.set_nil, List.drop_zero, List.drop_succ_cons, List.drop_nil, List.take_zero, List.take_succ_cons, List.take_nil, Option.map_some, Option.map_none, Option.isSome_some, Nat.reduceEqDiff, Nat.reduceBEq, Nat.reduceGT, List.all_append, List.all_map, Function.comp_def, decide_eq_true_eq, Bool.and_eq_true, beq_self_eq_true, or_self, and_self, ite_true, ite_false, Nat.le_refl, Bool.not_eq_true, decide_not, Bool.not_eq_true', decide_eq_false_iff_not, Bool.not_eq_false, Bool.or_eq_true, if_true, if_false, ite_self, h1, h2, h0]
  | false =>
    simp only [ho, Bool.false_eq_true, if_false] at h1 h2
    simp (config := {maxSteps := 4000000, implicitDefEqProofs := false}) only [go_sem, ↓reduceIte, Nat.reduceAdd, Nat.reduceSub, Nat.reduceMul, Nat.reduceLeDiff, Nat.reduceLT, Int.reduceEq, Int.reduceNe, Int.reduceLT, Int.reduceLE, Int.reduceAdd, Int.reduceSub, Int.reduceMul, Int.reduceNeg, Nat.zero_add, Nat.add_zero, Nat.mul_one, Int.toNat_natCast, Int.natCast_zero, Int.cast_ofNat_Int, or_false, false_or, or_true, true_or, Int.reduceToNat, Nat.sub_zero, Int.natCast_nonneg, Int.toNat_zero, Bool.true_and, Bool.and_true, Bool.false_and, Bool.and_false, Bool.true_or, Bool.or_true, Bool.false_or, Bool.or_false, Bool.not_true, Bool.not_false, Bool.not_not, true_and, and_true, false_and, and_false, not_true_eq_false, not_false_eq_true, eq_self, decide_true, decide_false, ne_eq, implies_true, forall_const, true_implies, false_implies, Bool.true_eq_false, Bool.false_eq_true, reduceCtorEq, List.map_cons, List.map_nil, List.all_cons, List.all_nil, List.length_cons, List.length_nil, List.length_map, List.length_append, List.nil_append, List.cons_append, List.set_cons_zero, List.set_cons_succ, List.set_nil, List.drop_zero, List.drop_succ_cons, List.drop_nil, List.take_zero, List.take_succ_cons, List.take_nil, Option.map_some, Option.map_none, Option.isSome_some, Nat.reduceEqDiff, Nat.reduceBEq, Nat.reduceGT, List.all_append, List.all_map, Function.comp_def, decide_eq_true_eq, Bool.and_eq_true, beq_self_eq_true, or_self, and_self, ite_true, ite_false, Nat.le_refl, Bool.not_eq_true, decide_not, Bool.not_eq_true', decide_eq_false_iff_not, Bool.not_eq_false, Bool.or_eq_true, if_true, if_false, ite_self, h1, h2]
end Go.Proofs.Ytbobfgbjliolmaa

namespace Go.Proofs.Ytbobfgbjliolmaa
open Go.RowKit
set_option linter.unusedVariables false
set_option linter.unusedSimpArgs false
set_option maxRecDepth 20000
abbrev oFn : AV := CL (.func 24) 0 []
theorem callV_b {R : Type} {m : Nat} {x y : Mk} {H : List AObj} {K : AV → List AObj → Option R} : callVE (slices_BinarySearchFunc_Mark_env m) oFn [.agg (mC x), .agg (mC y)] H K = tellE (marks_order m (.agg (mC x)) (.agg (mC y))) [.agg (mC x), .agg (mC y)] (fun X => K X H) := _root_.id rfl
def posN (l : List Mk) (x : Mk) : Nat := l.findIdx fun y => !aheadB y x
def foundB (l : List Mk) (x : Mk) : Bool := match l[posN l x]? with | some y => decide (ordI y x = 0) | none => false
def Srt (l : List Mk) : Prop := ∀ (i j : Nat) (hj : j < l.length) (hi : i < j), aheadB (l[i]'(Nat.lt_trans hi hj)) l[j] = true
theorem ahead_tr {a b c : Mk} (h : aheadB a b = true) (k : aheadB b c = true) : aheadB a c = true := by
  unfold aheadB at *
  simp only [Bool.or_eq_true, Bool.and_eq_true, decide_eq_true_eq] at *
  omega
theorem mayG_all {low : Int} : ∀ {l : List Mk} {p : Option Mk}, mayG low p l = true → (∀ x ∈ l, okM low x = true) ∧ l.Pairwise (fun a b => aheadB a b = true) ∧ ∀ y, p = some y → ∀ x ∈ l, aheadB y x = true
  | [], p, h => ⟨(fun x hx => by cases hx), List.Pairwise.nil, (fun y _ x hx => by cases hx)⟩
  | a :: r, p, h => by
    unfold mayG at h
    rw [Bool.and_eq_true, Bool.and_eq_true] at h
    obtain ⟨⟨h1, h2⟩, h3⟩ := h
    obtain ⟨q1, q2, q3⟩ := mayG_all h3
    have ha := q3 a rfl
    refine ⟨fun x hx => ?_, List.pairwise_cons.2 ⟨fun x hx => ha x hx, q2⟩, fun y hy x hx => ?_⟩
    · rcases List.mem_cons.1 hx with rfl | hx
      · exact h1
      · exact q1 x hx
    · subst hy
      dsimp only at h2
      rcases List.mem_cons.1 hx with rfl | hx
      · exact h2
      · exact ahead_tr h2 (ha x hx)
theorem mayG_of {low : Int} : ∀ {l : List Mk} {p : Option Mk}, (∀ x ∈ l, okM low x = true) → l.Pairwise (fun a b => aheadB a b = true) → (∀ y, p = some y → ∀ x ∈ l, aheadB y x = true) → mayG low p l = true
  | [], p, _, _, _ => rfl
  | a :: r, p, h1, h2, h3 => by
    unfold mayG
    rw [Bool.and_eq_true, Bool.and_eq_true]
    obtain ⟨q1, q2⟩ := List.pairwise_cons.1 h2
    refine ⟨⟨h1 a (List.mem_cons_self ..), ?_⟩, mayG_of (fun x hx => h1 x (List.mem_cons_of_mem _ hx)) q2 fun y hy x hx => by injection hy with hy; subst hy; exact q1 x hx⟩
    cases p with
    | none => rfl
    | some y => exact h3 y rfl a (List.mem_cons_self ..)
theorem mayS_iff {s : Ms} : mayS s = true ↔ (numB s.low = true ∧ s.low % 4 = 0 ∧ numB s.root = true) ∧ (∀ x ∈ s.l, okM s.low x = true) ∧ s.l.Pairwise (fun a b => aheadB a b = true) := by
  unfold mayS
  simp only [Bool.and_eq_true, decide_eq_true_eq]
  constructor
  · rintro ⟨h1, h2, h3, h4⟩
    obtain ⟨q1, q2, _⟩ := mayG_all h4
    exact ⟨⟨h1, h2, h3⟩, q1, q2⟩
  · rintro ⟨⟨h1, h2, h3⟩, h4, h5⟩
    exact ⟨h1, h2, h3, mayG_of h4 h5 fun y hy => by cases hy⟩
theorem may_srt {s : Ms} (h : mayS s = true) : Srt s.l := fun i j hj hi => List.pairwise_iff_getElem.1 (mayS_iff.1 h).2.2 i j (by omega) hj hi
theorem pos_at {l : List Mk} {x : Mk} {k : Nat} (hk : k ≤ l.length) (h1 : ∀ (i : Nat) (h : i < l.length), i < k → aheadB l[i] x = true) (h2 : ∀ h : k < l.length, aheadB l[k] x = false) : posN l x = k := by
  unfold posN
  rcases Nat.lt_or_ge k l.length with q | q
  · refine (List.findIdx_eq q).2 ⟨by simp [h2 q], fun j hj => by simp [h1 j (by omega) hj]⟩
  · obtain rfl : k = l.length := by omega
    refine List.findIdx_eq_length.2 fun y hy => ?_
    obtain ⟨i, hi, rfl⟩ := List.getElem_of_mem hy
    simp [h1 i hi hi]
theorem pos_le (l : List Mk) (x : Mk) : posN l x ≤ l.length := List.findIdx_le_length
theorem ord_lt {a b : Mk} : (ordI a b < 0) = (aheadB a b = true) := by
  unfold ordI aheadB
  by_cases h : a.sq = b.sq
  · rw [if_pos h, h]
    have : ¬ b.sq < b.sq := by omega
    simp [this]; omega
  · rw [if_neg h]
    simp [h]; omega
theorem lt_o4 : ltT 4 oFn = true := _root_.id rfl
abbrev HS (s : Ms) (x : Mk) : List AObj := [⟨1, ty_api_Marks, 0, MC s⟩, ⟨1, ty_api_Mark, 0, mC x⟩, ⟨1, ty_api_Marks, 0, zc_api_Marks⟩]
abbrev HS4 (s : Ms) (x y : Mk) : List AObj := [⟨1, ty_api_Marks, 0, MC s⟩, ⟨1, ty_api_Mark, 0, mC x⟩, ⟨1, ty_api_Marks, 0, zc_api_Marks⟩, ⟨1, ty_api_Mark, 0, mC y⟩]
theorem search_s (m : Nat) (s : Ms) (l : List Mk) (x : Mk) (hm : 1000 < m) (hl : l.length ≤ 500) (hsm : ∀ y ∈ l, y.Sm) (hx : x.Sm) (hs : Srt l) : slices_BinarySearchFunc_Mark m (SL (l.map mE)) (.agg (mC x)) oFn (HS s x) = some (TU [nA (posN l x), bA (foundB l x)], HS s x) := by
  rw [slices_BinarySearchFunc_Mark_eq]
  simp (config := {maxSteps := 4000000, implicitDefEqProofs := false}) (disch := omega) only [go_sem, ↓reduceIte, Nat.reduceAdd, Nat.reduceSub, Nat.reduceMul, Nat.reduceLeDiff, Nat.reduceLT, Int.reduceEq, Int.reduceNe, Int.reduceLT, Int.reduceLE, Int.reduceAdd, Int.reduceSub, Int.reduceMul, Int.reduceNeg, Nat.zero_add, Nat.add_zero, Nat.mul_one, Int.toNat_natCast, Int.natCast_zero, Int.cast_ofNat_Int, or_false, false_or, or_true, true_or, Int.reduceToNat, Nat.sub_zero, Int.natCast_nonneg, Int.toNat_zero, Bool.true_and, Bool.and_true, Bool.false_and, Bool.and_false, Bool.true_or, Bool.or_true, Bool.false_or, Bool.or_false, Bool.not_true, Bool.not_false, Bool.not_not, true_and, and_true, false_and, and_false, not_true_eq_false, not_false_eq_true, eq_self, decide_true, decide_false, ne_eq, implies_true, forall_const, true_implies, false_implies, Bool.true_eq_false, Bool.false_eq_true, reduceCtorEq, List.map_cons, List.map_nil, List.all_cons, List.all_nil, List.length_cons, List.length_nil, List.length_map, List.length_append, List.nil_append, List.cons_append, List.set_cons_zero, List.set_cons_succ, List.set_nil, List.drop_zero, List.drop_succ_cons, List.drop_nil, List.take_zero, List.take_succ_cons, List.take_nil, Option.map_some, Option.map_none, Option.isSome_some, Nat.reduceEqDiff, Nat.reduceBEq, Nat.reduceGT, List.all_append, List.all_map, Function.comp_def, decide_eq_true_eq, Bool.and_eq_true, beq_self_eq_true, or_self, and_self, ite_true, ite_false, Nat.le_refl, Bool.not_eq_true, decide_not, Bool.not_eq_true', decide_eq_false_iff_not, Bool.not_eq_false, Bool.or_eq_true, if_true, if_false, ite_self, mE_it, mc_len, mc_sure, mc_ltA, mc_lt1, mc_all1, mc_ro, mc_take, mc_sl, mc_set, mc_fr, mc_sq, mc_tm, zcM_eq, ms_len, ms_sure, ms_ltA, ms_lt1, ms_all1, ms_ro, ms_take, ms_set, ms_low, ms_root, ms_l, zs_len, zs_sure, zs_ltA, zs_ro, zs_set, zs_set2, zs_take, zs_b, me_ltA, me_len3, natInt, u_nthM, all_tt, zs_lt]
  refine iter_go (ι := {p : Nat × Nat // p.1 ≤ p.2 ∧ p.2 ≤ l.length ∧ (∀ (i : Nat) (h : i < l.length), i < p.1 → aheadB l[i] x = true) ∧ (∀ (i : Nat) (h : i < l.length), p.2 ≤ i → aheadB l[i] x = false)}) (fun p => ⟨HS4 s x x, [(0, SL (l.map mE)), (2, oFn), (4, OP 3 0), (8, nA l.length), (9, nA p.1.1), (10, nA p.1.2)]⟩) (fun p => p.1.2 - p.1.1) (fun _ => some (TU [nA (posN l x), bA (foundB l x)], HS s x)) ?_ ⟨(0, l.length), Nat.zero_le _, Nat.le_refl _, (by intro i h h2; omega), (by intro i h h2; dsimp only at h2; omega)⟩ (by dsimp only; omega)
  rintro kx hkx ⟨⟨lo, hi⟩, h1, h2, h3, h4⟩ kc hkc
  dsimp only at hkc h1 h2 h3 h4 ⊢
  rw [slices_BinarySearchFunc_Mark_b1_eq]
  by_cases hlt : lo < hi
  · have hlt' : (lo : Int) < (hi : Int) := by omega
    obtain ⟨d, hd⟩ : ∃ d : Nat, d = (lo + hi) / 2 := ⟨_, rfl⟩
    have hdl : d < l.length := by omega
    have hdl' : (d : Int) < (l.length : Int) := by omega
    have hdd : ((lo : Int) + (hi : Int)) / 2 = (d : Int) := by omega
    have hw : IntKind.i64.wrap ((IntKind.u64.wrap ((lo : Int) + (hi : Int))).fdiv (2 ^ min 1 64)) = (d : Int) := by
      rw [w_u64 (by omega) (by omega), Int.fdiv_eq_ediv_of_nonneg _ (by decide)]
      show IntKind.i64.wrap (((lo : Int) + (hi : Int)) / 2) = _
      rw [hdd, w_i64 (by omega) (by omega)]
    have hO := order_s m l[d] x (by omega) (hsm _ (List.getElem_mem hdl)) hx
    rw [mE_it, mE_it] at hO
    have hol := ord_lt (a := l[d]) (b := x)
    cases hq : aheadB l[d] x with
    | false =>
      have hol' : ¬ ordI l[d] x < 0 := by rw [hol, hq]; simp
      have step := hkc ⟨(lo, d), by omega, by omega, h3, fun i h hi' => by
        rcases Nat.lt_or_ge d i with e | e
        · cases hz : aheadB l[i] x with
          | false => rfl
          | true => rw [ahead_tr (hs d i h e) hz] at hq; cases hq
        · have : i = d := by omega
          subst this; exact hq⟩ (by dsimp only; omega)
      simp (config := {maxSteps := 4000000, implicitDefEqProofs := false}) (disch := omega) only [go_sem, ↓reduceIte, Nat.reduceAdd, Nat.reduceSub, Nat.reduceMul, Nat.reduceLeDiff, Nat.reduceLT, Int.reduceEq, Int.reduceNe, Int.reduceLT, Int.reduceLE, Int.reduceAdd, Int.reduceSub, Int.reduceMul, Int.reduceNeg, Nat.zero_add, Nat.add_zero, Nat.mul_one, Int.toNat_natCast, Int.natCast_zero, Int.cast_ofNat_Int, or_false, false_or, or_true, true_or, Int.reduceToNat, Nat.sub_zero, Int.natCast_nonneg, Int.toNat_zero, Bool.true_and, Bool.and_true, Bool.false_and, Bool.and_false, Bool.true_or, Bool.or_true, Bool.false_or, Bool.or_false, Bool.not_true, Bool.not_false, Bool.not_not, true_and, and_true, false_and, and_false, not_true_eq_false, not_false_eq_true, eq_self, decide_true, decide_false, ne_eq, implies_true, forall_const, true_implies, false_implies, Bool.true_eq_false, Bool.false_eq_true, reduceCtorEq, List.map_cons, List.map_nil, List.all_cons, List.all_nil, List.length_cons, List.length_nil, List.length_map, List.length_append, List.nil_append, List.cons_append, List.set_cons_zero, List.set_cons_succ, List.set_nil, List.drop_zero, List.drop_succ_cons, List.drop_nil, List.take_zero, List.take_succ_cons, List.take_nil, Option.map_some, Option.map_none, Option.isSome_some, Nat.reduceEqDiff, Nat.reduceBEq, Nat.reduceGT, List.all_append, List.all_map, Function.comp_def, decide_eq_true_eq, Bool.and_eq_true, beq_self_eq_true, or_self, and_self, ite_true, ite_false, Nat.le_refl, Bool.not_eq_true, decide_not, Bool.not_eq_true', decide_eq_false_iff_not, Bool.not_eq_false, Bool.or_eq_true, if_true, if_false, ite_self, mE_it, mc_len, mc_sure, mc_ltA, mc_lt1, mc_all1, mc_ro, mc_take, mc_sl, mc_set, mc_fr, mc_sq, mc_tm, zcM_eq, ms_len, ms_sure, ms_ltA, ms_lt1, ms_all1, ms_ro, ms_take, ms_set, ms_low, ms_root, ms_l, zs_len, zs_sure, zs_ltA, zs_ro, zs_set, zs_set2, zs_take, zs_b, me_ltA, me_len3, natInt, u_nthM, all_tt, zs_lt, hlt', hw, w_i64, lt_o4, callV_b, hO, hdl', hol', slices_BinarySearchFunc_Mark_r1_eq]
      exact step
    | true =>
      have hol' : ordI l[d] x < 0 := by rw [hol, hq]
      have step := hkc ⟨(d + 1, hi), by omega, h2, (fun i h hi' => by
        rcases Nat.lt_or_ge i d with e | e
        · exact ahead_tr (hs i d hdl e) hq
        · have : i = d := by omega
          subst this; exact hq), h4⟩ (by dsimp only; omega)
      simp (config := {maxSteps := 4000000, implicitDefEqProofs := false}) (disch := omega) only [go_sem, ↓reduceIte, Nat.reduceAdd, Nat.reduceSub, Nat.reduceMul, Nat.reduceLeDiff, Nat.reduceLT, Int.reduceEq, Int.reduceNe, Int.reduceLT, Int.reduceLE, Int.reduceAdd, Int.reduceSub, Int.reduceMul, Int.reduceNeg, Nat.zero_add, Nat.add_zero, Nat.mul_one, Int.toNat_natCast, Int.natCast_zero, Int.cast_ofNat_Int, or_false, false_or, or_true, true_or, Int.reduceToNat, Nat.sub_zero, Int.natCast_nonneg, Int.toNat_zero, Bool.true_and, Bool.and_true, Bool.false_and, Bool.and_false, Bool.true_or, Bool.or_true, Bool.false_or, Bool.or_false, Bool.not_true, Bool.not_false, Bool.not_not, true_and, and_true, false_and, and_false, not_true_eq_false, not_false_eq_true, eq_self, decide_true, decide_false, ne_eq, implies_true, forall_const, true_implies, false_implies, Bool.true_eq_false, Bool.false_eq_true, reduceCtorEq, List.map_cons, List.map_nil, List.all_cons, List.all_nil, List.length_cons, List.length_nil, List.length_map, List.length_append, List.nil_append, List.cons_append, List.set_cons_zero, List.set_cons_succ, List.set_nil, List.drop_zero, List.drop_succ_cons, List.drop_nil, List.take_zero, List.take_succ_cons, List.take_nil, Option.map_some, Option.map_none, Option.isSome_some, Nat.reduceEqDiff, Nat.reduceBEq, Nat.reduceGT, List.all_append, List.all_map, Function.comp_def, decide_eq_true_eq, Bool.and_eq_true, beq_self_eq_true, or_self, and_self, ite_true, ite_false, Nat.le_refl, Bool.not_eq_true, decide_not, Bool.not_eq_true', decide_eq_false_iff_not, Bool.not_eq_false, Bool.or_eq_true, if_true, if_false, ite_self, mE_it, mc_len, mc_sure, mc_ltA, mc_lt1, mc_all1, mc_ro, mc_take, mc_sl, mc_set, mc_fr, mc_sq, mc_tm, zcM_eq, ms_len, ms_sure, ms_ltA, ms_lt1, ms_all1, ms_ro, ms_take, ms_set, ms_low, ms_root, ms_l, zs_len, zs_sure, zs_ltA, zs_ro, zs_set, zs_set2, zs_take, zs_b, me_ltA, me_len3, natInt, u_nthM, all_tt, zs_lt, hlt', hw, w_i64, lt_o4, callV_b, hO, hdl', hol', slices_BinarySearchFunc_Mark_r1_eq]
      exact step
  · have hlt' : ¬ (lo : Int) < (hi : Int) := by omega
    have : lo = hi := by omega
    subst this
    have hp := pos_at h2 (fun i h hi => h3 i h hi) (fun h => h4 lo h (Nat.le_refl _))
    unfold foundB
    rw [hp]
    by_cases hlo : lo < l.length
    · have hlo' : (lo : Int) < (l.length : Int) := by omega
      have hO := order_s m l[lo] x (by omega) (hsm _ (List.getElem_mem hlo)) hx
      rw [mE_it, mE_it] at hO
      rw [List.getElem?_eq_getElem hlo]
      dsimp only
      simp (config := {maxSteps := 4000000, implicitDefEqProofs := false}) (disch := omega) only [go_sem, ↓reduceIte, Nat.reduceAdd, Nat.reduceSub, Nat.reduceMul, Nat.reduceLeDiff, Nat.reduceLT, Int.reduceEq, Int.reduceNe, Int.reduceLT, Int.reduceLE, Int.reduceAdd, Int.reduceSub, Int.reduceMul, Int.reduceNeg, Nat.zero_add, Nat.add_zero, Nat.mul_one, Int.toNat_natCast, Int.natCast_zero, Int.cast_ofNat_Int, or_false, false_or, or_true, true_or, Int.reduceToNat, Nat.sub_zero, Int.natCast_nonneg, Int.toNat_zero, Bool.true_and, Bool.and_true, Bool.false_and, Bool.and_false, Bool.true_or, Bool.or_true, Bool.false_or, Bool.or_false, Bool.not_true, Bool.not_false, Bool.not_not, true_and, and_true, false_and, and_false, not_true_eq_false, not_false_eq_true, eq_self, decide_true, decide_false, ne_eq, implies_true, forall_const, true_implies, false_implies, Bool.true_eq_false, Bool.false_eq_true, reduceCtorEq, List.map_cons, List.map_nil, List.all_cons, List.all_nil, List.length_cons, List.length_nil, List.length_map, List.length_append, List.nil_append, List.cons_append, List.set_cons_zero, List.set_cons_succ, List.set_nil, List.drop_zero, List.drop_succ_cons, List.drop_nil, List.take_zero, List.take_succ_cons, List.take_nil, Option.map_some, Option.map_none, Option.isSome_some, Nat.reduceEqDiff, Nat.reduceBEq, Nat.reduceGT, List.all_append, List.all_map, Function.comp_def, decide_eq_true_eq, Bool.and_eq_true, beq_self_eq_true, or_self, and_self, ite_true, ite_false, Nat.le_refl, Bool.not_eq_true, decide_not, Bool.not_eq_true', decide_eq_false_iff_not, Bool.not_eq_false, Bool.or_eq_true, if_true, if_false, ite_self, mE_it, mc_len, mc_sure, mc_ltA, mc_lt1, mc_all1, mc_ro, mc_take, mc_sl, mc_set, mc_fr, mc_sq, mc_tm, zcM_eq, ms_len, ms_sure, ms_ltA, ms_lt1, ms_all1, ms_ro, ms_take, ms_set, ms_low, ms_root, ms_l, zs_len, zs_sure, zs_ltA, zs_ro, zs_set, zs_set2, zs_take, zs_b, me_ltA, me_len3, natInt, u_nthM, all_tt, zs_lt, hlt', hkx, callV_b, hO, hlo', slices_BinarySearchFunc_Mark_r1_eq]
    · have hlo' : ¬ (lo : Int) < (l.length : Int) := by omega
      rw [List.getElem?_eq_none (by omega)]
      dsimp only
      simp (config := {maxSteps := 4000000, implicitDefEqProofs := false}) (disch := omega) only [go_sem, ↓reduceIte, Nat.reduceAdd, Nat.reduceSub, Nat.reduceMul, Nat.reduceLeDiff, Nat.reduceLT, Int.reduceEq, Int.reduceNe, Int.reduceLT, Int.reduceLE, Int.reduceAdd, Int.reduceSub, Int.reduceMul, Int.reduceNeg, Nat.zero_add, Nat.add_zero, Nat.mul_one, Int.toNat_natCast, Int.natCast_zero, Int.cast_ofNat_Int, or_false, false_or, or_true, true_or, Int.reduceToNat, Nat.sub_zero, Int.natCast_nonneg, Int.toNat_zero, Bool.true_and, Bool.and_true, Bool.false_and, Bool.and_false, Bool.true_or, Bool.or_true, Bool.false_or, Bool.or_false, Bool.not_true, Bool.not_false, Bool.not_not, true_and, and_true, false_and, and_false, not_true_eq_false, not_false_eq_true, eq_self, decide_true, decide_false, ne_eq, implies_true, forall_const, true_implies, false_implies, Bool.true_eq_false, Bool.false_eq_true, reduceCtorEq, List.map_cons, List.map_nil, List.all_cons, List.all_nil, List.length_cons, List.length_nil, List.length_map, List.length_append, List.nil_append, List.cons_append, List.set_cons_zero, List.set_cons_succ, List.set_nil, List.drop_zero, List.drop_succ_cons, List.drop_nil, List.take_zero, List.take_succ_cons, List.take_nil, Option.map_some, Option.map_none, Option.isSome_some, Nat.reduceEqDiff, Nat.reduceBEq, Nat.reduceGT, List.all_append, List.all_map, Function.comp_def, decide_eq_true_eq, Bool.and_eq_true, beq_self_eq_true, or_self, and_self, ite_true, ite_false, Nat.le_refl, Bool.not_eq_true, decide_not, Bool.not_eq_true', decide_eq_false_iff_not, Bool.not_eq_false, Bool.or_eq_true, if_true, if_false, ite_self, mE_it, mc_len, mc_sure, mc_ltA, mc_lt1, mc_all1, mc_ro, mc_take, mc_sl, mc_set, mc_fr, mc_sq, mc_tm, zcM_eq, ms_len, ms_sure, ms_ltA, ms_lt1, ms_all1, ms_ro, ms_take, ms_set, ms_low, ms_root, ms_l, zs_len, zs_sure, zs_ltA, zs_ro, zs_set, zs_set2, zs_take, zs_b, me_ltA, me_len3, natInt, u_nthM, all_tt, zs_lt, hlt', hkx, hlo', slices_BinarySearchFunc_Mark_r1_eq]
def setM (l : List Mk) (x : Mk) (w : Nat) : Nat := match l with
  | [] => w
  | y :: r => setM r x (if y.sq = x.sq ∧ y.tm = x.tm then w ||| qb y.fr else w)
theorem setM_lt : ∀ (l : List Mk) (x : Mk) (w : Nat), w < 2 ^ 64 → setM l x w < 2 ^ 64
  | [], x, w, h => h
  | y :: r, x, w, h => by
    unfold setM
    refine setM_lt r x _ ?_
    split
    · exact Nat.or_lt_two_pow h (qb_lt _)
    · exact h
def stabB (l : List Mk) (x : Mk) (n : Int) : Bool := okN n && decide (2 * (fN n : Int) + 1 ≤ (cntS (setM l x 0 &&& allN n) : Int))
theorem stable_s (m : Nat) (l : List Mk) (x : Mk) (n : Int) (hm : l.length < m) (hl : l.length ≤ 1000000) : marks_stable m (SL (l.map mE)) (.agg (mC x)) (nA n) = some (bA (stabB l x n), []) := by
  rw [marks_stable_eq]
  simp (config := {maxSteps := 4000000, implicitDefEqProofs := false}) (disch := omega) only [go_sem, ↓reduceIte, Nat.reduceAdd, Nat.reduceSub, Nat.reduceMul, Nat.reduceLeDiff, Nat.reduceLT, Int.reduceEq, Int.reduceNe, Int.reduceLT, Int.reduceLE, Int.reduceAdd, Int.reduceSub, Int.reduceMul, Int.reduceNeg, Nat.zero_add, Nat.add_zero, Nat.mul_one, Int.toNat_natCast, Int.natCast_zero, Int.cast_ofNat_Int, or_false, false_or, or_true, true_or, Int.reduceToNat, Nat.sub_zero, Int.natCast_nonneg, Int.toNat_zero, Bool.true_and, Bool.and_true, Bool.false_and, Bool.and_false, Bool.true_or, Bool.or_true, Bool.false_or, Bool.or_false, Bool.not_true, Bool.not_false, Bool.not_not, true_and, and_true, false_and, and_false, not_true_eq_false, not_false_eq_true, eq_self, decide_true, decide_false, ne_eq, implies_true, forall_const, true_implies, false_implies, Bool.true_eq_false, Bool.false_eq_true, reduceCtorEq, List.map_cons, List.map_nil, List.all_cons, List.all_nil, List.length_cons, List.length_nil, List.length_map, List.length_append, List.nil_append, List.cons_append, List.set_cons_zero, List.set_cons_succ, List.set_nil, List.drop_zero, List.drop_succ_cons, List.drop_nil, List.take_zero, List.take_succ_cons, List.take_nil, Option.map_some, Option.map_none, Option.isSome_some, Nat.reduceEqDiff, Nat.reduceBEq, Nat.reduceGT, List.all_append, List.all_map, Function.comp_def, decide_eq_true_eq, Bool.and_eq_true, beq_self_eq_true, or_self, and_self, ite_true, ite_false, Nat.le_refl, Bool.not_eq_true, decide_not, Bool.not_eq_true', decide_eq_false_iff_not, Bool.not_eq_false, Bool.or_eq_true, if_true, if_false, ite_self, mE_it, mc_len, mc_sure, mc_ltA, mc_lt1, mc_all1, mc_ro, mc_take, mc_sl, mc_set, mc_fr, mc_sq, mc_tm, zcM_eq, ms_len, ms_sure, ms_ltA, ms_lt1, ms_all1, ms_ro, ms_take, ms_set, ms_low, ms_root, ms_l, zs_len, zs_sure, zs_ltA, zs_ro, zs_set, zs_set2, zs_take, zs_b, me_ltA, me_len3, natInt, u_nthM, all_tt]
  generalize hg : setM l x 0 = g
  have hgl : g < 2 ^ 64 := by rw [← hg]; exact setM_lt l x 0 (by decide)
  have hst : stabB l x n = (okN n && decide (2 * (fN n : Int) + 1 ≤ (cntS (g &&& allN n) : Int))) := by unfold stabB; rw [hg]
  rw [hst]
  refine iter_go (ι := {p : Nat × Nat // p.1 ≤ l.length ∧ p.2 < 2 ^ 64 ∧ setM (l.drop p.1) x p.2 = g}) (fun p => ⟨[⟨1, ty_api_Mark, 0, mC x⟩], [(2, nA n), (4, OP 0 0), (7, qA p.1.2), (10, SL (l.map mE)), (11, nA l.length), (12, nA p.1.1)]⟩) (fun p => l.length - p.1.1) (fun _ => some (bA (okN n && decide (2 * (fN n : Int) + 1 ≤ (cntS (g &&& allN n) : Int))), [])) ?_ ⟨(0, 0), Nat.zero_le _, by decide, hg⟩ (by dsimp only; omega)
  rintro kx hkx ⟨⟨k, w⟩, hk, hw, hG⟩ kc hkc
  dsimp only at hkc hk hw hG ⊢
  rw [marks_stable_b1_eq]
  by_cases hlt : k < l.length
  · have hlt' : (k : Int) < (l.length : Int) := by omega
    rw [List.drop_eq_getElem_cons hlt] at hG
    unfold setM at hG
    have hW := with_s m w l[k].fr hw
    by_cases c1 : l[k].sq = x.sq
    · by_cases c2 : l[k].tm = x.tm
      · rw [if_pos ⟨c1, c2⟩] at hG
        have step := hkc ⟨(k + 1, w ||| qb l[k].fr), by dsimp only; omega, Nat.or_lt_two_pow hw (qb_lt _), hG⟩ (by dsimp only; omega)
        dsimp only at step
        simp (config := {maxSteps := 4000000, implicitDefEqProofs := false}) (disch := omega) only [go_sem, ↓reduceIte, Nat.reduceAdd, Nat.reduceSub, Nat.reduceMul, Nat.reduceLeDiff, Nat.reduceLT, Int.reduceEq, Int.reduceNe, Int.reduceLT, Int.reduceLE, Int.reduceAdd, Int.reduceSub, Int.reduceMul, Int.reduceNeg, Nat.zero_add, Nat.add_zero, Nat.mul_one, Int.toNat_natCast, Int.natCast_zero, Int.cast_ofNat_Int, or_false, false_or, or_true, true_or, Int.reduceToNat, Nat.sub_zero, Int.natCast_nonneg, Int.toNat_zero, Bool.true_and, Bool.and_true, Bool.false_and, Bool.and_false, Bool.true_or, Bool.or_true, Bool.false_or, Bool.or_false, Bool.not_true, Bool.not_false, Bool.not_not, true_and, and_true, false_and, and_false, not_true_eq_false, not_false_eq_true, eq_self, decide_true, decide_false, ne_eq, implies_true, forall_const, true_implies, false_implies, Bool.true_eq_false, Bool.false_eq_true, reduceCtorEq, List.map_cons, List.map_nil, List.all_cons, List.all_nil, List.length_cons, List.length_nil, List.length_map, List.length_append, List.nil_append, List.cons_append, List.set_cons_zero, List.set_cons_succ, List.set_nil, List.drop_zero, List.drop_succ_cons, List.drop_nil, List.take_zero, List.take_succ_cons, List.take_nil, Option.map_some, Option.map_none, Option.isSome_some, Nat.reduceEqDiff, Nat.reduceBEq, Nat.reduceGT, List.all_append, List.all_map, Function.comp_def, decide_eq_true_eq, Bool.and_eq_true, beq_self_eq_true, or_self, and_self, ite_true, ite_false, Nat.le_refl, Bool.not_eq_true, decide_not, Bool.not_eq_true', decide_eq_false_iff_not, Bool.not_eq_false, Bool.or_eq_true, if_true, if_false, ite_self, mE_it, mc_len, mc_sure, mc_ltA, mc_lt1, mc_all1, mc_ro, mc_take, mc_sl, mc_set, mc_fr, mc_sq, mc_tm, zcM_eq, ms_len, ms_sure, ms_ltA, ms_lt1, ms_all1, ms_ro, ms_take, ms_set, ms_low, ms_root, ms_l, zs_len, zs_sure, zs_ltA, zs_ro, zs_set, zs_set2, zs_take, zs_b, me_ltA, me_len3, natInt, u_nthM, all_tt, hlt', c1, c2, hW, w_i64, marks_stable_r2_eq, marks_stable_r3_eq]
        exact step
      · rw [if_neg (fun q => c2 q.2)] at hG
        have step := hkc ⟨(k + 1, w), by dsimp only; omega, hw, hG⟩ (by dsimp only; omega)
        dsimp only at step
        simp (config := {maxSteps := 4000000, implicitDefEqProofs := false}) (disch := omega) only [go_sem, ↓reduceIte, Nat.reduceAdd, Nat.reduceSub, Nat.reduceMul, Nat.reduceLeDiff, Nat.reduceLT, Int.reduceEq, Int.reduceNe, Int.reduceLT, Int.reduceLE, Int.reduceAdd, Int.reduceSub, Int.reduceMul, Int.reduceNeg, Nat.zero_add, Nat.add_zero, Nat.mul_one, Int.toNat_natCast, Int.natCast_zero, Int.cast_ofNat_Int, or_false, false_or, or_true, true_or, Int.reduceToNat, Nat.sub_zero, Int.natCast_nonneg, Int.toNat_zero, Bool.true_and, Bool.and_true, Bool.false_and, Bool.and_false, Bool.true_or, Bool.or_true, Bool.false_or, Bool.or_false, Bool.not_true, Bool.not_false, Bool.not_not, true_and, and_true, false_and, and_false, not_true_eq_false, not_false_eq_true, eq_self, decide_true, decide_false, ne_eq, implies_true, forall_const, true_implies, false_implies, Bool.true_eq_false, Bool.false_eq_true, reduceCtorEq, List.map_cons, List.map_nil, List.all_cons, List.all_nil, List.length_cons, List.length_nil, List.length_map, List.length_append, List.nil_append, List.cons_append, List.set_cons_zero, List.set_cons_succ, List.set_nil, List.drop_zero, List.drop_succ_cons, List.drop_nil, List.take_zero, List.take_succ_cons, List.take_nil, Option.map_some, Option.map_none, Option.isSome_some, Nat.reduceEqDiff, Nat.reduceBEq, Nat.reduceGT, List.all_append, List.all_map, Function.comp_def, decide_eq_true_eq, Bool.and_eq_true, beq_self_eq_true, or_self, and_self, ite_true, ite_false, Nat.le_refl, Bool.not_eq_true, decide_not, Bool.not_eq_true', decide_eq_false_iff_not, Bool.not_eq_false, Bool.or_eq_true, if_true, if_false, ite_self, mE_it, mc_len, mc_sure, mc_ltA, mc_lt1, mc_all1, mc_ro, mc_take, mc_sl, mc_set, mc_fr, mc_sq, mc_tm, zcM_eq, ms_len, ms_sure, ms_ltA, ms_lt1, ms_all1, ms_ro, ms_take, ms_set, ms_low, ms_root, ms_l, zs_len, zs_sure, zs_ltA, zs_ro, zs_set, zs_set2, zs_take, zs_b, me_ltA, me_len3, natInt, u_nthM, all_tt, hlt', c1, c2, w_i64, marks_stable_r2_eq, marks_stable_r3_eq]
        exact step
    · rw [if_neg (fun q => c1 q.1)] at hG
      have step := hkc ⟨(k + 1, w), by dsimp only; omega, hw, hG⟩ (by dsimp only; omega)
      dsimp only at step
      simp (config := {maxSteps := 4000000, implicitDefEqProofs := false}) (disch := omega) only [go_sem, ↓reduceIte, Nat.reduceAdd, Nat.reduceSub, Nat.reduceMul, Nat.reduceLeDiff, Nat.reduceLT, Int.reduceEq, Int.reduceNe, Int.reduceLT, Int.reduceLE, Int.reduceAdd, Int.reduceSub, Int.reduceMul, Int.reduceNeg, Nat.zero_add, Nat.add_zero, Nat.mul_one, Int.toNat_natCast, Int.natCast_zero, Int.cast_ofNat_Int, or_false, false_or, or_true, true_or, Int.reduceToNat, Nat.sub_zero, Int.natCast_nonneg, Int.toNat_zero, Bool.true_and, Bool.and_true, Bool.false_and, Bool.and_false, Bool.true_or, Bool.or_true, Bool.false_or, Bool.or_false, Bool.not_true, Bool.not_false, Bool.not_not, true_and, and_true, false_and, and_false, not_true_eq_false, not_false_eq_true, eq_self, decide_true, decide_false, ne_eq, implies_true, forall_const, true_implies, false_implies, Bool.true_eq_false, Bool.false_eq_true, reduceCtorEq, List.map_cons, List.map_nil, List.all_cons, List.all_nil, List.length_cons, List.length_nil, List.length_map, List.length_append, List.nil_append, List.cons_append, List.set_cons_zero, List.set_cons_succ, List.set_nil, List.drop_zero, List.drop_succ_cons, List.drop_nil, List.take_zero, List.take_succ_cons, List.take_nil, Option.map_some, Option.map_none, Option.isSome_some, Nat.reduceEqDiff, Nat.reduceBEq, Nat.reduceGT, List.all_append, List.all_map, Function.comp_def, decide_eq_true_eq, Bool.and_eq_true, beq_self_eq_true, or_self, and_self, ite_true, ite_false, Nat.le_refl, Bool.not_eq_true, decide_not, Bool.not_eq_true', decide_eq_false_iff_not, Bool.not_eq_false, Bool.or_eq_true, if_true, if_false, ite_self, mE_it, mc_len, mc_sure, mc_ltA, mc_lt1, mc_all1, mc_ro, mc_take, mc_sl, mc_set, mc_fr, mc_sq, mc_tm, zcM_eq, ms_len, ms_sure, ms_ltA, ms_lt1, ms_all1, ms_ro, ms_take, ms_set, ms_low, ms_root, ms_l, zs_len, zs_sure, zs_ltA, zs_ro, zs_set, zs_set2, zs_take, zs_b, me_ltA, me_len3, natInt, u_nthM, all_tt, hlt', c1, w_i64, marks_stable_r2_eq, marks_stable_r3_eq]
      exact step
  · have hlt' : ¬ (k : Int) < (l.length : Int) := by omega
    rw [List.drop_of_length_le (by omega)] at hG
    have : w = g := hG
    subst this
    have hI := isStrong_s m w n hw
    simp (config := {maxSteps := 4000000, implicitDefEqProofs := false}) (disch := omega) only [go_sem, ↓reduceIte, Nat.reduceAdd, Nat.reduceSub, Nat.reduceMul, Nat.reduceLeDiff, Nat.reduceLT, Int.reduceEq, Int.reduceNe, Int.reduceLT, Int.reduceLE, Int.reduceAdd, Int.reduceSub, Int.reduceMul, Int.reduceNeg, Nat.zero_add, Nat.add_zero, Nat.mul_one, Int.toNat_natCast, Int.natCast_zero, Int.cast_ofNat_Int, or_false, false_or, or_true, true_or, Int.reduceToNat, Nat.sub_zero, Int.natCast_nonneg, Int.toNat_zero, Bool.true_and, Bool.and_true, Bool.false_and, Bool.and_false, Bool.true_or, Bool.or_true, Bool.false_or, Bool.or_false, Bool.not_true, Bool.not_false, Bool.not_not, true_and, and_true, false_and, and_false, not_true_eq_false, not_false_eq_true, eq_self, decide_true, decide_false, ne_eq, implies_true, forall_const, true_implies, false_implies, Bool.true_eq_false, Bool.false_eq_true, reduceCtorEq, List.map_cons, List.map_nil, List.all_cons, List.all_nil, List.length_cons, List.length_nil, List.length_map, List.length_append, List.nil_append, List.cons_append, List.set_cons_zero, List.set_cons_succ, List.set_nil, List.drop_zero, List.drop_succ_cons, List.drop_nil, List.take_zero, List.take_succ_cons, List.take_nil, Option.map_some, Option.map_none, Option.isSome_some, Nat.reduceEqDiff, Nat.reduceBEq, Nat.reduceGT, List.all_append, List.all_map, Function.comp_def, decide_eq_true_eq, Bool.and_eq_true, beq_self_eq_true, or_self, and_self, ite_true, ite_false, Nat.le_refl, Bool.not_eq_true, decide_not, Bool.not_eq_true', decide_eq_false_iff_not, Bool.not_eq_false, Bool.or_eq_true, if_true, if_false, ite_self, mE_it, mc_len, mc_sure, mc_ltA, mc_lt1, mc_all1, mc_ro, mc_take, mc_sl, mc_set, mc_fr, mc_sq, mc_tm, zcM_eq, ms_len, ms_sure, ms_ltA, ms_lt1, ms_all1, ms_ro, ms_take, ms_set, ms_low, ms_root, ms_l, zs_len, zs_sure, zs_ltA, zs_ro, zs_set, zs_set2, zs_take, zs_b, me_ltA, me_len3, natInt, u_nthM, all_tt, hlt', hI, hkx, marks_stable_r3_eq, marks_stable_r2_eq, marks_stable_r1_eq]
def sayF (s : Ms) (x : Mk) (n : Int) : Ms × Bool × Int :=
  if mayS s = true ∧ okN n = true ∧ 0 ≤ x.fr ∧ x.fr < n ∧ numB x.tm = true ∧ dueB x.sq = true then
    if inB s.low x.sq = true then
      if foundB s.l x = true then (MZ, false, if (match s.l[posN s.l x]? with | some y => y.tm | none => 0) = x.tm then 16 else 23)
      else if stabB (s.l.take (posN s.l x) ++ x :: s.l.drop (posN s.l x)) x n = true then (⟨x.sq, x.tm, laterL (s.l.take (posN s.l x) ++ x :: s.l.drop (posN s.l x)) x.sq⟩, true, 0)
      else (⟨s.low, s.root, s.l.take (posN s.l x) ++ x :: s.l.drop (posN s.l x)⟩, false, 0)
    else (MZ, false, 22)
  else (MZ, false, 1)
theorem okN_le {n : Int} (h : okN n = true) : n ≤ 64 := by
  have := okN_iff.1 h
  omega
theorem zs_all1 {n : Nat} {H : List AObj} : (zc_api_Marks.all fun y => lt1 n (ro1 H y)) = true := _root_.id rfl
theorem ro_fn {H : List AObj} {f : Fn} {a b : Array Value} : ro H (V (.func f a b)) = V (.func f a b) := _root_.id rfl
theorem say_no (m : Nat) (s : Ms) (x : Mk) (n : Int) : marks_Say_r1 m ⟨HS s x, [(2, nA n), (3, OP 0 0), (4, OP 1 0), (6, OP 2 0), (18, V (.bool true))]⟩ = some (TU [.agg (MC MZ), bA false, nA 1], []) := by
  rw [marks_Say_r1_eq]
  simp (config := {maxSteps := 4000000, implicitDefEqProofs := false}) (disch := omega) only [go_sem, ↓reduceIte, Nat.reduceAdd, Nat.reduceSub, Nat.reduceMul, Nat.reduceLeDiff, Nat.reduceLT, Int.reduceEq, Int.reduceNe, Int.reduceLT, Int.reduceLE, Int.reduceAdd, Int.reduceSub, Int.reduceMul, Int.reduceNeg, Nat.zero_add, Nat.add_zero, Nat.mul_one, Int.toNat_natCast, Int.natCast_zero, Int.cast_ofNat_Int, or_false, false_or, or_true, true_or, Int.reduceToNat, Nat.sub_zero, Int.natCast_nonneg, Int.toNat_zero, Bool.true_and, Bool.and_true, Bool.false_and, Bool.and_false, Bool.true_or, Bool.or_true, Bool.false_or, Bool.or_false, Bool.not_true, Bool.not_false, Bool.not_not, true_and, and_true, false_and, and_false, not_true_eq_false, not_false_eq_true, eq_self, decide_true, decide_false, ne_eq, implies_true, forall_const, true_implies, false_implies, Bool.true_eq_false, Bool.false_eq_true, reduceCtorEq, List.map_cons, List.map_nil, List.all_cons, List.all_nil, List.length_cons, List.length_nil, List.length_map, List.length_append, List.nil_append, List.cons_append, List.set_cons_zero, List.set_cons_succ, List.set_nil, List.drop_zero, List.drop_succ_cons, List.drop_nil, List.take_zero, List.take_succ_cons, List.take_nil, Option.map_some, Option.map_none, Option.isSome_some, Nat.reduceEqDiff, Nat.reduceBEq, Nat.reduceGT, List.all_append, List.all_map, Function.comp_def, decide_eq_true_eq, Bool.and_eq_true, beq_self_eq_true, or_self, and_self, ite_true, ite_false, Nat.le_refl, Bool.not_eq_true, decide_not, Bool.not_eq_true', decide_eq_false_iff_not, Bool.not_eq_false, Bool.or_eq_true, if_true, if_false, ite_self, mE_it, mc_len, mc_sure, mc_ltA, mc_lt1, mc_all1, mc_ro, mc_take, mc_sl, mc_set, mc_fr, mc_sq, mc_tm, zcM_eq, ms_len, ms_sure, ms_ltA, ms_lt1, ms_all1, ms_ro, ms_take, ms_set, ms_low, ms_root, ms_l, zs_len, zs_sure, zs_ltA, zs_ro, zs_set, zs_set2, zs_take, zs_b, me_ltA, me_len3, natInt, u_nthM, all_tt, zs_all1]
theorem say_yes (m : Nat) (s : Ms) (x : Mk) (n : Int) (hm : 1000 < m) (hl : s.l.length ≤ 400) (hx : x.sq < 9223372036854775808) (h1 : mayS s = true) (h2 : okN n = true) (h3 : 0 ≤ x.fr) (h4 : x.fr < n) (h5 : numB x.tm = true) (h6 : dueB x.sq = true) :
    marks_Say_r1 m ⟨HS s x, [(2, nA n), (3, OP 0 0), (4, OP 1 0), (6, OP 2 0), (18, V (.bool false))]⟩ = some (TU [.agg (MC (sayF s x n).1), bA (sayF s x n).2.1, nA (sayF s x n).2.2], []) := by
  obtain ⟨⟨c1, _, _⟩, hok, hpw⟩ := mayS_iff.1 h1
  have h0 : 0 ≤ s.low := by unfold numB at c1; simp at c1; exact c1.1
  have hI := in_s m s.low x.sq h0 hx
  have hn := okN_le h2
  unfold sayF
  rw [if_pos ⟨h1, h2, h3, h4, h5, h6⟩, marks_Say_r1_eq]
  cases hin : inB s.low x.sq with
  | false =>
    rw [hin] at hI
    simp (config := {maxSteps := 4000000, implicitDefEqProofs := false}) (disch := omega) only [go_sem, ↓reduceIte, Nat.reduceAdd, Nat.reduceSub, Nat.reduceMul, Nat.reduceLeDiff, Nat.reduceLT, Int.reduceEq, Int.reduceNe, Int.reduceLT, Int.reduceLE, Int.reduceAdd, Int.reduceSub, Int.reduceMul, Int.reduceNeg, Nat.zero_add, Nat.add_zero, Nat.mul_one, Int.toNat_natCast, Int.natCast_zero, Int.cast_ofNat_Int, or_false, false_or, or_true, true_or, Int.reduceToNat, Nat.sub_zero, Int.natCast_nonneg, Int.toNat_zero, Bool.true_and, Bool.and_true, Bool.false_and, Bool.and_false, Bool.true_or, Bool.or_true, Bool.false_or, Bool.or_false, Bool.not_true, Bool.not_false, Bool.not_not, true_and, and_true, false_and, and_false, not_true_eq_false, not_false_eq_true, eq_self, decide_true, decide_false, ne_eq, implies_true, forall_const, true_implies, false_implies, Bool.true_eq_false, Bool.false_eq_true, reduceCtorEq, List.map_cons, List.map_nil, List.all_cons, List.all_nil, List.length_cons, List.length_nil, List.length_map, List.length_append, List.nil_append, List.cons_append, List.set_cons_zero, List.set_cons_succ, List.set_nil, List.drop_zero, List.drop_succ_cons, List.drop_nil, List.take_zero, List.take_succ_cons, List.take_nil, Option.map_some, Option.map_none, Option.isSome_some, Nat.reduceEqDiff, Nat.reduceBEq, Nat.reduceGT, List.all_append, List.all_map, Function.comp_def, decide_eq_true_eq, Bool.and_eq_true, beq_self_eq_true, or_self, and_self, ite_true, ite_false, Nat.le_refl, Bool.not_eq_true, decide_not, Bool.not_eq_true', decide_eq_false_iff_not, Bool.not_eq_false, Bool.or_eq_true, if_true, if_false, ite_self, mE_it, mc_len, mc_sure, mc_ltA, mc_lt1, mc_all1, mc_ro, mc_take, mc_sl, mc_set, mc_fr, mc_sq, mc_tm, zcM_eq, ms_len, ms_sure, ms_ltA, ms_lt1, ms_all1, ms_ro, ms_take, ms_set, ms_low, ms_root, ms_l, zs_len, zs_sure, zs_ltA, zs_ro, zs_set, zs_set2, zs_take, zs_b, me_ltA, me_len3, natInt, u_nthM, all_tt, zs_all1, hI]
    try rfl
  | true =>
  rw [hin] at hI
  rw [if_pos rfl]
  have hsm : x.Sm := by
    refine ⟨⟨h3, by omega⟩, ?_, ?_⟩
    · unfold dueB at h6; simp at h6; exact h6.1
    · unfold inB at hin; simp at hin; exact hin.2.2
  have hB : slices_BinarySearchFuncV_Mark_t m [SL (s.l.map mE), .agg (mC x), V (.func (.func 24) #[] #[])] (HS s x) = some (TU [nA (posN s.l x), bA (foundB s.l x)], HS s x) := search_s m s s.l x hm (by omega) (fun y hy => ok_sm (hok y hy)) hsm (may_srt h1)
  have hpl := pos_le s.l x
  cases hfo : foundB s.l x with
  | true =>
    rw [hfo] at hB
    have hp : posN s.l x < s.l.length := by
      unfold foundB at hfo
      rcases Nat.lt_or_ge (posN s.l x) s.l.length with q | q
      · exact q
      · rw [List.getElem?_eq_none q] at hfo; cases hfo
    rw [List.getElem?_eq_getElem hp]
    dsimp only
    generalize posN s.l x = p at hB hpl hp ⊢
    have hp' : (p : Int) < (s.l.length : Int) := by omega
    by_cases ht : s.l[p].tm = x.tm
    · simp (config := {maxSteps := 4000000, implicitDefEqProofs := false}) (disch := omega) only [go_sem, ↓reduceIte, Nat.reduceAdd, Nat.reduceSub, Nat.reduceMul, Nat.reduceLeDiff, Nat.reduceLT, Int.reduceEq, Int.reduceNe, Int.reduceLT, Int.reduceLE, Int.reduceAdd, Int.reduceSub, Int.reduceMul, Int.reduceNeg, Nat.zero_add, Nat.add_zero, Nat.mul_one, Int.toNat_natCast, Int.natCast_zero, Int.cast_ofNat_Int, or_false, false_or, or_true, true_or, Int.reduceToNat, Nat.sub_zero, Int.natCast_nonneg, Int.toNat_zero, Bool.true_and, Bool.and_true, Bool.false_and, Bool.and_false, Bool.true_or, Bool.or_true, Bool.false_or, Bool.or_false, Bool.not_true, Bool.not_false, Bool.not_not, true_and, and_true, false_and, and_false, not_true_eq_false, not_false_eq_true, eq_self, decide_true, decide_false, ne_eq, implies_true, forall_const, true_implies, false_implies, Bool.true_eq_false, Bool.false_eq_true, reduceCtorEq, List.map_cons, List.map_nil, List.all_cons, List.all_nil, List.length_cons, List.length_nil, List.length_map, List.length_append, List.nil_append, List.cons_append, List.set_cons_zero, List.set_cons_succ, List.set_nil, List.drop_zero, List.drop_succ_cons, List.drop_nil, List.take_zero, List.take_succ_cons, List.take_nil, Option.map_some, Option.map_none, Option.isSome_some, Nat.reduceEqDiff, Nat.reduceBEq, Nat.reduceGT, List.all_append, List.all_map, Function.comp_def, decide_eq_true_eq, Bool.and_eq_true, beq_self_eq_true, or_self, and_self, ite_true, ite_false, Nat.le_refl, Bool.not_eq_true, decide_not, Bool.not_eq_true', decide_eq_false_iff_not, Bool.not_eq_false, Bool.or_eq_true, if_true, if_false, ite_self, mE_it, mc_len, mc_sure, mc_ltA, mc_lt1, mc_all1, mc_ro, mc_take, mc_sl, mc_set, mc_fr, mc_sq, mc_tm, zcM_eq, ms_len, ms_sure, ms_ltA, ms_lt1, ms_all1, ms_ro, ms_take, ms_set, ms_low, ms_root, ms_l, zs_len, zs_sure, zs_ltA, zs_ro, zs_set, zs_set2, zs_take, zs_b, me_ltA, me_len3, natInt, u_nthM, all_tt, zs_all1, ro_fn, hI, hB, hp', ht, marks_Say_r2_eq]
      try rfl
    · simp (config := {maxSteps := 4000000, implicitDefEqProofs := false}) (disch := omega) only [go_sem, ↓reduceIte, Nat.reduceAdd, Nat.reduceSub, Nat.reduceMul, Nat.reduceLeDiff, Nat.reduceLT, Int.reduceEq, Int.reduceNe, Int.reduceLT, Int.reduceLE, Int.reduceAdd, Int.reduceSub, Int.reduceMul, Int.reduceNeg, Nat.zero_add, Nat.add_zero, Nat.mul_one, Int.toNat_natCast, Int.natCast_zero, Int.cast_ofNat_Int, or_false, false_or, or_true, true_or, Int.reduceToNat, Nat.sub_zero, Int.natCast_nonneg, Int.toNat_zero, Bool.true_and, Bool.and_true, Bool.false_and, Bool.and_false, Bool.true_or, Bool.or_true, Bool.false_or, Bool.or_false, Bool.not_true, Bool.not_false, Bool.not_not, true_and, and_true, false_and, and_false, not_true_eq_false, not_false_eq_true, eq_self, decide_true, decide_false, ne_eq, implies_true, forall_const, true_implies, false_implies, Bool.true_eq_false, Bool.false_eq_true, reduceCtorEq, List.map_cons, List.map_nil, List.all_cons, List.all_nil, List.length_cons, List.length_nil, List.length_map, List.length_append, List.nil_append, List.cons_append, List.set_cons_zero, List.set_cons_succ, List.set_nil, List.drop_zero, List.drop_succ_cons, List.drop_nil, List.take_zero, List.take_succ_cons, List.take_nil, Option.map_some, Option.map_none, Option.isSome_some, Nat.reduceEqDiff, Nat.reduceBEq, Nat.reduceGT, List.all_append, List.all_map, Function.comp_def, decide_eq_true_eq, Bool.and_eq_true, beq_self_eq_true, or_self, and_self, ite_true, ite_false, Nat.le_refl, Bool.not_eq_true, decide_not, Bool.not_eq_true', decide_eq_false_iff_not, Bool.not_eq_false, Bool.or_eq_true, if_true, if_false, ite_self, mE_it, mc_len, mc_sure, mc_ltA, mc_lt1, mc_all1, mc_ro, mc_take, mc_sl, mc_set, mc_fr, mc_sq, mc_tm, zcM_eq, ms_len, ms_sure, ms_ltA, ms_lt1, ms_all1, ms_ro, ms_take, ms_set, ms_low, ms_root, ms_l, zs_len, zs_sure, zs_ltA, zs_ro, zs_set, zs_set2, zs_take, zs_b, me_ltA, me_len3, natInt, u_nthM, all_tt, zs_all1, ro_fn, hI, hB, hp', ht, marks_Say_r2_eq]
      try rfl
  | false =>
    rw [hfo] at hB
    rw [if_neg (by simp)]
    generalize posN s.l x = p at hB hpl ⊢
    have hC : ∀ n, slices_Clone_Mark_t m [SL (s.l.map mE)] n = some (PR n (s.l.map mE).length, [⟨4, ty_api_Mark, 3, s.l.map mE⟩]) := fun n => slices_Clone_Mark_e m n (s.l.map mE) (by unfold allCE; rw [List.all_map]; exact me_len3) (by rw [List.length_map]; omega)
    have hIn : ∀ X Y Z, slices_Insert_Mark_t m [PR 3 s.l.length, nA (p : Int), SL [.agg (mC x)]] [X, Y, Z, ⟨4, ty_api_Mark, 3, s.l.map mE⟩] = some (SL ((s.l.take p ++ x :: s.l.drop p).map mE), [X, Y, Z, ⟨0, ty_api_Mark, 3, []⟩]) := fun X Y Z => by
      have := slices_Insert_Mark_e m (i := 3) (H := [X, Y, Z, ⟨4, ty_api_Mark, 3, s.l.map mE⟩]) (x := .agg (mC x)) rfl (by rw [List.length_map]; exact hpl) (by rw [List.length_map]; omega) (by rw [List.all_map]; exact me_ltA) rfl
      rw [List.length_map] at this
      refine this.trans ?_
      rw [List.map_append, List.map_take, List.map_cons, List.map_drop]
      rfl
    have hlen : (s.l.take p ++ x :: s.l.drop p).length = s.l.length + 1 := by rw [List.length_append, List.length_cons, List.length_take, List.length_drop]; omega
    generalize s.l.take p ++ x :: s.l.drop p = L at hIn hlen ⊢
    have hS := stable_s m L x n (by omega) (by omega)
    have hMv := moved_s m ⟨s.low, s.root, L⟩ x.sq x.tm (by dsimp only; omega) (by dsimp only; omega)
    rw [ME_it, ME_it] at hMv
    dsimp only at hMv
    cases hst : stabB L x n with
    | true =>
      rw [hst] at hS
      rw [if_pos rfl]
      simp (config := {maxSteps := 4000000, implicitDefEqProofs := false}) (disch := omega) only [go_sem, ↓reduceIte, Nat.reduceAdd, Nat.reduceSub, Nat.reduceMul, Nat.reduceLeDiff, Nat.reduceLT, Int.reduceEq, Int.reduceNe, Int.reduceLT, Int.reduceLE, Int.reduceAdd, Int.reduceSub, Int.reduceMul, Int.reduceNeg, Nat.zero_add, Nat.add_zero, Nat.mul_one, Int.toNat_natCast, Int.natCast_zero, Int.cast_ofNat_Int, or_false, false_or, or_true, true_or, Int.reduceToNat, Nat.sub_zero, Int.natCast_nonneg, Int.toNat_zero, Bool.true_and, Bool.and_true, Bool.false_and, Bool.and_false, Bool.true_or, Bool.or_true, Bool.false_or, Bool.or_false, Bool.not_true, Bool.not_false, Bool.not_not, true_and, and_true, false_and, and_false, not_true_eq_false, not_false_eq_true, eq_self, decide_true, decide_false, ne_eq, implies_true, forall_const, true_implies, false_implies, Bool.true_eq_false, Bool.false_eq_true, reduceCtorEq, List.map_cons, List.map_nil, List.all_cons, List.all_nil, List.length_cons, List.length_nil, List.length_map, List.length_append, List.nil_append, List.cons_append, List.set_cons_zero, List.set_cons_succ, List.set_nil, List.drop_zero, List.drop_succ_cons, List.drop_nil, List.take_zero, List.take_succ_cons, List.take_nil, Option.map_some, Option.map_none, Option.isSome_some, Nat.reduceEqDiff, Nat.reduceBEq, Nat.reduceGT, List.all_append, List.all_map, Function.comp_def, decide_eq_true_eq, Bool.and_eq_true, beq_self_eq_true, or_self, and_self, ite_true, ite_false, Nat.le_refl, Bool.not_eq_true, decide_not, Bool.not_eq_true', decide_eq_false_iff_not, Bool.not_eq_false, Bool.or_eq_true, if_true, if_false, ite_self, mE_it, mc_len, mc_sure, mc_ltA, mc_lt1, mc_all1, mc_ro, mc_take, mc_sl, mc_set, mc_fr, mc_sq, mc_tm, zcM_eq, ms_len, ms_sure, ms_ltA, ms_lt1, ms_all1, ms_ro, ms_take, ms_set, ms_low, ms_root, ms_l, zs_len, zs_sure, zs_ltA, zs_ro, zs_set, zs_set2, zs_take, zs_b, me_ltA, me_len3, natInt, u_nthM, all_tt, zs_all1, ro_fn, hI, hB, hC, u_addS, hIn, hS, hMv, ms_setL, marks_Say_r2_eq]
    | false =>
      rw [hst] at hS
      rw [if_neg (by simp)]
      simp (config := {maxSteps := 4000000, implicitDefEqProofs := false}) (disch := omega) only [go_sem, ↓reduceIte, Nat.reduceAdd, Nat.reduceSub, Nat.reduceMul, Nat.reduceLeDiff, Nat.reduceLT, Int.reduceEq, Int.reduceNe, Int.reduceLT, Int.reduceLE, Int.reduceAdd, Int.reduceSub, Int.reduceMul, Int.reduceNeg, Nat.zero_add, Nat.add_zero, Nat.mul_one, Int.toNat_natCast, Int.natCast_zero, Int.cast_ofNat_Int, or_false, false_or, or_true, true_or, Int.reduceToNat, Nat.sub_zero, Int.natCast_nonneg, Int.toNat_zero, Bool.true_and, Bool.and_true, Bool.false_and, Bool.and_false, Bool.true_or, Bool.or_true, Bool.false_or, Bool.or_false, Bool.not_true, Bool.not_false, Bool.not_not, true_and, and_true, false_and, and_false, not_true_eq_false, not_false_eq_true, eq_self, decide_true, decide_false, ne_eq, implies_true, forall_const, true_implies, false_implies, Bool.true_eq_false, Bool.false_eq_true, reduceCtorEq, List.map_cons, List.map_nil, List.all_cons, List.all_nil, List.length_cons, List.length_nil, List.length_map, List.length_append, List.nil_append, List.cons_append, List.set_cons_zero, List.set_cons_succ, List.set_nil, List.drop_zero, List.drop_succ_cons, List.drop_nil, List.take_zero, List.take_succ_cons, List.take_nil, Option.map_some, Option.map_none, Option.isSome_some, Nat.reduceEqDiff, Nat.reduceBEq, Nat.reduceGT, List.all_append, List.all_map, Function.comp_def, decide_eq_true_eq, Bool.and_eq_true, beq_self_eq_true, or_self, and_self, ite_true, ite_false, Nat.le_refl, Bool.not_eq_true, decide_not, Bool.not_eq_true', decide_eq_false_iff_not, Bool.not_eq_false, Bool.or_eq_true, if_true, if_false, ite_self, mE_it, mc_len, mc_sure, mc_ltA, mc_lt1, mc_all1, mc_ro, mc_take, mc_sl, mc_set, mc_fr, mc_sq, mc_tm, zcM_eq, ms_len, ms_sure, ms_ltA, ms_lt1, ms_all1, ms_ro, ms_take, ms_set, ms_low, ms_root, ms_l, zs_len, zs_sure, zs_ltA, zs_ro, zs_set, zs_set2, zs_take, zs_b, me_ltA, me_len3, natInt, u_nthM, all_tt, zs_all1, ro_fn, hI, hB, hC, u_addS, hIn, hS, ms_setL, marks_Say_r2_eq]
theorem say_s (m : Nat) (s : Ms) (x : Mk) (n : Int) (hm : 1000 < m) (hl : s.l.length ≤ 400) (h : s.In) (hx : x.sq < 9223372036854775808) : marks_Say m (ME s) (mE x) (nA n) = some (TU [ME (sayF s x n).1, bA (sayF s x n).2.1, nA (sayF s x n).2.2], []) := by
  have hM := may_s m s (by omega) (by omega) (by omega) h
  have hF := faults_s m n
  have hT := number_s m x.tm
  have hD := due_s m x.sq
  have hN := say_no m s x n
  rw [ME_it] at hM
  rw [marks_Say_eq, ME_it, mE_it, ME_it]
  have bad : ¬ (mayS s = true ∧ okN n = true ∧ 0 ≤ x.fr ∧ x.fr < n ∧ numB x.tm = true ∧ dueB x.sq = true) → sayF s x n = (MZ, false, 1) := fun q => by unfold sayF; rw [if_neg q]
  cases c1 : mayS s with
  | false =>
    rw [c1] at hM
    rw [bad (by rw [c1]; simp)]
    simp (config := {maxSteps := 4000000, implicitDefEqProofs := false}) (disch := omega) only [go_sem, ↓reduceIte, Nat.reduceAdd, Nat.reduceSub, Nat.reduceMul, Nat.reduceLeDiff, Nat.reduceLT, Int.reduceEq, Int.reduceNe, Int.reduceLT, Int.reduceLE, Int.reduceAdd, Int.reduceSub, Int.reduceMul, Int.reduceNeg, Nat.zero_add, Nat.add_zero, Nat.mul_one, Int.toNat_natCast, Int.natCast_zero, Int.cast_ofNat_Int, or_false, false_or, or_true, true_or, Int.reduceToNat, Nat.sub_zero, Int.natCast_nonneg, Int.toNat_zero, Bool.true_and, Bool.and_true, Bool.false_and, Bool.and_false, Bool.true_or, Bool.or_true, Bool.false_or, Bool.or_false, Bool.not_true, Bool.not_false, Bool.not_not, true_and, and_true, false_and, and_false, not_true_eq_false, not_false_eq_true, eq_self, decide_true, decide_false, ne_eq, implies_true, forall_const, true_implies, false_implies, Bool.true_eq_false, Bool.false_eq_true, reduceCtorEq, List.map_cons, List.map_nil, List.all_cons, List.all_nil, List.length_cons, List.length_nil, List.length_map, List.length_append, List.nil_append, List.cons_append, List.set_cons_zero, List.set_cons_succ, List.set_nil, List.drop_zero, List.drop_succ_cons, List.drop_nil, List.take_zero, List.take_succ_cons, List.take_nil, Option.map_some, Option.map_none, Option.isSome_some, Nat.reduceEqDiff, Nat.reduceBEq, Nat.reduceGT, List.all_append, List.all_map, Function.comp_def, decide_eq_true_eq, Bool.and_eq_true, beq_self_eq_true, or_self, and_self, ite_true, ite_false, Nat.le_refl, Bool.not_eq_true, decide_not, Bool.not_eq_true', decide_eq_false_iff_not, Bool.not_eq_false, Bool.or_eq_true, if_true, if_false, ite_self, mE_it, mc_len, mc_sure, mc_ltA, mc_lt1, mc_all1, mc_ro, mc_take, mc_sl, mc_set, mc_fr, mc_sq, mc_tm, zcM_eq, ms_len, ms_sure, ms_ltA, ms_lt1, ms_all1, ms_ro, ms_take, ms_set, ms_low, ms_root, ms_l, zs_len, zs_sure, zs_ltA, zs_ro, zs_set, zs_set2, zs_take, zs_b, me_ltA, me_len3, natInt, u_nthM, all_tt, hF, hM, hN]
  | true =>
  rw [c1] at hM
  cases c2 : okN n with
  | false =>
    rw [c2] at hF
    rw [bad (by rw [c2]; simp)]
    simp (config := {maxSteps := 4000000, implicitDefEqProofs := false}) (disch := omega) only [go_sem, ↓reduceIte, Nat.reduceAdd, Nat.reduceSub, Nat.reduceMul, Nat.reduceLeDiff, Nat.reduceLT, Int.reduceEq, Int.reduceNe, Int.reduceLT, Int.reduceLE, Int.reduceAdd, Int.reduceSub, Int.reduceMul, Int.reduceNeg, Nat.zero_add, Nat.add_zero, Nat.mul_one, Int.toNat_natCast, Int.natCast_zero, Int.cast_ofNat_Int, or_false, false_or, or_true, true_or, Int.reduceToNat, Nat.sub_zero, Int.natCast_nonneg, Int.toNat_zero, Bool.true_and, Bool.and_true, Bool.false_and, Bool.and_false, Bool.true_or, Bool.or_true, Bool.false_or, Bool.or_false, Bool.not_true, Bool.not_false, Bool.not_not, true_and, and_true, false_and, and_false, not_true_eq_false, not_false_eq_true, eq_self, decide_true, decide_false, ne_eq, implies_true, forall_const, true_implies, false_implies, Bool.true_eq_false, Bool.false_eq_true, reduceCtorEq, List.map_cons, List.map_nil, List.all_cons, List.all_nil, List.length_cons, List.length_nil, List.length_map, List.length_append, List.nil_append, List.cons_append, List.set_cons_zero, List.set_cons_succ, List.set_nil, List.drop_zero, List.drop_succ_cons, List.drop_nil, List.take_zero, List.take_succ_cons, List.take_nil, Option.map_some, Option.map_none, Option.isSome_some, Nat.reduceEqDiff, Nat.reduceBEq, Nat.reduceGT, List.all_append, List.all_map, Function.comp_def, decide_eq_true_eq, Bool.and_eq_true, beq_self_eq_true, or_self, and_self, ite_true, ite_false, Nat.le_refl, Bool.not_eq_true, decide_not, Bool.not_eq_true', decide_eq_false_iff_not, Bool.not_eq_false, Bool.or_eq_true, if_true, if_false, ite_self, mE_it, mc_len, mc_sure, mc_ltA, mc_lt1, mc_all1, mc_ro, mc_take, mc_sl, mc_set, mc_fr, mc_sq, mc_tm, zcM_eq, ms_len, ms_sure, ms_ltA, ms_lt1, ms_all1, ms_ro, ms_take, ms_set, ms_low, ms_root, ms_l, zs_len, zs_sure, zs_ltA, zs_ro, zs_set, zs_set2, zs_take, zs_b, me_ltA, me_len3, natInt, u_nthM, all_tt, hF, hM, hN]
  | true =>
  rw [c2] at hF
  by_cases c3 : x.fr < 0
  · rw [bad (by rintro ⟨_, _, q, _⟩; omega)]
    simp (config := {maxSteps := 4000000, implicitDefEqProofs := false}) (disch := omega) only [go_sem, ↓reduceIte, Nat.reduceAdd, Nat.reduceSub, Nat.reduceMul, Nat.reduceLeDiff, Nat.reduceLT, Int.reduceEq, Int.reduceNe, Int.reduceLT, Int.reduceLE, Int.reduceAdd, Int.reduceSub, Int.reduceMul, Int.reduceNeg, Nat.zero_add, Nat.add_zero, Nat.mul_one, Int.toNat_natCast, Int.natCast_zero, Int.cast_ofNat_Int, or_false, false_or, or_true, true_or, Int.reduceToNat, Nat.sub_zero, Int.natCast_nonneg, Int.toNat_zero, Bool.true_and, Bool.and_true, Bool.false_and, Bool.and_false, Bool.true_or, Bool.or_true, Bool.false_or, Bool.or_false, Bool.not_true, Bool.not_false, Bool.not_not, true_and, and_true, false_and, and_false, not_true_eq_false, not_false_eq_true, eq_self, decide_true, decide_false, ne_eq, implies_true, forall_const, true_implies, false_implies, Bool.true_eq_false, Bool.false_eq_true, reduceCtorEq, List.map_cons, List.map_nil, List.all_cons, List.all_nil, List.length_cons, List.length_nil, List.length_map, List.length_append, List.nil_append, List.cons_append, List.set_cons_zero, List.set_cons_succ, List.set_nil, List.drop_zero, List.drop_succ_cons, List.drop_nil, List.take_zero, List.take_succ_cons, List.take_nil, Option.map_some, Option.map_none, Option.isSome_some, Nat.reduceEqDiff, Nat.reduceBEq, Nat.reduceGT, List.all_append, List.all_map, Function.comp_def, decide_eq_true_eq, Bool.and_eq_true, beq_self_eq_true, or_self, and_self, ite_true, ite_false, Nat.le_refl, Bool.not_eq_true, decide_not, Bool.not_eq_true', decide_eq_false_iff_not, Bool.not_eq_false, Bool.or_eq_true, if_true, if_false, ite_self, mE_it, mc_len, mc_sure, mc_ltA, mc_lt1, mc_all1, mc_ro, mc_take, mc_sl, mc_set, mc_fr, mc_sq, mc_tm, zcM_eq, ms_len, ms_sure, ms_ltA, ms_lt1, ms_all1, ms_ro, ms_take, ms_set, ms_low, ms_root, ms_l, zs_len, zs_sure, zs_ltA, zs_ro, zs_set, zs_set2, zs_take, zs_b, me_ltA, me_len3, natInt, u_nthM, all_tt, hF, hM, c3, hN]
  by_cases c4 : n ≤ x.fr
  · rw [bad (by rintro ⟨_, _, _, q, _⟩; omega)]
    simp (config := {maxSteps := 4000000, implicitDefEqProofs := false}) (disch := omega) only [go_sem, ↓reduceIte, Nat.reduceAdd, Nat.reduceSub, Nat.reduceMul, Nat.reduceLeDiff, Nat.reduceLT, Int.reduceEq, Int.reduceNe, Int.reduceLT, Int.reduceLE, Int.reduceAdd, Int.reduceSub, Int.reduceMul, Int.reduceNeg, Nat.zero_add, Nat.add_zero, Nat.mul_one, Int.toNat_natCast, Int.natCast_zero, Int.cast_ofNat_Int, or_false, false_or, or_true, true_or, Int.reduceToNat, Nat.sub_zero, Int.natCast_nonneg, Int.toNat_zero, Bool.true_and, Bool.and_true, Bool.false_and, Bool.and_false, Bool.true_or, Bool.or_true, Bool.false_or, Bool.or_false, Bool.not_true, Bool.not_false, Bool.not_not, true_and, and_true, false_and, and_false, not_true_eq_false, not_false_eq_true, eq_self, decide_true, decide_false, ne_eq, implies_true, forall_const, true_implies, false_implies, Bool.true_eq_false, Bool.false_eq_true, reduceCtorEq, List.map_cons, List.map_nil, List.all_cons, List.all_nil, List.length_cons, List.length_nil, List.length_map, List.length_append, List.nil_append, List.cons_append, List.set_cons_zero, List.set_cons_succ, List.set_nil, List.drop_zero, List.drop_succ_cons, List.drop_nil, List.take_zero, List.take_succ_cons, List.take_nil, Option.map_some, Option.map_none, Option.isSome_some, Nat.reduceEqDiff, Nat.reduceBEq, Nat.reduceGT, List.all_append, List.all_map, Function.comp_def, decide_eq_true_eq, Bool.and_eq_true, beq_self_eq_true, or_self, and_self, ite_true, ite_false, Nat.le_refl, Bool.not_eq_true, decide_not, Bool.not_eq_true', decide_eq_false_iff_not, Bool.not_eq_false, Bool.or_eq_true, if_true, if_false, ite_self, mE_it, mc_len, mc_sure, mc_ltA, mc_lt1, mc_all1, mc_ro, mc_take, mc_sl, mc_set, mc_fr, mc_sq, mc_tm, zcM_eq, ms_len, ms_sure, ms_ltA, ms_lt1, ms_all1, ms_ro, ms_take, ms_set, ms_low, ms_root, ms_l, zs_len, zs_sure, zs_ltA, zs_ro, zs_set, zs_set2, zs_take, zs_b, me_ltA, me_len3, natInt, u_nthM, all_tt, hF, hM, c3, c4, hN]
  cases c5 : numB x.tm with
  | false =>
    rw [c5] at hT
    rw [bad (by rw [c5]; simp)]
    simp (config := {maxSteps := 4000000, implicitDefEqProofs := false}) (disch := omega) only [go_sem, ↓reduceIte, Nat.reduceAdd, Nat.reduceSub, Nat.reduceMul, Nat.reduceLeDiff, Nat.reduceLT, Int.reduceEq, Int.reduceNe, Int.reduceLT, Int.reduceLE, Int.reduceAdd, Int.reduceSub, Int.reduceMul, Int.reduceNeg, Nat.zero_add, Nat.add_zero, Nat.mul_one, Int.toNat_natCast, Int.natCast_zero, Int.cast_ofNat_Int, or_false, false_or, or_true, true_or, Int.reduceToNat, Nat.sub_zero, Int.natCast_nonneg, Int.toNat_zero, Bool.true_and, Bool.and_true, Bool.false_and, Bool.and_false, Bool.true_or, Bool.or_true, Bool.false_or, Bool.or_false, Bool.not_true, Bool.not_false, Bool.not_not, true_and, and_true, false_and, and_false, not_true_eq_false, not_false_eq_true, eq_self, decide_true, decide_false, ne_eq, implies_true, forall_const, true_implies, false_implies, Bool.true_eq_false, Bool.false_eq_true, reduceCtorEq, List.map_cons, List.map_nil, List.all_cons, List.all_nil, List.length_cons, List.length_nil, List.length_map, List.length_append, List.nil_append, List.cons_append, List.set_cons_zero, List.set_cons_succ, List.set_nil, List.drop_zero, List.drop_succ_cons, List.drop_nil, List.take_zero, List.take_succ_cons, List.take_nil, Option.map_some, Option.map_none, Option.isSome_some, Nat.reduceEqDiff, Nat.reduceBEq, Nat.reduceGT, List.all_append, List.all_map, Function.comp_def, decide_eq_true_eq, Bool.and_eq_true, beq_self_eq_true, or_self, and_self, ite_true, ite_false, Nat.le_refl, Bool.not_eq_true, decide_not, Bool.not_eq_true', decide_eq_false_iff_not, Bool.not_eq_false, Bool.or_eq_true, if_true, if_false, ite_self, mE_it, mc_len, mc_sure, mc_ltA, mc_lt1, mc_all1, mc_ro, mc_take, mc_sl, mc_set, mc_fr, mc_sq, mc_tm, zcM_eq, ms_len, ms_sure, ms_ltA, ms_lt1, ms_all1, ms_ro, ms_take, ms_set, ms_low, ms_root, ms_l, zs_len, zs_sure, zs_ltA, zs_ro, zs_set, zs_set2, zs_take, zs_b, me_ltA, me_len3, natInt, u_nthM, all_tt, hF, hM, c3, c4, hT, hN]
  | true =>
  rw [c5] at hT
  cases c6 : dueB x.sq with
  | false =>
    rw [c6] at hD
    rw [bad (by rw [c6]; simp)]
    simp (config := {maxSteps := 4000000, implicitDefEqProofs := false}) (disch := omega) only [go_sem, ↓reduceIte, Nat.reduceAdd, Nat.reduceSub, Nat.reduceMul, Nat.reduceLeDiff, Nat.reduceLT, Int.reduceEq, Int.reduceNe, Int.reduceLT, Int.reduceLE, Int.reduceAdd, Int.reduceSub, Int.reduceMul, Int.reduceNeg, Nat.zero_add, Nat.add_zero, Nat.mul_one, Int.toNat_natCast, Int.natCast_zero, Int.cast_ofNat_Int, or_false, false_or, or_true, true_or, Int.reduceToNat, Nat.sub_zero, Int.natCast_nonneg, Int.toNat_zero, Bool.true_and, Bool.and_true, Bool.false_and, Bool.and_false, Bool.true_or, Bool.or_true, Bool.false_or, Bool.or_false, Bool.not_true, Bool.not_false, Bool.not_not, true_and, and_true, false_and, and_false, not_true_eq_false, not_false_eq_true, eq_self, decide_true, decide_false, ne_eq, implies_true, forall_const, true_implies, false_implies, Bool.true_eq_false, Bool.false_eq_true, reduceCtorEq, List.map_cons, List.map_nil, List.all_cons, List.all_nil, List.length_cons, List.length_nil, List.length_map, List.length_append, List.nil_append, List.cons_append, List.set_cons_zero, List.set_cons_succ, List.set_nil, List.drop_zero, List.drop_succ_cons, List.drop_nil, List.take_zero, List.take_succ_cons, List.take_nil, Option.map_some, Option.map_none, Option.isSome_some, Nat.reduceEqDiff, Nat.reduceBEq, Nat.reduceGT, List.all_append, List.all_map, Function.comp_def, decide_eq_true_eq, Bool.and_eq_true, beq_self_eq_true, or_self, and_self, ite_true, ite_false, Nat.le_refl, Bool.not_eq_true, decide_not, Bool.not_eq_true', decide_eq_false_iff_not, Bool.not_eq_false, Bool.or_eq_true, if_true, if_false, ite_self, mE_it, mc_len, mc_sure, mc_ltA, mc_lt1, mc_all1, mc_ro, mc_take, mc_sl, mc_set, mc_fr, mc_sq, mc_tm, zcM_eq, ms_len, ms_sure, ms_ltA, ms_lt1, ms_all1, ms_ro, ms_take, ms_set, ms_low, ms_root, ms_l, zs_len, zs_sure, zs_ltA, zs_ro, zs_set, zs_set2, zs_take, zs_b, me_ltA, me_len3, natInt, u_nthM, all_tt, hF, hM, c3, c4, hT, hD, hN]
  | true =>
  rw [c6] at hD
  have hY := say_yes m s x n hm hl hx c1 c2 (by omega) (by omega) c5 c6
  simp (config := {maxSteps := 4000000, implicitDefEqProofs := false}) (disch := omega) only [go_sem, ↓reduceIte, Nat.reduceAdd, Nat.reduceSub, Nat.reduceMul, Nat.reduceLeDiff, Nat.reduceLT, Int.reduceEq, Int.reduceNe, Int.reduceLT, Int.reduceLE, Int.reduceAdd, Int.reduceSub, Int.reduceMul, Int.reduceNeg, Nat.zero_add, Nat.add_zero, Nat.mul_one, Int.toNat_natCast, Int.natCast_zero, Int.cast_ofNat_Int, or_false, false_or, or_true, true_or, Int.reduceToNat, Nat.sub_zero, Int.natCast_nonneg, Int.toNat_zero, Bool.true_and, Bool.and_true, Bool.false_and, Bool.and_false, Bool.true_or, Bool.or_true, Bool.false_or, Bool.or_false, Bool.not_true, Bool.not_false, Bool.not_not, true_and, and_true, false_and, and_false, not_true_eq_false, not_false_eq_true, eq_self, decide_true, decide_false, ne_eq, implies_true, forall_const, true_implies, false_implies, Bool.true_eq_false, Bool.false_eq_true, reduceCtorEq, List.map_cons, List.map_nil, List.all_cons, List.all_nil, List.length_cons, List.length_nil, List.length_map, List.length_append, List.nil_append, List.cons_append, List.set_cons_zero, List.set_cons_succ, List.set_nil, List.drop_zero, List.drop_succ_cons, List.drop_nil, List.take_zero, List.take_succ_cons, List.take_nil, Option.map_some, Option.map_none, Option.isSome_some, Nat.reduceEqDiff, Nat.reduceBEq, Nat.reduceGT, List.all_append, List.all_map, Function.comp_def, decide_eq_true_eq, Bool.and_eq_true, beq_self_eq_true, or_self, and_self, ite_true, ite_false, Nat.le_refl, Bool.not_eq_true, decide_not, Bool.not_eq_true', decide_eq_false_iff_not, Bool.not_eq_false, Bool.or_eq_true, if_true, if_false, ite_self, mE_it, mc_len, mc_sure, mc_ltA, mc_lt1, mc_all1, mc_ro, mc_take, mc_sl, mc_set, mc_fr, mc_sq, mc_tm, zcM_eq, ms_len, ms_sure, ms_ltA, ms_lt1, ms_all1, ms_ro, ms_take, ms_set, ms_low, ms_root, ms_l, zs_len, zs_sure, zs_ltA, zs_ro, zs_set, zs_set2, zs_take, zs_b, me_ltA, me_len3, natInt, u_nthM, all_tt, hF, hM, c3, c4, hT, hD, hY]
end Go.Proofs.Ytbobfgbjliolmaa

namespace Go.Proofs.Ytbobfgbjliolmaa
open Go.RowKit
set_option linter.unusedVariables false
set_option maxRecDepth 100000
noncomputable def plenumlaw30_MarksKeep_c : Code := (Try.f3.body).getD .skip
def plenumlaw30_MarksKeep_h : Hint := (.two .n (.two .n (.two .n (.join [] (.two .n (.one (.lp [] [0, 1, 5, 6, 7] [4] (.join [0, 1, 5, 6, 7] (.join [0, 1, 5, 6, 7, 23] .n (.two .n .n)) (.join [0, 1, 5, 6, 7] (.one (.two .n (.two (.two .n (.two .n .n)) (.two .n (.join [0, 1, 5, 6, 7, 8, 9, 11] (.two .n (.one (.lp [] [0, 1, 5, 6, 7, 8, 9, 11, 12] [0, 1, 5, 6, 7, 8, 9, 11] (.two (.two .n (.two .n .n)) (.join [0, 1, 5, 6, 7, 8, 9, 11, 12] (.one (.join [0, 1, 5, 6, 7, 8, 9, 11, 12, 85] .n (.two .n .n))) .n))))) (.join [0, 1, 5, 6, 7, 8] (.join [0, 1, 5, 6, 7, 8, 128] .n (.two (.two .n .n) .n)) .n)))))) .n))))) (.two .n .n)))))
noncomputable def plenumlaw30_MarksKeep_env (m : Nat) : Env := [(6, .tell (plenumref05_Faults_t m)), (9, .tell (plenumlaw30_awake_t m)), (7, .tell (marks_Say_t m)), (8, .tell (marks_May_t m))]
noncomputable abbrev plenumlaw30_MarksKeep_fin : KO (AV × List AObj) := tellFK Try.prog [.tmp 4]
noncomputable def plenumlaw30_MarksKeep_r12 (m : Nat) (n0 : Nat) (kc : ASt → RO) (kx : KO (AV × List AObj)) (s : ASt) : RO := joinW Try.prog GG (plenumlaw30_MarksKeep_env m) m 131 (cdR (cdR (cdL (cdL (cdR (cdL (cdR (cdR (cdR plenumlaw30_MarksKeep_c))))))))) plenumlaw30_MarksKeep_h.r.r.r.l.r.c.c.r.r s (backW n0 [0, 1, 5, 6, 7] [4] kc kx)
noncomputable def plenumlaw30_MarksKeep_r11 (m : Nat) (n0 : Nat) (kc : ASt → RO) (kx : KO (AV × List AObj)) (s : ASt) : RO := joinW Try.prog GG (plenumlaw30_MarksKeep_env m) m 131 (cdR (cdR (cdL (cdL (cdR (cdL (cdR (cdR (cdR plenumlaw30_MarksKeep_c))))))))) plenumlaw30_MarksKeep_h.r.r.r.l.r.c.c.r.r s (backW n0 [0, 1, 5, 6, 7] [4] kc kx)
noncomputable def plenumlaw30_MarksKeep_r10 (m : Nat) (n0 : Nat) (kc : ASt → RO) (kx : KO (AV × List AObj)) (s : ASt) : RO := joinW Try.prog GG (plenumlaw30_MarksKeep_env m) m 131 (cdR (cdR (cdR (cdR (cdR (cdL (cdL (cdR (cdL (cdL (cdR (cdL (cdR (cdR (cdR plenumlaw30_MarksKeep_c))))))))))))))) plenumlaw30_MarksKeep_h.r.r.r.l.r.c.c.r.l.c.r.r.r.r.r s (blockX 1 (seqX (fun s => plenumlaw30_MarksKeep_r12 m n0 kc kx ⟨s.H, [(0, gt s.T 0), (1, gt s.T 1), (5, gt s.T 5), (6, gt s.T 6), (7, gt s.T 7)]⟩) (backW n0 [0, 1, 5, 6, 7] [4] kc kx)))
noncomputable def plenumlaw30_MarksKeep_r9 (m : Nat) (n0 : Nat) (kc : ASt → RO) (kx : KO (AV × List AObj)) (s : ASt) : RO := joinW Try.prog GG (plenumlaw30_MarksKeep_env m) m 131 (cdR (cdR (cdL (cdL (cdR (cdL (cdR (cdR (cdR (cdL (cdL (cdR (cdL (cdL (cdR (cdL (cdR (cdR (cdR plenumlaw30_MarksKeep_c))))))))))))))))))) plenumlaw30_MarksKeep_h.r.r.r.l.r.c.c.r.l.c.r.r.r.l.r.c.c.r.r s (backW n0 [0, 1, 5, 6, 7, 8, 9, 11, 12] [0, 1, 5, 6, 7, 8, 9, 11] kc kx)
noncomputable def plenumlaw30_MarksKeep_r8 (m : Nat) (n0 : Nat) (kc : ASt → RO) (kx : KO (AV × List AObj)) (s : ASt) : RO := joinW Try.prog GG (plenumlaw30_MarksKeep_env m) m 131 (cdR (cdR (cdL (cdL (cdR (cdL (cdR (cdR (cdR plenumlaw30_MarksKeep_c))))))))) plenumlaw30_MarksKeep_h.r.r.r.l.r.c.c.r.r s (backW n0 [0, 1, 5, 6, 7] [4] kc kx)
noncomputable def plenumlaw30_MarksKeep_r7 (m : Nat) (n0 : Nat) (kc : ASt → RO) (kx : KO (AV × List AObj)) (s : ASt) : RO := joinW Try.prog GG (plenumlaw30_MarksKeep_env m) m 131 (cdR (cdL (cdR (cdR (cdR (cdR (cdL (cdL (cdR (cdL (cdL (cdR (cdL (cdR (cdR (cdR plenumlaw30_MarksKeep_c)))))))))))))))) plenumlaw30_MarksKeep_h.r.r.r.l.r.c.c.r.l.c.r.r.r.r.l.r s (seqX (fun s => plenumlaw30_MarksKeep_r10 m n0 kc kx ⟨s.H, [(0, gt s.T 0), (1, gt s.T 1), (5, gt s.T 5), (6, gt s.T 6), (7, gt s.T 7), (8, gt s.T 8)]⟩) (blockX 1 (seqX (fun s => plenumlaw30_MarksKeep_r11 m n0 kc kx ⟨s.H, [(0, gt s.T 0), (1, gt s.T 1), (5, gt s.T 5), (6, gt s.T 6), (7, gt s.T 7)]⟩) (backW n0 [0, 1, 5, 6, 7] [4] kc kx))))
noncomputable def plenumlaw30_MarksKeep_r6 (m : Nat) (n0 : Nat) (kc : ASt → RO) (kx : KO (AV × List AObj)) (s : ASt) : RO := joinW Try.prog GG (plenumlaw30_MarksKeep_env m) m 131 (cdR (cdL (cdL (cdR (cdL (cdL (cdR (cdL (cdR (cdR (cdR (cdL (cdL (cdR (cdL (cdL (cdR (cdL (cdR (cdR (cdR plenumlaw30_MarksKeep_c))))))))))))))))))))) plenumlaw30_MarksKeep_h.r.r.r.l.r.c.c.r.l.c.r.r.r.l.r.c.c.r.l.c.r s (blockX 3 (seqX (fun s => plenumlaw30_MarksKeep_r9 m n0 kc kx ⟨s.H, [(0, gt s.T 0), (1, gt s.T 1), (5, gt s.T 5), (6, gt s.T 6), (7, gt s.T 7), (8, gt s.T 8), (9, gt s.T 9), (11, gt s.T 11), (12, gt s.T 12)]⟩) (backW n0 [0, 1, 5, 6, 7, 8, 9, 11, 12] [0, 1, 5, 6, 7, 8, 9, 11] kc kx)))
noncomputable def plenumlaw30_MarksKeep_r5 (m : Nat) (n0 : Nat) (kc : ASt → RO) (kx : KO (AV × List AObj)) (s : ASt) : RO := joinW Try.prog GG (plenumlaw30_MarksKeep_env m) m 131 (cdR (cdR (cdR (cdR (cdL (cdL (cdR (cdL (cdL (cdR (cdL (cdR (cdR (cdR plenumlaw30_MarksKeep_c)))))))))))))) plenumlaw30_MarksKeep_h.r.r.r.l.r.c.c.r.l.c.r.r.r.r s (blockX 1 (seqX (fun s => plenumlaw30_MarksKeep_r8 m n0 kc kx ⟨s.H, [(0, gt s.T 0), (1, gt s.T 1), (5, gt s.T 5), (6, gt s.T 6), (7, gt s.T 7)]⟩) (backW n0 [0, 1, 5, 6, 7] [4] kc kx)))
noncomputable def plenumlaw30_MarksKeep_r4 (m : Nat) (n0 : Nat) (kc : ASt → RO) (kx : KO (AV × List AObj)) (s : ASt) : RO := joinW Try.prog GG (plenumlaw30_MarksKeep_env m) m 131 (cdR (cdR (cdL (cdL (cdR (cdL (cdR (cdR (cdR plenumlaw30_MarksKeep_c))))))))) plenumlaw30_MarksKeep_h.r.r.r.l.r.c.c.r.r s (backW n0 [0, 1, 5, 6, 7] [4] kc kx)
noncomputable def plenumlaw30_MarksKeep_b2 (m : Nat) (s : ASt) (kc : ASt → RO) (kx : KO (AV × List AObj)) : RO := bodyW Try.prog GG (plenumlaw30_MarksKeep_env m) m 131 (cdL (cdL (cdR (cdL (cdR (cdR (cdR (cdL (cdL (cdR (cdL (cdL (cdR (cdL (cdR (cdR (cdR plenumlaw30_MarksKeep_c))))))))))))))))) plenumlaw30_MarksKeep_h.r.r.r.l.r.c.c.r.l.c.r.r.r.l.r.c.c [0, 1, 5, 6, 7, 8, 9, 11, 12] [0, 1, 5, 6, 7, 8, 9, 11] s kc kx
noncomputable def plenumlaw30_MarksKeep_r3 (m : Nat) (n0 : Nat) (kc : ASt → RO) (kx : KO (AV × List AObj)) (s : ASt) : RO := joinW Try.prog GG (plenumlaw30_MarksKeep_env m) m 131 (cdR (cdL (cdL (cdR (cdL (cdR (cdR (cdR plenumlaw30_MarksKeep_c)))))))) plenumlaw30_MarksKeep_h.r.r.r.l.r.c.c.r s (backW n0 [0, 1, 5, 6, 7] [4] kc kx)
noncomputable def plenumlaw30_MarksKeep_r2 (m : Nat) (n0 : Nat) (kc : ASt → RO) (kx : KO (AV × List AObj)) (s : ASt) : RO := joinW Try.prog GG (plenumlaw30_MarksKeep_env m) m 131 (cdR (cdL (cdL (cdL (cdR (cdL (cdR (cdR (cdR plenumlaw30_MarksKeep_c))))))))) plenumlaw30_MarksKeep_h.r.r.r.l.r.c.c.l.r s (seqX (fun s => plenumlaw30_MarksKeep_r3 m n0 kc kx ⟨s.H, [(0, gt s.T 0), (1, gt s.T 1), (5, gt s.T 5), (6, gt s.T 6), (7, gt s.T 7)]⟩) (backW n0 [0, 1, 5, 6, 7] [4] kc kx))
noncomputable def plenumlaw30_MarksKeep_r1 (m : Nat) (s : ASt) : RO := joinW Try.prog GG (plenumlaw30_MarksKeep_env m) m 131 (cdR (cdR (cdR (cdR plenumlaw30_MarksKeep_c)))) plenumlaw30_MarksKeep_h.r.r.r.r s (plenumlaw30_MarksKeep_fin)
noncomputable def plenumlaw30_MarksKeep_b1 (m : Nat) (s : ASt) (kc : ASt → RO) (kx : KO (AV × List AObj)) : RO := bodyW Try.prog GG (plenumlaw30_MarksKeep_env m) m 131 (cdL (cdL (cdR (cdL (cdR (cdR (cdR plenumlaw30_MarksKeep_c))))))) plenumlaw30_MarksKeep_h.r.r.r.l.r.c.c [0, 1, 5, 6, 7] [4] s kc kx
noncomputable def plenumlaw30_MarksKeep (m : Nat) (t0 t1 : AV) : RO := exec Try.prog GG (plenumlaw30_MarksKeep_env m) m 131 plenumlaw30_MarksKeep_c plenumlaw30_MarksKeep_h ⟨[], argsT 0 [t0, t1]⟩ (plenumlaw30_MarksKeep_fin)
theorem plenumlaw30_MarksKeep_r12_eq (m : Nat) (n0 : Nat) (kc : ASt → RO) (kx : KO (AV × List AObj)) (H : List AObj) (t0 t1 t5 t6 t7 : AV) : plenumlaw30_MarksKeep_r12 m n0 kc kx ⟨H, [(0, t0), (1, t1), (5, t5), (6, t6), (7, t7)]⟩ =
  binE none false false .add t7 (V (.int .i64 1)) fun t25 =>
  backE n0 H [(0, t0), (1, t1), (5, t5), (6, t6), (7, t25)] kc := by
  refine (joinW_eq Try.prog GG (plenumlaw30_MarksKeep_env m) m 131 (cdR (cdR (cdL (cdL (cdR (cdL (cdR (cdR (cdR plenumlaw30_MarksKeep_c))))))))) plenumlaw30_MarksKeep_h.r.r.r.l.r.c.c.r.r ⟨H, [(0, t0), (1, t1), (5, t5), (6, t6), (7, t7)]⟩ (backW n0 [0, 1, 5, 6, 7] [4] kc kx)).trans ?_
  kernel_rfl
theorem plenumlaw30_MarksKeep_r11_eq (m : Nat) (n0 : Nat) (kc : ASt → RO) (kx : KO (AV × List AObj)) (H : List AObj) (t0 t1 t5 t6 t7 : AV) : plenumlaw30_MarksKeep_r11 m n0 kc kx ⟨H, [(0, t0), (1, t1), (5, t5), (6, t6), (7, t7)]⟩ =
  binE none false false .add t7 (V (.int .i64 1)) fun t25 =>
  backE n0 H [(0, t0), (1, t1), (5, t5), (6, t6), (7, t25)] kc := by
  refine (joinW_eq Try.prog GG (plenumlaw30_MarksKeep_env m) m 131 (cdR (cdR (cdL (cdL (cdR (cdL (cdR (cdR (cdR plenumlaw30_MarksKeep_c))))))))) plenumlaw30_MarksKeep_h.r.r.r.l.r.c.c.r.r ⟨H, [(0, t0), (1, t1), (5, t5), (6, t6), (7, t7)]⟩ (backW n0 [0, 1, 5, 6, 7] [4] kc kx)).trans ?_
  kernel_rfl
theorem plenumlaw30_MarksKeep_r10_eq (m : Nat) (n0 : Nat) (kc : ASt → RO) (kx : KO (AV × List AObj)) (H : List AObj) (t0 t1 t5 t6 t7 t8 : AV) : plenumlaw30_MarksKeep_r10 m n0 kc kx ⟨H, [(0, t0), (1, t1), (5, t5), (6, t6), (7, t7), (8, t8)]⟩ =
  loadE 5 H t8 fun t129 =>
  storeE 5 H t5 t129 fun H2 =>
  plenumlaw30_MarksKeep_r12 m n0 kc kx ⟨H2, [(0, t0), (1, t1), (5, t5), (6, t6), (7, t7)]⟩ := by
  refine (joinW_eq Try.prog GG (plenumlaw30_MarksKeep_env m) m 131 (cdR (cdR (cdR (cdR (cdR (cdL (cdL (cdR (cdL (cdL (cdR (cdL (cdR (cdR (cdR plenumlaw30_MarksKeep_c))))))))))))))) plenumlaw30_MarksKeep_h.r.r.r.l.r.c.c.r.l.c.r.r.r.r.r ⟨H, [(0, t0), (1, t1), (5, t5), (6, t6), (7, t7), (8, t8)]⟩ (blockX 1 (seqX (fun s => plenumlaw30_MarksKeep_r12 m n0 kc kx ⟨s.H, [(0, gt s.T 0), (1, gt s.T 1), (5, gt s.T 5), (6, gt s.T 6), (7, gt s.T 7)]⟩) (backW n0 [0, 1, 5, 6, 7] [4] kc kx)))).trans ?_
  kernel_rfl
theorem plenumlaw30_MarksKeep_r9_eq (m : Nat) (n0 : Nat) (kc : ASt → RO) (kx : KO (AV × List AObj)) (H : List AObj) (t0 t1 t5 t6 t7 t8 t9 t11 t12 : AV) : plenumlaw30_MarksKeep_r9 m n0 kc kx ⟨H, [(0, t0), (1, t1), (5, t5), (6, t6), (7, t7), (8, t8), (9, t9), (11, t11), (12, t12)]⟩ =
  binE none false false .add t12 (V (.int .i64 1)) fun t45 =>
  backE n0 H [(0, t0), (1, t1), (5, t5), (6, t6), (7, t7), (8, t8), (9, t9), (11, t11), (12, t45)] kc := by
  refine (joinW_eq Try.prog GG (plenumlaw30_MarksKeep_env m) m 131 (cdR (cdR (cdL (cdL (cdR (cdL (cdR (cdR (cdR (cdL (cdL (cdR (cdL (cdL (cdR (cdL (cdR (cdR (cdR plenumlaw30_MarksKeep_c))))))))))))))))))) plenumlaw30_MarksKeep_h.r.r.r.l.r.c.c.r.l.c.r.r.r.l.r.c.c.r.r ⟨H, [(0, t0), (1, t1), (5, t5), (6, t6), (7, t7), (8, t8), (9, t9), (11, t11), (12, t12)]⟩ (backW n0 [0, 1, 5, 6, 7, 8, 9, 11, 12] [0, 1, 5, 6, 7, 8, 9, 11] kc kx)).trans ?_
  kernel_rfl
theorem plenumlaw30_MarksKeep_r8_eq (m : Nat) (n0 : Nat) (kc : ASt → RO) (kx : KO (AV × List AObj)) (H : List AObj) (t0 t1 t5 t6 t7 : AV) : plenumlaw30_MarksKeep_r8 m n0 kc kx ⟨H, [(0, t0), (1, t1), (5, t5), (6, t6), (7, t7)]⟩ =
  binE none false false .add t7 (V (.int .i64 1)) fun t25 =>
  backE n0 H [(0, t0), (1, t1), (5, t5), (6, t6), (7, t25)] kc := by
  refine (joinW_eq Try.prog GG (plenumlaw30_MarksKeep_env m) m 131 (cdR (cdR (cdL (cdL (cdR (cdL (cdR (cdR (cdR plenumlaw30_MarksKeep_c))))))))) plenumlaw30_MarksKeep_h.r.r.r.l.r.c.c.r.r ⟨H, [(0, t0), (1, t1), (5, t5), (6, t6), (7, t7)]⟩ (backW n0 [0, 1, 5, 6, 7] [4] kc kx)).trans ?_
  kernel_rfl
theorem plenumlaw30_MarksKeep_r7_eq (m : Nat) (n0 : Nat) (kc : ASt → RO) (kx : KO (AV × List AObj)) (H : List AObj) (t0 t1 t5 t6 t7 t8 t128 : AV) : plenumlaw30_MarksKeep_r7 m n0 kc kx ⟨H, [(0, t0), (1, t1), (5, t5), (6, t6), (7, t7), (8, t8), (128, t128)]⟩ =
  condE t128 (
   kx .ret ⟨H, [(4, (V (.bool false)))]⟩) (
   plenumlaw30_MarksKeep_r10 m n0 kc kx ⟨H, [(0, t0), (1, t1), (5, t5), (6, t6), (7, t7), (8, t8)]⟩) := by
  refine (joinW_eq Try.prog GG (plenumlaw30_MarksKeep_env m) m 131 (cdR (cdL (cdR (cdR (cdR (cdR (cdL (cdL (cdR (cdL (cdL (cdR (cdL (cdR (cdR (cdR plenumlaw30_MarksKeep_c)))))))))))))))) plenumlaw30_MarksKeep_h.r.r.r.l.r.c.c.r.l.c.r.r.r.r.l.r ⟨H, [(0, t0), (1, t1), (5, t5), (6, t6), (7, t7), (8, t8), (128, t128)]⟩ (seqX (fun s => plenumlaw30_MarksKeep_r10 m n0 kc kx ⟨s.H, [(0, gt s.T 0), (1, gt s.T 1), (5, gt s.T 5), (6, gt s.T 6), (7, gt s.T 7), (8, gt s.T 8)]⟩) (blockX 1 (seqX (fun s => plenumlaw30_MarksKeep_r11 m n0 kc kx ⟨s.H, [(0, gt s.T 0), (1, gt s.T 1), (5, gt s.T 5), (6, gt s.T 6), (7, gt s.T 7)]⟩) (backW n0 [0, 1, 5, 6, 7] [4] kc kx))))).trans ?_
  kernel_rfl
theorem plenumlaw30_MarksKeep_r6_eq (m : Nat) (n0 : Nat) (kc : ASt → RO) (kx : KO (AV × List AObj)) (H : List AObj) (t0 t1 t5 t6 t7 t8 t9 t11 t12 t85 : AV) : plenumlaw30_MarksKeep_r6 m n0 kc kx ⟨H, [(0, t0), (1, t1), (5, t5), (6, t6), (7, t7), (8, t8), (9, t9), (11, t11), (12, t12), (85, t85)]⟩ =
  condE t85 (
   binE none false false .add t11 (V (.int .i64 1)) fun t87 =>
   plenumlaw30_MarksKeep_r9 m n0 kc kx ⟨H, [(0, t0), (1, t1), (5, t5), (6, t6), (7, t7), (8, t8), (9, t9), (11, t87), (12, t12)]⟩) (
   plenumlaw30_MarksKeep_r9 m n0 kc kx ⟨H, [(0, t0), (1, t1), (5, t5), (6, t6), (7, t7), (8, t8), (9, t9), (11, t11), (12, t12)]⟩) := by
  refine (joinW_eq Try.prog GG (plenumlaw30_MarksKeep_env m) m 131 (cdR (cdL (cdL (cdR (cdL (cdL (cdR (cdL (cdR (cdR (cdR (cdL (cdL (cdR (cdL (cdL (cdR (cdL (cdR (cdR (cdR plenumlaw30_MarksKeep_c))))))))))))))))))))) plenumlaw30_MarksKeep_h.r.r.r.l.r.c.c.r.l.c.r.r.r.l.r.c.c.r.l.c.r ⟨H, [(0, t0), (1, t1), (5, t5), (6, t6), (7, t7), (8, t8), (9, t9), (11, t11), (12, t12), (85, t85)]⟩ (blockX 3 (seqX (fun s => plenumlaw30_MarksKeep_r9 m n0 kc kx ⟨s.H, [(0, gt s.T 0), (1, gt s.T 1), (5, gt s.T 5), (6, gt s.T 6), (7, gt s.T 7), (8, gt s.T 8), (9, gt s.T 9), (11, gt s.T 11), (12, gt s.T 12)]⟩) (backW n0 [0, 1, 5, 6, 7, 8, 9, 11, 12] [0, 1, 5, 6, 7, 8, 9, 11] kc kx)))).trans ?_
  kernel_rfl
theorem plenumlaw30_MarksKeep_r5_eq (m : Nat) (n0 : Nat) (kc : ASt → RO) (kx : KO (AV × List AObj)) (H : List AObj) (t0 t1 t5 t6 t7 t8 t9 t11 : AV) : plenumlaw30_MarksKeep_r5 m n0 kc kx ⟨H, [(0, t0), (1, t1), (5, t5), (6, t6), (7, t7), (8, t8), (9, t9), (11, t11)]⟩ =
  binE none false false .eql t6 (V (.int .i64 0)) fun t89 =>
  condE t89 (
   plenumlaw30_MarksKeep_r7 m n0 kc kx ⟨H, [(0, t0), (1, t1), (5, t5), (6, t6), (7, t7), (8, t8), (128, (V (.bool true)))]⟩) (
   binE none false false .add t11 (V (.int .i64 1)) fun t93 =>
   binE none false false .mul (V (.int .i64 2)) t6 fun t95 =>
   binE none false false .add t95 (V (.int .i64 1)) fun t96 =>
   binE none false false .geq t93 t96 fun t97 =>
   binE none true false .neq t9 t97 fun t98 =>
   condE t98 (
   plenumlaw30_MarksKeep_r7 m n0 kc kx ⟨H, [(0, t0), (1, t1), (5, t5), (6, t6), (7, t7), (8, t8), (128, (V (.bool true)))]⟩) (
   fieldE (some (0, 1)) t8 fun t101 =>
   loadE 1 H t101 fun t102 =>
   fieldE (some (0, 1)) t5 fun t103 =>
   loadE 1 H t103 fun t104 =>
   binE none false false .lss t102 t104 fun t105 =>
   condE t105 (
   plenumlaw30_MarksKeep_r7 m n0 kc kx ⟨H, [(0, t0), (1, t1), (5, t5), (6, t6), (7, t7), (8, t8), (128, (V (.bool true)))]⟩) (
   fieldE (some (0, 1)) t8 fun t109 =>
   loadE 1 H t109 fun t110 =>
   fieldE (some (0, 1)) t5 fun t111 =>
   loadE 1 H t111 fun t112 =>
   binE none false false .gtr t110 t112 fun t113 =>
   binE none true false .neq t9 t113 fun t114 =>
   condE t114 (
   plenumlaw30_MarksKeep_r7 m n0 kc kx ⟨H, [(0, t0), (1, t1), (5, t5), (6, t6), (7, t7), (8, t8), (128, (V (.bool true)))]⟩) (
   loadE 5 H t8 fun t117 =>
   tellE (marks_May m (ro H t117)) [(ro H t117)] fun t118 =>
   unE .not t118 fun t119 =>
   condE t119 (
   plenumlaw30_MarksKeep_r7 m n0 kc kx ⟨H, [(0, t0), (1, t1), (5, t5), (6, t6), (7, t7), (8, t8), (128, (V (.bool true)))]⟩) (
   fieldE (some (2, 1)) t8 fun t122 =>
   loadE 1 H t122 fun t123 =>
   lenE false true H t123 fun t124 =>
   binE none false false .mul (V (.int .i64 4)) t0 fun t126 =>
   binE none false false .gtr t124 t126 fun t127 =>
   plenumlaw30_MarksKeep_r7 m n0 kc kx ⟨H, [(0, t0), (1, t1), (5, t5), (6, t6), (7, t7), (8, t8), (128, t127)]⟩))))) := by
  refine (joinW_eq Try.prog GG (plenumlaw30_MarksKeep_env m) m 131 (cdR (cdR (cdR (cdR (cdL (cdL (cdR (cdL (cdL (cdR (cdL (cdR (cdR (cdR plenumlaw30_MarksKeep_c)))))))))))))) plenumlaw30_MarksKeep_h.r.r.r.l.r.c.c.r.l.c.r.r.r.r ⟨H, [(0, t0), (1, t1), (5, t5), (6, t6), (7, t7), (8, t8), (9, t9), (11, t11)]⟩ (blockX 1 (seqX (fun s => plenumlaw30_MarksKeep_r8 m n0 kc kx ⟨s.H, [(0, gt s.T 0), (1, gt s.T 1), (5, gt s.T 5), (6, gt s.T 6), (7, gt s.T 7)]⟩) (backW n0 [0, 1, 5, 6, 7] [4] kc kx)))).trans ?_
  kernel_rfl
theorem plenumlaw30_MarksKeep_r4_eq (m : Nat) (n0 : Nat) (kc : ASt → RO) (kx : KO (AV × List AObj)) (H : List AObj) (t0 t1 t5 t6 t7 : AV) : plenumlaw30_MarksKeep_r4 m n0 kc kx ⟨H, [(0, t0), (1, t1), (5, t5), (6, t6), (7, t7)]⟩ =
  binE none false false .add t7 (V (.int .i64 1)) fun t25 =>
  backE n0 H [(0, t0), (1, t1), (5, t5), (6, t6), (7, t25)] kc := by
  refine (joinW_eq Try.prog GG (plenumlaw30_MarksKeep_env m) m 131 (cdR (cdR (cdL (cdL (cdR (cdL (cdR (cdR (cdR plenumlaw30_MarksKeep_c))))))))) plenumlaw30_MarksKeep_h.r.r.r.l.r.c.c.r.r ⟨H, [(0, t0), (1, t1), (5, t5), (6, t6), (7, t7)]⟩ (backW n0 [0, 1, 5, 6, 7] [4] kc kx)).trans ?_
  kernel_rfl
theorem plenumlaw30_MarksKeep_b2_eq (m : Nat) (H : List AObj) (t0 t1 t5 t6 t7 t8 t9 t11 t12 : AV) (kc : ASt → RO) (kx : KO (AV × List AObj)) : plenumlaw30_MarksKeep_b2 m ⟨H, [(0, t0), (1, t1), (5, t5), (6, t6), (7, t7), (8, t8), (9, t9), (11, t11), (12, t12)]⟩ kc kx =
  fieldE (some (2, 1)) t5 fun t40 =>
  loadE 1 H t40 fun t41 =>
  lenE false true H t41 fun t42 =>
  binE none false false .lss t12 t42 fun t43 =>
  condE t43 (
   fieldE (some (2, 1)) t5 fun t46 =>
   loadE 1 H t46 fun t47 =>
   idxSE 5 H t47 t12 fun t49 =>
   fieldE (some (1, 1)) t49 fun t50 =>
   loadE 1 H t50 fun t51 =>
   idxSE 5 H t1 t7 fun t54 =>
   fieldE (some (1, 1)) t54 fun t55 =>
   loadE 1 H t55 fun t56 =>
   binE none false false .eql t51 t56 fun t57 =>
   condE t57 (
    fieldE (some (2, 1)) t5 fun t59 =>
    loadE 1 H t59 fun t60 =>
    idxSE 5 H t60 t12 fun t62 =>
    fieldE (some (2, 1)) t62 fun t63 =>
    loadE 1 H t63 fun t64 =>
    idxSE 5 H t1 t7 fun t67 =>
    fieldE (some (2, 1)) t67 fun t68 =>
    loadE 1 H t68 fun t69 =>
    binE none false false .eql t64 t69 fun t70 =>
    condE t70 (
    fieldE (some (2, 1)) t5 fun t73 =>
    loadE 1 H t73 fun t74 =>
    idxSE 5 H t74 t12 fun t76 =>
    fieldE (some (0, 1)) t76 fun t77 =>
    loadE 1 H t77 fun t78 =>
    idxSE 5 H t1 t7 fun t81 =>
    fieldE (some (0, 1)) t81 fun t82 =>
    loadE 1 H t82 fun t83 =>
    binE none false false .neq t78 t83 fun t84 =>
    plenumlaw30_MarksKeep_r6 m H.length kc kx ⟨H, [(0, t0), (1, t1), (5, t5), (6, t6), (7, t7), (8, t8), (9, t9), (11, t11), (12, t12), (85, t84)]⟩) (
    plenumlaw30_MarksKeep_r6 m H.length kc kx ⟨H, [(0, t0), (1, t1), (5, t5), (6, t6), (7, t7), (8, t8), (9, t9), (11, t11), (12, t12), (85, (V (.bool false)))]⟩)) (
    plenumlaw30_MarksKeep_r6 m H.length kc kx ⟨H, [(0, t0), (1, t1), (5, t5), (6, t6), (7, t7), (8, t8), (9, t9), (11, t11), (12, t12), (85, (V (.bool false)))]⟩)) (
   kx (.exit 2) ⟨H, [(0, t0), (1, t1), (5, t5), (6, t6), (7, t7), (8, t8), (9, t9), (11, t11)]⟩) := by
  refine (bodyW_eq Try.prog GG (plenumlaw30_MarksKeep_env m) m 131 (cdL (cdL (cdR (cdL (cdR (cdR (cdR (cdL (cdL (cdR (cdL (cdL (cdR (cdL (cdR (cdR (cdR plenumlaw30_MarksKeep_c))))))))))))))))) plenumlaw30_MarksKeep_h.r.r.r.l.r.c.c.r.l.c.r.r.r.l.r.c.c [0, 1, 5, 6, 7, 8, 9, 11, 12] [0, 1, 5, 6, 7, 8, 9, 11] ⟨H, [(0, t0), (1, t1), (5, t5), (6, t6), (7, t7), (8, t8), (9, t9), (11, t11), (12, t12)]⟩ kc kx).trans ?_
  kernel_rfl
theorem plenumlaw30_MarksKeep_r3_eq (m : Nat) (n0 : Nat) (kc : ASt → RO) (kx : KO (AV × List AObj)) (H : List AObj) (t0 t1 t5 t6 t7 : AV) : plenumlaw30_MarksKeep_r3 m n0 kc kx ⟨H, [(0, t0), (1, t1), (5, t5), (6, t6), (7, t7)]⟩ =
  loadE 5 H t5 fun t27 =>
  idxSE 5 H t1 t7 fun t30 =>
  loadE 5 H t30 fun t31 =>
  tellE (marks_Say m (ro H t27) (ro H t31) (ro H t0)) [(ro H t27), (ro H t31), (ro H t0)] fun t33 =>
  extE t33 0 fun t34 =>
  extE t33 1 fun t35 =>
  extE t33 2 fun t36 =>
  allocE (some zc_api_Marks) ty_api_Marks H fun t8 H2 =>
  storeE 5 H2 t8 t34 fun H3 =>
  binE none false false .neq t36 (V (.int .i64 0)) fun t38 =>
  condE t38 (
   plenumlaw30_MarksKeep_r4 m n0 kc kx ⟨H3, [(0, t0), (1, t1), (5, t5), (6, t6), (7, t7)]⟩) (
   iterC m (plenumlaw30_MarksKeep_b2 m) ⟨H3, [(0, t0), (1, t1), (5, t5), (6, t6), (7, t7), (8, t8), (9, t35), (11, (V (.int .i64 0))), (12, (V (.int .i64 0)))]⟩ (blockX 2 (seqX (fun s => plenumlaw30_MarksKeep_r5 m n0 kc kx ⟨s.H, [(0, gt s.T 0), (1, gt s.T 1), (5, gt s.T 5), (6, gt s.T 6), (7, gt s.T 7), (8, gt s.T 8), (9, gt s.T 9), (11, gt s.T 11)]⟩) (blockX 1 (seqX (fun s => plenumlaw30_MarksKeep_r4 m n0 kc kx ⟨s.H, [(0, gt s.T 0), (1, gt s.T 1), (5, gt s.T 5), (6, gt s.T 6), (7, gt s.T 7)]⟩) (backW n0 [0, 1, 5, 6, 7] [4] kc kx)))))) := by
  refine (joinW_eq Try.prog GG (plenumlaw30_MarksKeep_env m) m 131 (cdR (cdL (cdL (cdR (cdL (cdR (cdR (cdR plenumlaw30_MarksKeep_c)))))))) plenumlaw30_MarksKeep_h.r.r.r.l.r.c.c.r ⟨H, [(0, t0), (1, t1), (5, t5), (6, t6), (7, t7)]⟩ (backW n0 [0, 1, 5, 6, 7] [4] kc kx)).trans ?_
  kernel_rfl
theorem plenumlaw30_MarksKeep_r2_eq (m : Nat) (n0 : Nat) (kc : ASt → RO) (kx : KO (AV × List AObj)) (H : List AObj) (t0 t1 t5 t6 t7 t23 : AV) : plenumlaw30_MarksKeep_r2 m n0 kc kx ⟨H, [(0, t0), (1, t1), (5, t5), (6, t6), (7, t7), (23, t23)]⟩ =
  condE t23 (
   plenumlaw30_MarksKeep_r3 m n0 kc kx ⟨H, [(0, t0), (1, t1), (5, t5), (6, t6), (7, t7)]⟩) (
   kx (.exit 0) ⟨H, [(4, .nil)]⟩) := by
  refine (joinW_eq Try.prog GG (plenumlaw30_MarksKeep_env m) m 131 (cdR (cdL (cdL (cdL (cdR (cdL (cdR (cdR (cdR plenumlaw30_MarksKeep_c))))))))) plenumlaw30_MarksKeep_h.r.r.r.l.r.c.c.l.r ⟨H, [(0, t0), (1, t1), (5, t5), (6, t6), (7, t7), (23, t23)]⟩ (seqX (fun s => plenumlaw30_MarksKeep_r3 m n0 kc kx ⟨s.H, [(0, gt s.T 0), (1, gt s.T 1), (5, gt s.T 5), (6, gt s.T 6), (7, gt s.T 7)]⟩) (backW n0 [0, 1, 5, 6, 7] [4] kc kx))).trans ?_
  kernel_rfl
theorem plenumlaw30_MarksKeep_r1_eq (m : Nat) (H : List AObj) : plenumlaw30_MarksKeep_r1 m ⟨H, []⟩ =
  tellE (plenumlaw30_awake m) [] fun t130 =>
  tellK H (ro H t130) := by
  refine (joinW_eq Try.prog GG (plenumlaw30_MarksKeep_env m) m 131 (cdR (cdR (cdR (cdR plenumlaw30_MarksKeep_c)))) plenumlaw30_MarksKeep_h.r.r.r.r ⟨H, []⟩ (plenumlaw30_MarksKeep_fin)).trans ?_
  kernel_rfl
theorem plenumlaw30_MarksKeep_b1_eq (m : Nat) (H : List AObj) (t0 t1 t5 t6 t7 : AV) (kc : ASt → RO) (kx : KO (AV × List AObj)) : plenumlaw30_MarksKeep_b1 m ⟨H, [(0, t0), (1, t1), (5, t5), (6, t6), (7, t7)]⟩ kc kx =
  lenE false true H t1 fun t18 =>
  binE none false false .lss t7 t18 fun t19 =>
  condE t19 (
   binE none false false .lss t7 (V (.int .i64 150)) fun t22 =>
   plenumlaw30_MarksKeep_r2 m H.length kc kx ⟨H, [(0, t0), (1, t1), (5, t5), (6, t6), (7, t7), (23, t22)]⟩) (
   plenumlaw30_MarksKeep_r2 m H.length kc kx ⟨H, [(0, t0), (1, t1), (5, t5), (6, t6), (7, t7), (23, (V (.bool false)))]⟩) := by
  refine (bodyW_eq Try.prog GG (plenumlaw30_MarksKeep_env m) m 131 (cdL (cdL (cdR (cdL (cdR (cdR (cdR plenumlaw30_MarksKeep_c))))))) plenumlaw30_MarksKeep_h.r.r.r.l.r.c.c [0, 1, 5, 6, 7] [4] ⟨H, [(0, t0), (1, t1), (5, t5), (6, t6), (7, t7)]⟩ kc kx).trans ?_
  kernel_rfl
theorem plenumlaw30_MarksKeep_eq (m : Nat) (t0 t1 : AV) : plenumlaw30_MarksKeep m t0 t1 =
  buildE (some pl_api_Marks) (some zc_api_Marks) [] fun t13 =>
  allocE (some zc_api_Marks) ty_api_Marks [] fun t5 H1 =>
  storeE 5 H1 t5 t13 fun H2 =>
  tellE (plenumref05_Faults m (ro H2 t0)) [(ro H2 t0)] fun t15 =>
  iterC m (plenumlaw30_MarksKeep_b1 m) ⟨H2, [(0, t0), (1, t1), (5, t5), (6, t15), (7, (V (.int .i64 0)))]⟩ (blockX 0 (seqX (fun s => plenumlaw30_MarksKeep_r1 m ⟨s.H, []⟩) (plenumlaw30_MarksKeep_fin))) := by
  refine (tellX Try.prog GG (plenumlaw30_MarksKeep_env m) m 131 plenumlaw30_MarksKeep_c plenumlaw30_MarksKeep_h ⟨[], argsT 0 [t0, t1]⟩ [.tmp 4]).trans ?_
  kernel_rfl
noncomputable def plenumlaw30_MarksKeep_t (m : Nat) : List AV → RO | [t0, t1] => plenumlaw30_MarksKeep m t0 t1 | _ => none
theorem plenumlaw30_MarksKeep_ok (m : Nat) : ∀ args X H', plenumlaw30_MarksKeep_t m args = some (X, H') → ACp Try.prog GG 3 args X := by
  intro args X H' h
  unfold plenumlaw30_MarksKeep_t at h
  split at h
  · exact tell_okK MIX (by
    intro f e h
    simp only [plenumlaw30_MarksKeep_env, Prod.mk.injEq, List.mem_cons, List.not_mem_nil, or_false] at h
    rcases h with ⟨rfl, rfl⟩ | ⟨rfl, rfl⟩ | ⟨rfl, rfl⟩ | ⟨rfl, rfl⟩
    · exact plenumref05_Faults_ok m
    · exact plenumlaw30_awake_ok m
    · exact marks_Say_ok m
    · exact marks_May_ok m) (f := 3) (c := plenumlaw30_MarksKeep_c) Try.func3 rfl (by kernel_rfl) _ rfl Try.ntmps3 (Nat.le_of_ble_eq_true rfl) plenumlaw30_MarksKeep_h h
  · cases h
end Go.Proofs.Ytbobfgbjliolmaa

namespace Go.Proofs.Ytbobfgbjliolmaa
open Go.RowKit
set_option linter.unusedVariables false
set_option linter.unusedSimpArgs false
set_option maxRecDepth 20000
def stC (q t : Int) (x : Mk) : List AV := [nA x.fr, nA 5, nA 0, nA q, nA t]
def stE (q t : Int) (x : Mk) : AV := .agg (stC q t x)
def voiceL (l : List Mk) (q t : Int) : List Mk := l.filter fun x => decide (x.sq = q) && decide (x.tm = t)
theorem stE_it (q t : Int) (x : Mk) : stE q t x = .agg (stC q t x) := _root_.id rfl
section
variable {R : Type} {x y : Mk} {n : Nat} {H : List AObj} {K1 : AV → Option R} {q t : Int} {l : List Mk}
theorem st_len : (stC q t x).length = 5 := _root_.id rfl
theorem st_ltA : (stC q t x).all (lt1 n) = true := _root_.id rfl
theorem st_sl : ((stC q t x).all fun y => sure y && lt1 n y) = true := _root_.id rfl
theorem st_sure : (stC q t x).all sure = true := _root_.id rfl
theorem st_b : buildE (some pl_api_Stmt) (some zc_api_Stmt) [(0, nA x.fr), (1, V (.int .i64 5)), (3, nA q), (4, nA t)] K1 = K1 (.agg (stC q t x)) := _root_.id rfl
theorem st_all : (l.all fun x => ltA n (stE q t x)) = true := List.all_eq_true.2 fun _ _ => rfl
end
theorem voices_s (m : Nat) (s : Ms) (q t : Int) (hm : 1000 < m) (hl : s.l.length ≤ 500) (h : s.In) : marks_Voices m (ME s) (nA q) (nA t) = some (SL (if mayS s = true then (voiceL s.l q t).map (stE q t) else []), []) := by
  have hM := may_s m s (by omega) (by omega) (by omega) h
  rw [ME_it] at hM
  rw [marks_Voices_eq, ME_it]
  cases c1 : mayS s with
  | false =>
    rw [c1] at hM
    simp (config := {maxSteps := 4000000, implicitDefEqProofs := false}) (disch := omega) only [go_sem, ↓reduceIte, Nat.reduceAdd, Nat.reduceSub, Nat.reduceMul, Nat.reduceLeDiff, Nat.reduceLT, Int.reduceEq, Int.reduceNe, Int.reduceLT, Int.reduceLE, Int.reduceAdd, Int.reduceSub, Int.reduceMul, Int.reduceNeg, Nat.zero_add, Nat.add_zero, Nat.mul_one, Int.toNat_natCast, Int.natCast_zero, Int.cast_ofNat_Int, or_false, false_or, or_true, true_or, Int.reduceToNat, Nat.sub_zero, Int.natCast_nonneg, Int.toNat_zero, Bool.true_and, Bool.and_true, Bool.false_and, Bool.and_false, Bool.true_or, Bool.or_true, Bool.false_or, Bool.or_false, Bool.not_true, Bool.not_false, Bool.not_not, true_and, and_true, false_and, and_false, not_true_eq_false, not_false_eq_true, eq_self, decide_true, decide_false, ne_eq, implies_true, forall_const, true_implies, false_implies, Bool.true_eq_false, Bool.false_eq_true, reduceCtorEq, List.map_cons, List.map_nil, List.all_cons, List.all_nil, List.length_cons, List.length_nil, List.length_map, List.length_append, List.nil_append, List.cons_append, List.set_cons_zero, List.set_cons_succ, List.set_nil, List.drop_zero, List.drop_succ_cons, List.drop_nil, List.take_zero, List.take_succ_cons, List.take_nil, Option.map_some, Option.map_none, Option.isSome_some, Nat.reduceEqDiff, Nat.reduceBEq, Nat.reduceGT, List.all_append, List.all_map, Function.comp_def, decide_eq_true_eq, Bool.and_eq_true, beq_self_eq_true, or_self, and_self, ite_true, ite_false, Nat.le_refl, Bool.not_eq_true, decide_not, Bool.not_eq_true', decide_eq_false_iff_not, Bool.not_eq_false, Bool.or_eq_true, if_true, if_false, ite_self, mE_it, mc_len, mc_sure, mc_ltA, mc_lt1, mc_all1, mc_ro, mc_take, mc_sl, mc_set, mc_fr, mc_sq, mc_tm, zcM_eq, ms_len, ms_sure, ms_ltA, ms_lt1, ms_all1, ms_ro, ms_take, ms_set, ms_low, ms_root, ms_l, zs_len, zs_sure, zs_ltA, zs_ro, zs_set, zs_set2, zs_take, zs_b, me_ltA, me_len3, natInt, u_nthM, all_tt, hM]
    try rfl
  | true =>
  rw [c1] at hM
  rw [if_pos rfl]
  simp (config := {maxSteps := 4000000, implicitDefEqProofs := false}) (disch := omega) only [go_sem, ↓reduceIte, Nat.reduceAdd, Nat.reduceSub, Nat.reduceMul, Nat.reduceLeDiff, Nat.reduceLT, Int.reduceEq, Int.reduceNe, Int.reduceLT, Int.reduceLE, Int.reduceAdd, Int.reduceSub, Int.reduceMul, Int.reduceNeg, Nat.zero_add, Nat.add_zero, Nat.mul_one, Int.toNat_natCast, Int.natCast_zero, Int.cast_ofNat_Int, or_false, false_or, or_true, true_or, Int.reduceToNat, Nat.sub_zero, Int.natCast_nonneg, Int.toNat_zero, Bool.true_and, Bool.and_true, Bool.false_and, Bool.and_false, Bool.true_or, Bool.or_true, Bool.false_or, Bool.or_false, Bool.not_true, Bool.not_false, Bool.not_not, true_and, and_true, false_and, and_false, not_true_eq_false, not_false_eq_true, eq_self, decide_true, decide_false, ne_eq, implies_true, forall_const, true_implies, false_implies, Bool.true_eq_false, Bool.false_eq_true, reduceCtorEq, List.map_cons, List.map_nil, List.all_cons, List.all_nil, List.length_cons, List.length_nil, List.length_map, List.length_append, List.nil_append, List.cons_append, List.set_cons_zero, List.set_cons_succ, List.set_nil, List.drop_zero, List.drop_succ_cons, List.drop_nil, List.take_zero, List.take_succ_cons, List.take_nil, Option.map_some, Option.map_none, Option.isSome_some, Nat.reduceEqDiff, Nat.reduceBEq, Nat.reduceGT, List.all_append, List.all_map, Function.comp_def, decide_eq_true_eq, Bool.and_eq_true, beq_self_eq_true, or_self, and_self, ite_true, ite_false, Nat.le_refl, Bool.not_eq_true, decide_not, Bool.not_eq_true', decide_eq_false_iff_not, Bool.not_eq_false, Bool.or_eq_true, if_true, if_false, ite_self, mE_it, mc_len, mc_sure, mc_ltA, mc_lt1, mc_all1, mc_ro, mc_take, mc_sl, mc_set, mc_fr, mc_sq, mc_tm, zcM_eq, ms_len, ms_sure, ms_ltA, ms_lt1, ms_all1, ms_ro, ms_take, ms_set, ms_low, ms_root, ms_l, zs_len, zs_sure, zs_ltA, zs_ro, zs_set, zs_set2, zs_take, zs_b, me_ltA, me_len3, natInt, u_nthM, all_tt, hM]
  refine iter_go (ι := {k : Nat // k ≤ s.l.length}) (fun k => ⟨[⟨1, ty_api_Marks, 0, MC s⟩, ⟨2, ty_api_Stmt, 5, (voiceL (s.l.take k.1) q t).map (stE q t)⟩], [(1, nA q), (2, nA t), (7, OW 1 (voiceL (s.l.take k.1) q t).length), (14, SL (s.l.map mE)), (15, nA s.l.length), (16, nA k.1)]⟩) (fun k => s.l.length - k.1) (fun _ => some (SL ((voiceL s.l q t).map (stE q t)), [])) ?_ ⟨0, Nat.zero_le _⟩ (by dsimp only; omega)
  rintro kx hkx ⟨k, hk⟩ kc hkc
  dsimp only at hkc ⊢
  rw [marks_Voices_b1_eq]
  have hle : (voiceL (s.l.take k) q t).length ≤ s.l.length := Nat.le_trans (List.length_filter_le ..) (by rw [List.length_take]; omega)
  by_cases hlt : k < s.l.length
  · have hlt' : (k : Int) < (s.l.length : Int) := by omega
    have step := hkc ⟨k + 1, by omega⟩ (by dsimp only; omega)
    dsimp only at step
    have hs : voiceL (s.l.take (k + 1)) q t = voiceL (s.l.take k) q t ++ (if (decide (s.l[k].sq = q) && decide (s.l[k].tm = t)) = true then [s.l[k]] else []) := filter_snoc hlt
    rw [hs] at step
    generalize voiceL (s.l.take k) q t = A at hle step ⊢
    have hol : A.length + 1 ≤ 34359738368 := by omega
    by_cases c2 : s.l[k].sq = q
    · by_cases c3 : s.l[k].tm = t
      · rw [if_pos (by simp [c2, c3]), List.map_append, List.length_append] at step
        simp (config := {maxSteps := 4000000, implicitDefEqProofs := false}) (disch := omega) only [go_sem, ↓reduceIte, Nat.reduceAdd, Nat.reduceSub, Nat.reduceMul, Nat.reduceLeDiff, Nat.reduceLT, Int.reduceEq, Int.reduceNe, Int.reduceLT, Int.reduceLE, Int.reduceAdd, Int.reduceSub, Int.reduceMul, Int.reduceNeg, Nat.zero_add, Nat.add_zero, Nat.mul_one, Int.toNat_natCast, Int.natCast_zero, Int.cast_ofNat_Int, or_false, false_or, or_true, true_or, Int.reduceToNat, Nat.sub_zero, Int.natCast_nonneg, Int.toNat_zero, Bool.true_and, Bool.and_true, Bool.false_and, Bool.and_false, Bool.true_or, Bool.or_true, Bool.false_or, Bool.or_false, Bool.not_true, Bool.not_false, Bool.not_not, true_and, and_true, false_and, and_false, not_true_eq_false, not_false_eq_true, eq_self, decide_true, decide_false, ne_eq, implies_true, forall_const, true_implies, false_implies, Bool.true_eq_false, Bool.false_eq_true, reduceCtorEq, List.map_cons, List.map_nil, List.all_cons, List.all_nil, List.length_cons, List.length_nil, List.length_map, List.length_append, List.nil_append, List.cons_append, List.set_cons_zero, List.set_cons_succ, List.set_nil, List.drop_zero, List.drop_succ_cons, List.drop_nil, List.take_zero, List.take_succ_cons, List.take_nil, Option.map_some, Option.map_none, Option.isSome_some, Nat.reduceEqDiff, Nat.reduceBEq, Nat.reduceGT, List.all_append, List.all_map, Function.comp_def, decide_eq_true_eq, Bool.and_eq_true, beq_self_eq_true, or_self, and_self, ite_true, ite_false, Nat.le_refl, Bool.not_eq_true, decide_not, Bool.not_eq_true', decide_eq_false_iff_not, Bool.not_eq_false, Bool.or_eq_true, if_true, if_false, ite_self, mE_it, mc_len, mc_sure, mc_ltA, mc_lt1, mc_all1, mc_ro, mc_take, mc_sl, mc_set, mc_fr, mc_sq, mc_tm, zcM_eq, ms_len, ms_sure, ms_ltA, ms_lt1, ms_all1, ms_ro, ms_take, ms_set, ms_low, ms_root, ms_l, zs_len, zs_sure, zs_ltA, zs_ro, zs_set, zs_set2, zs_take, zs_b, me_ltA, me_len3, natInt, u_nthM, all_tt, hlt', c2, c3, hol, st_b, stE_it, st_len, st_ltA, st_sl, st_sure, st_all, w_i64, marks_Voices_r2_eq, marks_Voices_r3_eq]
        exact step
      · rw [if_neg (by simp [c3]), List.append_nil] at step
        simp (config := {maxSteps := 4000000, implicitDefEqProofs := false}) (disch := omega) only [go_sem, ↓reduceIte, Nat.reduceAdd, Nat.reduceSub, Nat.reduceMul, Nat.reduceLeDiff, Nat.reduceLT, Int.reduceEq, Int.reduceNe, Int.reduceLT, Int.reduceLE, Int.reduceAdd, Int.reduceSub, Int.reduceMul, Int.reduceNeg, Nat.zero_add, Nat.add_zero, Nat.mul_one, Int.toNat_natCast, Int.natCast_zero, Int.cast_ofNat_Int, or_false, false_or, or_true, true_or, Int.reduceToNat, Nat.sub_zero, Int.natCast_nonneg, Int.toNat_zero, Bool.true_and, Bool.and_true, Bool.false_and, Bool.and_false, Bool.true_or, Bool.or_true, Bool.false_or, Bool.or_false, Bool.not_true, Bool.not_false, Bool.not_not, true_and, and_true, false_and, and_false, not_true_eq_false, not_false_eq_true, eq_self, decide_true, decide_false, ne_eq, implies_true, forall_const, true_implies, false_implies, Bool.true_eq_false, Bool.false_eq_true, reduceCtorEq, List.map_cons, List.map_nil, List.all_cons, List.all_nil, List.length_cons, List.length_nil, List.length_map, List.length_append, List.nil_append, List.cons_append, List.set_cons_zero, List.set_cons_succ, List.set_nil, List.drop_zero, List.drop_succ_cons, List.drop_nil, List.take_zero, List.take_succ_cons, List.take_nil, Option.map_some, Option.map_none, Option.isSome_some, Nat.reduceEqDiff, Nat.reduceBEq, Nat.reduceGT, List.all_append, List.all_map, Function.comp_def, decide_eq_true_eq, Bool.and_eq_true, beq_self_eq_true, or_self, and_self, ite_true, ite_false, Nat.le_refl, Bool.not_eq_true, decide_not, Bool.not_eq_true', decide_eq_false_iff_not, Bool.not_eq_false, Bool.or_eq_true, if_true, if_false, ite_self, mE_it, mc_len, mc_sure, mc_ltA, mc_lt1, mc_all1, mc_ro, mc_take, mc_sl, mc_set, mc_fr, mc_sq, mc_tm, zcM_eq, ms_len, ms_sure, ms_ltA, ms_lt1, ms_all1, ms_ro, ms_take, ms_set, ms_low, ms_root, ms_l, zs_len, zs_sure, zs_ltA, zs_ro, zs_set, zs_set2, zs_take, zs_b, me_ltA, me_len3, natInt, u_nthM, all_tt, hlt', c2, c3, st_all, st_ltA, stE_it, w_i64, marks_Voices_r2_eq, marks_Voices_r3_eq]
        exact step
    · rw [if_neg (by simp [c2]), List.append_nil] at step
      simp (config := {maxSteps := 4000000, implicitDefEqProofs := false}) (disch := omega) only [go_sem, ↓reduceIte, Nat.reduceAdd, Nat.reduceSub, Nat.reduceMul, Nat.reduceLeDiff, Nat.reduceLT, Int.reduceEq, Int.reduceNe, Int.reduceLT, Int.reduceLE, Int.reduceAdd, Int.reduceSub, Int.reduceMul, Int.reduceNeg, Nat.zero_add, Nat.add_zero, Nat.mul_one, Int.toNat_natCast, Int.natCast_zero, Int.cast_ofNat_Int, or_false, false_or, or_true, true_or, Int.reduceToNat, Nat.sub_zero, Int.natCast_nonneg, Int.toNat_zero, Bool.true_and, Bool.and_true, Bool.false_and, Bool.and_false, Bool.true_or, Bool.or_true, Bool.false_or, Bool.or_false, Bool.not_true, Bool.not_false, Bool.not_not, true_and, and_true, false_and, and_false, not_true_eq_false, not_false_eq_true, eq_self, decide_true, decide_false, ne_eq, implies_true, forall_const, true_implies, false_implies, Bool.true_eq_false, Bool.false_eq_true, reduceCtorEq, List.map_cons, List.map_nil, List.all_cons, List.all_nil, List.length_cons, List.length_nil, List.length_map, List.length_append, List.nil_append, List.cons_append, List.set_cons_zero, List.set_cons_succ, List.set_nil, List.drop_zero, List.drop_succ_cons, List.drop_nil, List.take_zero, List.take_succ_cons, List.take_nil, Option.map_some, Option.map_none, Option.isSome_some, Nat.reduceEqDiff, Nat.reduceBEq, Nat.reduceGT, List.all_append, List.all_map, Function.comp_def, decide_eq_true_eq, Bool.and_eq_true, beq_self_eq_true, or_self, and_self, ite_true, ite_false, Nat.le_refl, Bool.not_eq_true, decide_not, Bool.not_eq_true', decide_eq_false_iff_not, Bool.not_eq_false, Bool.or_eq_true, if_true, if_false, ite_self, mE_it, mc_len, mc_sure, mc_ltA, mc_lt1, mc_all1, mc_ro, mc_take, mc_sl, mc_set, mc_fr, mc_sq, mc_tm, zcM_eq, ms_len, ms_sure, ms_ltA, ms_lt1, ms_all1, ms_ro, ms_take, ms_set, ms_low, ms_root, ms_l, zs_len, zs_sure, zs_ltA, zs_ro, zs_set, zs_set2, zs_take, zs_b, me_ltA, me_len3, natInt, u_nthM, all_tt, hlt', c2, st_all, st_ltA, stE_it, w_i64, marks_Voices_r2_eq, marks_Voices_r3_eq]
      exact step
  · have hlt' : ¬ (k : Int) < (s.l.length : Int) := by omega
    have : k = s.l.length := by omega
    subst this
    rw [List.take_length] at *
    simp (config := {maxSteps := 4000000, implicitDefEqProofs := false}) (disch := omega) only [go_sem, ↓reduceIte, Nat.reduceAdd, Nat.reduceSub, Nat.reduceMul, Nat.reduceLeDiff, Nat.reduceLT, Int.reduceEq, Int.reduceNe, Int.reduceLT, Int.reduceLE, Int.reduceAdd, Int.reduceSub, Int.reduceMul, Int.reduceNeg, Nat.zero_add, Nat.add_zero, Nat.mul_one, Int.toNat_natCast, Int.natCast_zero, Int.cast_ofNat_Int, or_false, false_or, or_true, true_or, Int.reduceToNat, Nat.sub_zero, Int.natCast_nonneg, Int.toNat_zero, Bool.true_and, Bool.and_true, Bool.false_and, Bool.and_false, Bool.true_or, Bool.or_true, Bool.false_or, Bool.or_false, Bool.not_true, Bool.not_false, Bool.not_not, true_and, and_true, false_and, and_false, not_true_eq_false, not_false_eq_true, eq_self, decide_true, decide_false, ne_eq, implies_true, forall_const, true_implies, false_implies, Bool.true_eq_false, Bool.false_eq_true, reduceCtorEq, List.map_cons, List.map_nil, List.all_cons, List.all_nil, List.length_cons, List.length_nil, List.length_map, List.length_append, List.nil_append, List.cons_append, List.set_cons_zero, List.set_cons_succ, List.set_nil, List.drop_zero, List.drop_succ_cons, List.drop_nil, List.take_zero, List.take_succ_cons, List.take_nil, Option.map_some, Option.map_none, Option.isSome_some, Nat.reduceEqDiff, Nat.reduceBEq, Nat.reduceGT, List.all_append, List.all_map, Function.comp_def, decide_eq_true_eq, Bool.and_eq_true, beq_self_eq_true, or_self, and_self, ite_true, ite_false, Nat.le_refl, Bool.not_eq_true, decide_not, Bool.not_eq_true', decide_eq_false_iff_not, Bool.not_eq_false, Bool.or_eq_true, if_true, if_false, ite_self, mE_it, mc_len, mc_sure, mc_ltA, mc_lt1, mc_all1, mc_ro, mc_take, mc_sl, mc_set, mc_fr, mc_sq, mc_tm, zcM_eq, ms_len, ms_sure, ms_ltA, ms_lt1, ms_all1, ms_ro, ms_take, ms_set, ms_low, ms_root, ms_l, zs_len, zs_sure, zs_ltA, zs_ro, zs_set, zs_set2, zs_take, zs_b, me_ltA, me_len3, natInt, u_nthM, all_tt, hlt', hkx, st_all, st_ltA, stE_it, marks_Voices_r3_eq, marks_Voices_r2_eq, marks_Voices_r1_eq]
section
variable {R : Type} {K1 : AV → Option R} {a b c : Int}
theorem mk_b2 : buildE (some pl_api_Mark) (some (mC Mk.zero)) [(1, V (.int .i64 b)), (2, V (.int .i64 c))] K1 = K1 (.agg (mC ⟨0, b, c⟩)) := _root_.id rfl
theorem mk_b3 : buildE (some pl_api_Mark) (some (mC Mk.zero)) [(0, V (.int .i64 a)), (1, V (.int .i64 b)), (2, V (.int .i64 c))] K1 = K1 (.agg (mC ⟨a, b, c⟩)) := _root_.id rfl
theorem u_eqSt {q t q' t' : Int} {x y : Mk} {isB sl : Bool} : binE (some [.i .i64, .i .i64, .i .i64, .i .i64, .i .i64]) isB sl .eql (.agg (stC q t x)) (.agg (stC q' t' y)) K1 = K1 (bA (decide (x.fr = y.fr ∧ q = q' ∧ t = t'))) := by
  have : sameKs [.int .i64 x.fr, .int .i64 5, .int .i64 0, .int .i64 q, .int .i64 t] [.int .i64 y.fr, .int .i64 5, .int .i64 0, .int .i64 q', .int .i64 t'] = decide (x.fr = y.fr ∧ q = q' ∧ t = t') := by
    rw [Bool.eq_iff_iff]
    show (decide (x.fr = y.fr) && (decide ((5 : Int) = 5) && (decide ((0 : Int) = 0) && (decide (q = q') && (decide (t = t') && true))))) = true ↔ _
    simp
  rw [← this]; rfl
end
def M1 : Ms := ⟨0, 0, [⟨0, 4, 7⟩]⟩
def M2 : Ms := ⟨0, 0, [⟨0, 4, 7⟩, ⟨1, 4, 7⟩]⟩
def M3 : Ms := ⟨4, 7, []⟩
theorem ex1 : sayF MZ ⟨0, 4, 7⟩ 4 = (M1, false, 0) := by kernel_rfl
theorem ex2 : sayF M1 ⟨1, 4, 7⟩ 4 = (M2, false, 0) := by kernel_rfl
theorem ex3 : sayF M2 ⟨2, 4, 7⟩ 4 = (M3, true, 0) := by kernel_rfl
theorem ex4 : sayF M3 ⟨3, 4, 7⟩ 4 = (MZ, false, 22) := by kernel_rfl
theorem ex5 : sayF M3 ⟨3, 24, 7⟩ 4 = (MZ, false, 22) := by kernel_rfl
theorem in_MZ : MZ.In := fun x hx => by cases hx
theorem in_M1 : M1.In := fun x hx => by
  rw [List.mem_singleton.1 hx]; show (4 : Int) < _; omega
theorem in_M2 : M2.In := fun x hx => by
  rcases List.mem_cons.1 hx with rfl | hx
  · show (4 : Int) < _; omega
  · rw [List.mem_singleton.1 hx]; show (4 : Int) < _; omega
theorem in_M3 : M3.In := fun x hx => by cases hx
theorem may_M2 : mayS M2 = true := by kernel_rfl
theorem vo_M2 : (voiceL M2.l 4 7).map (stE 4 7) = [.agg (stC 4 7 ⟨0, 4, 7⟩), .agg (stC 4 7 ⟨1, 4, 7⟩)] := rfl
theorem awake30_s (m : Nat) (hm : 1000 < m) : plenumlaw30_awake m = some (bA true, []) := by
  have h1 := say_s m MZ ⟨0, 4, 7⟩ 4 hm (by show (0 : Nat) ≤ 400; omega) in_MZ (by dsimp only; omega)
  have h2 := say_s m M1 ⟨1, 4, 7⟩ 4 hm (by show (1 : Nat) ≤ 400; omega) in_M1 (by dsimp only; omega)
  have h3 := say_s m M2 ⟨2, 4, 7⟩ 4 hm (by show (2 : Nat) ≤ 400; omega) in_M2 (by dsimp only; omega)
  have h4 := say_s m M3 ⟨3, 4, 7⟩ 4 hm (by show (0 : Nat) ≤ 400; omega) in_M3 (by dsimp only; omega)
  have h5 := say_s m M3 ⟨3, 24, 7⟩ 4 hm (by show (0 : Nat) ≤ 400; omega) in_M3 (by dsimp only; omega)
  have hv := voices_s m M2 4 7 hm (by show (2 : Nat) ≤ 500; omega) in_M2
  rw [ex1, ME_it, mE_it, ME_it] at h1
  rw [ex2, ME_it, mE_it, ME_it] at h2
  rw [ex3, ME_it, mE_it, ME_it] at h3
  rw [ex4, ME_it, mE_it, ME_it] at h4
  rw [ex5, ME_it, mE_it, ME_it] at h5
  rw [may_M2, if_pos rfl, ME_it, vo_M2] at hv
  have l3 : M3.low = 4 := rfl
  have r3 : M3.root = 7 := rfl
  have m3 : M3.l = [] := rfl
  have hbS : ∀ {R : Type} {K1 : AV → Option R}, buildE (some pl_api_Stmt) (some zc_api_Stmt) [(0, V (.int .i64 1)), (1, V (.int .i64 5)), (3, V (.int .i64 4)), (4, V (.int .i64 7))] K1 = K1 (.agg (stC 4 7 ⟨1, 4, 7⟩)) := _root_.id rfl
  rw [plenumlaw30_awake_eq]
  simp (config := {maxSteps := 4000000, implicitDefEqProofs := false}) (disch := omega) only [go_sem, ↓reduceIte, Nat.reduceAdd, Nat.reduceSub, Nat.reduceMul, Nat.reduceLeDiff, Nat.reduceLT, Int.reduceEq, Int.reduceNe, Int.reduceLT, Int.reduceLE, Int.reduceAdd, Int.reduceSub, Int.reduceMul, Int.reduceNeg, Nat.zero_add, Nat.add_zero, Nat.mul_one, Int.toNat_natCast, Int.natCast_zero, Int.cast_ofNat_Int, or_false, false_or, or_true, true_or, Int.reduceToNat, Nat.sub_zero, Int.natCast_nonneg, Int.toNat_zero, Bool.true_and, Bool.and_true, Bool.false_and, Bool.and_false, Bool.true_or, Bool.or_true, Bool.false_or, Bool.or_false, Bool.not_true, Bool.not_false, Bool.not_not, true_and, and_true, false_and, and_false, not_true_eq_false, not_false_eq_true, eq_self, decide_true, decide_false, ne_eq, implies_true, forall_const, true_implies, false_implies, Bool.true_eq_false, Bool.false_eq_true, reduceCtorEq, List.map_cons, List.map_nil, List.all_cons, List.all_nil, List.length_cons, List.length_nil, List.length_map, List.length_append, List.nil_append, List.cons_append, List.set_cons_zero, List.set_cons_succ, List.set_nil, List.drop_zero, List.drop_succ_cons, List.drop_nil, List.take_zero, List.take_succ_cons, List.take_nil, Option.map_some, Option.map_none, Option.isSome_some, Nat.reduceEqDiff, Nat.reduceBEq, Nat.reduceGT, List.all_append, List.all_map, Function.comp_def, decide_eq_true_eq, Bool.and_eq_true, beq_self_eq_true, or_self, and_self, ite_true, ite_false, Nat.le_refl, Bool.not_eq_true, decide_not, Bool.not_eq_true', decide_eq_false_iff_not, Bool.not_eq_false, Bool.or_eq_true, if_true, if_false, ite_self, mE_it, mc_len, mc_sure, mc_ltA, mc_lt1, mc_all1, mc_ro, mc_take, mc_sl, mc_set, mc_fr, mc_sq, mc_tm, zcM_eq, ms_len, ms_sure, ms_ltA, ms_lt1, ms_all1, ms_ro, ms_take, ms_set, ms_low, ms_root, ms_l, zs_len, zs_sure, zs_ltA, zs_ro, zs_set, zs_set2, zs_take, zs_b, me_ltA, me_len3, natInt, u_nthM, all_tt, mk_b2, mk_b3, h1, h2, h3, h4, h5, hv, l3, r3, m3, hbS, st_len, st_ltA, u_eqSt]
end Go.Proofs.Ytbobfgbjliolmaa

namespace Go.Proofs.Ytbobfgbjliolmaa
open Go.RowKit
set_option linter.unusedVariables false
set_option linter.unusedSimpArgs false
set_option maxRecDepth 20000
end Go.Proofs.Ytbobfgbjliolmaa

namespace Go.Proofs.Ytbobfgbjliolmaa
open Go.RowKit
set_option linter.unusedVariables false
set_option linter.unusedSimpArgs false
set_option maxRecDepth 100000
theorem ofT_mark {n : Nat} {ds : List AV} (h : ofT Try.prog n 30 ds) : ∃ x : Mk, ds = mC x ∧ x.sq < 9223372036854775808 := by
  obtain ⟨m, a1, b1, rfl, h1, a2, b2, rfl, h2, a3, b3, rfl, h3, rfl⟩ := ofT_struct Try.underlying30 h
  obtain ⟨f, rfl, _⟩ := ofT_i64 Try.underlying3 h1
  obtain ⟨q, rfl, hq⟩ := ofT_i64 Try.underlying3 h2
  obtain ⟨t, rfl, _⟩ := ofT_i64 Try.underlying3 h3
  exact ⟨⟨f, q, t⟩, rfl, hq.2⟩
theorem ofT_ml {n : Nat} {ds : List AV} (h : ofT Try.prog n 22 ds) : ∃ l : List Mk, ds = [SL (l.map mE)] ∧ l.length ≤ maxLen ∧ ∀ x ∈ l, x.sq < 9223372036854775808 := by
  obtain ⟨m, es, rfl, hl, he⟩ := ofT_slice Try.underlying22 h
  obtain ⟨l, rfl, hi⟩ := list_of (f := mE) (Q := fun x => x.sq < 9223372036854775808) fun x hx => by
    obtain ⟨q1, q2⟩ := he x hx
    obtain ⟨y, hy, hi⟩ := ofT_mark q1
    exact ⟨y, by rw [cells_agg (q2.trans (by kernel_rfl)), hy]; rfl, hi⟩
  exact ⟨l, rfl, by simpa using hl, hi⟩
theorem arg_ml {W : World} {v : Value} (h : Arg Try.prog W 22 v) : ∃ l : List Mk, (∀ x ∈ l, x.sq < 9223372036854775808) ∧ rep (SW W) [] (SL (l.map mE)) v := by
  obtain ⟨n, ds, h1, h2⟩ := h
  obtain ⟨t, rfl, _, ht⟩ := ofT_ml h1
  rw [mk_lone (by kernel_rfl)] at h2
  exact ⟨t, ht, h2⟩
end Go.Proofs.Ytbobfgbjliolmaa
