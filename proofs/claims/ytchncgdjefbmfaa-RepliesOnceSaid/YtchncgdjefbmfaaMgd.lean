/-
  Texts laid together, part 4 of 5: laws of a walk over data, contracts of functions, each whole by itself.
-/
import Derived.Test.YtchncgdjefbmfaaMgc
import Derived.KernelRfl
import Derived.WalkKit
import Derived.OwnWalk
namespace Go.Proofs.Ytchncgdjefbmfaa
open Go.RowKit
set_option linter.unusedVariables false
set_option linter.unusedSimpArgs false
set_option maxRecDepth 20000
theorem natInt (k : Nat) : ((k : Int)).toNat = k := Int.toNat_natCast k
theorem u_addS {R : Type} {X : AV} {Y H : List AObj} {K : AV → List AObj → Option R} : addE (some (X, Y)) H K = K X (H ++ Y) := _root_.id rfl
structure Rs where
  code : Int
  kind : Int
  i : Int
  s : Bytes
  ver : Int
deriving DecidableEq
structure La where
  cl : Int
  tm : Int
  r : Rs
deriving DecidableEq
def Rs.zero : Rs := ⟨0, 0, 0, [], 0⟩
def La.zero : La := ⟨0, 0, Rs.zero⟩
def rC (r : Rs) : List AV := [nA r.code, nA r.kind, nA r.i, sA r.s, nA r.ver]
def laC (x : La) : List AV := nA x.cl :: nA x.tm :: rC x.r
def rA (r : Rs) : AV := .agg (rC r)
def laE (x : La) : AV := .agg (laC x)
def lL (l : List La) : AV := SL (l.map laE)
theorem lL_def (l : List La) : lL l = SL (l.map laE) := _root_.id rfl
theorem rA_def (r : Rs) : rA r = .agg (rC r) := _root_.id rfl
theorem la_it (x : La) : laE x = .agg (laC x) := _root_.id rfl
section
variable {R : Type} {x y : La} {r q : Rs} {n : Nat} {H : List AObj} {K1 : AV → Option R}
theorem rc_len : (rC r).length = 5 := _root_.id rfl
theorem rc_sure : (rC r).all sure = true := _root_.id rfl
theorem rc_ltA : (rC r).all (ltA n) = true := _root_.id rfl
theorem rc_lt1 : (rC r).all (lt1 n) = true := _root_.id rfl
theorem rc_all1 : ((rC r).all fun y => lt1 n (ro1 H y)) = true := _root_.id rfl
theorem rc_ro : (rC r).map (ro1 H) = rC r := _root_.id rfl
theorem rc_take : (rC r).take 5 = rC r := _root_.id rfl
theorem rc_code : nthE (rC r) 0 K1 = K1 (nA r.code) := _root_.id rfl
theorem rc_ver : nthE (rC r) 4 K1 = K1 (nA r.ver) := _root_.id rfl
theorem rc_val : (List.drop 1 (rC r)).take 3 = [nA r.kind, nA r.i, sA r.s] := _root_.id rfl
theorem rc_set : setCells (rC q) 0 (rC r) = rC r := _root_.id rfl
theorem zcR_eq : zc_api_Result = rC Rs.zero := _root_.id rfl
theorem zcL_eq : zc_api_Last = laC La.zero := _root_.id rfl
theorem la_len : (laC x).length = 7 := _root_.id rfl
theorem la_sure : (laC x).all sure = true := _root_.id rfl
theorem la_ltA : (laC x).all (ltA n) = true := _root_.id rfl
theorem la_lt1 : (laC x).all (lt1 n) = true := _root_.id rfl
theorem la_all1 : ((laC x).all fun y => lt1 n (ro1 H y)) = true := _root_.id rfl
theorem la_ro : (laC x).map (ro1 H) = laC x := _root_.id rfl
theorem la_take : (laC x).take 7 = laC x := _root_.id rfl
theorem la_cl : nthE (laC x) 0 K1 = K1 (nA x.cl) := _root_.id rfl
theorem la_tm : nthE (laC x) 1 K1 = K1 (nA x.tm) := _root_.id rfl
theorem la_s : nthE (laC x) 5 K1 = K1 (sA x.r.s) := _root_.id rfl
theorem la_r : (List.drop 2 (laC x)).take 5 = rC x.r := _root_.id rfl
theorem la_sl : ((laC x).all fun y => sure y && lt1 n y) = true := _root_.id rfl
theorem rc_sl : ((rC r).all fun y => sure y && lt1 n y) = true := _root_.id rfl
theorem la_set : setCells (laC x) 0 (laC y) = laC y := _root_.id rfl
theorem la_bL {c t : Int} : buildE (some pl_api_Last) (some (laC La.zero)) [(0, nA c), (1, nA t), (2, .agg (rC r))] K1 = K1 (.agg (laC ⟨c, t, r⟩)) := _root_.id rfl
theorem rc_b0 : buildE (some pl_api_Result) (some (rC Rs.zero)) [] K1 = K1 (.agg (rC Rs.zero)) := _root_.id rfl
end
theorem la_allA {l : List La} {n : Nat} : (l.all fun x => ltA n (laE x)) = true := List.all_eq_true.2 fun _ _ => rfl
theorem la_len7 {l : List La} : (l.all fun x => decide ((cellsOf (laE x)).length = 7)) = true := List.all_eq_true.2 fun _ _ => rfl
def could (c t : Int) : Bool := decide (0 ≤ c) && (decide (c < 256) && (decide (1 ≤ t) && decide (t ≤ 2147483647)))
def rB (r : Rs) : Bool := resB r.code r.kind r.i r.s r.ver
def Rs.In (r : Rs) : Prop := -9223372036854775808 ≤ r.i ∧ r.i < 9223372036854775808
def bad26 (w : Option La) (x : La) : Int := if could x.cl x.tm = true ∧ rB x.r = true then (match w with
  | none => 0
  | some w => if x.cl ≤ w.cl then 3 else 0) else 1
def chkG : Option La → Nat → List La → Int × Int
  | _, _, [] => (0, 0)
  | w, k, x :: r => if bad26 w x = 0 then chkG (some x) (k + 1) r else (bad26 w x, k)
def chkL (l : List La) : Int × Int := chkG none 0 l
def isL (l : List La) : Bool := decide ((chkL l).1 = 0)
def prevL (l : List La) (k : Nat) : Option La := if k = 0 then none else l[k - 1]?
theorem prevL_succ {l : List La} {k : Nat} (h : k < l.length) : prevL l (k + 1) = some l[k] := by
  unfold prevL
  rw [if_neg (by omega)]
  simp [h]
theorem chkG_at {l : List La} {k : Nat} {e a : Int} (hlt : k < l.length) (h : chkG (prevL l k) k (l.drop k) = (e, a)) : (bad26 (prevL l k) l[k] = 0 ∧ chkG (prevL l (k + 1)) (k + 1) (l.drop (k + 1)) = (e, a)) ∨ (bad26 (prevL l k) l[k] ≠ 0 ∧ e = bad26 (prevL l k) l[k] ∧ a = k) := by
  rw [List.drop_eq_getElem_cons hlt] at h
  unfold chkG at h
  split at h
  · rename_i h0
    exact .inl ⟨h0, by rw [prevL_succ hlt]; exact h⟩
  · rename_i h0
    injection h with h1 h2
    exact .inr ⟨h0, h1.symm, h2.symm⟩
theorem chkG_end {l : List La} {w : Option La} {k : Nat} {e a : Int} (h : chkG w k (l.drop l.length) = (e, a)) : e = 0 ∧ a = 0 := by
  rw [List.drop_length] at h
  unfold chkG at h
  injection h with h1 h2
  exact ⟨h1.symm, h2.symm⟩
theorem could_s (m : Nat) (c t : Int) : replies_could m (nA c) (nA t) = some (bA (could c t), []) := by
  rw [replies_could_eq]
  unfold could
  by_cases h1 : 0 ≤ c
  · by_cases h2 : c < 256
    · by_cases h3 : 1 ≤ t
      · simp (config := {maxSteps := 4000000, implicitDefEqProofs := false}) (disch := omega) only [go_sem, ↓reduceIte, Nat.reduceAdd, Nat.reduceSub, Nat.reduceMul, Nat.reduceLeDiff, Nat.reduceLT, Int.reduceEq, Int.reduceNe, Int.reduceLT, Int.reduceLE, Int.reduceAdd, Int.reduceSub, Int.reduceMul, Int.reduceNeg, Nat.zero_add, Nat.add_zero, Nat.mul_one, Int.toNat_natCast, Int.natCast_zero, Int.cast_ofNat_Int, or_false, false_or, or_true, true_or, Int.reduceToNat, Nat.sub_zero, Int.natCast_nonneg, Int.toNat_zero, Bool.true_and, Bool.and_true, Bool.false_and, Bool.and_false, Bool.true_or, Bool.or_true, Bool.false_or, Bool.or_false, Bool.not_true, Bool.not_false, Bool.not_not, true_and, and_true, false_and, and_false, not_true_eq_false, not_false_eq_true, eq_self, decide_true, decide_false, ne_eq, implies_true, forall_const, true_implies, false_implies, Bool.true_eq_false, Bool.false_eq_true, reduceCtorEq, List.map_cons, List.map_nil, List.all_cons, List.all_nil, List.length_cons, List.length_nil, List.length_map, List.length_append, List.nil_append, List.cons_append, List.set_cons_zero, List.set_cons_succ, List.set_nil, List.drop_zero, List.drop_succ_cons, List.drop_nil, List.take_zero, List.take_succ_cons, List.take_nil, Option.map_some, Option.map_none, Option.isSome_some, Nat.reduceEqDiff, Nat.reduceBEq, Nat.reduceGT, List.all_append, List.all_map, Function.comp_def, decide_eq_true_eq, Bool.and_eq_true, beq_self_eq_true, or_self, and_self, ite_true, ite_false, Nat.le_refl, Bool.not_eq_true, decide_not, Bool.not_eq_true', decide_eq_false_iff_not, Bool.not_eq_false, Bool.or_eq_true, if_true, if_false, ite_self, h1, h2, h3]
      · simp (config := {maxSteps := 4000000, implicitDefEqProofs := false}) (disch := omega) only [go_sem, ↓reduceIte, Nat.reduceAdd, Nat.reduceSub, Nat.reduceMul, Nat.reduceLeDiff, Nat.reduceLT, Int.reduceEq, Int.reduceNe, Int.reduceLT, Int.reduceLE, Int.reduceAdd, Int.reduceSub, Int.reduceMul, Int.reduceNeg, Nat.zero_add, Nat.add_zero, Nat.mul_one, Int.toNat_natCast, Int.natCast_zero, Int.cast_ofNat_Int, or_false, false_or, or_true, true_or, Int.reduceToNat, Nat.sub_zero, Int.natCast_nonneg, Int.toNat_zero, Bool.true_and, Bool.and_true, Bool.false_and, Bool.and_false, Bool.true_or, Bool.or_true, Bool.false_or, Bool.or_false, Bool.not_true, Bool.not_false, Bool.not_not, true_and, and_true, false_and, and_false, not_true_eq_false, not_false_eq_true, eq_self, decide_true, decide_false, ne_eq, implies_true, forall_const, true_implies, false_implies, Bool.true_eq_false, Bool.false_eq_true, reduceCtorEq, List.map_cons, List.map_nil, List.all_cons, List.all_nil, List.length_cons, List.length_nil, List.length_map, List.length_append, List.nil_append, List.cons_append, List.set_cons_zero, List.set_cons_succ, List.set_nil, List.drop_zero, List.drop_succ_cons, List.drop_nil, List.take_zero, List.take_succ_cons, List.take_nil, Option.map_some, Option.map_none, Option.isSome_some, Nat.reduceEqDiff, Nat.reduceBEq, Nat.reduceGT, List.all_append, List.all_map, Function.comp_def, decide_eq_true_eq, Bool.and_eq_true, beq_self_eq_true, or_self, and_self, ite_true, ite_false, Nat.le_refl, Bool.not_eq_true, decide_not, Bool.not_eq_true', decide_eq_false_iff_not, Bool.not_eq_false, Bool.or_eq_true, if_true, if_false, ite_self, h1, h2, h3]
    · simp (config := {maxSteps := 4000000, implicitDefEqProofs := false}) (disch := omega) only [go_sem, ↓reduceIte, Nat.reduceAdd, Nat.reduceSub, Nat.reduceMul, Nat.reduceLeDiff, Nat.reduceLT, Int.reduceEq, Int.reduceNe, Int.reduceLT, Int.reduceLE, Int.reduceAdd, Int.reduceSub, Int.reduceMul, Int.reduceNeg, Nat.zero_add, Nat.add_zero, Nat.mul_one, Int.toNat_natCast, Int.natCast_zero, Int.cast_ofNat_Int, or_false, false_or, or_true, true_or, Int.reduceToNat, Nat.sub_zero, Int.natCast_nonneg, Int.toNat_zero, Bool.true_and, Bool.and_true, Bool.false_and, Bool.and_false, Bool.true_or, Bool.or_true, Bool.false_or, Bool.or_false, Bool.not_true, Bool.not_false, Bool.not_not, true_and, and_true, false_and, and_false, not_true_eq_false, not_false_eq_true, eq_self, decide_true, decide_false, ne_eq, implies_true, forall_const, true_implies, false_implies, Bool.true_eq_false, Bool.false_eq_true, reduceCtorEq, List.map_cons, List.map_nil, List.all_cons, List.all_nil, List.length_cons, List.length_nil, List.length_map, List.length_append, List.nil_append, List.cons_append, List.set_cons_zero, List.set_cons_succ, List.set_nil, List.drop_zero, List.drop_succ_cons, List.drop_nil, List.take_zero, List.take_succ_cons, List.take_nil, Option.map_some, Option.map_none, Option.isSome_some, Nat.reduceEqDiff, Nat.reduceBEq, Nat.reduceGT, List.all_append, List.all_map, Function.comp_def, decide_eq_true_eq, Bool.and_eq_true, beq_self_eq_true, or_self, and_self, ite_true, ite_false, Nat.le_refl, Bool.not_eq_true, decide_not, Bool.not_eq_true', decide_eq_false_iff_not, Bool.not_eq_false, Bool.or_eq_true, if_true, if_false, ite_self, h1, h2]
  · simp (config := {maxSteps := 4000000, implicitDefEqProofs := false}) (disch := omega) only [go_sem, ↓reduceIte, Nat.reduceAdd, Nat.reduceSub, Nat.reduceMul, Nat.reduceLeDiff, Nat.reduceLT, Int.reduceEq, Int.reduceNe, Int.reduceLT, Int.reduceLE, Int.reduceAdd, Int.reduceSub, Int.reduceMul, Int.reduceNeg, Nat.zero_add, Nat.add_zero, Nat.mul_one, Int.toNat_natCast, Int.natCast_zero, Int.cast_ofNat_Int, or_false, false_or, or_true, true_or, Int.reduceToNat, Nat.sub_zero, Int.natCast_nonneg, Int.toNat_zero, Bool.true_and, Bool.and_true, Bool.false_and, Bool.and_false, Bool.true_or, Bool.or_true, Bool.false_or, Bool.or_false, Bool.not_true, Bool.not_false, Bool.not_not, true_and, and_true, false_and, and_false, not_true_eq_false, not_false_eq_true, eq_self, decide_true, decide_false, ne_eq, implies_true, forall_const, true_implies, false_implies, Bool.true_eq_false, Bool.false_eq_true, reduceCtorEq, List.map_cons, List.map_nil, List.all_cons, List.all_nil, List.length_cons, List.length_nil, List.length_map, List.length_append, List.nil_append, List.cons_append, List.set_cons_zero, List.set_cons_succ, List.set_nil, List.drop_zero, List.drop_succ_cons, List.drop_nil, List.take_zero, List.take_succ_cons, List.take_nil, Option.map_some, Option.map_none, Option.isSome_some, Nat.reduceEqDiff, Nat.reduceBEq, Nat.reduceGT, List.all_append, List.all_map, Function.comp_def, decide_eq_true_eq, Bool.and_eq_true, beq_self_eq_true, or_self, and_self, ite_true, ite_false, Nat.le_refl, Bool.not_eq_true, decide_not, Bool.not_eq_true', decide_eq_false_iff_not, Bool.not_eq_false, Bool.or_eq_true, if_true, if_false, ite_self, h1]
theorem rcould_s (m : Nat) (c t : Int) : plenumref26_Could m (nA c) (nA t) = some (bA (could c t), []) := by
  have e : (c < 256) = (c ≤ 255) := propext ⟨fun h => by omega, fun h => by omega⟩
  rw [plenumref26_Could_eq]
  unfold could
  by_cases h1 : 0 ≤ c
  · by_cases h2 : c ≤ 255
    · by_cases h3 : 1 ≤ t
      · simp (config := {maxSteps := 4000000, implicitDefEqProofs := false}) (disch := omega) only [go_sem, ↓reduceIte, Nat.reduceAdd, Nat.reduceSub, Nat.reduceMul, Nat.reduceLeDiff, Nat.reduceLT, Int.reduceEq, Int.reduceNe, Int.reduceLT, Int.reduceLE, Int.reduceAdd, Int.reduceSub, Int.reduceMul, Int.reduceNeg, Nat.zero_add, Nat.add_zero, Nat.mul_one, Int.toNat_natCast, Int.natCast_zero, Int.cast_ofNat_Int, or_false, false_or, or_true, true_or, Int.reduceToNat, Nat.sub_zero, Int.natCast_nonneg, Int.toNat_zero, Bool.true_and, Bool.and_true, Bool.false_and, Bool.and_false, Bool.true_or, Bool.or_true, Bool.false_or, Bool.or_false, Bool.not_true, Bool.not_false, Bool.not_not, true_and, and_true, false_and, and_false, not_true_eq_false, not_false_eq_true, eq_self, decide_true, decide_false, ne_eq, implies_true, forall_const, true_implies, false_implies, Bool.true_eq_false, Bool.false_eq_true, reduceCtorEq, List.map_cons, List.map_nil, List.all_cons, List.all_nil, List.length_cons, List.length_nil, List.length_map, List.length_append, List.nil_append, List.cons_append, List.set_cons_zero, List.set_cons_succ, List.set_nil, List.drop_zero, List.drop_succ_cons, List.drop_nil, List.take_zero, List.take_succ_cons, List.take_nil, Option.map_some, Option.map_none, Option.isSome_some, Nat.reduceEqDiff, Nat.reduceBEq, Nat.reduceGT, List.all_append, List.all_map, Function.comp_def, decide_eq_true_eq, Bool.and_eq_true, beq_self_eq_true, or_self, and_self, ite_true, ite_false, Nat.le_refl, Bool.not_eq_true, decide_not, Bool.not_eq_true', decide_eq_false_iff_not, Bool.not_eq_false, Bool.or_eq_true, if_true, if_false, ite_self, h1, h2, h3, e]
      · simp (config := {maxSteps := 4000000, implicitDefEqProofs := false}) (disch := omega) only [go_sem, ↓reduceIte, Nat.reduceAdd, Nat.reduceSub, Nat.reduceMul, Nat.reduceLeDiff, Nat.reduceLT, Int.reduceEq, Int.reduceNe, Int.reduceLT, Int.reduceLE, Int.reduceAdd, Int.reduceSub, Int.reduceMul, Int.reduceNeg, Nat.zero_add, Nat.add_zero, Nat.mul_one, Int.toNat_natCast, Int.natCast_zero, Int.cast_ofNat_Int, or_false, false_or, or_true, true_or, Int.reduceToNat, Nat.sub_zero, Int.natCast_nonneg, Int.toNat_zero, Bool.true_and, Bool.and_true, Bool.false_and, Bool.and_false, Bool.true_or, Bool.or_true, Bool.false_or, Bool.or_false, Bool.not_true, Bool.not_false, Bool.not_not, true_and, and_true, false_and, and_false, not_true_eq_false, not_false_eq_true, eq_self, decide_true, decide_false, ne_eq, implies_true, forall_const, true_implies, false_implies, Bool.true_eq_false, Bool.false_eq_true, reduceCtorEq, List.map_cons, List.map_nil, List.all_cons, List.all_nil, List.length_cons, List.length_nil, List.length_map, List.length_append, List.nil_append, List.cons_append, List.set_cons_zero, List.set_cons_succ, List.set_nil, List.drop_zero, List.drop_succ_cons, List.drop_nil, List.take_zero, List.take_succ_cons, List.take_nil, Option.map_some, Option.map_none, Option.isSome_some, Nat.reduceEqDiff, Nat.reduceBEq, Nat.reduceGT, List.all_append, List.all_map, Function.comp_def, decide_eq_true_eq, Bool.and_eq_true, beq_self_eq_true, or_self, and_self, ite_true, ite_false, Nat.le_refl, Bool.not_eq_true, decide_not, Bool.not_eq_true', decide_eq_false_iff_not, Bool.not_eq_false, Bool.or_eq_true, if_true, if_false, ite_self, h1, h2, h3, e]
    · simp (config := {maxSteps := 4000000, implicitDefEqProofs := false}) (disch := omega) only [go_sem, ↓reduceIte, Nat.reduceAdd, Nat.reduceSub, Nat.reduceMul, Nat.reduceLeDiff, Nat.reduceLT, Int.reduceEq, Int.reduceNe, Int.reduceLT, Int.reduceLE, Int.reduceAdd, Int.reduceSub, Int.reduceMul, Int.reduceNeg, Nat.zero_add, Nat.add_zero, Nat.mul_one, Int.toNat_natCast, Int.natCast_zero, Int.cast_ofNat_Int, or_false, false_or, or_true, true_or, Int.reduceToNat, Nat.sub_zero, Int.natCast_nonneg, Int.toNat_zero, Bool.true_and, Bool.and_true, Bool.false_and, Bool.and_false, Bool.true_or, Bool.or_true, Bool.false_or, Bool.or_false, Bool.not_true, Bool.not_false, Bool.not_not, true_and, and_true, false_and, and_false, not_true_eq_false, not_false_eq_true, eq_self, decide_true, decide_false, ne_eq, implies_true, forall_const, true_implies, false_implies, Bool.true_eq_false, Bool.false_eq_true, reduceCtorEq, List.map_cons, List.map_nil, List.all_cons, List.all_nil, List.length_cons, List.length_nil, List.length_map, List.length_append, List.nil_append, List.cons_append, List.set_cons_zero, List.set_cons_succ, List.set_nil, List.drop_zero, List.drop_succ_cons, List.drop_nil, List.take_zero, List.take_succ_cons, List.take_nil, Option.map_some, Option.map_none, Option.isSome_some, Nat.reduceEqDiff, Nat.reduceBEq, Nat.reduceGT, List.all_append, List.all_map, Function.comp_def, decide_eq_true_eq, Bool.and_eq_true, beq_self_eq_true, or_self, and_self, ite_true, ite_false, Nat.le_refl, Bool.not_eq_true, decide_not, Bool.not_eq_true', decide_eq_false_iff_not, Bool.not_eq_false, Bool.or_eq_true, if_true, if_false, ite_self, h1, h2, e]
  · simp (config := {maxSteps := 4000000, implicitDefEqProofs := false}) (disch := omega) only [go_sem, ↓reduceIte, Nat.reduceAdd, Nat.reduceSub, Nat.reduceMul, Nat.reduceLeDiff, Nat.reduceLT, Int.reduceEq, Int.reduceNe, Int.reduceLT, Int.reduceLE, Int.reduceAdd, Int.reduceSub, Int.reduceMul, Int.reduceNeg, Nat.zero_add, Nat.add_zero, Nat.mul_one, Int.toNat_natCast, Int.natCast_zero, Int.cast_ofNat_Int, or_false, false_or, or_true, true_or, Int.reduceToNat, Nat.sub_zero, Int.natCast_nonneg, Int.toNat_zero, Bool.true_and, Bool.and_true, Bool.false_and, Bool.and_false, Bool.true_or, Bool.or_true, Bool.false_or, Bool.or_false, Bool.not_true, Bool.not_false, Bool.not_not, true_and, and_true, false_and, and_false, not_true_eq_false, not_false_eq_true, eq_self, decide_true, decide_false, ne_eq, implies_true, forall_const, true_implies, false_implies, Bool.true_eq_false, Bool.false_eq_true, reduceCtorEq, List.map_cons, List.map_nil, List.all_cons, List.all_nil, List.length_cons, List.length_nil, List.length_map, List.length_append, List.nil_append, List.cons_append, List.set_cons_zero, List.set_cons_succ, List.set_nil, List.drop_zero, List.drop_succ_cons, List.drop_nil, List.take_zero, List.take_succ_cons, List.take_nil, Option.map_some, Option.map_none, Option.isSome_some, Nat.reduceEqDiff, Nat.reduceBEq, Nat.reduceGT, List.all_append, List.all_map, Function.comp_def, decide_eq_true_eq, Bool.and_eq_true, beq_self_eq_true, or_self, and_self, ite_true, ite_false, Nat.le_refl, Bool.not_eq_true, decide_not, Bool.not_eq_true', decide_eq_false_iff_not, Bool.not_eq_false, Bool.or_eq_true, if_true, if_false, ite_self, h1]
theorem encR_len (r : Rs) : ((encRes r.code r.kind r.i r.s r.ver).length = 0) = (rB r = false) := by
  unfold encRes rB
  cases resB r.code r.kind r.i r.s r.ver <;> simp
theorem rmay_s (m : Nat) (r : Rs) : plenumref22_MayResult m (rA r) = some (bA (rB r), []) := by
  have hV := plenumref07_May_e m r.kind r.i r.s
  rw [plenumref22_MayResult_eq, rA_def]
  unfold rB resB
  by_cases h1 : 0 ≤ r.code
  · by_cases h2 : r.code ≤ 23
    · cases hv : valB r.kind r.i r.s with
      | false =>
        rw [hv] at hV
        simp (config := {maxSteps := 4000000, implicitDefEqProofs := false}) (disch := omega) only [go_sem, ↓reduceIte, Nat.reduceAdd, Nat.reduceSub, Nat.reduceMul, Nat.reduceLeDiff, Nat.reduceLT, Int.reduceEq, Int.reduceNe, Int.reduceLT, Int.reduceLE, Int.reduceAdd, Int.reduceSub, Int.reduceMul, Int.reduceNeg, Nat.zero_add, Nat.add_zero, Nat.mul_one, Int.toNat_natCast, Int.natCast_zero, Int.cast_ofNat_Int, or_false, false_or, or_true, true_or, Int.reduceToNat, Nat.sub_zero, Int.natCast_nonneg, Int.toNat_zero, Bool.true_and, Bool.and_true, Bool.false_and, Bool.and_false, Bool.true_or, Bool.or_true, Bool.false_or, Bool.or_false, Bool.not_true, Bool.not_false, Bool.not_not, true_and, and_true, false_and, and_false, not_true_eq_false, not_false_eq_true, eq_self, decide_true, decide_false, ne_eq, implies_true, forall_const, true_implies, false_implies, Bool.true_eq_false, Bool.false_eq_true, reduceCtorEq, List.map_cons, List.map_nil, List.all_cons, List.all_nil, List.length_cons, List.length_nil, List.length_map, List.length_append, List.nil_append, List.cons_append, List.set_cons_zero, List.set_cons_succ, List.set_nil, List.drop_zero, List.drop_succ_cons, List.drop_nil, List.take_zero, List.take_succ_cons, List.take_nil, Option.map_some, Option.map_none, Option.isSome_some, Nat.reduceEqDiff, Nat.reduceBEq, Nat.reduceGT, List.all_append, List.all_map, Function.comp_def, decide_eq_true_eq, Bool.and_eq_true, beq_self_eq_true, or_self, and_self, ite_true, ite_false, Nat.le_refl, Bool.not_eq_true, decide_not, Bool.not_eq_true', decide_eq_false_iff_not, Bool.not_eq_false, Bool.or_eq_true, if_true, if_false, ite_self, rc_len, rc_sure, rc_ltA, rc_lt1, rc_all1, rc_ro, rc_take, rc_code, rc_ver, rc_val, h1, h2, hV]
      | true =>
        rw [hv] at hV
        by_cases h3 : 0 ≤ r.ver
        · simp (config := {maxSteps := 4000000, implicitDefEqProofs := false}) (disch := omega) only [go_sem, ↓reduceIte, Nat.reduceAdd, Nat.reduceSub, Nat.reduceMul, Nat.reduceLeDiff, Nat.reduceLT, Int.reduceEq, Int.reduceNe, Int.reduceLT, Int.reduceLE, Int.reduceAdd, Int.reduceSub, Int.reduceMul, Int.reduceNeg, Nat.zero_add, Nat.add_zero, Nat.mul_one, Int.toNat_natCast, Int.natCast_zero, Int.cast_ofNat_Int, or_false, false_or, or_true, true_or, Int.reduceToNat, Nat.sub_zero, Int.natCast_nonneg, Int.toNat_zero, Bool.true_and, Bool.and_true, Bool.false_and, Bool.and_false, Bool.true_or, Bool.or_true, Bool.false_or, Bool.or_false, Bool.not_true, Bool.not_false, Bool.not_not, true_and, and_true, false_and, and_false, not_true_eq_false, not_false_eq_true, eq_self, decide_true, decide_false, ne_eq, implies_true, forall_const, true_implies, false_implies, Bool.true_eq_false, Bool.false_eq_true, reduceCtorEq, List.map_cons, List.map_nil, List.all_cons, List.all_nil, List.length_cons, List.length_nil, List.length_map, List.length_append, List.nil_append, List.cons_append, List.set_cons_zero, List.set_cons_succ, List.set_nil, List.drop_zero, List.drop_succ_cons, List.drop_nil, List.take_zero, List.take_succ_cons, List.take_nil, Option.map_some, Option.map_none, Option.isSome_some, Nat.reduceEqDiff, Nat.reduceBEq, Nat.reduceGT, List.all_append, List.all_map, Function.comp_def, decide_eq_true_eq, Bool.and_eq_true, beq_self_eq_true, or_self, and_self, ite_true, ite_false, Nat.le_refl, Bool.not_eq_true, decide_not, Bool.not_eq_true', decide_eq_false_iff_not, Bool.not_eq_false, Bool.or_eq_true, if_true, if_false, ite_self, rc_len, rc_sure, rc_ltA, rc_lt1, rc_all1, rc_ro, rc_take, rc_code, rc_ver, rc_val, h1, h2, h3, hV]
        · simp (config := {maxSteps := 4000000, implicitDefEqProofs := false}) (disch := omega) only [go_sem, ↓reduceIte, Nat.reduceAdd, Nat.reduceSub, Nat.reduceMul, Nat.reduceLeDiff, Nat.reduceLT, Int.reduceEq, Int.reduceNe, Int.reduceLT, Int.reduceLE, Int.reduceAdd, Int.reduceSub, Int.reduceMul, Int.reduceNeg, Nat.zero_add, Nat.add_zero, Nat.mul_one, Int.toNat_natCast, Int.natCast_zero, Int.cast_ofNat_Int, or_false, false_or, or_true, true_or, Int.reduceToNat, Nat.sub_zero, Int.natCast_nonneg, Int.toNat_zero, Bool.true_and, Bool.and_true, Bool.false_and, Bool.and_false, Bool.true_or, Bool.or_true, Bool.false_or, Bool.or_false, Bool.not_true, Bool.not_false, Bool.not_not, true_and, and_true, false_and, and_false, not_true_eq_false, not_false_eq_true, eq_self, decide_true, decide_false, ne_eq, implies_true, forall_const, true_implies, false_implies, Bool.true_eq_false, Bool.false_eq_true, reduceCtorEq, List.map_cons, List.map_nil, List.all_cons, List.all_nil, List.length_cons, List.length_nil, List.length_map, List.length_append, List.nil_append, List.cons_append, List.set_cons_zero, List.set_cons_succ, List.set_nil, List.drop_zero, List.drop_succ_cons, List.drop_nil, List.take_zero, List.take_succ_cons, List.take_nil, Option.map_some, Option.map_none, Option.isSome_some, Nat.reduceEqDiff, Nat.reduceBEq, Nat.reduceGT, List.all_append, List.all_map, Function.comp_def, decide_eq_true_eq, Bool.and_eq_true, beq_self_eq_true, or_self, and_self, ite_true, ite_false, Nat.le_refl, Bool.not_eq_true, decide_not, Bool.not_eq_true', decide_eq_false_iff_not, Bool.not_eq_false, Bool.or_eq_true, if_true, if_false, ite_self, rc_len, rc_sure, rc_ltA, rc_lt1, rc_all1, rc_ro, rc_take, rc_code, rc_ver, rc_val, h1, h2, h3, hV]
    · simp (config := {maxSteps := 4000000, implicitDefEqProofs := false}) (disch := omega) only [go_sem, ↓reduceIte, Nat.reduceAdd, Nat.reduceSub, Nat.reduceMul, Nat.reduceLeDiff, Nat.reduceLT, Int.reduceEq, Int.reduceNe, Int.reduceLT, Int.reduceLE, Int.reduceAdd, Int.reduceSub, Int.reduceMul, Int.reduceNeg, Nat.zero_add, Nat.add_zero, Nat.mul_one, Int.toNat_natCast, Int.natCast_zero, Int.cast_ofNat_Int, or_false, false_or, or_true, true_or, Int.reduceToNat, Nat.sub_zero, Int.natCast_nonneg, Int.toNat_zero, Bool.true_and, Bool.and_true, Bool.false_and, Bool.and_false, Bool.true_or, Bool.or_true, Bool.false_or, Bool.or_false, Bool.not_true, Bool.not_false, Bool.not_not, true_and, and_true, false_and, and_false, not_true_eq_false, not_false_eq_true, eq_self, decide_true, decide_false, ne_eq, implies_true, forall_const, true_implies, false_implies, Bool.true_eq_false, Bool.false_eq_true, reduceCtorEq, List.map_cons, List.map_nil, List.all_cons, List.all_nil, List.length_cons, List.length_nil, List.length_map, List.length_append, List.nil_append, List.cons_append, List.set_cons_zero, List.set_cons_succ, List.set_nil, List.drop_zero, List.drop_succ_cons, List.drop_nil, List.take_zero, List.take_succ_cons, List.take_nil, Option.map_some, Option.map_none, Option.isSome_some, Nat.reduceEqDiff, Nat.reduceBEq, Nat.reduceGT, List.all_append, List.all_map, Function.comp_def, decide_eq_true_eq, Bool.and_eq_true, beq_self_eq_true, or_self, and_self, ite_true, ite_false, Nat.le_refl, Bool.not_eq_true, decide_not, Bool.not_eq_true', decide_eq_false_iff_not, Bool.not_eq_false, Bool.or_eq_true, if_true, if_false, ite_self, rc_len, rc_sure, rc_ltA, rc_lt1, rc_all1, rc_ro, rc_take, rc_code, rc_ver, rc_val, h1, h2]
  · simp (config := {maxSteps := 4000000, implicitDefEqProofs := false}) (disch := omega) only [go_sem, ↓reduceIte, Nat.reduceAdd, Nat.reduceSub, Nat.reduceMul, Nat.reduceLeDiff, Nat.reduceLT, Int.reduceEq, Int.reduceNe, Int.reduceLT, Int.reduceLE, Int.reduceAdd, Int.reduceSub, Int.reduceMul, Int.reduceNeg, Nat.zero_add, Nat.add_zero, Nat.mul_one, Int.toNat_natCast, Int.natCast_zero, Int.cast_ofNat_Int, or_false, false_or, or_true, true_or, Int.reduceToNat, Nat.sub_zero, Int.natCast_nonneg, Int.toNat_zero, Bool.true_and, Bool.and_true, Bool.false_and, Bool.and_false, Bool.true_or, Bool.or_true, Bool.false_or, Bool.or_false, Bool.not_true, Bool.not_false, Bool.not_not, true_and, and_true, false_and, and_false, not_true_eq_false, not_false_eq_true, eq_self, decide_true, decide_false, ne_eq, implies_true, forall_const, true_implies, false_implies, Bool.true_eq_false, Bool.false_eq_true, reduceCtorEq, List.map_cons, List.map_nil, List.all_cons, List.all_nil, List.length_cons, List.length_nil, List.length_map, List.length_append, List.nil_append, List.cons_append, List.set_cons_zero, List.set_cons_succ, List.set_nil, List.drop_zero, List.drop_succ_cons, List.drop_nil, List.take_zero, List.take_succ_cons, List.take_nil, Option.map_some, Option.map_none, Option.isSome_some, Nat.reduceEqDiff, Nat.reduceBEq, Nat.reduceGT, List.all_append, List.all_map, Function.comp_def, decide_eq_true_eq, Bool.and_eq_true, beq_self_eq_true, or_self, and_self, ite_true, ite_false, Nat.le_refl, Bool.not_eq_true, decide_not, Bool.not_eq_true', decide_eq_false_iff_not, Bool.not_eq_false, Bool.or_eq_true, if_true, if_false, ite_self, rc_len, rc_sure, rc_ltA, rc_lt1, rc_all1, rc_ro, rc_take, rc_code, rc_ver, rc_val, h1]
theorem enc_s (m : Nat) (r : Rs) (h : r.In) : txn_EncodeResult_t m [.agg (rC r)] = some (SL ((encRes r.code r.kind r.i r.s r.ver).map fun b => V (cB b)), []) := txn_EncodeResult_e m r.code r.kind r.i r.s r.ver h
theorem check_s (m : Nat) (l : List La) (hm : l.length < m) (hl : l.length ≤ 34359738367) (h : ∀ x ∈ l, x.r.In) : replies_Check m (lL l) = some (TU [nA (chkL l).1, nA (chkL l).2], []) := by
  rw [replies_Check_eq, lL_def]
  unfold chkL
  simp (config := {maxSteps := 4000000, implicitDefEqProofs := false}) (disch := omega) only [go_sem, ↓reduceIte, Nat.reduceAdd, Nat.reduceSub, Nat.reduceMul, Nat.reduceLeDiff, Nat.reduceLT, Int.reduceEq, Int.reduceNe, Int.reduceLT, Int.reduceLE, Int.reduceAdd, Int.reduceSub, Int.reduceMul, Int.reduceNeg, Nat.zero_add, Nat.add_zero, Nat.mul_one, Int.toNat_natCast, Int.natCast_zero, Int.cast_ofNat_Int, or_false, false_or, or_true, true_or, Int.reduceToNat, Nat.sub_zero, Int.natCast_nonneg, Int.toNat_zero, Bool.true_and, Bool.and_true, Bool.false_and, Bool.and_false, Bool.true_or, Bool.or_true, Bool.false_or, Bool.or_false, Bool.not_true, Bool.not_false, Bool.not_not, true_and, and_true, false_and, and_false, not_true_eq_false, not_false_eq_true, eq_self, decide_true, decide_false, ne_eq, implies_true, forall_const, true_implies, false_implies, Bool.true_eq_false, Bool.false_eq_true, reduceCtorEq, List.map_cons, List.map_nil, List.all_cons, List.all_nil, List.length_cons, List.length_nil, List.length_map, List.length_append, List.nil_append, List.cons_append, List.set_cons_zero, List.set_cons_succ, List.set_nil, List.drop_zero, List.drop_succ_cons, List.drop_nil, List.take_zero, List.take_succ_cons, List.take_nil, Option.map_some, Option.map_none, Option.isSome_some, Nat.reduceEqDiff, Nat.reduceBEq, Nat.reduceGT, List.all_append, List.all_map, Function.comp_def, decide_eq_true_eq, Bool.and_eq_true, beq_self_eq_true, or_self, and_self, ite_true, ite_false, Nat.le_refl, Bool.not_eq_true, decide_not, Bool.not_eq_true', decide_eq_false_iff_not, Bool.not_eq_false, Bool.or_eq_true, if_true, if_false, ite_self, hl]
  generalize hR : chkG none 0 l = R
  obtain ⟨e, a⟩ := R
  refine iter_go (ι := {k : Nat // k ≤ l.length ∧ chkG (prevL l k) k (l.drop k) = (e, a)}) (fun k => ⟨[], [(0, SL (l.map laE)), (6, SL (l.map laE)), (7, nA l.length), (8, nA k.1)]⟩) (fun k => l.length - k.1) (fun _ => some (TU [nA e, nA a], [])) ?_ ⟨0, Nat.zero_le _, hR⟩ (by dsimp only; omega)
  rintro kx hkx ⟨k, hk, hinv⟩ kc hkc
  dsimp only at hkc ⊢
  rw [replies_Check_b1_eq]
  by_cases hlt : k < l.length
  · have hlt' : (k : Int) < (l.length : Int) := by omega
    have hC := could_s m l[k].cl l[k].tm
    have hE := enc_s m l[k].r (h _ (List.getElem_mem hlt))
    have hen := encR_len l[k].r
    have hcase := chkG_at hlt hinv
    have step : bad26 (prevL l k) l[k] = 0 → kc ⟨[], [(0, SL (l.map laE)), (6, SL (l.map laE)), (7, nA l.length), (8, nA ((k : Int) + 1))]⟩ = some (TU [nA e, nA a], []) := fun h0 => by
      rcases hcase with ⟨_, h2⟩ | ⟨h1, _⟩
      · exact hkc ⟨k + 1, by omega, h2⟩ (by dsimp only; omega)
      · exact absurd h0 h1
    have stop : bad26 (prevL l k) l[k] ≠ 0 → e = bad26 (prevL l k) l[k] ∧ a = k := fun h0 => by
      rcases hcase with ⟨h1, _⟩ | ⟨_, h2⟩
      · exact absurd h1 h0
      · exact h2
    cases hc : could l[k].cl l[k].tm with
    | false =>
      rw [hc] at hC
      have hb : bad26 (prevL l k) l[k] = 1 := by unfold bad26; rw [hc]; simp
      obtain ⟨rfl, rfl⟩ := stop (by rw [hb]; omega)
      rw [hb]
      simp (config := {maxSteps := 4000000, implicitDefEqProofs := false}) (disch := omega) only [go_sem, ↓reduceIte, Nat.reduceAdd, Nat.reduceSub, Nat.reduceMul, Nat.reduceLeDiff, Nat.reduceLT, Int.reduceEq, Int.reduceNe, Int.reduceLT, Int.reduceLE, Int.reduceAdd, Int.reduceSub, Int.reduceMul, Int.reduceNeg, Nat.zero_add, Nat.add_zero, Nat.mul_one, Int.toNat_natCast, Int.natCast_zero, Int.cast_ofNat_Int, or_false, false_or, or_true, true_or, Int.reduceToNat, Nat.sub_zero, Int.natCast_nonneg, Int.toNat_zero, Bool.true_and, Bool.and_true, Bool.false_and, Bool.and_false, Bool.true_or, Bool.or_true, Bool.false_or, Bool.or_false, Bool.not_true, Bool.not_false, Bool.not_not, true_and, and_true, false_and, and_false, not_true_eq_false, not_false_eq_true, eq_self, decide_true, decide_false, ne_eq, implies_true, forall_const, true_implies, false_implies, Bool.true_eq_false, Bool.false_eq_true, reduceCtorEq, List.map_cons, List.map_nil, List.all_cons, List.all_nil, List.length_cons, List.length_nil, List.length_map, List.length_append, List.nil_append, List.cons_append, List.set_cons_zero, List.set_cons_succ, List.set_nil, List.drop_zero, List.drop_succ_cons, List.drop_nil, List.take_zero, List.take_succ_cons, List.take_nil, Option.map_some, Option.map_none, Option.isSome_some, Nat.reduceEqDiff, Nat.reduceBEq, Nat.reduceGT, List.all_append, List.all_map, Function.comp_def, decide_eq_true_eq, Bool.and_eq_true, beq_self_eq_true, or_self, and_self, ite_true, ite_false, Nat.le_refl, Bool.not_eq_true, decide_not, Bool.not_eq_true', decide_eq_false_iff_not, Bool.not_eq_false, Bool.or_eq_true, if_true, if_false, ite_self, la_it, la_len, la_sure, la_ltA, la_lt1, la_all1, la_ro, la_take, la_cl, la_tm, la_r, la_sl, rc_len, rc_sure, rc_ltA, rc_lt1, rc_all1, rc_ro, rc_take, rc_sl, la_set, rc_set, zcL_eq, zcR_eq, la_allA, la_len7, all_tt, natInt, u_nthM, hlt', w_i64, replies_Check_r5_eq, replies_Check_r4_eq, replies_Check_r3_eq, replies_Check_r2_eq, replies_Check_r1_eq, hC, hkx]
    | true =>
    rw [hc] at hC
    cases hr : rB l[k].r with
    | false =>
      have hb : bad26 (prevL l k) l[k] = 1 := by unfold bad26; rw [hc, hr]; simp
      obtain ⟨rfl, rfl⟩ := stop (by rw [hb]; omega)
      rw [hr] at hen
      have hen' : (encRes l[k].r.code l[k].r.kind l[k].r.i l[k].r.s l[k].r.ver).length = 0 := by rw [hen]
      rw [hb]
      simp (config := {maxSteps := 4000000, implicitDefEqProofs := false}) (disch := omega) only [go_sem, ↓reduceIte, Nat.reduceAdd, Nat.reduceSub, Nat.reduceMul, Nat.reduceLeDiff, Nat.reduceLT, Int.reduceEq, Int.reduceNe, Int.reduceLT, Int.reduceLE, Int.reduceAdd, Int.reduceSub, Int.reduceMul, Int.reduceNeg, Nat.zero_add, Nat.add_zero, Nat.mul_one, Int.toNat_natCast, Int.natCast_zero, Int.cast_ofNat_Int, or_false, false_or, or_true, true_or, Int.reduceToNat, Nat.sub_zero, Int.natCast_nonneg, Int.toNat_zero, Bool.true_and, Bool.and_true, Bool.false_and, Bool.and_false, Bool.true_or, Bool.or_true, Bool.false_or, Bool.or_false, Bool.not_true, Bool.not_false, Bool.not_not, true_and, and_true, false_and, and_false, not_true_eq_false, not_false_eq_true, eq_self, decide_true, decide_false, ne_eq, implies_true, forall_const, true_implies, false_implies, Bool.true_eq_false, Bool.false_eq_true, reduceCtorEq, List.map_cons, List.map_nil, List.all_cons, List.all_nil, List.length_cons, List.length_nil, List.length_map, List.length_append, List.nil_append, List.cons_append, List.set_cons_zero, List.set_cons_succ, List.set_nil, List.drop_zero, List.drop_succ_cons, List.drop_nil, List.take_zero, List.take_succ_cons, List.take_nil, Option.map_some, Option.map_none, Option.isSome_some, Nat.reduceEqDiff, Nat.reduceBEq, Nat.reduceGT, List.all_append, List.all_map, Function.comp_def, decide_eq_true_eq, Bool.and_eq_true, beq_self_eq_true, or_self, and_self, ite_true, ite_false, Nat.le_refl, Bool.not_eq_true, decide_not, Bool.not_eq_true', decide_eq_false_iff_not, Bool.not_eq_false, Bool.or_eq_true, if_true, if_false, ite_self, la_it, la_len, la_sure, la_ltA, la_lt1, la_all1, la_ro, la_take, la_cl, la_tm, la_r, la_sl, rc_len, rc_sure, rc_ltA, rc_lt1, rc_all1, rc_ro, rc_take, rc_sl, la_set, rc_set, zcL_eq, zcR_eq, la_allA, la_len7, all_tt, natInt, u_nthM, hlt', w_i64, replies_Check_r5_eq, replies_Check_r4_eq, replies_Check_r3_eq, replies_Check_r2_eq, replies_Check_r1_eq, hC, hE, hen', hkx]
    | true =>
      rw [hr] at hen
      have hen' : ¬ ((encRes l[k].r.code l[k].r.kind l[k].r.i l[k].r.s l[k].r.ver).length : Int) = 0 := by
        intro q
        have q : (encRes l[k].r.code l[k].r.kind l[k].r.i l[k].r.s l[k].r.ver).length = 0 := by omega
        rw [hen] at q; cases q
      by_cases h0 : k = 0
      · have hk0 : ¬ (0 : Int) < (k : Int) := by omega
        have hb : bad26 (prevL l k) l[k] = 0 := by unfold bad26; rw [if_pos ⟨hc, hr⟩]; unfold prevL; rw [if_pos h0]
        have step := step hb
        simp (config := {maxSteps := 4000000, implicitDefEqProofs := false}) (disch := omega) only [go_sem, ↓reduceIte, Nat.reduceAdd, Nat.reduceSub, Nat.reduceMul, Nat.reduceLeDiff, Nat.reduceLT, Int.reduceEq, Int.reduceNe, Int.reduceLT, Int.reduceLE, Int.reduceAdd, Int.reduceSub, Int.reduceMul, Int.reduceNeg, Nat.zero_add, Nat.add_zero, Nat.mul_one, Int.toNat_natCast, Int.natCast_zero, Int.cast_ofNat_Int, or_false, false_or, or_true, true_or, Int.reduceToNat, Nat.sub_zero, Int.natCast_nonneg, Int.toNat_zero, Bool.true_and, Bool.and_true, Bool.false_and, Bool.and_false, Bool.true_or, Bool.or_true, Bool.false_or, Bool.or_false, Bool.not_true, Bool.not_false, Bool.not_not, true_and, and_true, false_and, and_false, not_true_eq_false, not_false_eq_true, eq_self, decide_true, decide_false, ne_eq, implies_true, forall_const, true_implies, false_implies, Bool.true_eq_false, Bool.false_eq_true, reduceCtorEq, List.map_cons, List.map_nil, List.all_cons, List.all_nil, List.length_cons, List.length_nil, List.length_map, List.length_append, List.nil_append, List.cons_append, List.set_cons_zero, List.set_cons_succ, List.set_nil, List.drop_zero, List.drop_succ_cons, List.drop_nil, List.take_zero, List.take_succ_cons, List.take_nil, Option.map_some, Option.map_none, Option.isSome_some, Nat.reduceEqDiff, Nat.reduceBEq, Nat.reduceGT, List.all_append, List.all_map, Function.comp_def, decide_eq_true_eq, Bool.and_eq_true, beq_self_eq_true, or_self, and_self, ite_true, ite_false, Nat.le_refl, Bool.not_eq_true, decide_not, Bool.not_eq_true', decide_eq_false_iff_not, Bool.not_eq_false, Bool.or_eq_true, if_true, if_false, ite_self, la_it, la_len, la_sure, la_ltA, la_lt1, la_all1, la_ro, la_take, la_cl, la_tm, la_r, la_sl, rc_len, rc_sure, rc_ltA, rc_lt1, rc_all1, rc_ro, rc_take, rc_sl, la_set, rc_set, zcL_eq, zcR_eq, la_allA, la_len7, all_tt, natInt, u_nthM, hlt', w_i64, replies_Check_r5_eq, replies_Check_r4_eq, replies_Check_r3_eq, replies_Check_r2_eq, replies_Check_r1_eq, hC, hE, hen', hk0]
        exact step
      · have hk0 : (0 : Int) < (k : Int) := by omega
        have hk1 : (k : Int) - 1 = ((k - 1 : Nat) : Int) := by omega
        have hlt1 : k - 1 < l.length := by omega
        have hlt1' : ((k - 1 : Nat) : Int) < (l.length : Int) := by omega
        have hp : prevL l k = some l[k - 1] := by unfold prevL; rw [if_neg h0, List.getElem?_eq_getElem hlt1]
        by_cases hq : l[k].cl ≤ l[k - 1].cl
        · have hb : bad26 (prevL l k) l[k] = 3 := by unfold bad26; rw [if_pos ⟨hc, hr⟩, hp]; dsimp only; rw [if_pos hq]
          obtain ⟨rfl, rfl⟩ := stop (by rw [hb]; omega)
          rw [hb]
          simp (config := {maxSteps := 4000000, implicitDefEqProofs := false}) (disch := omega) only [go_sem, ↓reduceIte, Nat.reduceAdd, Nat.reduceSub, Nat.reduceMul, Nat.reduceLeDiff, Nat.reduceLT, Int.reduceEq, Int.reduceNe, Int.reduceLT, Int.reduceLE, Int.reduceAdd, Int.reduceSub, Int.reduceMul, Int.reduceNeg, Nat.zero_add, Nat.add_zero, Nat.mul_one, Int.toNat_natCast, Int.natCast_zero, Int.cast_ofNat_Int, or_false, false_or, or_true, true_or, Int.reduceToNat, Nat.sub_zero, Int.natCast_nonneg, Int.toNat_zero, Bool.true_and, Bool.and_true, Bool.false_and, Bool.and_false, Bool.true_or, Bool.or_true, Bool.false_or, Bool.or_false, Bool.not_true, Bool.not_false, Bool.not_not, true_and, and_true, false_and, and_false, not_true_eq_false, not_false_eq_true, eq_self, decide_true, decide_false, ne_eq, implies_true, forall_const, true_implies, false_implies, Bool.true_eq_false, Bool.false_eq_true, reduceCtorEq, List.map_cons, List.map_nil, List.all_cons, List.all_nil, List.length_cons, List.length_nil, List.length_map, List.length_append, List.nil_append, List.cons_append, List.set_cons_zero, List.set_cons_succ, List.set_nil, List.drop_zero, List.drop_succ_cons, List.drop_nil, List.take_zero, List.take_succ_cons, List.take_nil, Option.map_some, Option.map_none, Option.isSome_some, Nat.reduceEqDiff, Nat.reduceBEq, Nat.reduceGT, List.all_append, List.all_map, Function.comp_def, decide_eq_true_eq, Bool.and_eq_true, beq_self_eq_true, or_self, and_self, ite_true, ite_false, Nat.le_refl, Bool.not_eq_true, decide_not, Bool.not_eq_true', decide_eq_false_iff_not, Bool.not_eq_false, Bool.or_eq_true, if_true, if_false, ite_self, la_it, la_len, la_sure, la_ltA, la_lt1, la_all1, la_ro, la_take, la_cl, la_tm, la_r, la_sl, rc_len, rc_sure, rc_ltA, rc_lt1, rc_all1, rc_ro, rc_take, rc_sl, la_set, rc_set, zcL_eq, zcR_eq, la_allA, la_len7, all_tt, natInt, u_nthM, hlt', w_i64, replies_Check_r5_eq, replies_Check_r4_eq, replies_Check_r3_eq, replies_Check_r2_eq, replies_Check_r1_eq, hC, hE, hen', hk0, hk1, hlt1', hq, hkx]
        · have hb : bad26 (prevL l k) l[k] = 0 := by unfold bad26; rw [if_pos ⟨hc, hr⟩, hp]; dsimp only; rw [if_neg hq]
          have step := step hb
          simp (config := {maxSteps := 4000000, implicitDefEqProofs := false}) (disch := omega) only [go_sem, ↓reduceIte, Nat.reduceAdd, Nat.reduceSub, Nat.reduceMul, Nat.reduceLeDiff, Nat.reduceLT, Int.reduceEq, Int.reduceNe, Int.reduceLT, Int.reduceLE, Int.reduceAdd, Int.reduceSub, Int.reduceMul, Int.reduceNeg, Nat.zero_add, Nat.add_zero, Nat.mul_one, Int.toNat_natCast, Int.natCast_zero, Int.cast_ofNat_Int, or_false, false_or, or_true, true_or, Int.reduceToNat, Nat.sub_zero, Int.natCast_nonneg, Int.toNat_zero, Bool.true_and, Bool.and_true, Bool.false_and, Bool.and_false, Bool.true_or, Bool.or_true, Bool.false_or, Bool.or_false, Bool.not_true, Bool.not_false, Bool.not_not, true_and, and_true, false_and, and_false, not_true_eq_false, not_false_eq_true, eq_self, decide_true, decide_false, ne_eq, implies_true, forall_const, true_implies, false_implies, Bool.true_eq_false, Bool.false_eq_true, reduceCtorEq, List.map_cons, List.map_nil, List.all_cons, List.all_nil, List.length_cons, List.length_nil, List.length_map, List.length_append, List.nil_append, List.cons_append, List.set_cons_zero, List.set_cons_succ, List.set_nil, List.drop_zero, List.drop_succ_cons, List.drop_nil, List.take_zero, List.take_succ_cons, List.take_nil, Option.map_some, Option.map_none, Option.isSome_some, Nat.reduceEqDiff, Nat.reduceBEq, Nat.reduceGT, List.all_append, List.all_map, Function.comp_def, decide_eq_true_eq, Bool.and_eq_true, beq_self_eq_true, or_self, and_self, ite_true, ite_false, Nat.le_refl, Bool.not_eq_true, decide_not, Bool.not_eq_true', decide_eq_false_iff_not, Bool.not_eq_false, Bool.or_eq_true, if_true, if_false, ite_self, la_it, la_len, la_sure, la_ltA, la_lt1, la_all1, la_ro, la_take, la_cl, la_tm, la_r, la_sl, rc_len, rc_sure, rc_ltA, rc_lt1, rc_all1, rc_ro, rc_take, rc_sl, la_set, rc_set, zcL_eq, zcR_eq, la_allA, la_len7, all_tt, natInt, u_nthM, hlt', w_i64, replies_Check_r5_eq, replies_Check_r4_eq, replies_Check_r3_eq, replies_Check_r2_eq, replies_Check_r1_eq, hC, hE, hen', hk0, hk1, hlt1', hq]
          exact step
  · have hlt' : ¬ (k : Int) < (l.length : Int) := by omega
    have : k = l.length := by omega
    subst this
    obtain ⟨rfl, rfl⟩ := chkG_end hinv
    simp (config := {maxSteps := 4000000, implicitDefEqProofs := false}) (disch := omega) only [go_sem, ↓reduceIte, Nat.reduceAdd, Nat.reduceSub, Nat.reduceMul, Nat.reduceLeDiff, Nat.reduceLT, Int.reduceEq, Int.reduceNe, Int.reduceLT, Int.reduceLE, Int.reduceAdd, Int.reduceSub, Int.reduceMul, Int.reduceNeg, Nat.zero_add, Nat.add_zero, Nat.mul_one, Int.toNat_natCast, Int.natCast_zero, Int.cast_ofNat_Int, or_false, false_or, or_true, true_or, Int.reduceToNat, Nat.sub_zero, Int.natCast_nonneg, Int.toNat_zero, Bool.true_and, Bool.and_true, Bool.false_and, Bool.and_false, Bool.true_or, Bool.or_true, Bool.false_or, Bool.or_false, Bool.not_true, Bool.not_false, Bool.not_not, true_and, and_true, false_and, and_false, not_true_eq_false, not_false_eq_true, eq_self, decide_true, decide_false, ne_eq, implies_true, forall_const, true_implies, false_implies, Bool.true_eq_false, Bool.false_eq_true, reduceCtorEq, List.map_cons, List.map_nil, List.all_cons, List.all_nil, List.length_cons, List.length_nil, List.length_map, List.length_append, List.nil_append, List.cons_append, List.set_cons_zero, List.set_cons_succ, List.set_nil, List.drop_zero, List.drop_succ_cons, List.drop_nil, List.take_zero, List.take_succ_cons, List.take_nil, Option.map_some, Option.map_none, Option.isSome_some, Nat.reduceEqDiff, Nat.reduceBEq, Nat.reduceGT, List.all_append, List.all_map, Function.comp_def, decide_eq_true_eq, Bool.and_eq_true, beq_self_eq_true, or_self, and_self, ite_true, ite_false, Nat.le_refl, Bool.not_eq_true, decide_not, Bool.not_eq_true', decide_eq_false_iff_not, Bool.not_eq_false, Bool.or_eq_true, if_true, if_false, ite_self, hkx, hlt', replies_Check_r5_eq, replies_Check_r4_eq, replies_Check_r3_eq, replies_Check_r2_eq, replies_Check_r1_eq]
theorem rcheck_s (m : Nat) (l : List La) (hm : l.length < m) (hl : l.length ≤ 34359738367) : plenumref26_Check m (lL l) = some (TU [nA (chkL l).1, nA (chkL l).2], []) := by
  rw [plenumref26_Check_eq, lL_def]
  unfold chkL
  generalize hR : chkG none 0 l = R
  obtain ⟨e, a⟩ := R
  refine iter_go (ι := {k : Nat // k ≤ l.length ∧ chkG (prevL l k) k (l.drop k) = (e, a)}) (fun k => ⟨[], [(0, SL (l.map laE)), (4, nA k.1)]⟩) (fun k => l.length - k.1) (fun _ => some (TU [nA e, nA a], [])) ?_ ⟨0, Nat.zero_le _, hR⟩ (by dsimp only; omega)
  rintro kx hkx ⟨k, hk, hinv⟩ kc hkc
  dsimp only at hkc ⊢
  rw [plenumref26_Check_b1_eq]
  by_cases hlt : k < l.length
  · have hlt' : (k : Int) < (l.length : Int) := by omega
    have hC := rcould_s m l[k].cl l[k].tm
    have hE := rmay_s m l[k].r
    rw [rA_def] at hE
    have hcase := chkG_at hlt hinv
    have step : bad26 (prevL l k) l[k] = 0 → kc ⟨[], [(0, SL (l.map laE)), (4, nA ((k : Int) + 1))]⟩ = some (TU [nA e, nA a], []) := fun h0 => by
      rcases hcase with ⟨_, h2⟩ | ⟨h1, _⟩
      · exact hkc ⟨k + 1, by omega, h2⟩ (by dsimp only; omega)
      · exact absurd h0 h1
    have stop : bad26 (prevL l k) l[k] ≠ 0 → e = bad26 (prevL l k) l[k] ∧ a = k := fun h0 => by
      rcases hcase with ⟨h1, _⟩ | ⟨_, h2⟩
      · exact absurd h1 h0
      · exact h2
    cases hc : could l[k].cl l[k].tm with
    | false =>
      rw [hc] at hC
      have hb : bad26 (prevL l k) l[k] = 1 := by unfold bad26; rw [hc]; simp
      obtain ⟨rfl, rfl⟩ := stop (by rw [hb]; omega)
      rw [hb]
      simp (config := {maxSteps := 4000000, implicitDefEqProofs := false}) (disch := omega) only [go_sem, ↓reduceIte, Nat.reduceAdd, Nat.reduceSub, Nat.reduceMul, Nat.reduceLeDiff, Nat.reduceLT, Int.reduceEq, Int.reduceNe, Int.reduceLT, Int.reduceLE, Int.reduceAdd, Int.reduceSub, Int.reduceMul, Int.reduceNeg, Nat.zero_add, Nat.add_zero, Nat.mul_one, Int.toNat_natCast, Int.natCast_zero, Int.cast_ofNat_Int, or_false, false_or, or_true, true_or, Int.reduceToNat, Nat.sub_zero, Int.natCast_nonneg, Int.toNat_zero, Bool.true_and, Bool.and_true, Bool.false_and, Bool.and_false, Bool.true_or, Bool.or_true, Bool.false_or, Bool.or_false, Bool.not_true, Bool.not_false, Bool.not_not, true_and, and_true, false_and, and_false, not_true_eq_false, not_false_eq_true, eq_self, decide_true, decide_false, ne_eq, implies_true, forall_const, true_implies, false_implies, Bool.true_eq_false, Bool.false_eq_true, reduceCtorEq, List.map_cons, List.map_nil, List.all_cons, List.all_nil, List.length_cons, List.length_nil, List.length_map, List.length_append, List.nil_append, List.cons_append, List.set_cons_zero, List.set_cons_succ, List.set_nil, List.drop_zero, List.drop_succ_cons, List.drop_nil, List.take_zero, List.take_succ_cons, List.take_nil, Option.map_some, Option.map_none, Option.isSome_some, Nat.reduceEqDiff, Nat.reduceBEq, Nat.reduceGT, List.all_append, List.all_map, Function.comp_def, decide_eq_true_eq, Bool.and_eq_true, beq_self_eq_true, or_self, and_self, ite_true, ite_false, Nat.le_refl, Bool.not_eq_true, decide_not, Bool.not_eq_true', decide_eq_false_iff_not, Bool.not_eq_false, Bool.or_eq_true, if_true, if_false, ite_self, la_it, la_len, la_sure, la_ltA, la_lt1, la_all1, la_ro, la_take, la_cl, la_tm, la_r, la_sl, rc_len, rc_sure, rc_ltA, rc_lt1, rc_all1, rc_ro, rc_take, rc_sl, la_set, rc_set, zcL_eq, zcR_eq, la_allA, la_len7, all_tt, natInt, u_nthM, hlt', w_i64, plenumref26_Check_r7_eq, plenumref26_Check_r6_eq, plenumref26_Check_r5_eq, plenumref26_Check_r4_eq, plenumref26_Check_r3_eq, plenumref26_Check_r2_eq, plenumref26_Check_r1_eq, hC, hkx]
    | true =>
    rw [hc] at hC
    cases hr : rB l[k].r with
    | false =>
      have hb : bad26 (prevL l k) l[k] = 1 := by unfold bad26; rw [hc, hr]; simp
      obtain ⟨rfl, rfl⟩ := stop (by rw [hb]; omega)
      rw [hr] at hE
      rw [hb]
      simp (config := {maxSteps := 4000000, implicitDefEqProofs := false}) (disch := omega) only [go_sem, ↓reduceIte, Nat.reduceAdd, Nat.reduceSub, Nat.reduceMul, Nat.reduceLeDiff, Nat.reduceLT, Int.reduceEq, Int.reduceNe, Int.reduceLT, Int.reduceLE, Int.reduceAdd, Int.reduceSub, Int.reduceMul, Int.reduceNeg, Nat.zero_add, Nat.add_zero, Nat.mul_one, Int.toNat_natCast, Int.natCast_zero, Int.cast_ofNat_Int, or_false, false_or, or_true, true_or, Int.reduceToNat, Nat.sub_zero, Int.natCast_nonneg, Int.toNat_zero, Bool.true_and, Bool.and_true, Bool.false_and, Bool.and_false, Bool.true_or, Bool.or_true, Bool.false_or, Bool.or_false, Bool.not_true, Bool.not_false, Bool.not_not, true_and, and_true, false_and, and_false, not_true_eq_false, not_false_eq_true, eq_self, decide_true, decide_false, ne_eq, implies_true, forall_const, true_implies, false_implies, Bool.true_eq_false, Bool.false_eq_true, reduceCtorEq, List.map_cons, List.map_nil, List.all_cons, List.all_nil, List.length_cons, List.length_nil, List.length_map, List.length_append, List.nil_append, List.cons_append, List.set_cons_zero, List.set_cons_succ, List.set_nil, List.drop_zero, List.drop_succ_cons, List.drop_nil, List.take_zero, List.take_succ_cons, List.take_nil, Option.map_some, Option.map_none, Option.isSome_some, Nat.reduceEqDiff, Nat.reduceBEq, Nat.reduceGT, List.all_append, List.all_map, Function.comp_def, decide_eq_true_eq, Bool.and_eq_true, beq_self_eq_true, or_self, and_self, ite_true, ite_false, Nat.le_refl, Bool.not_eq_true, decide_not, Bool.not_eq_true', decide_eq_false_iff_not, Bool.not_eq_false, Bool.or_eq_true, if_true, if_false, ite_self, la_it, la_len, la_sure, la_ltA, la_lt1, la_all1, la_ro, la_take, la_cl, la_tm, la_r, la_sl, rc_len, rc_sure, rc_ltA, rc_lt1, rc_all1, rc_ro, rc_take, rc_sl, la_set, rc_set, zcL_eq, zcR_eq, la_allA, la_len7, all_tt, natInt, u_nthM, hlt', w_i64, plenumref26_Check_r7_eq, plenumref26_Check_r6_eq, plenumref26_Check_r5_eq, plenumref26_Check_r4_eq, plenumref26_Check_r3_eq, plenumref26_Check_r2_eq, plenumref26_Check_r1_eq, hC, hE, hkx]
    | true =>
      rw [hr] at hE
      by_cases h0 : k = 0
      · have hk0 : ¬ (0 : Int) < (k : Int) := by omega
        have hb : bad26 (prevL l k) l[k] = 0 := by unfold bad26; rw [if_pos ⟨hc, hr⟩]; unfold prevL; rw [if_pos h0]
        have step := step hb
        simp (config := {maxSteps := 4000000, implicitDefEqProofs := false}) (disch := omega) only [go_sem, ↓reduceIte, Nat.reduceAdd, Nat.reduceSub, Nat.reduceMul, Nat.reduceLeDiff, Nat.reduceLT, Int.reduceEq, Int.reduceNe, Int.reduceLT, Int.reduceLE, Int.reduceAdd, Int.reduceSub, Int.reduceMul, Int.reduceNeg, Nat.zero_add, Nat.add_zero, Nat.mul_one, Int.toNat_natCast, Int.natCast_zero, Int.cast_ofNat_Int, or_false, false_or, or_true, true_or, Int.reduceToNat, Nat.sub_zero, Int.natCast_nonneg, Int.toNat_zero, Bool.true_and, Bool.and_true, Bool.false_and, Bool.and_false, Bool.true_or, Bool.or_true, Bool.false_or, Bool.or_false, Bool.not_true, Bool.not_false, Bool.not_not, true_and, and_true, false_and, and_false, not_true_eq_false, not_false_eq_true, eq_self, decide_true, decide_false, ne_eq, implies_true, forall_const, true_implies, false_implies, Bool.true_eq_false, Bool.false_eq_true, reduceCtorEq, List.map_cons, List.map_nil, List.all_cons, List.all_nil, List.length_cons, List.length_nil, List.length_map, List.length_append, List.nil_append, List.cons_append, List.set_cons_zero, List.set_cons_succ, List.set_nil, List.drop_zero, List.drop_succ_cons, List.drop_nil, List.take_zero, List.take_succ_cons, List.take_nil, Option.map_some, Option.map_none, Option.isSome_some, Nat.reduceEqDiff, Nat.reduceBEq, Nat.reduceGT, List.all_append, List.all_map, Function.comp_def, decide_eq_true_eq, Bool.and_eq_true, beq_self_eq_true, or_self, and_self, ite_true, ite_false, Nat.le_refl, Bool.not_eq_true, decide_not, Bool.not_eq_true', decide_eq_false_iff_not, Bool.not_eq_false, Bool.or_eq_true, if_true, if_false, ite_self, la_it, la_len, la_sure, la_ltA, la_lt1, la_all1, la_ro, la_take, la_cl, la_tm, la_r, la_sl, rc_len, rc_sure, rc_ltA, rc_lt1, rc_all1, rc_ro, rc_take, rc_sl, la_set, rc_set, zcL_eq, zcR_eq, la_allA, la_len7, all_tt, natInt, u_nthM, hlt', w_i64, plenumref26_Check_r7_eq, plenumref26_Check_r6_eq, plenumref26_Check_r5_eq, plenumref26_Check_r4_eq, plenumref26_Check_r3_eq, plenumref26_Check_r2_eq, plenumref26_Check_r1_eq, hC, hE, hk0]
        exact step
      · have hk0 : (0 : Int) < (k : Int) := by omega
        have hk1 : (k : Int) - 1 = ((k - 1 : Nat) : Int) := by omega
        have hlt1 : k - 1 < l.length := by omega
        have hlt1' : ((k - 1 : Nat) : Int) < (l.length : Int) := by omega
        have hp : prevL l k = some l[k - 1] := by unfold prevL; rw [if_neg h0, List.getElem?_eq_getElem hlt1]
        by_cases hq : l[k].cl ≤ l[k - 1].cl
        · have hb : bad26 (prevL l k) l[k] = 3 := by unfold bad26; rw [if_pos ⟨hc, hr⟩, hp]; dsimp only; rw [if_pos hq]
          obtain ⟨rfl, rfl⟩ := stop (by rw [hb]; omega)
          rw [hb]
          simp (config := {maxSteps := 4000000, implicitDefEqProofs := false}) (disch := omega) only [go_sem, ↓reduceIte, Nat.reduceAdd, Nat.reduceSub, Nat.reduceMul, Nat.reduceLeDiff, Nat.reduceLT, Int.reduceEq, Int.reduceNe, Int.reduceLT, Int.reduceLE, Int.reduceAdd, Int.reduceSub, Int.reduceMul, Int.reduceNeg, Nat.zero_add, Nat.add_zero, Nat.mul_one, Int.toNat_natCast, Int.natCast_zero, Int.cast_ofNat_Int, or_false, false_or, or_true, true_or, Int.reduceToNat, Nat.sub_zero, Int.natCast_nonneg, Int.toNat_zero, Bool.true_and, Bool.and_true, Bool.false_and, Bool.and_false, Bool.true_or, Bool.or_true, Bool.false_or, Bool.or_false, Bool.not_true, Bool.not_false, Bool.not_not, true_and, and_true, false_and, and_false, not_true_eq_false, not_false_eq_true, eq_self, decide_true, decide_false, ne_eq, implies_true, forall_const, true_implies, false_implies, Bool.true_eq_false, Bool.false_eq_true, reduceCtorEq, List.map_cons, List.map_nil, List.all_cons, List.all_nil, List.length_cons, List.length_nil, List.length_map, List.length_append, List.nil_append, List.cons_append, List.set_cons_zero, List.set_cons_succ, List.set_nil, List.drop_zero, List.drop_succ_cons, List.drop_nil, List.take_zero, List.take_succ_cons, List.take_nil, Option.map_some, Option.map_none, Option.isSome_some, Nat.reduceEqDiff, Nat.reduceBEq, Nat.reduceGT, List.all_append, List.all_map, Function.comp_def, decide_eq_true_eq, Bool.and_eq_true, beq_self_eq_true, or_self, and_self, ite_true, ite_false, Nat.le_refl, Bool.not_eq_true, decide_not, Bool.not_eq_true', decide_eq_false_iff_not, Bool.not_eq_false, Bool.or_eq_true, if_true, if_false, ite_self, la_it, la_len, la_sure, la_ltA, la_lt1, la_all1, la_ro, la_take, la_cl, la_tm, la_r, la_sl, rc_len, rc_sure, rc_ltA, rc_lt1, rc_all1, rc_ro, rc_take, rc_sl, la_set, rc_set, zcL_eq, zcR_eq, la_allA, la_len7, all_tt, natInt, u_nthM, hlt', w_i64, plenumref26_Check_r7_eq, plenumref26_Check_r6_eq, plenumref26_Check_r5_eq, plenumref26_Check_r4_eq, plenumref26_Check_r3_eq, plenumref26_Check_r2_eq, plenumref26_Check_r1_eq, hC, hE, hk0, hk1, hlt1', hq, hkx]
        · have hb : bad26 (prevL l k) l[k] = 0 := by unfold bad26; rw [if_pos ⟨hc, hr⟩, hp]; dsimp only; rw [if_neg hq]
          have step := step hb
          simp (config := {maxSteps := 4000000, implicitDefEqProofs := false}) (disch := omega) only [go_sem, ↓reduceIte, Nat.reduceAdd, Nat.reduceSub, Nat.reduceMul, Nat.reduceLeDiff, Nat.reduceLT, Int.reduceEq, Int.reduceNe, Int.reduceLT, Int.reduceLE, Int.reduceAdd, Int.reduceSub, Int.reduceMul, Int.reduceNeg, Nat.zero_add, Nat.add_zero, Nat.mul_one, Int.toNat_natCast, Int.natCast_zero, Int.cast_ofNat_Int, or_false, false_or, or_true, true_or, Int.reduceToNat, Nat.sub_zero, Int.natCast_nonneg, Int.toNat_zero, Bool.true_and, Bool.and_true, Bool.false_and, Bool.and_false, Bool.true_or, Bool.or_true, Bool.false_or, Bool.or_false, Bool.not_true, Bool.not_false, Bool.not_not, true_and, and_true, false_and, and_false, not_true_eq_false, not_false_eq_true, eq_self, decide_true, decide_false, ne_eq, implies_true, forall_const, true_implies, false_implies, Bool.true_eq_false, Bool.false_eq_true, reduceCtorEq, List.map_cons, List.map_nil, List.all_cons, List.all_nil, List.length_cons, List.length_nil, List.length_map, List.length_append, List.nil_append, List.cons_append, List.set_cons_zero, List.set_cons_succ, List.set_nil, List.drop_zero, List.drop_succ_cons, List.drop_nil, List.take_zero, List.take_succ_cons, List.take_nil, Option.map_some, Option.map_none, Option.isSome_some, Nat.reduceEqDiff, Nat.reduceBEq, Nat.reduceGT, List.all_append, List.all_map, Function.comp_def, decide_eq_true_eq, Bool.and_eq_true, beq_self_eq_true, or_self, and_self, ite_true, ite_false, Nat.le_refl, Bool.not_eq_true, decide_not, Bool.not_eq_true', decide_eq_false_iff_not, Bool.not_eq_false, Bool.or_eq_true, if_true, if_false, ite_self, la_it, la_len, la_sure, la_ltA, la_lt1, la_all1, la_ro, la_take, la_cl, la_tm, la_r, la_sl, rc_len, rc_sure, rc_ltA, rc_lt1, rc_all1, rc_ro, rc_take, rc_sl, la_set, rc_set, zcL_eq, zcR_eq, la_allA, la_len7, all_tt, natInt, u_nthM, hlt', w_i64, plenumref26_Check_r7_eq, plenumref26_Check_r6_eq, plenumref26_Check_r5_eq, plenumref26_Check_r4_eq, plenumref26_Check_r3_eq, plenumref26_Check_r2_eq, plenumref26_Check_r1_eq, hC, hE, hk0, hk1, hlt1', hq]
          exact step
  · have hlt' : ¬ (k : Int) < (l.length : Int) := by omega
    have : k = l.length := by omega
    subst this
    obtain ⟨rfl, rfl⟩ := chkG_end hinv
    simp (config := {maxSteps := 4000000, implicitDefEqProofs := false}) (disch := omega) only [go_sem, ↓reduceIte, Nat.reduceAdd, Nat.reduceSub, Nat.reduceMul, Nat.reduceLeDiff, Nat.reduceLT, Int.reduceEq, Int.reduceNe, Int.reduceLT, Int.reduceLE, Int.reduceAdd, Int.reduceSub, Int.reduceMul, Int.reduceNeg, Nat.zero_add, Nat.add_zero, Nat.mul_one, Int.toNat_natCast, Int.natCast_zero, Int.cast_ofNat_Int, or_false, false_or, or_true, true_or, Int.reduceToNat, Nat.sub_zero, Int.natCast_nonneg, Int.toNat_zero, Bool.true_and, Bool.and_true, Bool.false_and, Bool.and_false, Bool.true_or, Bool.or_true, Bool.false_or, Bool.or_false, Bool.not_true, Bool.not_false, Bool.not_not, true_and, and_true, false_and, and_false, not_true_eq_false, not_false_eq_true, eq_self, decide_true, decide_false, ne_eq, implies_true, forall_const, true_implies, false_implies, Bool.true_eq_false, Bool.false_eq_true, reduceCtorEq, List.map_cons, List.map_nil, List.all_cons, List.all_nil, List.length_cons, List.length_nil, List.length_map, List.length_append, List.nil_append, List.cons_append, List.set_cons_zero, List.set_cons_succ, List.set_nil, List.drop_zero, List.drop_succ_cons, List.drop_nil, List.take_zero, List.take_succ_cons, List.take_nil, Option.map_some, Option.map_none, Option.isSome_some, Nat.reduceEqDiff, Nat.reduceBEq, Nat.reduceGT, List.all_append, List.all_map, Function.comp_def, decide_eq_true_eq, Bool.and_eq_true, beq_self_eq_true, or_self, and_self, ite_true, ite_false, Nat.le_refl, Bool.not_eq_true, decide_not, Bool.not_eq_true', decide_eq_false_iff_not, Bool.not_eq_false, Bool.or_eq_true, if_true, if_false, ite_self, hkx, hlt', plenumref26_Check_r7_eq, plenumref26_Check_r6_eq, plenumref26_Check_r5_eq, plenumref26_Check_r4_eq, plenumref26_Check_r3_eq, plenumref26_Check_r2_eq, plenumref26_Check_r1_eq]
theorem is_s (m : Nat) (l : List La) (hm : l.length < m) (hl : l.length ≤ 34359738367) (h : ∀ x ∈ l, x.r.In) : replies_is m (lL l) = some (bA (isL l), []) := by
  have hC := check_s m l hm hl h
  rw [lL_def] at hC
  rw [replies_is_eq, lL_def]
  unfold isL
  simp (config := {maxSteps := 4000000, implicitDefEqProofs := false}) (disch := omega) only [go_sem, ↓reduceIte, Nat.reduceAdd, Nat.reduceSub, Nat.reduceMul, Nat.reduceLeDiff, Nat.reduceLT, Int.reduceEq, Int.reduceNe, Int.reduceLT, Int.reduceLE, Int.reduceAdd, Int.reduceSub, Int.reduceMul, Int.reduceNeg, Nat.zero_add, Nat.add_zero, Nat.mul_one, Int.toNat_natCast, Int.natCast_zero, Int.cast_ofNat_Int, or_false, false_or, or_true, true_or, Int.reduceToNat, Nat.sub_zero, Int.natCast_nonneg, Int.toNat_zero, Bool.true_and, Bool.and_true, Bool.false_and, Bool.and_false, Bool.true_or, Bool.or_true, Bool.false_or, Bool.or_false, Bool.not_true, Bool.not_false, Bool.not_not, true_and, and_true, false_and, and_false, not_true_eq_false, not_false_eq_true, eq_self, decide_true, decide_false, ne_eq, implies_true, forall_const, true_implies, false_implies, Bool.true_eq_false, Bool.false_eq_true, reduceCtorEq, List.map_cons, List.map_nil, List.all_cons, List.all_nil, List.length_cons, List.length_nil, List.length_map, List.length_append, List.nil_append, List.cons_append, List.set_cons_zero, List.set_cons_succ, List.set_nil, List.drop_zero, List.drop_succ_cons, List.drop_nil, List.take_zero, List.take_succ_cons, List.take_nil, Option.map_some, Option.map_none, Option.isSome_some, Nat.reduceEqDiff, Nat.reduceBEq, Nat.reduceGT, List.all_append, List.all_map, Function.comp_def, decide_eq_true_eq, Bool.and_eq_true, beq_self_eq_true, or_self, and_self, ite_true, ite_false, Nat.le_refl, Bool.not_eq_true, decide_not, Bool.not_eq_true', decide_eq_false_iff_not, Bool.not_eq_false, Bool.or_eq_true, if_true, if_false, ite_self, la_it, la_len, la_sure, la_ltA, la_lt1, la_all1, la_ro, la_take, la_cl, la_tm, la_r, la_sl, rc_len, rc_sure, rc_ltA, rc_lt1, rc_all1, rc_ro, rc_take, rc_sl, la_set, rc_set, zcL_eq, zcR_eq, la_allA, la_len7, all_tt, natInt, u_nthM, hC]
theorem ris_s (m : Nat) (l : List La) (hm : l.length < m) (hl : l.length ≤ 34359738367) : plenumref26_Is m (lL l) = some (bA (isL l), []) := by
  have hC := rcheck_s m l hm hl
  rw [lL_def] at hC
  rw [plenumref26_Is_eq, lL_def]
  unfold isL
  simp (config := {maxSteps := 4000000, implicitDefEqProofs := false}) (disch := omega) only [go_sem, ↓reduceIte, Nat.reduceAdd, Nat.reduceSub, Nat.reduceMul, Nat.reduceLeDiff, Nat.reduceLT, Int.reduceEq, Int.reduceNe, Int.reduceLT, Int.reduceLE, Int.reduceAdd, Int.reduceSub, Int.reduceMul, Int.reduceNeg, Nat.zero_add, Nat.add_zero, Nat.mul_one, Int.toNat_natCast, Int.natCast_zero, Int.cast_ofNat_Int, or_false, false_or, or_true, true_or, Int.reduceToNat, Nat.sub_zero, Int.natCast_nonneg, Int.toNat_zero, Bool.true_and, Bool.and_true, Bool.false_and, Bool.and_false, Bool.true_or, Bool.or_true, Bool.false_or, Bool.or_false, Bool.not_true, Bool.not_false, Bool.not_not, true_and, and_true, false_and, and_false, not_true_eq_false, not_false_eq_true, eq_self, decide_true, decide_false, ne_eq, implies_true, forall_const, true_implies, false_implies, Bool.true_eq_false, Bool.false_eq_true, reduceCtorEq, List.map_cons, List.map_nil, List.all_cons, List.all_nil, List.length_cons, List.length_nil, List.length_map, List.length_append, List.nil_append, List.cons_append, List.set_cons_zero, List.set_cons_succ, List.set_nil, List.drop_zero, List.drop_succ_cons, List.drop_nil, List.take_zero, List.take_succ_cons, List.take_nil, Option.map_some, Option.map_none, Option.isSome_some, Nat.reduceEqDiff, Nat.reduceBEq, Nat.reduceGT, List.all_append, List.all_map, Function.comp_def, decide_eq_true_eq, Bool.and_eq_true, beq_self_eq_true, or_self, and_self, ite_true, ite_false, Nat.le_refl, Bool.not_eq_true, decide_not, Bool.not_eq_true', decide_eq_false_iff_not, Bool.not_eq_false, Bool.or_eq_true, if_true, if_false, ite_self, la_it, la_len, la_sure, la_ltA, la_lt1, la_all1, la_ro, la_take, la_cl, la_tm, la_r, la_sl, rc_len, rc_sure, rc_ltA, rc_lt1, rc_all1, rc_ro, rc_take, rc_sl, la_set, rc_set, zcL_eq, zcR_eq, la_allA, la_len7, all_tt, natInt, u_nthM, hC]
end Go.Proofs.Ytchncgdjefbmfaa

namespace Go.Proofs.Ytchncgdjefbmfaa
open Go.RowKit
set_option linter.unusedVariables false
set_option linter.unusedSimpArgs false
set_option maxRecDepth 20000
def Inc (l : List La) : Prop := ∀ (i j : Nat) (hj : j < l.length) (hi : i < j), (l[i]'(Nat.lt_trans hi hj)).cl < l[j].cl
def fndN (l : List La) (q : Int) : Nat := l.findIdx fun x => decide (q ≤ x.cl)
theorem fndN_le (l : List La) (q : Int) : fndN l q ≤ l.length := List.findIdx_le_length
theorem fndN_at {l : List La} {q : Int} {k : Nat} (hk : k ≤ l.length) (h1 : ∀ (i : Nat) (h : i < k), (l[i]'(Nat.lt_of_lt_of_le h hk)).cl < q) (h2 : ∀ h : k < l.length, q ≤ l[k].cl) : fndN l q = k := by
  unfold fndN
  rcases Nat.lt_or_ge k l.length with hlt | hge
  · rw [List.findIdx_eq hlt]
    refine ⟨by simpa using h2 hlt, fun j hj => ?_⟩
    have := h1 j hj
    simp
    omega
  · have : k = l.length := by omega
    subst this
    rw [List.findIdx_eq_length]
    intro x hx
    obtain ⟨i, hi, rfl⟩ := List.getElem_of_mem hx
    have := h1 i hi
    simp
    omega
theorem fnd_lo {l : List La} {q : Int} {i : Nat} (hi : i < l.length) (h : i < fndN l q) : l[i].cl < q := by
  have := List.not_of_lt_findIdx h
  simp at this
  omega
theorem fnd_hi {l : List La} {q : Int} (h : fndN l q < l.length) : q ≤ l[fndN l q].cl := by
  have := List.findIdx_getElem (p := fun x : La => decide (q ≤ x.cl)) (xs := l) (w := h)
  exact of_decide_eq_true this
theorem fnd_eq {l : List La} (hinc : Inc l) {q : Int} {k : Nat} (hk : k < l.length) (h : l[k].cl = q) : fndN l q = k :=
  fndN_at (Nat.le_of_lt hk) (fun i hi => by have := hinc i k hk hi; omega) (fun _ => by omega)
theorem bad_0 {w : Option La} {x : La} (h : bad26 w x = 0) : could x.cl x.tm = true ∧ rB x.r = true ∧ ∀ y, w = some y → y.cl < x.cl := by
  unfold bad26 at h
  split at h
  · rename_i hn
    refine ⟨hn.1, hn.2, fun y hy => ?_⟩
    subst hy
    dsimp only at h
    split at h
    · simp at h
    · omega
  · simp at h
theorem chkG_ok : ∀ (l : List La) (w : Option La) (k : Nat), (chkG w k l).1 = 0 → (∀ x ∈ l, could x.cl x.tm = true ∧ rB x.r = true) ∧ l.Pairwise (fun a b => a.cl < b.cl) ∧ ∀ y, w = some y → ∀ x ∈ l, y.cl < x.cl
  | [], w, k, h => ⟨fun x hx => absurd hx List.not_mem_nil, List.Pairwise.nil, fun y _ x hx => absurd hx List.not_mem_nil⟩
  | x :: r, w, k, h => by
    unfold chkG at h
    split at h
    · rename_i hb
      obtain ⟨b1, b2, b3⟩ := bad_0 hb
      obtain ⟨i1, i2, i3⟩ := chkG_ok r (some x) (k + 1) h
      refine ⟨fun y hy => ?_, List.Pairwise.cons (fun y hy => i3 x rfl y hy) i2, fun y hy z hz => ?_⟩
      · rcases List.mem_cons.1 hy with e | e
        · subst e; exact ⟨b1, b2⟩
        · exact i1 y e
      · rcases List.mem_cons.1 hz with e | e
        · subst e; exact b3 y hy
        · have := i3 x rfl z e; have := b3 y hy; omega
    · rename_i hb
      exact absurd h hb
theorem chkG_of : ∀ (l : List La) (w : Option La) (k : Nat), (∀ x ∈ l, could x.cl x.tm = true ∧ rB x.r = true) → l.Pairwise (fun a b => a.cl < b.cl) → (∀ y, w = some y → ∀ x ∈ l, y.cl < x.cl) → (chkG w k l).1 = 0
  | [], w, k, _, _, _ => rfl
  | x :: r, w, k, h1, h2, h3 => by
    have hb : bad26 w x = 0 := by
      unfold bad26
      rw [if_pos (h1 x (List.mem_cons_self ..))]
      cases w with
      | none => rfl
      | some y =>
        have := h3 y rfl x (List.mem_cons_self ..)
        dsimp only
        rw [if_neg (by omega)]
    unfold chkG
    rw [if_pos hb]
    rw [List.pairwise_cons] at h2
    exact chkG_of r (some x) (k + 1) (fun y hy => h1 y (List.mem_cons_of_mem _ hy)) h2.2 fun y hy z hz => by
      injection hy with hy; subst hy
      exact h2.1 z hz
theorem isL_iff {l : List La} : isL l = true ↔ (∀ x ∈ l, could x.cl x.tm = true ∧ rB x.r = true) ∧ l.Pairwise (fun a b => a.cl < b.cl) := by
  unfold isL chkL
  rw [decide_eq_true_eq]
  exact ⟨fun h => ⟨(chkG_ok l none 0 h).1, (chkG_ok l none 0 h).2.1⟩, fun h => chkG_of l none 0 h.1 h.2 fun y hy => by cases hy⟩
theorem isL_inc {l : List La} (h : isL l = true) : Inc l := fun i j hj hi => List.pairwise_iff_getElem.1 (isL_iff.1 h).2 i j (by omega) hj hi
theorem could_cl {c t : Int} (h : could c t = true) : 0 ≤ c ∧ c < 256 ∧ 1 ≤ t ∧ t ≤ 2147483647 := by
  unfold could at h
  simp only [Bool.and_eq_true, decide_eq_true_eq] at h
  exact ⟨h.1, h.2.1, h.2.2.1, h.2.2.2⟩
theorem inc_ge {l : List La} (hinc : Inc l) (h0 : ∀ x ∈ l, 0 ≤ x.cl) : ∀ (i : Nat) (hi : i < l.length), (i : Int) ≤ l[i].cl
  | 0, hi => h0 _ (List.getElem_mem hi)
  | i + 1, hi => by
    have := inc_ge hinc h0 i (by omega)
    have := hinc i (i + 1) hi (by omega)
    omega
theorem isL_len {l : List La} (h : isL l = true) : l.length ≤ 256 := by
  rcases Nat.lt_or_ge 256 l.length with q | q
  · exfalso
    have h1 := inc_ge (isL_inc h) (fun x hx => (could_cl ((isL_iff.1 h).1 x hx).1).1) 256 q
    have h2 := could_cl ((isL_iff.1 h).1 _ (List.getElem_mem q)).1
    omega
  · exact q
def thereB (l : List La) (q : Int) : Bool := match l[fndN l q]? with | some x => decide (x.cl = q) | none => false
theorem callV_1 {R : Type} {m d : Nat} {H : List AObj} {K : AV → List AObj → Option R} : callVE (sort_Search_env m) (CL (.func 55) 0 [OP 0 0, OP 1 0]) [nA d] H K = keepE (replies_find_1_t m [nA d, OP 0 0, OP 1 0] H) K := _root_.id rfl
theorem find_s (m : Nat) (l : List La) (q : Int) (hm : 300 < m) (hl : l.length ≤ 256) (hinc : Inc l) : replies_find m (lL l) (nA q) = some (TU [nA (fndN l q), bA (thereB l q)], []) := by
  rw [replies_find_eq, lL_def]
  have hS : sort_Search m (nA l.length) (CL (.func 55) 0 [OP 0 0, OP 1 0]) [⟨1, ty_sl_api_Last, 0, [SL (l.map laE)]⟩, ⟨1, ty_int, 0, [nA q]⟩] = some (nA (fndN l q), [⟨1, ty_sl_api_Last, 0, [SL (l.map laE)]⟩, ⟨1, ty_int, 0, [nA q]⟩]) := by
    rw [sort_Search_eq]
    refine iter_go (ι := {p : Nat × Nat // p.1 ≤ p.2 ∧ p.2 ≤ l.length ∧ (∀ (i : Nat) (h : i < l.length), i < p.1 → l[i].cl < q) ∧ (∀ (i : Nat) (h : i < l.length), p.2 ≤ i → q ≤ l[i].cl)}) (fun p => ⟨[⟨1, ty_sl_api_Last, 0, [SL (l.map laE)]⟩, ⟨1, ty_int, 0, [nA q]⟩], [(1, CL (.func 55) 0 [OP 0 0, OP 1 0]), (5, nA p.1.1), (6, nA p.1.2)]⟩) (fun p => p.1.2 - p.1.1) (fun _ => some (nA (fndN l q), ([⟨1, ty_sl_api_Last, 0, [SL (l.map laE)]⟩, ⟨1, ty_int, 0, [nA q]⟩] : List AObj))) ?_ ⟨(0, l.length), Nat.zero_le _, Nat.le_refl _, (by intro i h h2; omega), (by intro i h h2; dsimp only at h2; omega)⟩ (by dsimp only; omega)
    rintro kx hkx ⟨⟨lo, hi⟩, h1, h2, h3, h4⟩ kc hkc
    dsimp only at hkc h1 h2 h3 h4 ⊢
    rw [sort_Search_b1_eq]
    by_cases hlt : lo < hi
    · have hlt' : (lo : Int) < (hi : Int) := by omega
      obtain ⟨d, hd⟩ : ∃ d : Nat, d = (lo + hi) / 2 := ⟨_, rfl⟩
      have hdl : d < l.length := by omega
      have hdl' : (d : Int) < (l.length : Int) := by omega
      have hdd : ((lo : Int) + (hi : Int)) / 2 = (d : Int) := by omega
      have hw : IntKind.i64.wrap ((IntKind.u64.wrap ((lo : Int) + (hi : Int))).fdiv (2 ^ min 1 64)) = (d : Int) := by
        rw [w_u64 (by omega) (by omega), Int.fdiv_eq_ediv_of_nonneg _ (by decide)]
        show IntKind.i64.wrap (((lo : Int) + (hi : Int)) / 2) = _
        rw [hdd, w_i64 (by omega) (by omega)]
      have hF : replies_find_1_t m [nA d, OP 0 0, OP 1 0] [⟨1, ty_sl_api_Last, 0, [SL (l.map laE)]⟩, ⟨1, ty_int, 0, [nA q]⟩] = some (bA (decide (q ≤ l[d].cl)), [⟨1, ty_sl_api_Last, 0, [SL (l.map laE)]⟩, ⟨1, ty_int, 0, [nA q]⟩]) := by
        show replies_find_1 m _ _ _ _ = _
        rw [replies_find_1_eq]
        simp (config := {maxSteps := 4000000, implicitDefEqProofs := false}) (disch := omega) only [go_sem, ↓reduceIte, Nat.reduceAdd, Nat.reduceSub, Nat.reduceMul, Nat.reduceLeDiff, Nat.reduceLT, Int.reduceEq, Int.reduceNe, Int.reduceLT, Int.reduceLE, Int.reduceAdd, Int.reduceSub, Int.reduceMul, Int.reduceNeg, Nat.zero_add, Nat.add_zero, Nat.mul_one, Int.toNat_natCast, Int.natCast_zero, Int.cast_ofNat_Int, or_false, false_or, or_true, true_or, Int.reduceToNat, Nat.sub_zero, Int.natCast_nonneg, Int.toNat_zero, Bool.true_and, Bool.and_true, Bool.false_and, Bool.and_false, Bool.true_or, Bool.or_true, Bool.false_or, Bool.or_false, Bool.not_true, Bool.not_false, Bool.not_not, true_and, and_true, false_and, and_false, not_true_eq_false, not_false_eq_true, eq_self, decide_true, decide_false, ne_eq, implies_true, forall_const, true_implies, false_implies, Bool.true_eq_false, Bool.false_eq_true, reduceCtorEq, List.map_cons, List.map_nil, List.all_cons, List.all_nil, List.length_cons, List.length_nil, List.length_map, List.length_append, List.nil_append, List.cons_append, List.set_cons_zero, List.set_cons_succ, List.set_nil, List.drop_zero, List.drop_succ_cons, List.drop_nil, List.take_zero, List.take_succ_cons, List.take_nil, Option.map_some, Option.map_none, Option.isSome_some, Nat.reduceEqDiff, Nat.reduceBEq, Nat.reduceGT, List.all_append, List.all_map, Function.comp_def, decide_eq_true_eq, Bool.and_eq_true, beq_self_eq_true, or_self, and_self, ite_true, ite_false, Nat.le_refl, Bool.not_eq_true, decide_not, Bool.not_eq_true', decide_eq_false_iff_not, Bool.not_eq_false, Bool.or_eq_true, if_true, if_false, ite_self, natInt, u_nthM, la_it, hdl', la_len, la_cl]
      by_cases hq : q ≤ l[d].cl
      · have step := hkc ⟨(lo, d), by omega, by omega, h3, fun i h hi' => by
          rcases Nat.lt_or_ge d i with e | e
          · have := hinc d i h e; omega
          · have : i = d := by omega
            subst this; exact hq⟩ (by dsimp only; omega)
        simp (config := {maxSteps := 4000000, implicitDefEqProofs := false}) (disch := omega) only [go_sem, ↓reduceIte, Nat.reduceAdd, Nat.reduceSub, Nat.reduceMul, Nat.reduceLeDiff, Nat.reduceLT, Int.reduceEq, Int.reduceNe, Int.reduceLT, Int.reduceLE, Int.reduceAdd, Int.reduceSub, Int.reduceMul, Int.reduceNeg, Nat.zero_add, Nat.add_zero, Nat.mul_one, Int.toNat_natCast, Int.natCast_zero, Int.cast_ofNat_Int, or_false, false_or, or_true, true_or, Int.reduceToNat, Nat.sub_zero, Int.natCast_nonneg, Int.toNat_zero, Bool.true_and, Bool.and_true, Bool.false_and, Bool.and_false, Bool.true_or, Bool.or_true, Bool.false_or, Bool.or_false, Bool.not_true, Bool.not_false, Bool.not_not, true_and, and_true, false_and, and_false, not_true_eq_false, not_false_eq_true, eq_self, decide_true, decide_false, ne_eq, implies_true, forall_const, true_implies, false_implies, Bool.true_eq_false, Bool.false_eq_true, reduceCtorEq, List.map_cons, List.map_nil, List.all_cons, List.all_nil, List.length_cons, List.length_nil, List.length_map, List.length_append, List.nil_append, List.cons_append, List.set_cons_zero, List.set_cons_succ, List.set_nil, List.drop_zero, List.drop_succ_cons, List.drop_nil, List.take_zero, List.take_succ_cons, List.take_nil, Option.map_some, Option.map_none, Option.isSome_some, Nat.reduceEqDiff, Nat.reduceBEq, Nat.reduceGT, List.all_append, List.all_map, Function.comp_def, decide_eq_true_eq, Bool.and_eq_true, beq_self_eq_true, or_self, and_self, ite_true, ite_false, Nat.le_refl, Bool.not_eq_true, decide_not, Bool.not_eq_true', decide_eq_false_iff_not, Bool.not_eq_false, Bool.or_eq_true, if_true, if_false, ite_self, hlt', hw, w_i64, callV_1, hF, hq]
        exact step
      · have step := hkc ⟨(d + 1, hi), by omega, h2, (fun i h hi' => by
          rcases Nat.lt_or_ge i d with e | e
          · have := hinc i d hdl e; omega
          · have : i = d := by omega
            subst this; omega), h4⟩ (by dsimp only; omega)
        simp (config := {maxSteps := 4000000, implicitDefEqProofs := false}) (disch := omega) only [go_sem, ↓reduceIte, Nat.reduceAdd, Nat.reduceSub, Nat.reduceMul, Nat.reduceLeDiff, Nat.reduceLT, Int.reduceEq, Int.reduceNe, Int.reduceLT, Int.reduceLE, Int.reduceAdd, Int.reduceSub, Int.reduceMul, Int.reduceNeg, Nat.zero_add, Nat.add_zero, Nat.mul_one, Int.toNat_natCast, Int.natCast_zero, Int.cast_ofNat_Int, or_false, false_or, or_true, true_or, Int.reduceToNat, Nat.sub_zero, Int.natCast_nonneg, Int.toNat_zero, Bool.true_and, Bool.and_true, Bool.false_and, Bool.and_false, Bool.true_or, Bool.or_true, Bool.false_or, Bool.or_false, Bool.not_true, Bool.not_false, Bool.not_not, true_and, and_true, false_and, and_false, not_true_eq_false, not_false_eq_true, eq_self, decide_true, decide_false, ne_eq, implies_true, forall_const, true_implies, false_implies, Bool.true_eq_false, Bool.false_eq_true, reduceCtorEq, List.map_cons, List.map_nil, List.all_cons, List.all_nil, List.length_cons, List.length_nil, List.length_map, List.length_append, List.nil_append, List.cons_append, List.set_cons_zero, List.set_cons_succ, List.set_nil, List.drop_zero, List.drop_succ_cons, List.drop_nil, List.take_zero, List.take_succ_cons, List.take_nil, Option.map_some, Option.map_none, Option.isSome_some, Nat.reduceEqDiff, Nat.reduceBEq, Nat.reduceGT, List.all_append, List.all_map, Function.comp_def, decide_eq_true_eq, Bool.and_eq_true, beq_self_eq_true, or_self, and_self, ite_true, ite_false, Nat.le_refl, Bool.not_eq_true, decide_not, Bool.not_eq_true', decide_eq_false_iff_not, Bool.not_eq_false, Bool.or_eq_true, if_true, if_false, ite_self, hlt', hw, w_i64, callV_1, hF, hq]
        exact step
    · have hlt' : ¬ (lo : Int) < (hi : Int) := by omega
      have : lo = hi := by omega
      subst this
      have hf := fndN_at (q := q) h2 (fun i h => h3 i (by omega) h) (fun h => h4 lo h (Nat.le_refl _))
      rw [hf]
      simp (config := {maxSteps := 4000000, implicitDefEqProofs := false}) (disch := omega) only [go_sem, ↓reduceIte, Nat.reduceAdd, Nat.reduceSub, Nat.reduceMul, Nat.reduceLeDiff, Nat.reduceLT, Int.reduceEq, Int.reduceNe, Int.reduceLT, Int.reduceLE, Int.reduceAdd, Int.reduceSub, Int.reduceMul, Int.reduceNeg, Nat.zero_add, Nat.add_zero, Nat.mul_one, Int.toNat_natCast, Int.natCast_zero, Int.cast_ofNat_Int, or_false, false_or, or_true, true_or, Int.reduceToNat, Nat.sub_zero, Int.natCast_nonneg, Int.toNat_zero, Bool.true_and, Bool.and_true, Bool.false_and, Bool.and_false, Bool.true_or, Bool.or_true, Bool.false_or, Bool.or_false, Bool.not_true, Bool.not_false, Bool.not_not, true_and, and_true, false_and, and_false, not_true_eq_false, not_false_eq_true, eq_self, decide_true, decide_false, ne_eq, implies_true, forall_const, true_implies, false_implies, Bool.true_eq_false, Bool.false_eq_true, reduceCtorEq, List.map_cons, List.map_nil, List.all_cons, List.all_nil, List.length_cons, List.length_nil, List.length_map, List.length_append, List.nil_append, List.cons_append, List.set_cons_zero, List.set_cons_succ, List.set_nil, List.drop_zero, List.drop_succ_cons, List.drop_nil, List.take_zero, List.take_succ_cons, List.take_nil, Option.map_some, Option.map_none, Option.isSome_some, Nat.reduceEqDiff, Nat.reduceBEq, Nat.reduceGT, List.all_append, List.all_map, Function.comp_def, decide_eq_true_eq, Bool.and_eq_true, beq_self_eq_true, or_self, and_self, ite_true, ite_false, Nat.le_refl, Bool.not_eq_true, decide_not, Bool.not_eq_true', decide_eq_false_iff_not, Bool.not_eq_false, Bool.or_eq_true, if_true, if_false, ite_self, hlt', hkx, sort_Search_r1_eq]
  have hfl := fndN_le l q
  unfold thereB
  generalize fndN l q = p at hS hfl
  by_cases hp : p < l.length
  · have hp' : (p : Int) < (l.length : Int) := by omega
    rw [List.getElem?_eq_getElem hp]
    simp (config := {maxSteps := 4000000, implicitDefEqProofs := false}) (disch := omega) only [go_sem, ↓reduceIte, Nat.reduceAdd, Nat.reduceSub, Nat.reduceMul, Nat.reduceLeDiff, Nat.reduceLT, Int.reduceEq, Int.reduceNe, Int.reduceLT, Int.reduceLE, Int.reduceAdd, Int.reduceSub, Int.reduceMul, Int.reduceNeg, Nat.zero_add, Nat.add_zero, Nat.mul_one, Int.toNat_natCast, Int.natCast_zero, Int.cast_ofNat_Int, or_false, false_or, or_true, true_or, Int.reduceToNat, Nat.sub_zero, Int.natCast_nonneg, Int.toNat_zero, Bool.true_and, Bool.and_true, Bool.false_and, Bool.and_false, Bool.true_or, Bool.or_true, Bool.false_or, Bool.or_false, Bool.not_true, Bool.not_false, Bool.not_not, true_and, and_true, false_and, and_false, not_true_eq_false, not_false_eq_true, eq_self, decide_true, decide_false, ne_eq, implies_true, forall_const, true_implies, false_implies, Bool.true_eq_false, Bool.false_eq_true, reduceCtorEq, List.map_cons, List.map_nil, List.all_cons, List.all_nil, List.length_cons, List.length_nil, List.length_map, List.length_append, List.nil_append, List.cons_append, List.set_cons_zero, List.set_cons_succ, List.set_nil, List.drop_zero, List.drop_succ_cons, List.drop_nil, List.take_zero, List.take_succ_cons, List.take_nil, Option.map_some, Option.map_none, Option.isSome_some, Nat.reduceEqDiff, Nat.reduceBEq, Nat.reduceGT, List.all_append, List.all_map, Function.comp_def, decide_eq_true_eq, Bool.and_eq_true, beq_self_eq_true, or_self, and_self, ite_true, ite_false, Nat.le_refl, Bool.not_eq_true, decide_not, Bool.not_eq_true', decide_eq_false_iff_not, Bool.not_eq_false, Bool.or_eq_true, if_true, if_false, ite_self, la_it, la_len, la_sure, la_ltA, la_lt1, la_all1, la_ro, la_take, la_cl, la_tm, la_r, la_sl, rc_len, rc_sure, rc_ltA, rc_lt1, rc_all1, rc_ro, rc_take, rc_sl, la_set, rc_set, zcL_eq, zcR_eq, la_allA, la_len7, all_tt, natInt, u_nthM, hS, hp']
  · have hp' : ¬ (p : Int) < (l.length : Int) := by omega
    rw [List.getElem?_eq_none (by omega)]
    simp (config := {maxSteps := 4000000, implicitDefEqProofs := false}) (disch := omega) only [go_sem, ↓reduceIte, Nat.reduceAdd, Nat.reduceSub, Nat.reduceMul, Nat.reduceLeDiff, Nat.reduceLT, Int.reduceEq, Int.reduceNe, Int.reduceLT, Int.reduceLE, Int.reduceAdd, Int.reduceSub, Int.reduceMul, Int.reduceNeg, Nat.zero_add, Nat.add_zero, Nat.mul_one, Int.toNat_natCast, Int.natCast_zero, Int.cast_ofNat_Int, or_false, false_or, or_true, true_or, Int.reduceToNat, Nat.sub_zero, Int.natCast_nonneg, Int.toNat_zero, Bool.true_and, Bool.and_true, Bool.false_and, Bool.and_false, Bool.true_or, Bool.or_true, Bool.false_or, Bool.or_false, Bool.not_true, Bool.not_false, Bool.not_not, true_and, and_true, false_and, and_false, not_true_eq_false, not_false_eq_true, eq_self, decide_true, decide_false, ne_eq, implies_true, forall_const, true_implies, false_implies, Bool.true_eq_false, Bool.false_eq_true, reduceCtorEq, List.map_cons, List.map_nil, List.all_cons, List.all_nil, List.length_cons, List.length_nil, List.length_map, List.length_append, List.nil_append, List.cons_append, List.set_cons_zero, List.set_cons_succ, List.set_nil, List.drop_zero, List.drop_succ_cons, List.drop_nil, List.take_zero, List.take_succ_cons, List.take_nil, Option.map_some, Option.map_none, Option.isSome_some, Nat.reduceEqDiff, Nat.reduceBEq, Nat.reduceGT, List.all_append, List.all_map, Function.comp_def, decide_eq_true_eq, Bool.and_eq_true, beq_self_eq_true, or_self, and_self, ite_true, ite_false, Nat.le_refl, Bool.not_eq_true, decide_not, Bool.not_eq_true', decide_eq_false_iff_not, Bool.not_eq_false, Bool.or_eq_true, if_true, if_false, ite_self, la_it, la_len, la_sure, la_ltA, la_lt1, la_all1, la_ro, la_take, la_cl, la_tm, la_r, la_sl, rc_len, rc_sure, rc_ltA, rc_lt1, rc_all1, rc_ro, rc_take, rc_sl, la_set, rc_set, zcL_eq, zcR_eq, la_allA, la_len7, all_tt, natInt, u_nthM, hS, hp']
def askA (l : List La) (c t : Int) : Rs × Int := if isL l = true ∧ could c t = true then (match l[fndN l c]? with
  | some x => if x.cl = c then (if x.tm < t then (Rs.zero, 6) else if t < x.tm then (Rs.zero, 18) else (x.r, 0)) else (Rs.zero, 6)
  | none => (Rs.zero, 6)) else (Rs.zero, 1)
theorem ask_s (m : Nat) (l : List La) (c t : Int) (hm : 300 < m) (hlm : l.length < m) (hl : l.length ≤ 34359738367) (h : ∀ x ∈ l, x.r.In) : replies_Ask m (lL l) (nA c) (nA t) = some (TU [rA (askA l c t).1, nA (askA l c t).2], []) := by
  have hI := is_s m l hlm hl h
  have hC := could_s m c t
  rw [lL_def] at hI
  rw [replies_Ask_eq, lL_def]
  unfold askA
  cases hi : isL l with
  | false =>
    rw [hi] at hI
    simp (config := {maxSteps := 4000000, implicitDefEqProofs := false}) (disch := omega) only [go_sem, ↓reduceIte, Nat.reduceAdd, Nat.reduceSub, Nat.reduceMul, Nat.reduceLeDiff, Nat.reduceLT, Int.reduceEq, Int.reduceNe, Int.reduceLT, Int.reduceLE, Int.reduceAdd, Int.reduceSub, Int.reduceMul, Int.reduceNeg, Nat.zero_add, Nat.add_zero, Nat.mul_one, Int.toNat_natCast, Int.natCast_zero, Int.cast_ofNat_Int, or_false, false_or, or_true, true_or, Int.reduceToNat, Nat.sub_zero, Int.natCast_nonneg, Int.toNat_zero, Bool.true_and, Bool.and_true, Bool.false_and, Bool.and_false, Bool.true_or, Bool.or_true, Bool.false_or, Bool.or_false, Bool.not_true, Bool.not_false, Bool.not_not, true_and, and_true, false_and, and_false, not_true_eq_false, not_false_eq_true, eq_self, decide_true, decide_false, ne_eq, implies_true, forall_const, true_implies, false_implies, Bool.true_eq_false, Bool.false_eq_true, reduceCtorEq, List.map_cons, List.map_nil, List.all_cons, List.all_nil, List.length_cons, List.length_nil, List.length_map, List.length_append, List.nil_append, List.cons_append, List.set_cons_zero, List.set_cons_succ, List.set_nil, List.drop_zero, List.drop_succ_cons, List.drop_nil, List.take_zero, List.take_succ_cons, List.take_nil, Option.map_some, Option.map_none, Option.isSome_some, Nat.reduceEqDiff, Nat.reduceBEq, Nat.reduceGT, List.all_append, List.all_map, Function.comp_def, decide_eq_true_eq, Bool.and_eq_true, beq_self_eq_true, or_self, and_self, ite_true, ite_false, Nat.le_refl, Bool.not_eq_true, decide_not, Bool.not_eq_true', decide_eq_false_iff_not, Bool.not_eq_false, Bool.or_eq_true, if_true, if_false, ite_self, la_it, la_len, la_sure, la_ltA, la_lt1, la_all1, la_ro, la_take, la_cl, la_tm, la_r, la_sl, rc_len, rc_sure, rc_ltA, rc_lt1, rc_all1, rc_ro, rc_take, rc_sl, la_set, rc_set, zcL_eq, zcR_eq, la_allA, la_len7, all_tt, natInt, u_nthM, hI, rA_def, rc_b0, replies_Ask_r1_eq]
  | true =>
  rw [hi] at hI
  cases hc : could c t with
  | false =>
    rw [hc] at hC
    simp (config := {maxSteps := 4000000, implicitDefEqProofs := false}) (disch := omega) only [go_sem, ↓reduceIte, Nat.reduceAdd, Nat.reduceSub, Nat.reduceMul, Nat.reduceLeDiff, Nat.reduceLT, Int.reduceEq, Int.reduceNe, Int.reduceLT, Int.reduceLE, Int.reduceAdd, Int.reduceSub, Int.reduceMul, Int.reduceNeg, Nat.zero_add, Nat.add_zero, Nat.mul_one, Int.toNat_natCast, Int.natCast_zero, Int.cast_ofNat_Int, or_false, false_or, or_true, true_or, Int.reduceToNat, Nat.sub_zero, Int.natCast_nonneg, Int.toNat_zero, Bool.true_and, Bool.and_true, Bool.false_and, Bool.and_false, Bool.true_or, Bool.or_true, Bool.false_or, Bool.or_false, Bool.not_true, Bool.not_false, Bool.not_not, true_and, and_true, false_and, and_false, not_true_eq_false, not_false_eq_true, eq_self, decide_true, decide_false, ne_eq, implies_true, forall_const, true_implies, false_implies, Bool.true_eq_false, Bool.false_eq_true, reduceCtorEq, List.map_cons, List.map_nil, List.all_cons, List.all_nil, List.length_cons, List.length_nil, List.length_map, List.length_append, List.nil_append, List.cons_append, List.set_cons_zero, List.set_cons_succ, List.set_nil, List.drop_zero, List.drop_succ_cons, List.drop_nil, List.take_zero, List.take_succ_cons, List.take_nil, Option.map_some, Option.map_none, Option.isSome_some, Nat.reduceEqDiff, Nat.reduceBEq, Nat.reduceGT, List.all_append, List.all_map, Function.comp_def, decide_eq_true_eq, Bool.and_eq_true, beq_self_eq_true, or_self, and_self, ite_true, ite_false, Nat.le_refl, Bool.not_eq_true, decide_not, Bool.not_eq_true', decide_eq_false_iff_not, Bool.not_eq_false, Bool.or_eq_true, if_true, if_false, ite_self, la_it, la_len, la_sure, la_ltA, la_lt1, la_all1, la_ro, la_take, la_cl, la_tm, la_r, la_sl, rc_len, rc_sure, rc_ltA, rc_lt1, rc_all1, rc_ro, rc_take, rc_sl, la_set, rc_set, zcL_eq, zcR_eq, la_allA, la_len7, all_tt, natInt, u_nthM, hI, hC, rA_def, rc_b0, replies_Ask_r1_eq]
  | true =>
  rw [hc] at hC
  have h8 := isL_len hi
  have hF := find_s m l c hm h8 (isL_inc hi)
  rw [lL_def] at hF
  have hfl := fndN_le l c
  unfold thereB at hF
  generalize fndN l c = p at hF hfl
  by_cases hp : p < l.length
  · have hp' : (p : Int) < (l.length : Int) := by omega
    rw [List.getElem?_eq_getElem hp] at hF ⊢
    dsimp only at hF ⊢
    by_cases hx : l[p].cl = c
    · by_cases h1 : l[p].tm < t
      · simp (config := {maxSteps := 4000000, implicitDefEqProofs := false}) (disch := omega) only [go_sem, ↓reduceIte, Nat.reduceAdd, Nat.reduceSub, Nat.reduceMul, Nat.reduceLeDiff, Nat.reduceLT, Int.reduceEq, Int.reduceNe, Int.reduceLT, Int.reduceLE, Int.reduceAdd, Int.reduceSub, Int.reduceMul, Int.reduceNeg, Nat.zero_add, Nat.add_zero, Nat.mul_one, Int.toNat_natCast, Int.natCast_zero, Int.cast_ofNat_Int, or_false, false_or, or_true, true_or, Int.reduceToNat, Nat.sub_zero, Int.natCast_nonneg, Int.toNat_zero, Bool.true_and, Bool.and_true, Bool.false_and, Bool.and_false, Bool.true_or, Bool.or_true, Bool.false_or, Bool.or_false, Bool.not_true, Bool.not_false, Bool.not_not, true_and, and_true, false_and, and_false, not_true_eq_false, not_false_eq_true, eq_self, decide_true, decide_false, ne_eq, implies_true, forall_const, true_implies, false_implies, Bool.true_eq_false, Bool.false_eq_true, reduceCtorEq, List.map_cons, List.map_nil, List.all_cons, List.all_nil, List.length_cons, List.length_nil, List.length_map, List.length_append, List.nil_append, List.cons_append, List.set_cons_zero, List.set_cons_succ, List.set_nil, List.drop_zero, List.drop_succ_cons, List.drop_nil, List.take_zero, List.take_succ_cons, List.take_nil, Option.map_some, Option.map_none, Option.isSome_some, Nat.reduceEqDiff, Nat.reduceBEq, Nat.reduceGT, List.all_append, List.all_map, Function.comp_def, decide_eq_true_eq, Bool.and_eq_true, beq_self_eq_true, or_self, and_self, ite_true, ite_false, Nat.le_refl, Bool.not_eq_true, decide_not, Bool.not_eq_true', decide_eq_false_iff_not, Bool.not_eq_false, Bool.or_eq_true, if_true, if_false, ite_self, la_it, la_len, la_sure, la_ltA, la_lt1, la_all1, la_ro, la_take, la_cl, la_tm, la_r, la_sl, rc_len, rc_sure, rc_ltA, rc_lt1, rc_all1, rc_ro, rc_take, rc_sl, la_set, rc_set, zcL_eq, zcR_eq, la_allA, la_len7, all_tt, natInt, u_nthM, hI, hC, hF, hp', hx, h1, rA_def, rc_b0, replies_Ask_r4_eq, replies_Ask_r3_eq, replies_Ask_r2_eq, replies_Ask_r1_eq]
      · by_cases h2 : t < l[p].tm
        · simp (config := {maxSteps := 4000000, implicitDefEqProofs := false}) (disch := omega) only [go_sem, ↓reduceIte, Nat.reduceAdd, Nat.reduceSub, Nat.reduceMul, Nat.reduceLeDiff, Nat.reduceLT, Int.reduceEq, Int.reduceNe, Int.reduceLT, Int.reduceLE, Int.reduceAdd, Int.reduceSub, Int.reduceMul, Int.reduceNeg, Nat.zero_add, Nat.add_zero, Nat.mul_one, Int.toNat_natCast, Int.natCast_zero, Int.cast_ofNat_Int, or_false, false_or, or_true, true_or, Int.reduceToNat, Nat.sub_zero, Int.natCast_nonneg, Int.toNat_zero, Bool.true_and, Bool.and_true, Bool.false_and, Bool.and_false, Bool.true_or, Bool.or_true, Bool.false_or, Bool.or_false, Bool.not_true, Bool.not_false, Bool.not_not, true_and, and_true, false_and, and_false, not_true_eq_false, not_false_eq_true, eq_self, decide_true, decide_false, ne_eq, implies_true, forall_const, true_implies, false_implies, Bool.true_eq_false, Bool.false_eq_true, reduceCtorEq, List.map_cons, List.map_nil, List.all_cons, List.all_nil, List.length_cons, List.length_nil, List.length_map, List.length_append, List.nil_append, List.cons_append, List.set_cons_zero, List.set_cons_succ, List.set_nil, List.drop_zero, List.drop_succ_cons, List.drop_nil, List.take_zero, List.take_succ_cons, List.take_nil, Option.map_some, Option.map_none, Option.isSome_some, Nat.reduceEqDiff, Nat.reduceBEq, Nat.reduceGT, List.all_append, List.all_map, Function.comp_def, decide_eq_true_eq, Bool.and_eq_true, beq_self_eq_true, or_self, and_self, ite_true, ite_false, Nat.le_refl, Bool.not_eq_true, decide_not, Bool.not_eq_true', decide_eq_false_iff_not, Bool.not_eq_false, Bool.or_eq_true, if_true, if_false, ite_self, la_it, la_len, la_sure, la_ltA, la_lt1, la_all1, la_ro, la_take, la_cl, la_tm, la_r, la_sl, rc_len, rc_sure, rc_ltA, rc_lt1, rc_all1, rc_ro, rc_take, rc_sl, la_set, rc_set, zcL_eq, zcR_eq, la_allA, la_len7, all_tt, natInt, u_nthM, hI, hC, hF, hp', hx, h1, h2, rA_def, rc_b0, replies_Ask_r4_eq, replies_Ask_r3_eq, replies_Ask_r2_eq, replies_Ask_r1_eq]
        · simp (config := {maxSteps := 4000000, implicitDefEqProofs := false}) (disch := omega) only [go_sem, ↓reduceIte, Nat.reduceAdd, Nat.reduceSub, Nat.reduceMul, Nat.reduceLeDiff, Nat.reduceLT, Int.reduceEq, Int.reduceNe, Int.reduceLT, Int.reduceLE, Int.reduceAdd, Int.reduceSub, Int.reduceMul, Int.reduceNeg, Nat.zero_add, Nat.add_zero, Nat.mul_one, Int.toNat_natCast, Int.natCast_zero, Int.cast_ofNat_Int, or_false, false_or, or_true, true_or, Int.reduceToNat, Nat.sub_zero, Int.natCast_nonneg, Int.toNat_zero, Bool.true_and, Bool.and_true, Bool.false_and, Bool.and_false, Bool.true_or, Bool.or_true, Bool.false_or, Bool.or_false, Bool.not_true, Bool.not_false, Bool.not_not, true_and, and_true, false_and, and_false, not_true_eq_false, not_false_eq_true, eq_self, decide_true, decide_false, ne_eq, implies_true, forall_const, true_implies, false_implies, Bool.true_eq_false, Bool.false_eq_true, reduceCtorEq, List.map_cons, List.map_nil, List.all_cons, List.all_nil, List.length_cons, List.length_nil, List.length_map, List.length_append, List.nil_append, List.cons_append, List.set_cons_zero, List.set_cons_succ, List.set_nil, List.drop_zero, List.drop_succ_cons, List.drop_nil, List.take_zero, List.take_succ_cons, List.take_nil, Option.map_some, Option.map_none, Option.isSome_some, Nat.reduceEqDiff, Nat.reduceBEq, Nat.reduceGT, List.all_append, List.all_map, Function.comp_def, decide_eq_true_eq, Bool.and_eq_true, beq_self_eq_true, or_self, and_self, ite_true, ite_false, Nat.le_refl, Bool.not_eq_true, decide_not, Bool.not_eq_true', decide_eq_false_iff_not, Bool.not_eq_false, Bool.or_eq_true, if_true, if_false, ite_self, la_it, la_len, la_sure, la_ltA, la_lt1, la_all1, la_ro, la_take, la_cl, la_tm, la_r, la_sl, rc_len, rc_sure, rc_ltA, rc_lt1, rc_all1, rc_ro, rc_take, rc_sl, la_set, rc_set, zcL_eq, zcR_eq, la_allA, la_len7, all_tt, natInt, u_nthM, hI, hC, hF, hp', hx, h1, h2, rA_def, rc_b0, replies_Ask_r4_eq, replies_Ask_r3_eq, replies_Ask_r2_eq, replies_Ask_r1_eq]
    · simp (config := {maxSteps := 4000000, implicitDefEqProofs := false}) (disch := omega) only [go_sem, ↓reduceIte, Nat.reduceAdd, Nat.reduceSub, Nat.reduceMul, Nat.reduceLeDiff, Nat.reduceLT, Int.reduceEq, Int.reduceNe, Int.reduceLT, Int.reduceLE, Int.reduceAdd, Int.reduceSub, Int.reduceMul, Int.reduceNeg, Nat.zero_add, Nat.add_zero, Nat.mul_one, Int.toNat_natCast, Int.natCast_zero, Int.cast_ofNat_Int, or_false, false_or, or_true, true_or, Int.reduceToNat, Nat.sub_zero, Int.natCast_nonneg, Int.toNat_zero, Bool.true_and, Bool.and_true, Bool.false_and, Bool.and_false, Bool.true_or, Bool.or_true, Bool.false_or, Bool.or_false, Bool.not_true, Bool.not_false, Bool.not_not, true_and, and_true, false_and, and_false, not_true_eq_false, not_false_eq_true, eq_self, decide_true, decide_false, ne_eq, implies_true, forall_const, true_implies, false_implies, Bool.true_eq_false, Bool.false_eq_true, reduceCtorEq, List.map_cons, List.map_nil, List.all_cons, List.all_nil, List.length_cons, List.length_nil, List.length_map, List.length_append, List.nil_append, List.cons_append, List.set_cons_zero, List.set_cons_succ, List.set_nil, List.drop_zero, List.drop_succ_cons, List.drop_nil, List.take_zero, List.take_succ_cons, List.take_nil, Option.map_some, Option.map_none, Option.isSome_some, Nat.reduceEqDiff, Nat.reduceBEq, Nat.reduceGT, List.all_append, List.all_map, Function.comp_def, decide_eq_true_eq, Bool.and_eq_true, beq_self_eq_true, or_self, and_self, ite_true, ite_false, Nat.le_refl, Bool.not_eq_true, decide_not, Bool.not_eq_true', decide_eq_false_iff_not, Bool.not_eq_false, Bool.or_eq_true, if_true, if_false, ite_self, la_it, la_len, la_sure, la_ltA, la_lt1, la_all1, la_ro, la_take, la_cl, la_tm, la_r, la_sl, rc_len, rc_sure, rc_ltA, rc_lt1, rc_all1, rc_ro, rc_take, rc_sl, la_set, rc_set, zcL_eq, zcR_eq, la_allA, la_len7, all_tt, natInt, u_nthM, hI, hC, hF, hp', hx, rA_def, rc_b0, replies_Ask_r4_eq, replies_Ask_r3_eq, replies_Ask_r2_eq, replies_Ask_r1_eq]
  · have hp' : ¬ (p : Int) < (l.length : Int) := by omega
    rw [List.getElem?_eq_none (by omega)] at hF ⊢
    dsimp only at hF ⊢
    simp (config := {maxSteps := 4000000, implicitDefEqProofs := false}) (disch := omega) only [go_sem, ↓reduceIte, Nat.reduceAdd, Nat.reduceSub, Nat.reduceMul, Nat.reduceLeDiff, Nat.reduceLT, Int.reduceEq, Int.reduceNe, Int.reduceLT, Int.reduceLE, Int.reduceAdd, Int.reduceSub, Int.reduceMul, Int.reduceNeg, Nat.zero_add, Nat.add_zero, Nat.mul_one, Int.toNat_natCast, Int.natCast_zero, Int.cast_ofNat_Int, or_false, false_or, or_true, true_or, Int.reduceToNat, Nat.sub_zero, Int.natCast_nonneg, Int.toNat_zero, Bool.true_and, Bool.and_true, Bool.false_and, Bool.and_false, Bool.true_or, Bool.or_true, Bool.false_or, Bool.or_false, Bool.not_true, Bool.not_false, Bool.not_not, true_and, and_true, false_and, and_false, not_true_eq_false, not_false_eq_true, eq_self, decide_true, decide_false, ne_eq, implies_true, forall_const, true_implies, false_implies, Bool.true_eq_false, Bool.false_eq_true, reduceCtorEq, List.map_cons, List.map_nil, List.all_cons, List.all_nil, List.length_cons, List.length_nil, List.length_map, List.length_append, List.nil_append, List.cons_append, List.set_cons_zero, List.set_cons_succ, List.set_nil, List.drop_zero, List.drop_succ_cons, List.drop_nil, List.take_zero, List.take_succ_cons, List.take_nil, Option.map_some, Option.map_none, Option.isSome_some, Nat.reduceEqDiff, Nat.reduceBEq, Nat.reduceGT, List.all_append, List.all_map, Function.comp_def, decide_eq_true_eq, Bool.and_eq_true, beq_self_eq_true, or_self, and_self, ite_true, ite_false, Nat.le_refl, Bool.not_eq_true, decide_not, Bool.not_eq_true', decide_eq_false_iff_not, Bool.not_eq_false, Bool.or_eq_true, if_true, if_false, ite_self, la_it, la_len, la_sure, la_ltA, la_lt1, la_all1, la_ro, la_take, la_cl, la_tm, la_r, la_sl, rc_len, rc_sure, rc_ltA, rc_lt1, rc_all1, rc_ro, rc_take, rc_sl, la_set, rc_set, zcL_eq, zcR_eq, la_allA, la_len7, all_tt, natInt, u_nthM, hI, hC, hF, rA_def, rc_b0, replies_Ask_r4_eq, replies_Ask_r3_eq, replies_Ask_r2_eq, replies_Ask_r1_eq]
end Go.Proofs.Ytchncgdjefbmfaa

namespace Go.Proofs.Ytchncgdjefbmfaa
open Go.RowKit
set_option linter.unusedVariables false
set_option linter.unusedSimpArgs false
set_option maxRecDepth 20000
def putL (l : List La) (p : Nat) (x : La) (b : Bool) : List La := match b with | true => l.set p x | false => l.take p ++ x :: l.drop p
def noteA (l : List La) (c t : Int) (r : Rs) : List La × Int := if (askA l c t).2 = 6 then (if rB r = true then (putL l (fndN l c) ⟨c, t, r⟩ (thereB l c), 0) else ([], 1)) else if (askA l c t).2 = 1 then ([], 1) else if rB r = true then ([], 18) else ([], 1)
theorem old_s (m : Nat) (r : Rs) (h : r.In) : replies_old m (rA r) = some (nA (if rB r = true then 18 else 1), []) := by
  have hE := enc_s m r h
  have hen := encR_len r
  rw [replies_old_eq, rA_def]
  cases hr : rB r with
  | false =>
    rw [hr] at hen
    have hen' : (encRes r.code r.kind r.i r.s r.ver).length = 0 := by rw [hen]
    simp (config := {maxSteps := 4000000, implicitDefEqProofs := false}) (disch := omega) only [go_sem, ↓reduceIte, Nat.reduceAdd, Nat.reduceSub, Nat.reduceMul, Nat.reduceLeDiff, Nat.reduceLT, Int.reduceEq, Int.reduceNe, Int.reduceLT, Int.reduceLE, Int.reduceAdd, Int.reduceSub, Int.reduceMul, Int.reduceNeg, Nat.zero_add, Nat.add_zero, Nat.mul_one, Int.toNat_natCast, Int.natCast_zero, Int.cast_ofNat_Int, or_false, false_or, or_true, true_or, Int.reduceToNat, Nat.sub_zero, Int.natCast_nonneg, Int.toNat_zero, Bool.true_and, Bool.and_true, Bool.false_and, Bool.and_false, Bool.true_or, Bool.or_true, Bool.false_or, Bool.or_false, Bool.not_true, Bool.not_false, Bool.not_not, true_and, and_true, false_and, and_false, not_true_eq_false, not_false_eq_true, eq_self, decide_true, decide_false, ne_eq, implies_true, forall_const, true_implies, false_implies, Bool.true_eq_false, Bool.false_eq_true, reduceCtorEq, List.map_cons, List.map_nil, List.all_cons, List.all_nil, List.length_cons, List.length_nil, List.length_map, List.length_append, List.nil_append, List.cons_append, List.set_cons_zero, List.set_cons_succ, List.set_nil, List.drop_zero, List.drop_succ_cons, List.drop_nil, List.take_zero, List.take_succ_cons, List.take_nil, Option.map_some, Option.map_none, Option.isSome_some, Nat.reduceEqDiff, Nat.reduceBEq, Nat.reduceGT, List.all_append, List.all_map, Function.comp_def, decide_eq_true_eq, Bool.and_eq_true, beq_self_eq_true, or_self, and_self, ite_true, ite_false, Nat.le_refl, Bool.not_eq_true, decide_not, Bool.not_eq_true', decide_eq_false_iff_not, Bool.not_eq_false, Bool.or_eq_true, if_true, if_false, ite_self, la_it, la_len, la_sure, la_ltA, la_lt1, la_all1, la_ro, la_take, la_cl, la_tm, la_r, la_sl, rc_len, rc_sure, rc_ltA, rc_lt1, rc_all1, rc_ro, rc_take, rc_sl, la_set, rc_set, zcL_eq, zcR_eq, la_allA, la_len7, all_tt, natInt, u_nthM, hE, hen']
  | true =>
    rw [hr] at hen
    have hen' : ¬ ((encRes r.code r.kind r.i r.s r.ver).length : Int) = 0 := by
      intro q
      have q : (encRes r.code r.kind r.i r.s r.ver).length = 0 := by omega
      rw [hen] at q; cases q
    simp (config := {maxSteps := 4000000, implicitDefEqProofs := false}) (disch := omega) only [go_sem, ↓reduceIte, Nat.reduceAdd, Nat.reduceSub, Nat.reduceMul, Nat.reduceLeDiff, Nat.reduceLT, Int.reduceEq, Int.reduceNe, Int.reduceLT, Int.reduceLE, Int.reduceAdd, Int.reduceSub, Int.reduceMul, Int.reduceNeg, Nat.zero_add, Nat.add_zero, Nat.mul_one, Int.toNat_natCast, Int.natCast_zero, Int.cast_ofNat_Int, or_false, false_or, or_true, true_or, Int.reduceToNat, Nat.sub_zero, Int.natCast_nonneg, Int.toNat_zero, Bool.true_and, Bool.and_true, Bool.false_and, Bool.and_false, Bool.true_or, Bool.or_true, Bool.false_or, Bool.or_false, Bool.not_true, Bool.not_false, Bool.not_not, true_and, and_true, false_and, and_false, not_true_eq_false, not_false_eq_true, eq_self, decide_true, decide_false, ne_eq, implies_true, forall_const, true_implies, false_implies, Bool.true_eq_false, Bool.false_eq_true, reduceCtorEq, List.map_cons, List.map_nil, List.all_cons, List.all_nil, List.length_cons, List.length_nil, List.length_map, List.length_append, List.nil_append, List.cons_append, List.set_cons_zero, List.set_cons_succ, List.set_nil, List.drop_zero, List.drop_succ_cons, List.drop_nil, List.take_zero, List.take_succ_cons, List.take_nil, Option.map_some, Option.map_none, Option.isSome_some, Nat.reduceEqDiff, Nat.reduceBEq, Nat.reduceGT, List.all_append, List.all_map, Function.comp_def, decide_eq_true_eq, Bool.and_eq_true, beq_self_eq_true, or_self, and_self, ite_true, ite_false, Nat.le_refl, Bool.not_eq_true, decide_not, Bool.not_eq_true', decide_eq_false_iff_not, Bool.not_eq_false, Bool.or_eq_true, if_true, if_false, ite_self, la_it, la_len, la_sure, la_ltA, la_lt1, la_all1, la_ro, la_take, la_cl, la_tm, la_r, la_sl, rc_len, rc_sure, rc_ltA, rc_lt1, rc_all1, rc_ro, rc_take, rc_sl, la_set, rc_set, zcL_eq, zcR_eq, la_allA, la_len7, all_tt, natInt, u_nthM, hE, hen']
theorem fz_two {H : List AObj} {i n : Nat} {e : TypeId} {z : Nat} {es : List AV} {k : Int} (h : H[i]? = some ⟨4, e, z, es⟩) (hn : n = es.length) (hl : es.all (ltA 0) = true) : fzV H (TU [PR i n, nA k]) = TU [SL es, nA k] := by
  subst hn
  simp [fzV, fzA, fz1, fzO, h, hl]
theorem lt_PR {i n : Nat} : ltA 0 (PR i n) = false := _root_.id rfl
theorem all_laE {l : List La} {n : Nat} : (l.map laE).all (ltA n) = true := by rw [List.all_map]; exact List.all_eq_true.2 fun _ _ => rfl
theorem allC_laE {l : List La} : allCE 7 (l.map laE) = true := by unfold allCE; rw [List.all_map]; exact la_len7
theorem note_s (m : Nat) (l : List La) (c t : Int) (r : Rs) (hm : 300 < m) (hlm : l.length < m) (hl : l.length ≤ 34359738367) (h : ∀ x ∈ l, x.r.In) (hr : r.In) : replies_Note m (lL l) (nA c) (nA t) (rA r) = some (TU [lL (noteA l c t r).1, nA (noteA l c t r).2], []) := by
  have hA := ask_s m l c t hm hlm hl h
  have hO := old_s m r hr
  have hE := enc_s m r hr
  have hen := encR_len r
  rw [lL_def, rA_def] at hA
  rw [rA_def] at hO
  rw [replies_Note_eq, lL_def, rA_def]
  unfold noteA
  have hAA : (askA l c t).2 = 6 → isL l = true := fun e => by
    unfold askA at e
    split at e
    · rename_i q; exact q.1
    · simp at e
  generalize askA l c t = A at hA hAA ⊢
  obtain ⟨q, e⟩ := A
  dsimp only at hA hAA ⊢
  by_cases he : e = 6
  · cases hb : rB r with
    | false =>
      rw [hb] at hen
      have hen' : (encRes r.code r.kind r.i r.s r.ver).length = 0 := by rw [hen]
      rw [lL_def]
      simp (config := {maxSteps := 4000000, implicitDefEqProofs := false}) (disch := omega) only [go_sem, ↓reduceIte, Nat.reduceAdd, Nat.reduceSub, Nat.reduceMul, Nat.reduceLeDiff, Nat.reduceLT, Int.reduceEq, Int.reduceNe, Int.reduceLT, Int.reduceLE, Int.reduceAdd, Int.reduceSub, Int.reduceMul, Int.reduceNeg, Nat.zero_add, Nat.add_zero, Nat.mul_one, Int.toNat_natCast, Int.natCast_zero, Int.cast_ofNat_Int, or_false, false_or, or_true, true_or, Int.reduceToNat, Nat.sub_zero, Int.natCast_nonneg, Int.toNat_zero, Bool.true_and, Bool.and_true, Bool.false_and, Bool.and_false, Bool.true_or, Bool.or_true, Bool.false_or, Bool.or_false, Bool.not_true, Bool.not_false, Bool.not_not, true_and, and_true, false_and, and_false, not_true_eq_false, not_false_eq_true, eq_self, decide_true, decide_false, ne_eq, implies_true, forall_const, true_implies, false_implies, Bool.true_eq_false, Bool.false_eq_true, reduceCtorEq, List.map_cons, List.map_nil, List.all_cons, List.all_nil, List.length_cons, List.length_nil, List.length_map, List.length_append, List.nil_append, List.cons_append, List.set_cons_zero, List.set_cons_succ, List.set_nil, List.drop_zero, List.drop_succ_cons, List.drop_nil, List.take_zero, List.take_succ_cons, List.take_nil, Option.map_some, Option.map_none, Option.isSome_some, Nat.reduceEqDiff, Nat.reduceBEq, Nat.reduceGT, List.all_append, List.all_map, Function.comp_def, decide_eq_true_eq, Bool.and_eq_true, beq_self_eq_true, or_self, and_self, ite_true, ite_false, Nat.le_refl, Bool.not_eq_true, decide_not, Bool.not_eq_true', decide_eq_false_iff_not, Bool.not_eq_false, Bool.or_eq_true, if_true, if_false, ite_self, la_it, la_len, la_sure, la_ltA, la_lt1, la_all1, la_ro, la_take, la_cl, la_tm, la_r, la_sl, rc_len, rc_sure, rc_ltA, rc_lt1, rc_all1, rc_ro, rc_take, rc_sl, la_set, rc_set, zcL_eq, zcR_eq, la_allA, la_len7, all_tt, natInt, u_nthM, hA, he, hE, hen']
    | true =>
      rw [hb] at hen
      have hen' : ¬ ((encRes r.code r.kind r.i r.s r.ver).length : Int) = 0 := by
        intro q
        have q : (encRes r.code r.kind r.i r.s r.ver).length = 0 := by omega
        rw [hen] at q; cases q
      have hi := hAA he
      have h8 := isL_len hi
      have hF := find_s m l c hm h8 (isL_inc hi)
      have hfl := fndN_le l c
      rw [lL_def] at hF
      have hth : thereB l c = true → fndN l c < l.length := fun q => by
        unfold thereB at q
        rcases Nat.lt_or_ge (fndN l c) l.length with w | w
        · exact w
        · rw [List.getElem?_eq_none w] at q; cases q
      generalize fndN l c = p at hF hfl hth ⊢
      have hC : ∀ n, slices_Clone_Last_t m [SL (l.map laE)] n = some (PR n (l.map laE).length, [⟨4, ty_api_Last, 7, l.map laE⟩]) := fun n => slices_Clone_Last_e m n (l.map laE) allC_laE (by rw [List.length_map]; omega)
      cases hb2 : thereB l c with
      | true =>
        rw [hb2] at hF
        have hp := hth hb2
        have hp' : (p : Int) < (l.length : Int) := by omega
        rw [lL_def]
        have hm7 : p * 7 % 7 = 0 := Nat.mul_mod_left p 7
        have hd7 : p * 7 / 7 = p := Nat.mul_div_cancel p (by omega)
        have hz : ∀ X Y W, fzV [X, Y, ⟨4, ty_api_Last, 7, (l.map laE).set p (.agg (laC ⟨c, t, r⟩))⟩, W] (TU [PR 2 l.length, nA 0]) = TU [SL ((l.set p ⟨c, t, r⟩).map laE), nA 0] := fun X Y W => by
          have e : (l.map laE).set p (.agg (laC ⟨c, t, r⟩)) = (l.set p ⟨c, t, r⟩).map laE := by rw [List.map_set]; rfl
          rw [e]
          exact fz_two rfl (by simp) all_laE
        simp (config := {maxSteps := 4000000, implicitDefEqProofs := false}) (disch := omega) only [go_sem, ↓reduceIte, Nat.reduceAdd, Nat.reduceSub, Nat.reduceMul, Nat.reduceLeDiff, Nat.reduceLT, Int.reduceEq, Int.reduceNe, Int.reduceLT, Int.reduceLE, Int.reduceAdd, Int.reduceSub, Int.reduceMul, Int.reduceNeg, Nat.zero_add, Nat.add_zero, Nat.mul_one, Int.toNat_natCast, Int.natCast_zero, Int.cast_ofNat_Int, or_false, false_or, or_true, true_or, Int.reduceToNat, Nat.sub_zero, Int.natCast_nonneg, Int.toNat_zero, Bool.true_and, Bool.and_true, Bool.false_and, Bool.and_false, Bool.true_or, Bool.or_true, Bool.false_or, Bool.or_false, Bool.not_true, Bool.not_false, Bool.not_not, true_and, and_true, false_and, and_false, not_true_eq_false, not_false_eq_true, eq_self, decide_true, decide_false, ne_eq, implies_true, forall_const, true_implies, false_implies, Bool.true_eq_false, Bool.false_eq_true, reduceCtorEq, List.map_cons, List.map_nil, List.all_cons, List.all_nil, List.length_cons, List.length_nil, List.length_map, List.length_append, List.nil_append, List.cons_append, List.set_cons_zero, List.set_cons_succ, List.set_nil, List.drop_zero, List.drop_succ_cons, List.drop_nil, List.take_zero, List.take_succ_cons, List.take_nil, Option.map_some, Option.map_none, Option.isSome_some, Nat.reduceEqDiff, Nat.reduceBEq, Nat.reduceGT, List.all_append, List.all_map, Function.comp_def, decide_eq_true_eq, Bool.and_eq_true, beq_self_eq_true, or_self, and_self, ite_true, ite_false, Nat.le_refl, Bool.not_eq_true, decide_not, Bool.not_eq_true', decide_eq_false_iff_not, Bool.not_eq_false, Bool.or_eq_true, if_true, if_false, ite_self, la_it, la_len, la_sure, la_ltA, la_lt1, la_all1, la_ro, la_take, la_cl, la_tm, la_r, la_sl, rc_len, rc_sure, rc_ltA, rc_lt1, rc_all1, rc_ro, rc_take, rc_sl, la_set, rc_set, zcL_eq, zcR_eq, la_allA, la_len7, all_tt, natInt, u_nthM, hA, he, hE, hen', hF, hC, u_addS, la_bL, hp, hp', hm7, hd7, lt_PR, u_tellZ, hz, putL]
      | false =>
        rw [hb2] at hF
        have hIn : ∀ X Y W, slices_Insert_Last_t m [PR 2 l.length, nA (p : Int), SL [.agg (laC ⟨c, t, r⟩)]] [X, Y, ⟨4, ty_api_Last, 7, l.map laE⟩, W] = some (SL ((l.take p ++ ⟨c, t, r⟩ :: l.drop p).map laE), [X, Y, ⟨0, ty_api_Last, 7, []⟩, W]) := fun X Y W => by
          have := slices_Insert_Last_e m (i := 2) (H := [X, Y, ⟨4, ty_api_Last, 7, l.map laE⟩, W]) (x := .agg (laC ⟨c, t, r⟩)) rfl (by rw [List.length_map]; exact hfl) (by rw [List.length_map]; omega) all_laE rfl
          rw [List.length_map] at this
          refine this.trans ?_
          rw [List.map_append, List.map_take, List.map_cons, List.map_drop]
          rfl
        rw [lL_def]
        simp (config := {maxSteps := 4000000, implicitDefEqProofs := false}) (disch := omega) only [go_sem, ↓reduceIte, Nat.reduceAdd, Nat.reduceSub, Nat.reduceMul, Nat.reduceLeDiff, Nat.reduceLT, Int.reduceEq, Int.reduceNe, Int.reduceLT, Int.reduceLE, Int.reduceAdd, Int.reduceSub, Int.reduceMul, Int.reduceNeg, Nat.zero_add, Nat.add_zero, Nat.mul_one, Int.toNat_natCast, Int.natCast_zero, Int.cast_ofNat_Int, or_false, false_or, or_true, true_or, Int.reduceToNat, Nat.sub_zero, Int.natCast_nonneg, Int.toNat_zero, Bool.true_and, Bool.and_true, Bool.false_and, Bool.and_false, Bool.true_or, Bool.or_true, Bool.false_or, Bool.or_false, Bool.not_true, Bool.not_false, Bool.not_not, true_and, and_true, false_and, and_false, not_true_eq_false, not_false_eq_true, eq_self, decide_true, decide_false, ne_eq, implies_true, forall_const, true_implies, false_implies, Bool.true_eq_false, Bool.false_eq_true, reduceCtorEq, List.map_cons, List.map_nil, List.all_cons, List.all_nil, List.length_cons, List.length_nil, List.length_map, List.length_append, List.nil_append, List.cons_append, List.set_cons_zero, List.set_cons_succ, List.set_nil, List.drop_zero, List.drop_succ_cons, List.drop_nil, List.take_zero, List.take_succ_cons, List.take_nil, Option.map_some, Option.map_none, Option.isSome_some, Nat.reduceEqDiff, Nat.reduceBEq, Nat.reduceGT, List.all_append, List.all_map, Function.comp_def, decide_eq_true_eq, Bool.and_eq_true, beq_self_eq_true, or_self, and_self, ite_true, ite_false, Nat.le_refl, Bool.not_eq_true, decide_not, Bool.not_eq_true', decide_eq_false_iff_not, Bool.not_eq_false, Bool.or_eq_true, if_true, if_false, ite_self, la_it, la_len, la_sure, la_ltA, la_lt1, la_all1, la_ro, la_take, la_cl, la_tm, la_r, la_sl, rc_len, rc_sure, rc_ltA, rc_lt1, rc_all1, rc_ro, rc_take, rc_sl, la_set, rc_set, zcL_eq, zcR_eq, la_allA, la_len7, all_tt, natInt, u_nthM, hA, he, hE, hen', hF, hC, u_addS, la_bL, hIn, putL]
  · by_cases h1 : e = 1
    · rw [lL_def]
      simp (config := {maxSteps := 4000000, implicitDefEqProofs := false}) (disch := omega) only [go_sem, ↓reduceIte, Nat.reduceAdd, Nat.reduceSub, Nat.reduceMul, Nat.reduceLeDiff, Nat.reduceLT, Int.reduceEq, Int.reduceNe, Int.reduceLT, Int.reduceLE, Int.reduceAdd, Int.reduceSub, Int.reduceMul, Int.reduceNeg, Nat.zero_add, Nat.add_zero, Nat.mul_one, Int.toNat_natCast, Int.natCast_zero, Int.cast_ofNat_Int, or_false, false_or, or_true, true_or, Int.reduceToNat, Nat.sub_zero, Int.natCast_nonneg, Int.toNat_zero, Bool.true_and, Bool.and_true, Bool.false_and, Bool.and_false, Bool.true_or, Bool.or_true, Bool.false_or, Bool.or_false, Bool.not_true, Bool.not_false, Bool.not_not, true_and, and_true, false_and, and_false, not_true_eq_false, not_false_eq_true, eq_self, decide_true, decide_false, ne_eq, implies_true, forall_const, true_implies, false_implies, Bool.true_eq_false, Bool.false_eq_true, reduceCtorEq, List.map_cons, List.map_nil, List.all_cons, List.all_nil, List.length_cons, List.length_nil, List.length_map, List.length_append, List.nil_append, List.cons_append, List.set_cons_zero, List.set_cons_succ, List.set_nil, List.drop_zero, List.drop_succ_cons, List.drop_nil, List.take_zero, List.take_succ_cons, List.take_nil, Option.map_some, Option.map_none, Option.isSome_some, Nat.reduceEqDiff, Nat.reduceBEq, Nat.reduceGT, List.all_append, List.all_map, Function.comp_def, decide_eq_true_eq, Bool.and_eq_true, beq_self_eq_true, or_self, and_self, ite_true, ite_false, Nat.le_refl, Bool.not_eq_true, decide_not, Bool.not_eq_true', decide_eq_false_iff_not, Bool.not_eq_false, Bool.or_eq_true, if_true, if_false, ite_self, la_it, la_len, la_sure, la_ltA, la_lt1, la_all1, la_ro, la_take, la_cl, la_tm, la_r, la_sl, rc_len, rc_sure, rc_ltA, rc_lt1, rc_all1, rc_ro, rc_take, rc_sl, la_set, rc_set, zcL_eq, zcR_eq, la_allA, la_len7, all_tt, natInt, u_nthM, hA, he, h1]
    · rw [lL_def]
      cases hb : rB r with
      | false =>
        rw [hb] at hO
        simp (config := {maxSteps := 4000000, implicitDefEqProofs := false}) (disch := omega) only [go_sem, ↓reduceIte, Nat.reduceAdd, Nat.reduceSub, Nat.reduceMul, Nat.reduceLeDiff, Nat.reduceLT, Int.reduceEq, Int.reduceNe, Int.reduceLT, Int.reduceLE, Int.reduceAdd, Int.reduceSub, Int.reduceMul, Int.reduceNeg, Nat.zero_add, Nat.add_zero, Nat.mul_one, Int.toNat_natCast, Int.natCast_zero, Int.cast_ofNat_Int, or_false, false_or, or_true, true_or, Int.reduceToNat, Nat.sub_zero, Int.natCast_nonneg, Int.toNat_zero, Bool.true_and, Bool.and_true, Bool.false_and, Bool.and_false, Bool.true_or, Bool.or_true, Bool.false_or, Bool.or_false, Bool.not_true, Bool.not_false, Bool.not_not, true_and, and_true, false_and, and_false, not_true_eq_false, not_false_eq_true, eq_self, decide_true, decide_false, ne_eq, implies_true, forall_const, true_implies, false_implies, Bool.true_eq_false, Bool.false_eq_true, reduceCtorEq, List.map_cons, List.map_nil, List.all_cons, List.all_nil, List.length_cons, List.length_nil, List.length_map, List.length_append, List.nil_append, List.cons_append, List.set_cons_zero, List.set_cons_succ, List.set_nil, List.drop_zero, List.drop_succ_cons, List.drop_nil, List.take_zero, List.take_succ_cons, List.take_nil, Option.map_some, Option.map_none, Option.isSome_some, Nat.reduceEqDiff, Nat.reduceBEq, Nat.reduceGT, List.all_append, List.all_map, Function.comp_def, decide_eq_true_eq, Bool.and_eq_true, beq_self_eq_true, or_self, and_self, ite_true, ite_false, Nat.le_refl, Bool.not_eq_true, decide_not, Bool.not_eq_true', decide_eq_false_iff_not, Bool.not_eq_false, Bool.or_eq_true, if_true, if_false, ite_self, la_it, la_len, la_sure, la_ltA, la_lt1, la_all1, la_ro, la_take, la_cl, la_tm, la_r, la_sl, rc_len, rc_sure, rc_ltA, rc_lt1, rc_all1, rc_ro, rc_take, rc_sl, la_set, rc_set, zcL_eq, zcR_eq, la_allA, la_len7, all_tt, natInt, u_nthM, hA, he, h1, hO]
      | true =>
        rw [hb] at hO
        simp (config := {maxSteps := 4000000, implicitDefEqProofs := false}) (disch := omega) only [go_sem, ↓reduceIte, Nat.reduceAdd, Nat.reduceSub, Nat.reduceMul, Nat.reduceLeDiff, Nat.reduceLT, Int.reduceEq, Int.reduceNe, Int.reduceLT, Int.reduceLE, Int.reduceAdd, Int.reduceSub, Int.reduceMul, Int.reduceNeg, Nat.zero_add, Nat.add_zero, Nat.mul_one, Int.toNat_natCast, Int.natCast_zero, Int.cast_ofNat_Int, or_false, false_or, or_true, true_or, Int.reduceToNat, Nat.sub_zero, Int.natCast_nonneg, Int.toNat_zero, Bool.true_and, Bool.and_true, Bool.false_and, Bool.and_false, Bool.true_or, Bool.or_true, Bool.false_or, Bool.or_false, Bool.not_true, Bool.not_false, Bool.not_not, true_and, and_true, false_and, and_false, not_true_eq_false, not_false_eq_true, eq_self, decide_true, decide_false, ne_eq, implies_true, forall_const, true_implies, false_implies, Bool.true_eq_false, Bool.false_eq_true, reduceCtorEq, List.map_cons, List.map_nil, List.all_cons, List.all_nil, List.length_cons, List.length_nil, List.length_map, List.length_append, List.nil_append, List.cons_append, List.set_cons_zero, List.set_cons_succ, List.set_nil, List.drop_zero, List.drop_succ_cons, List.drop_nil, List.take_zero, List.take_succ_cons, List.take_nil, Option.map_some, Option.map_none, Option.isSome_some, Nat.reduceEqDiff, Nat.reduceBEq, Nat.reduceGT, List.all_append, List.all_map, Function.comp_def, decide_eq_true_eq, Bool.and_eq_true, beq_self_eq_true, or_self, and_self, ite_true, ite_false, Nat.le_refl, Bool.not_eq_true, decide_not, Bool.not_eq_true', decide_eq_false_iff_not, Bool.not_eq_false, Bool.or_eq_true, if_true, if_false, ite_self, la_it, la_len, la_sure, la_ltA, la_lt1, la_all1, la_ro, la_take, la_cl, la_tm, la_r, la_sl, rc_len, rc_sure, rc_ltA, rc_lt1, rc_all1, rc_ro, rc_take, rc_sl, la_set, rc_set, zcL_eq, zcR_eq, la_allA, la_len7, all_tt, natInt, u_nthM, hA, he, h1, hO]
end Go.Proofs.Ytchncgdjefbmfaa

namespace Go.Proofs.Ytchncgdjefbmfaa
open Go.RowKit
set_option linter.unusedVariables false
set_option linter.unusedSimpArgs false
set_option maxRecDepth 20000
def loL (l : List La) (c : Int) : List La := l.filter fun x => decide (x.cl < c)
def hiL (l : List La) (c : Int) : List La := l.filter fun x => decide (c < x.cl)
theorem filter_all' {α : Type} {l : List α} {p : α → Bool} (h : ∀ x ∈ l, p x = true) : l.filter p = l := List.filter_eq_self.2 h
theorem filter_none' {α : Type} {l : List α} {p : α → Bool} (h : ∀ x ∈ l, p x = false) : l.filter p = [] := by
  rw [List.filter_eq_nil_iff]
  intro x hx
  rw [h x hx]; simp
theorem putL_eq {l : List La} (hi : isL l = true) (c : Int) (x : La) : putL l (fndN l c) x (thereB l c) = loL l c ++ x :: hiL l c := by
  have hinc := isL_inc hi
  have hfl := fndN_le l c
  have h1 : ∀ y ∈ l.take (fndN l c), y.cl < c := by
    intro y hy
    obtain ⟨i, hi, rfl⟩ := List.getElem_of_mem hy
    rw [List.length_take] at hi
    rw [List.getElem_take]
    exact fnd_lo (by omega) (by omega)
  have h2 : ∀ y ∈ l.drop (fndN l c), c ≤ y.cl := by
    intro y hy
    obtain ⟨i, hi, rfl⟩ := List.getElem_of_mem hy
    rw [List.length_drop] at hi
    rw [List.getElem_drop]
    have h3 := fnd_hi (l := l) (q := c) (by omega)
    rcases Nat.eq_zero_or_pos i with e | e
    · subst e; exact h3
    · have := hinc (fndN l c) (fndN l c + i) (by omega) (by omega); omega
  have hlo : loL l c = l.take (fndN l c) := by
    unfold loL
    conv => lhs; rw [← List.take_append_drop (fndN l c) l, List.filter_append]
    rw [filter_all' (fun y hy => by simpa using h1 y hy), filter_none' (fun y hy => by have := h2 y hy; simp; omega), List.append_nil]
  have hhi : hiL l c = hiL (l.drop (fndN l c)) c := by
    unfold hiL
    conv => lhs; rw [← List.take_append_drop (fndN l c) l, List.filter_append]
    rw [filter_none' (l := l.take (fndN l c)) (fun y hy => by have := h1 y hy; simp; omega), List.nil_append]
  rw [hlo, hhi]
  unfold thereB
  rcases Nat.lt_or_ge (fndN l c) l.length with hp | hp
  · rw [List.getElem?_eq_getElem hp]
    dsimp only
    by_cases he : l[fndN l c].cl = c
    · rw [decide_eq_true he]
      show l.set (fndN l c) x = _
      rw [List.set_eq_take_append_cons_drop, if_pos hp, List.drop_eq_getElem_cons hp]
      unfold hiL
      rw [List.filter_cons, if_neg (by simp; omega), filter_all']
      intro y hy
      obtain ⟨i, hi, rfl⟩ := List.getElem_of_mem hy
      rw [List.length_drop] at hi
      rw [List.getElem_drop]
      have := hinc (fndN l c) (fndN l c + 1 + i) (by omega) (by omega)
      simp; omega
    · rw [decide_eq_false he]
      show l.take (fndN l c) ++ x :: l.drop (fndN l c) = _
      unfold hiL
      rw [filter_all']
      intro y hy
      obtain ⟨i, hi, rfl⟩ := List.getElem_of_mem hy
      rw [List.length_drop] at hi
      rw [List.getElem_drop]
      have h3 := fnd_hi hp
      rcases Nat.eq_zero_or_pos i with e | e
      · subst e; simp only [Nat.add_zero]; simp; omega
      · have := hinc (fndN l c) (fndN l c + i) (by omega) (by omega)
        simp; omega
  · rw [List.getElem?_eq_none hp]
    show l.take (fndN l c) ++ x :: l.drop (fndN l c) = _
    rw [List.drop_of_length_le hp]
    rfl
section
variable {R : Type} {isB sl : Bool} {x y : La} {K1 : AV → Option R}
end
theorem la_set5 {x : La} {s : Bytes} : setCells (laC x) 5 [sA s] = laC { x with r := { x.r with s := s } } := _root_.id rfl
def fewN (x : La) : La := { x with r := { x.r with s := x.r.s.take 200 } }
def fewL (l : List La) : List La := (l.take 260).map fewN
theorem few_s (m : Nat) (l : List La) (hm : 260 < m) (hl : l.length ≤ maxLen) (hs : ∀ x ∈ l, x.r.s.length ≤ maxLen) : plenumlaw26_Few m (lL l) = some (lL (fewL l), []) := by
  have main : ∀ a : List La, a.length ≤ 260 → (∀ x ∈ a, x.r.s.length ≤ maxLen) → plenumlaw26_Few_r1 m ⟨[], [(0, SL (a.map laE))]⟩ = some (SL ((a.map fewN).map laE), []) := by
    intro a ha h
    rw [plenumlaw26_Few_r1_eq]
    simp (config := {maxSteps := 4000000, implicitDefEqProofs := false}) (disch := omega) only [go_sem, ↓reduceIte, Nat.reduceAdd, Nat.reduceSub, Nat.reduceMul, Nat.reduceLeDiff, Nat.reduceLT, Int.reduceEq, Int.reduceNe, Int.reduceLT, Int.reduceLE, Int.reduceAdd, Int.reduceSub, Int.reduceMul, Int.reduceNeg, Nat.zero_add, Nat.add_zero, Nat.mul_one, Int.toNat_natCast, Int.natCast_zero, Int.cast_ofNat_Int, or_false, false_or, or_true, true_or, Int.reduceToNat, Nat.sub_zero, Int.natCast_nonneg, Int.toNat_zero, Bool.true_and, Bool.and_true, Bool.false_and, Bool.and_false, Bool.true_or, Bool.or_true, Bool.false_or, Bool.or_false, Bool.not_true, Bool.not_false, Bool.not_not, true_and, and_true, false_and, and_false, not_true_eq_false, not_false_eq_true, eq_self, decide_true, decide_false, ne_eq, implies_true, forall_const, true_implies, false_implies, Bool.true_eq_false, Bool.false_eq_true, reduceCtorEq, List.map_cons, List.map_nil, List.all_cons, List.all_nil, List.length_cons, List.length_nil, List.length_map, List.length_append, List.nil_append, List.cons_append, List.set_cons_zero, List.set_cons_succ, List.set_nil, List.drop_zero, List.drop_succ_cons, List.drop_nil, List.take_zero, List.take_succ_cons, List.take_nil, Option.map_some, Option.map_none, Option.isSome_some, Nat.reduceEqDiff, Nat.reduceBEq, Nat.reduceGT, List.all_append, List.all_map, Function.comp_def, decide_eq_true_eq, Bool.and_eq_true, beq_self_eq_true, or_self, and_self, ite_true, ite_false, Nat.le_refl, Bool.not_eq_true, decide_not, Bool.not_eq_true', decide_eq_false_iff_not, Bool.not_eq_false, Bool.or_eq_true, if_true, if_false, ite_self, ha]
    refine iter_go (ι := {k : Nat // k ≤ a.length}) (fun k => ⟨[⟨2, ty_api_Last, 7, ((a.take k.1).map fewN).map laE⟩], [(0, SL (a.map laE)), (3, OW 0 k.1), (4, nA k.1)]⟩) (fun k => a.length - k.1) (fun _ => some (SL ((a.map fewN).map laE), [])) ?_ ⟨0, Nat.zero_le _⟩ (by dsimp only; omega)
    rintro kx hkx ⟨k, hk⟩ kc hkc
    dsimp only at hkc ⊢
    rw [plenumlaw26_Few_b1_eq]
    by_cases hlt : k < a.length
    · have hlt' : (k : Int) < (a.length : Int) := by omega
      have step := hkc ⟨k + 1, by omega⟩ (by dsimp only; omega)
      dsimp only at step
      rw [List.take_succ_eq_append_getElem hlt, List.map_append, List.map_append] at step
      have hkm : k + 1 ≤ 34359738368 := by omega
      by_cases h2 : 200 < a[k].r.s.length
      · have h2' : (200 : Int) < (a[k].r.s.length : Int) := by omega
        have h2l : (200 : Int) ≤ (a[k].r.s.length : Int) := by omega
        simp (config := {maxSteps := 4000000, implicitDefEqProofs := false}) (disch := omega) only [go_sem, ↓reduceIte, Nat.reduceAdd, Nat.reduceSub, Nat.reduceMul, Nat.reduceLeDiff, Nat.reduceLT, Int.reduceEq, Int.reduceNe, Int.reduceLT, Int.reduceLE, Int.reduceAdd, Int.reduceSub, Int.reduceMul, Int.reduceNeg, Nat.zero_add, Nat.add_zero, Nat.mul_one, Int.toNat_natCast, Int.natCast_zero, Int.cast_ofNat_Int, or_false, false_or, or_true, true_or, Int.reduceToNat, Nat.sub_zero, Int.natCast_nonneg, Int.toNat_zero, Bool.true_and, Bool.and_true, Bool.false_and, Bool.and_false, Bool.true_or, Bool.or_true, Bool.false_or, Bool.or_false, Bool.not_true, Bool.not_false, Bool.not_not, true_and, and_true, false_and, and_false, not_true_eq_false, not_false_eq_true, eq_self, decide_true, decide_false, ne_eq, implies_true, forall_const, true_implies, false_implies, Bool.true_eq_false, Bool.false_eq_true, reduceCtorEq, List.map_cons, List.map_nil, List.all_cons, List.all_nil, List.length_cons, List.length_nil, List.length_map, List.length_append, List.nil_append, List.cons_append, List.set_cons_zero, List.set_cons_succ, List.set_nil, List.drop_zero, List.drop_succ_cons, List.drop_nil, List.take_zero, List.take_succ_cons, List.take_nil, Option.map_some, Option.map_none, Option.isSome_some, Nat.reduceEqDiff, Nat.reduceBEq, Nat.reduceGT, List.all_append, List.all_map, Function.comp_def, decide_eq_true_eq, Bool.and_eq_true, beq_self_eq_true, or_self, and_self, ite_true, ite_false, Nat.le_refl, Bool.not_eq_true, decide_not, Bool.not_eq_true', decide_eq_false_iff_not, Bool.not_eq_false, Bool.or_eq_true, if_true, if_false, ite_self, la_it, la_len, la_sure, la_ltA, la_lt1, la_all1, la_ro, la_take, la_cl, la_tm, la_r, la_sl, rc_len, rc_sure, rc_ltA, rc_lt1, rc_all1, rc_ro, rc_take, rc_sl, la_set, rc_set, zcL_eq, zcR_eq, la_allA, la_len7, all_tt, natInt, u_nthM, la_s, la_set5, hlt', h2', h2l, w_i64, hkm, List.length_take, Nat.min_eq_left, plenumlaw26_Few_r3_eq, plenumlaw26_Few_r4_eq]
        exact step
      · have h2' : ¬ (200 : Int) < (a[k].r.s.length : Int) := by omega
        have hf : fewN a[k] = a[k] := by unfold fewN; rw [List.take_of_length_le (by omega)]
        rw [List.map_singleton, hf] at step
        simp (config := {maxSteps := 4000000, implicitDefEqProofs := false}) (disch := omega) only [go_sem, ↓reduceIte, Nat.reduceAdd, Nat.reduceSub, Nat.reduceMul, Nat.reduceLeDiff, Nat.reduceLT, Int.reduceEq, Int.reduceNe, Int.reduceLT, Int.reduceLE, Int.reduceAdd, Int.reduceSub, Int.reduceMul, Int.reduceNeg, Nat.zero_add, Nat.add_zero, Nat.mul_one, Int.toNat_natCast, Int.natCast_zero, Int.cast_ofNat_Int, or_false, false_or, or_true, true_or, Int.reduceToNat, Nat.sub_zero, Int.natCast_nonneg, Int.toNat_zero, Bool.true_and, Bool.and_true, Bool.false_and, Bool.and_false, Bool.true_or, Bool.or_true, Bool.false_or, Bool.or_false, Bool.not_true, Bool.not_false, Bool.not_not, true_and, and_true, false_and, and_false, not_true_eq_false, not_false_eq_true, eq_self, decide_true, decide_false, ne_eq, implies_true, forall_const, true_implies, false_implies, Bool.true_eq_false, Bool.false_eq_true, reduceCtorEq, List.map_cons, List.map_nil, List.all_cons, List.all_nil, List.length_cons, List.length_nil, List.length_map, List.length_append, List.nil_append, List.cons_append, List.set_cons_zero, List.set_cons_succ, List.set_nil, List.drop_zero, List.drop_succ_cons, List.drop_nil, List.take_zero, List.take_succ_cons, List.take_nil, Option.map_some, Option.map_none, Option.isSome_some, Nat.reduceEqDiff, Nat.reduceBEq, Nat.reduceGT, List.all_append, List.all_map, Function.comp_def, decide_eq_true_eq, Bool.and_eq_true, beq_self_eq_true, or_self, and_self, ite_true, ite_false, Nat.le_refl, Bool.not_eq_true, decide_not, Bool.not_eq_true', decide_eq_false_iff_not, Bool.not_eq_false, Bool.or_eq_true, if_true, if_false, ite_self, la_it, la_len, la_sure, la_ltA, la_lt1, la_all1, la_ro, la_take, la_cl, la_tm, la_r, la_sl, rc_len, rc_sure, rc_ltA, rc_lt1, rc_all1, rc_ro, rc_take, rc_sl, la_set, rc_set, zcL_eq, zcR_eq, la_allA, la_len7, all_tt, natInt, u_nthM, la_s, hlt', h2', w_i64, hkm, List.length_take, Nat.min_eq_left, plenumlaw26_Few_r3_eq, plenumlaw26_Few_r4_eq]
        exact step
    · have hlt' : ¬ (k : Int) < (a.length : Int) := by omega
      have : k = a.length := by omega
      subst this
      simp (config := {maxSteps := 4000000, implicitDefEqProofs := false}) (disch := omega) only [go_sem, ↓reduceIte, Nat.reduceAdd, Nat.reduceSub, Nat.reduceMul, Nat.reduceLeDiff, Nat.reduceLT, Int.reduceEq, Int.reduceNe, Int.reduceLT, Int.reduceLE, Int.reduceAdd, Int.reduceSub, Int.reduceMul, Int.reduceNeg, Nat.zero_add, Nat.add_zero, Nat.mul_one, Int.toNat_natCast, Int.natCast_zero, Int.cast_ofNat_Int, or_false, false_or, or_true, true_or, Int.reduceToNat, Nat.sub_zero, Int.natCast_nonneg, Int.toNat_zero, Bool.true_and, Bool.and_true, Bool.false_and, Bool.and_false, Bool.true_or, Bool.or_true, Bool.false_or, Bool.or_false, Bool.not_true, Bool.not_false, Bool.not_not, true_and, and_true, false_and, and_false, not_true_eq_false, not_false_eq_true, eq_self, decide_true, decide_false, ne_eq, implies_true, forall_const, true_implies, false_implies, Bool.true_eq_false, Bool.false_eq_true, reduceCtorEq, List.map_cons, List.map_nil, List.all_cons, List.all_nil, List.length_cons, List.length_nil, List.length_map, List.length_append, List.nil_append, List.cons_append, List.set_cons_zero, List.set_cons_succ, List.set_nil, List.drop_zero, List.drop_succ_cons, List.drop_nil, List.take_zero, List.take_succ_cons, List.take_nil, Option.map_some, Option.map_none, Option.isSome_some, Nat.reduceEqDiff, Nat.reduceBEq, Nat.reduceGT, List.all_append, List.all_map, Function.comp_def, decide_eq_true_eq, Bool.and_eq_true, beq_self_eq_true, or_self, and_self, ite_true, ite_false, Nat.le_refl, Bool.not_eq_true, decide_not, Bool.not_eq_true', decide_eq_false_iff_not, Bool.not_eq_false, Bool.or_eq_true, if_true, if_false, ite_self, la_it, la_len, la_sure, la_ltA, la_lt1, la_all1, la_ro, la_take, la_cl, la_tm, la_r, la_sl, rc_len, rc_sure, rc_ltA, rc_lt1, rc_all1, rc_ro, rc_take, rc_sl, la_set, rc_set, zcL_eq, zcR_eq, la_allA, la_len7, all_tt, natInt, u_nthM, hlt', hkx, List.take_length, plenumlaw26_Few_r4_eq, plenumlaw26_Few_r3_eq, plenumlaw26_Few_r2_eq, plenumlaw26_Few_r1_eq]
  rw [plenumlaw26_Few_eq, lL_def, lL_def]
  unfold fewL
  by_cases h10 : 260 < l.length
  · have h10' : (260 : Int) < (l.length : Int) := by omega
    have h10l : 260 ≤ l.length := by omega
    have := main (l.take 260) (by rw [List.length_take]; omega) (fun x hx => hs x (List.mem_of_mem_take hx))
    have h10z : (260 : Int) ≤ (l.length : Int) := by omega
    simp (config := {maxSteps := 4000000, implicitDefEqProofs := false}) (disch := omega) only [go_sem, ↓reduceIte, Nat.reduceAdd, Nat.reduceSub, Nat.reduceMul, Nat.reduceLeDiff, Nat.reduceLT, Int.reduceEq, Int.reduceNe, Int.reduceLT, Int.reduceLE, Int.reduceAdd, Int.reduceSub, Int.reduceMul, Int.reduceNeg, Nat.zero_add, Nat.add_zero, Nat.mul_one, Int.toNat_natCast, Int.natCast_zero, Int.cast_ofNat_Int, or_false, false_or, or_true, true_or, Int.reduceToNat, Nat.sub_zero, Int.natCast_nonneg, Int.toNat_zero, Bool.true_and, Bool.and_true, Bool.false_and, Bool.and_false, Bool.true_or, Bool.or_true, Bool.false_or, Bool.or_false, Bool.not_true, Bool.not_false, Bool.not_not, true_and, and_true, false_and, and_false, not_true_eq_false, not_false_eq_true, eq_self, decide_true, decide_false, ne_eq, implies_true, forall_const, true_implies, false_implies, Bool.true_eq_false, Bool.false_eq_true, reduceCtorEq, List.map_cons, List.map_nil, List.all_cons, List.all_nil, List.length_cons, List.length_nil, List.length_map, List.length_append, List.nil_append, List.cons_append, List.set_cons_zero, List.set_cons_succ, List.set_nil, List.drop_zero, List.drop_succ_cons, List.drop_nil, List.take_zero, List.take_succ_cons, List.take_nil, Option.map_some, Option.map_none, Option.isSome_some, Nat.reduceEqDiff, Nat.reduceBEq, Nat.reduceGT, List.all_append, List.all_map, Function.comp_def, decide_eq_true_eq, Bool.and_eq_true, beq_self_eq_true, or_self, and_self, ite_true, ite_false, Nat.le_refl, Bool.not_eq_true, decide_not, Bool.not_eq_true', decide_eq_false_iff_not, Bool.not_eq_false, Bool.or_eq_true, if_true, if_false, ite_self, la_it, la_len, la_sure, la_ltA, la_lt1, la_all1, la_ro, la_take, la_cl, la_tm, la_r, la_sl, rc_len, rc_sure, rc_ltA, rc_lt1, rc_all1, rc_ro, rc_take, rc_sl, la_set, rc_set, zcL_eq, zcR_eq, la_allA, la_len7, all_tt, natInt, u_nthM, h10', h10l, h10z]
    rw [← List.map_take]
    exact this
  · have h10' : ¬ (260 : Int) < (l.length : Int) := by omega
    rw [List.take_of_length_le (by omega)]
    have := main l (by omega) hs
    simp (config := {maxSteps := 4000000, implicitDefEqProofs := false}) (disch := omega) only [go_sem, ↓reduceIte, Nat.reduceAdd, Nat.reduceSub, Nat.reduceMul, Nat.reduceLeDiff, Nat.reduceLT, Int.reduceEq, Int.reduceNe, Int.reduceLT, Int.reduceLE, Int.reduceAdd, Int.reduceSub, Int.reduceMul, Int.reduceNeg, Nat.zero_add, Nat.add_zero, Nat.mul_one, Int.toNat_natCast, Int.natCast_zero, Int.cast_ofNat_Int, or_false, false_or, or_true, true_or, Int.reduceToNat, Nat.sub_zero, Int.natCast_nonneg, Int.toNat_zero, Bool.true_and, Bool.and_true, Bool.false_and, Bool.and_false, Bool.true_or, Bool.or_true, Bool.false_or, Bool.or_false, Bool.not_true, Bool.not_false, Bool.not_not, true_and, and_true, false_and, and_false, not_true_eq_false, not_false_eq_true, eq_self, decide_true, decide_false, ne_eq, implies_true, forall_const, true_implies, false_implies, Bool.true_eq_false, Bool.false_eq_true, reduceCtorEq, List.map_cons, List.map_nil, List.all_cons, List.all_nil, List.length_cons, List.length_nil, List.length_map, List.length_append, List.nil_append, List.cons_append, List.set_cons_zero, List.set_cons_succ, List.set_nil, List.drop_zero, List.drop_succ_cons, List.drop_nil, List.take_zero, List.take_succ_cons, List.take_nil, Option.map_some, Option.map_none, Option.isSome_some, Nat.reduceEqDiff, Nat.reduceBEq, Nat.reduceGT, List.all_append, List.all_map, Function.comp_def, decide_eq_true_eq, Bool.and_eq_true, beq_self_eq_true, or_self, and_self, ite_true, ite_false, Nat.le_refl, Bool.not_eq_true, decide_not, Bool.not_eq_true', decide_eq_false_iff_not, Bool.not_eq_false, Bool.or_eq_true, if_true, if_false, ite_self, h10']
    exact this
end Go.Proofs.Ytchncgdjefbmfaa

namespace Go.Proofs.Ytchncgdjefbmfaa
open Go.RowKit
set_option linter.unusedVariables false
set_option linter.unusedSimpArgs false
set_option maxRecDepth 20000
structure Tx where
  cl : Int
  tm : Int
  rd : AV
  wr : AV
  src : Bytes
  gas : Int
def tC (t : Tx) : List AV := [nA t.cl, nA t.tm, t.rd, t.wr, sA t.src, nA t.gas]
def tE (t : Tx) : AV := .agg (tC t)
def Tx.Ok (t : Tx) : Prop := (sure t.rd = true ∧ sure t.wr = true) ∧ (∀ n, lt1 n t.rd = true) ∧ (∀ n, lt1 n t.wr = true)
theorem te_it (t : Tx) : tE t = .agg (tC t) := _root_.id rfl
section
variable {R : Type} {t u : Tx} {n : Nat} {K1 : AV → Option R}
theorem tc_len : (tC t).length = 6 := _root_.id rfl
theorem tc_sure (h : t.Ok) : (tC t).all sure = true := by
  show (true && (true && (sure t.rd && (sure t.wr && (true && (true && true)))))) = true
  rw [h.1.1, h.1.2]; rfl
theorem tc_lt1 (h : t.Ok) : (tC t).all (lt1 n) = true := by
  show (true && (true && (lt1 n t.rd && (lt1 n t.wr && (true && (true && true)))))) = true
  rw [h.2.1 n, h.2.2 n]; rfl
theorem tc_ltA (h : t.Ok) : ltA n (.agg (tC t)) = true := tc_lt1 h
theorem tc_sl (h : t.Ok) : ((tC t).all fun y => sure y && lt1 n y) = true := by
  show (true && (true && ((sure t.rd && lt1 n t.rd) && ((sure t.wr && lt1 n t.wr) && (true && (true && true)))))) = true
  rw [h.2.1 n, h.2.2 n, h.1.1, h.1.2]; rfl
theorem tc_take : (tC t).take 6 = tC t := _root_.id rfl
theorem tc_cl : nthE (tC t) 0 K1 = K1 (nA t.cl) := _root_.id rfl
theorem tc_tm : nthE (tC t) 1 K1 = K1 (nA t.tm) := _root_.id rfl
theorem tc_set : setCells (tC u) 0 (tC t) = tC t := _root_.id rfl
def Tx.zero : Tx := ⟨0, 0, V (.slice none 0 0), V (.slice none 0 0), [], 0⟩
theorem zcT_eq : zc_api_Txn = tC Tx.zero := _root_.id rfl
def timeT (k : Int) : Tx := ⟨3, k, V (.slice none 0 0), V (.slice none 0 0), [], 0⟩
theorem tc_bT {k : Int} : buildE (some pl_api_Txn) (some (tC Tx.zero)) [(0, nA 3), (1, nA k)] K1 = K1 (.agg (tC (timeT k))) := _root_.id rfl
theorem timeT_ok {k : Int} : (timeT k).Ok := ⟨⟨rfl, rfl⟩, fun _ => rfl, fun _ => rfl⟩
end
theorem all_tE' {l : List Tx} {n : Nat} (h : ∀ t ∈ l, t.Ok) : (l.all fun t => ltA n (tE t)) = true := List.all_eq_true.2 fun t ht => tc_ltA (h t ht)
theorem times_s (m : Nat) (l : List Int) (hm : l.length < m) (hl : l.length ≤ 1000) : plenumlaw26_times m (SL (l.map fun k => nA k)) = some (SL ((l.map timeT).map tE), []) := by
  rw [plenumlaw26_times_eq]
  simp (config := {maxSteps := 4000000, implicitDefEqProofs := false}) (disch := omega) only [go_sem, ↓reduceIte, Nat.reduceAdd, Nat.reduceSub, Nat.reduceMul, Nat.reduceLeDiff, Nat.reduceLT, Int.reduceEq, Int.reduceNe, Int.reduceLT, Int.reduceLE, Int.reduceAdd, Int.reduceSub, Int.reduceMul, Int.reduceNeg, Nat.zero_add, Nat.add_zero, Nat.mul_one, Int.toNat_natCast, Int.natCast_zero, Int.cast_ofNat_Int, or_false, false_or, or_true, true_or, Int.reduceToNat, Nat.sub_zero, Int.natCast_nonneg, Int.toNat_zero, Bool.true_and, Bool.and_true, Bool.false_and, Bool.and_false, Bool.true_or, Bool.or_true, Bool.false_or, Bool.or_false, Bool.not_true, Bool.not_false, Bool.not_not, true_and, and_true, false_and, and_false, not_true_eq_false, not_false_eq_true, eq_self, decide_true, decide_false, ne_eq, implies_true, forall_const, true_implies, false_implies, Bool.true_eq_false, Bool.false_eq_true, reduceCtorEq, List.map_cons, List.map_nil, List.all_cons, List.all_nil, List.length_cons, List.length_nil, List.length_map, List.length_append, List.nil_append, List.cons_append, List.set_cons_zero, List.set_cons_succ, List.set_nil, List.drop_zero, List.drop_succ_cons, List.drop_nil, List.take_zero, List.take_succ_cons, List.take_nil, Option.map_some, Option.map_none, Option.isSome_some, Nat.reduceEqDiff, Nat.reduceBEq, Nat.reduceGT, List.all_append, List.all_map, Function.comp_def, decide_eq_true_eq, Bool.and_eq_true, beq_self_eq_true, or_self, and_self, ite_true, ite_false, Nat.le_refl, Bool.not_eq_true, decide_not, Bool.not_eq_true', decide_eq_false_iff_not, Bool.not_eq_false, Bool.or_eq_true, if_true, if_false, ite_self, hl]
  refine iter_go (ι := {k : Nat // k ≤ l.length}) (fun k => ⟨[⟨2, ty_api_Txn, 6, ((l.take k.1).map timeT).map tE⟩], [(0, SL (l.map fun k => nA k)), (3, OW 0 k.1), (4, nA k.1)]⟩) (fun k => l.length - k.1) (fun _ => some (SL ((l.map timeT).map tE), [])) ?_ ⟨0, Nat.zero_le _⟩ (by dsimp only; omega)
  rintro kx hkx ⟨k, hk⟩ kc hkc
  dsimp only at hkc ⊢
  rw [plenumlaw26_times_b1_eq]
  by_cases hlt : k < l.length
  · have hlt' : (k : Int) < (l.length : Int) := by omega
    have step := hkc ⟨k + 1, by omega⟩ (by dsimp only; omega)
    dsimp only at step
    rw [List.take_succ_eq_append_getElem hlt, List.map_append, List.map_append] at step
    have hkm : k + 1 ≤ 34359738368 := by omega
    have hq : ∀ {n : Nat}, ltA n (.agg (tC (timeT l[k]))) = true := tc_ltA timeT_ok
    have hq1 : ∀ {n : Nat}, (tC (timeT l[k])).all (lt1 n) = true := tc_lt1 timeT_ok
    have hq2 : (tC (timeT l[k])).all sure = true := tc_sure timeT_ok
    have hq3 : ∀ {n : Nat}, ((tC (timeT l[k])).all fun y => sure y && lt1 n y) = true := tc_sl timeT_ok
    have hq4 : ∀ {n : Nat}, (l.take k).all ((ltA n) ∘ tE ∘ timeT) = true := List.all_eq_true.2 fun t ht => tc_ltA timeT_ok
    have hq5 : ∀ {n : Nat}, ((l.take k).all fun x => ltA n (tE (timeT x))) = true := List.all_eq_true.2 fun t ht => tc_ltA timeT_ok
    simp (config := {maxSteps := 4000000, implicitDefEqProofs := false}) (disch := omega) only [go_sem, ↓reduceIte, Nat.reduceAdd, Nat.reduceSub, Nat.reduceMul, Nat.reduceLeDiff, Nat.reduceLT, Int.reduceEq, Int.reduceNe, Int.reduceLT, Int.reduceLE, Int.reduceAdd, Int.reduceSub, Int.reduceMul, Int.reduceNeg, Nat.zero_add, Nat.add_zero, Nat.mul_one, Int.toNat_natCast, Int.natCast_zero, Int.cast_ofNat_Int, or_false, false_or, or_true, true_or, Int.reduceToNat, Nat.sub_zero, Int.natCast_nonneg, Int.toNat_zero, Bool.true_and, Bool.and_true, Bool.false_and, Bool.and_false, Bool.true_or, Bool.or_true, Bool.false_or, Bool.or_false, Bool.not_true, Bool.not_false, Bool.not_not, true_and, and_true, false_and, and_false, not_true_eq_false, not_false_eq_true, eq_self, decide_true, decide_false, ne_eq, implies_true, forall_const, true_implies, false_implies, Bool.true_eq_false, Bool.false_eq_true, reduceCtorEq, List.map_cons, List.map_nil, List.all_cons, List.all_nil, List.length_cons, List.length_nil, List.length_map, List.length_append, List.nil_append, List.cons_append, List.set_cons_zero, List.set_cons_succ, List.set_nil, List.drop_zero, List.drop_succ_cons, List.drop_nil, List.take_zero, List.take_succ_cons, List.take_nil, Option.map_some, Option.map_none, Option.isSome_some, Nat.reduceEqDiff, Nat.reduceBEq, Nat.reduceGT, List.all_append, List.all_map, Function.comp_def, decide_eq_true_eq, Bool.and_eq_true, beq_self_eq_true, or_self, and_self, ite_true, ite_false, Nat.le_refl, Bool.not_eq_true, decide_not, Bool.not_eq_true', decide_eq_false_iff_not, Bool.not_eq_false, Bool.or_eq_true, if_true, if_false, ite_self, natInt, u_nthM, hlt', tc_len, zcT_eq, tc_bT, hq, hq1, hq2, hq3, hq5, w_i64, hkm, all_tt, List.length_take, Nat.min_eq_left]
    exact step
  · have hlt' : ¬ (k : Int) < (l.length : Int) := by omega
    have : k = l.length := by omega
    subst this
    have hq5 : ∀ {n : Nat}, (l.all fun x => ltA n (tE (timeT x))) = true := List.all_eq_true.2 fun t ht => tc_ltA timeT_ok
    simp (config := {maxSteps := 4000000, implicitDefEqProofs := false}) (disch := omega) only [go_sem, ↓reduceIte, Nat.reduceAdd, Nat.reduceSub, Nat.reduceMul, Nat.reduceLeDiff, Nat.reduceLT, Int.reduceEq, Int.reduceNe, Int.reduceLT, Int.reduceLE, Int.reduceAdd, Int.reduceSub, Int.reduceMul, Int.reduceNeg, Nat.zero_add, Nat.add_zero, Nat.mul_one, Int.toNat_natCast, Int.natCast_zero, Int.cast_ofNat_Int, or_false, false_or, or_true, true_or, Int.reduceToNat, Nat.sub_zero, Int.natCast_nonneg, Int.toNat_zero, Bool.true_and, Bool.and_true, Bool.false_and, Bool.and_false, Bool.true_or, Bool.or_true, Bool.false_or, Bool.or_false, Bool.not_true, Bool.not_false, Bool.not_not, true_and, and_true, false_and, and_false, not_true_eq_false, not_false_eq_true, eq_self, decide_true, decide_false, ne_eq, implies_true, forall_const, true_implies, false_implies, Bool.true_eq_false, Bool.false_eq_true, reduceCtorEq, List.map_cons, List.map_nil, List.all_cons, List.all_nil, List.length_cons, List.length_nil, List.length_map, List.length_append, List.nil_append, List.cons_append, List.set_cons_zero, List.set_cons_succ, List.set_nil, List.drop_zero, List.drop_succ_cons, List.drop_nil, List.take_zero, List.take_succ_cons, List.take_nil, Option.map_some, Option.map_none, Option.isSome_some, Nat.reduceEqDiff, Nat.reduceBEq, Nat.reduceGT, List.all_append, List.all_map, Function.comp_def, decide_eq_true_eq, Bool.and_eq_true, beq_self_eq_true, or_self, and_self, ite_true, ite_false, Nat.le_refl, Bool.not_eq_true, decide_not, Bool.not_eq_true', decide_eq_false_iff_not, Bool.not_eq_false, Bool.or_eq_true, if_true, if_false, ite_self, hlt', hkx, hq5, List.take_length, plenumlaw26_times_r1_eq]
def frG : List La → Nat → List Tx → List Tx × List Nat
  | _, _, [] => ([], [])
  | l, k, t :: r => if (noteA l t.cl t.tm Rs.zero).2 = 0 then (t :: (frG (noteA l t.cl t.tm Rs.zero).1 (k + 1) r).1, k :: (frG (noteA l t.cl t.tm Rs.zero).1 (k + 1) r).2) else frG l (k + 1) r
def freshA (l : List La) (b : List Tx) : List Tx × List Nat := if isL l = true then frG l 0 b else ([], [])
theorem note_ok {l : List La} {c t : Int} {r : Rs} (h : (noteA l c t r).2 = 0) : isL l = true ∧ could c t = true ∧ rB r = true ∧ (askA l c t).2 = 6 ∧ (noteA l c t r).1 = loL l c ++ ⟨c, t, r⟩ :: hiL l c := by
  have ha : (askA l c t).2 = 6 → isL l = true ∧ could c t = true := fun e => by
    unfold askA at e
    split at e
    · rename_i q; exact q
    · simp at e
  unfold noteA at h ⊢
  by_cases h6 : (askA l c t).2 = 6
  · rw [if_pos h6] at h ⊢
    by_cases hb : rB r = true
    · obtain ⟨q1, q2⟩ := ha h6
      rw [if_pos hb]
      exact ⟨q1, q2, hb, h6, putL_eq q1 c ⟨c, t, r⟩⟩
    · rw [if_neg hb] at h; simp at h
  · rw [if_neg h6] at h
    split at h
    · simp at h
    · split at h <;> simp at h
theorem mid_ok {l : List La} {c t : Int} {r : Rs} (hi : isL l = true) (hc : could c t = true) (hr : rB r = true) : isL (loL l c ++ ⟨c, t, r⟩ :: hiL l c) = true := by
  obtain ⟨h1, h2⟩ := isL_iff.1 hi
  refine isL_iff.2 ⟨fun x hx => ?_, ?_⟩
  · rcases List.mem_append.1 hx with q | q
    · exact h1 x ((List.mem_filter.1 q).1)
    · rcases List.mem_cons.1 q with rfl | q
      · exact ⟨hc, hr⟩
      · exact h1 x ((List.mem_filter.1 q).1)
  · rw [List.pairwise_append]
    refine ⟨h2.sublist List.filter_sublist, List.pairwise_cons.2 ⟨fun y hy => ?_, h2.sublist List.filter_sublist⟩, fun x hx y hy => ?_⟩
    · have := (List.mem_filter.1 hy).2
      simpa using this
    · have q1 : x.cl < c := by have := (List.mem_filter.1 hx).2; simpa using this
      rcases List.mem_cons.1 hy with rfl | hy
      · exact q1
      · have q2 : c < y.cl := by have := (List.mem_filter.1 hy).2; simpa using this
        omega
theorem note_isL {l : List La} {c t : Int} {r : Rs} (h : (noteA l c t r).2 = 0) : isL (noteA l c t r).1 = true := by
  obtain ⟨h1, h2, h3, _, h5⟩ := note_ok h
  rw [h5]
  exact mid_ok h1 h2 h3
theorem note_in {l : List La} {c t : Int} {r : Rs} (h : (noteA l c t r).2 = 0) (hl : ∀ x ∈ l, x.r.In) (hr : r.In) : ∀ x ∈ (noteA l c t r).1, x.r.In := by
  obtain ⟨_, _, _, _, h5⟩ := note_ok h
  rw [h5]
  intro x hx
  rcases List.mem_append.1 hx with q | q
  · exact hl x ((List.mem_filter.1 q).1)
  · rcases List.mem_cons.1 q with rfl | q
    · exact hr
    · exact hl x ((List.mem_filter.1 q).1)
theorem zero_in : Rs.zero.In := ⟨by show (-9223372036854775808 : Int) ≤ 0; omega, by show (0 : Int) < 9223372036854775808; omega⟩
def nLs (l : List Nat) : List AV := l.map fun (k : Nat) => nA (k : Int)
theorem nLs_len (l : List Nat) : (nLs l).length = l.length := by simp [nLs]
theorem nLs_ltA {l : List Nat} {n : Nat} : (nLs l).all (ltA n) = true := by unfold nLs; rw [List.all_map]; exact List.all_eq_true.2 fun _ _ => rfl
theorem nLs_app (l : List Nat) (k : Nat) : nLs (l ++ [k]) = nLs l ++ [nA (k : Int)] := by simp [nLs]
theorem fresh_s (m : Nat) (l : List La) (b : List Tx) (hm : 300 < m) (hlm : l.length < m) (hbm : b.length < m) (hl : l.length ≤ 34359738367) (hb : b.length ≤ 1000000) (h : ∀ x ∈ l, x.r.In) (ht : ∀ t ∈ b, t.Ok) : replies_Fresh m (lL l) (SL (b.map tE)) = some (TU [SL ((freshA l b).1.map tE), SL (nLs (freshA l b).2)], []) := by
  have hI := is_s m l hlm hl h
  rw [lL_def] at hI
  rw [replies_Fresh_eq, lL_def]
  unfold freshA
  cases hi : isL l with
  | false =>
    rw [hi] at hI
    simp (config := {maxSteps := 4000000, implicitDefEqProofs := false}) (disch := omega) only [go_sem, ↓reduceIte, Nat.reduceAdd, Nat.reduceSub, Nat.reduceMul, Nat.reduceLeDiff, Nat.reduceLT, Int.reduceEq, Int.reduceNe, Int.reduceLT, Int.reduceLE, Int.reduceAdd, Int.reduceSub, Int.reduceMul, Int.reduceNeg, Nat.zero_add, Nat.add_zero, Nat.mul_one, Int.toNat_natCast, Int.natCast_zero, Int.cast_ofNat_Int, or_false, false_or, or_true, true_or, Int.reduceToNat, Nat.sub_zero, Int.natCast_nonneg, Int.toNat_zero, Bool.true_and, Bool.and_true, Bool.false_and, Bool.and_false, Bool.true_or, Bool.or_true, Bool.false_or, Bool.or_false, Bool.not_true, Bool.not_false, Bool.not_not, true_and, and_true, false_and, and_false, not_true_eq_false, not_false_eq_true, eq_self, decide_true, decide_false, ne_eq, implies_true, forall_const, true_implies, false_implies, Bool.true_eq_false, Bool.false_eq_true, reduceCtorEq, List.map_cons, List.map_nil, List.all_cons, List.all_nil, List.length_cons, List.length_nil, List.length_map, List.length_append, List.nil_append, List.cons_append, List.set_cons_zero, List.set_cons_succ, List.set_nil, List.drop_zero, List.drop_succ_cons, List.drop_nil, List.take_zero, List.take_succ_cons, List.take_nil, Option.map_some, Option.map_none, Option.isSome_some, Nat.reduceEqDiff, Nat.reduceBEq, Nat.reduceGT, List.all_append, List.all_map, Function.comp_def, decide_eq_true_eq, Bool.and_eq_true, beq_self_eq_true, or_self, and_self, ite_true, ite_false, Nat.le_refl, Bool.not_eq_true, decide_not, Bool.not_eq_true', decide_eq_false_iff_not, Bool.not_eq_false, Bool.or_eq_true, if_true, if_false, ite_self, la_it, la_len, la_sure, la_ltA, la_lt1, la_all1, la_ro, la_take, la_cl, la_tm, la_r, la_sl, rc_len, rc_sure, rc_ltA, rc_lt1, rc_all1, rc_ro, rc_take, rc_sl, la_set, rc_set, zcL_eq, zcR_eq, la_allA, la_len7, all_tt, natInt, u_nthM, hI]
    rfl
  | true =>
    rw [hi] at hI
    rw [if_pos rfl]
    generalize hF : frG l 0 b = F
    obtain ⟨F1, F2⟩ := F
    simp (config := {maxSteps := 4000000, implicitDefEqProofs := false}) (disch := omega) only [go_sem, ↓reduceIte, Nat.reduceAdd, Nat.reduceSub, Nat.reduceMul, Nat.reduceLeDiff, Nat.reduceLT, Int.reduceEq, Int.reduceNe, Int.reduceLT, Int.reduceLE, Int.reduceAdd, Int.reduceSub, Int.reduceMul, Int.reduceNeg, Nat.zero_add, Nat.add_zero, Nat.mul_one, Int.toNat_natCast, Int.natCast_zero, Int.cast_ofNat_Int, or_false, false_or, or_true, true_or, Int.reduceToNat, Nat.sub_zero, Int.natCast_nonneg, Int.toNat_zero, Bool.true_and, Bool.and_true, Bool.false_and, Bool.and_false, Bool.true_or, Bool.or_true, Bool.false_or, Bool.or_false, Bool.not_true, Bool.not_false, Bool.not_not, true_and, and_true, false_and, and_false, not_true_eq_false, not_false_eq_true, eq_self, decide_true, decide_false, ne_eq, implies_true, forall_const, true_implies, false_implies, Bool.true_eq_false, Bool.false_eq_true, reduceCtorEq, List.map_cons, List.map_nil, List.all_cons, List.all_nil, List.length_cons, List.length_nil, List.length_map, List.length_append, List.nil_append, List.cons_append, List.set_cons_zero, List.set_cons_succ, List.set_nil, List.drop_zero, List.drop_succ_cons, List.drop_nil, List.take_zero, List.take_succ_cons, List.take_nil, Option.map_some, Option.map_none, Option.isSome_some, Nat.reduceEqDiff, Nat.reduceBEq, Nat.reduceGT, List.all_append, List.all_map, Function.comp_def, decide_eq_true_eq, Bool.and_eq_true, beq_self_eq_true, or_self, and_self, ite_true, ite_false, Nat.le_refl, Bool.not_eq_true, decide_not, Bool.not_eq_true', decide_eq_false_iff_not, Bool.not_eq_false, Bool.or_eq_true, if_true, if_false, ite_self, la_it, la_len, la_sure, la_ltA, la_lt1, la_all1, la_ro, la_take, la_cl, la_tm, la_r, la_sl, rc_len, rc_sure, rc_ltA, rc_lt1, rc_all1, rc_ro, rc_take, rc_sl, la_set, rc_set, zcL_eq, zcR_eq, la_allA, la_len7, all_tt, natInt, u_nthM, hI]
    refine iter_go (ι := {p : Nat × List La × List Tx × List Nat // p.1 ≤ b.length ∧ isL p.2.1 = true ∧ (∀ x ∈ p.2.1, x.r.In) ∧ p.2.2.1.length ≤ p.1 ∧ p.2.2.2.length ≤ p.1 ∧ (∀ t ∈ p.2.2.1, t.Ok) ∧ p.2.2.1 ++ (frG p.2.1 p.1 (b.drop p.1)).1 = F1 ∧ p.2.2.2 ++ (frG p.2.1 p.1 (b.drop p.1)).2 = F2})
      (fun p => ⟨[⟨2, ty_api_Txn, 6, p.1.2.2.1.map tE⟩, ⟨2, ty_int, 1, nLs p.1.2.2.2⟩], [(0, SL (p.1.2.1.map laE)), (6, OW 0 p.1.2.2.1.length), (7, OW 1 p.1.2.2.2.length), (15, SL (b.map tE)), (16, nA b.length), (17, nA p.1.1)]⟩) (fun p => b.length - p.1.1) (fun _ => some (TU [SL (F1.map tE), SL (nLs F2)], [])) ?_ ⟨(0, l, [], []), Nat.zero_le _, hi, h, Nat.zero_le _, Nat.zero_le _, fun t q => by simp at q, by rw [List.drop_zero, hF]; rfl, by rw [List.drop_zero, hF]; rfl⟩ (by dsimp only; omega)
    rintro kx hkx ⟨⟨k, cur, outs, pls⟩, hk, hci, hcin, ho, hp, hok, hq1, hq2⟩ kc hkc
    dsimp only at hkc hk hci hcin ho hp hok hq1 hq2 ⊢
    rw [replies_Fresh_b1_eq]
    have hcl := isL_len hci
    have a1 : ∀ {n : Nat}, (outs.all fun t => ltA n (tE t)) = true := all_tE' hok
    have a2 : ∀ {n : Nat}, (outs.all fun x => (tC x).all (lt1 n)) = true := all_tE' hok
    by_cases hlt : k < b.length
    · have hlt' : (k : Int) < (b.length : Int) := by omega
      have hN := note_s m cur b[k].cl b[k].tm Rs.zero hm (by omega) (by omega) hcin zero_in
      rw [lL_def, rA_def, lL_def] at hN
      have hT := ht _ (List.getElem_mem hlt)
      have b1 : ∀ {n : Nat}, ltA n (.agg (tC b[k])) = true := tc_ltA hT
      have b2 : ∀ {n : Nat}, (tC b[k]).all (lt1 n) = true := tc_lt1 hT
      have b3 : (tC b[k]).all sure = true := tc_sure hT
      have b4 : ∀ {n : Nat}, ((tC b[k]).all fun y => sure y && lt1 n y) = true := tc_sl hT
      have hol : outs.length + 1 ≤ 34359738368 := by omega
      have hpl : pls.length + 1 ≤ 34359738368 := by omega
      rw [List.drop_eq_getElem_cons hlt] at hq1 hq2
      unfold frG at hq1 hq2
      by_cases he : (noteA cur b[k].cl b[k].tm Rs.zero).2 = 0
      · rw [if_pos he] at hq1 hq2
        have step := hkc ⟨(k + 1, (noteA cur b[k].cl b[k].tm Rs.zero).1, outs ++ [b[k]], pls ++ [k]), by dsimp only; omega, note_isL he, note_in he hcin zero_in, by simp; omega, by simp; omega, by
          intro t q
          rcases List.mem_append.1 q with q | q
          · exact hok t q
          · rw [List.mem_singleton.1 q]; exact hT, by dsimp only; rw [List.append_assoc]; exact hq1, by dsimp only; rw [List.append_assoc]; exact hq2⟩ (by dsimp only; omega)
        dsimp only at step
        rw [nLs_app, List.map_append, List.length_append, List.length_append] at step
        generalize noteA cur b[k].cl b[k].tm Rs.zero = N at hN he step
        obtain ⟨N1, N2⟩ := N
        dsimp only at hN he step
        simp (config := {maxSteps := 4000000, implicitDefEqProofs := false}) (disch := omega) only [go_sem, ↓reduceIte, Nat.reduceAdd, Nat.reduceSub, Nat.reduceMul, Nat.reduceLeDiff, Nat.reduceLT, Int.reduceEq, Int.reduceNe, Int.reduceLT, Int.reduceLE, Int.reduceAdd, Int.reduceSub, Int.reduceMul, Int.reduceNeg, Nat.zero_add, Nat.add_zero, Nat.mul_one, Int.toNat_natCast, Int.natCast_zero, Int.cast_ofNat_Int, or_false, false_or, or_true, true_or, Int.reduceToNat, Nat.sub_zero, Int.natCast_nonneg, Int.toNat_zero, Bool.true_and, Bool.and_true, Bool.false_and, Bool.and_false, Bool.true_or, Bool.or_true, Bool.false_or, Bool.or_false, Bool.not_true, Bool.not_false, Bool.not_not, true_and, and_true, false_and, and_false, not_true_eq_false, not_false_eq_true, eq_self, decide_true, decide_false, ne_eq, implies_true, forall_const, true_implies, false_implies, Bool.true_eq_false, Bool.false_eq_true, reduceCtorEq, List.map_cons, List.map_nil, List.all_cons, List.all_nil, List.length_cons, List.length_nil, List.length_map, List.length_append, List.nil_append, List.cons_append, List.set_cons_zero, List.set_cons_succ, List.set_nil, List.drop_zero, List.drop_succ_cons, List.drop_nil, List.take_zero, List.take_succ_cons, List.take_nil, Option.map_some, Option.map_none, Option.isSome_some, Nat.reduceEqDiff, Nat.reduceBEq, Nat.reduceGT, List.all_append, List.all_map, Function.comp_def, decide_eq_true_eq, Bool.and_eq_true, beq_self_eq_true, or_self, and_self, ite_true, ite_false, Nat.le_refl, Bool.not_eq_true, decide_not, Bool.not_eq_true', decide_eq_false_iff_not, Bool.not_eq_false, Bool.or_eq_true, if_true, if_false, ite_self, la_it, la_len, la_sure, la_ltA, la_lt1, la_all1, la_ro, la_take, la_cl, la_tm, la_r, la_sl, rc_len, rc_sure, rc_ltA, rc_lt1, rc_all1, rc_ro, rc_take, rc_sl, la_set, rc_set, zcL_eq, zcR_eq, la_allA, la_len7, all_tt, natInt, u_nthM, te_it, tc_len, tc_take, tc_cl, tc_tm, tc_set, zcT_eq, rc_b0, hN, he, hlt', b1, b2, b3, b4, a1, a2, nLs_ltA, nLs_len, hol, hpl, w_i64, replies_Fresh_r2_eq]
        exact step
      · rw [if_neg he] at hq1 hq2
        have step := hkc ⟨(k + 1, cur, outs, pls), by dsimp only; omega, hci, hcin, by dsimp only; omega, by dsimp only; omega, hok, hq1, hq2⟩ (by dsimp only; omega)
        dsimp only at step
        generalize noteA cur b[k].cl b[k].tm Rs.zero = N at hN he
        obtain ⟨N1, N2⟩ := N
        dsimp only at hN he
        simp (config := {maxSteps := 4000000, implicitDefEqProofs := false}) (disch := omega) only [go_sem, ↓reduceIte, Nat.reduceAdd, Nat.reduceSub, Nat.reduceMul, Nat.reduceLeDiff, Nat.reduceLT, Int.reduceEq, Int.reduceNe, Int.reduceLT, Int.reduceLE, Int.reduceAdd, Int.reduceSub, Int.reduceMul, Int.reduceNeg, Nat.zero_add, Nat.add_zero, Nat.mul_one, Int.toNat_natCast, Int.natCast_zero, Int.cast_ofNat_Int, or_false, false_or, or_true, true_or, Int.reduceToNat, Nat.sub_zero, Int.natCast_nonneg, Int.toNat_zero, Bool.true_and, Bool.and_true, Bool.false_and, Bool.and_false, Bool.true_or, Bool.or_true, Bool.false_or, Bool.or_false, Bool.not_true, Bool.not_false, Bool.not_not, true_and, and_true, false_and, and_false, not_true_eq_false, not_false_eq_true, eq_self, decide_true, decide_false, ne_eq, implies_true, forall_const, true_implies, false_implies, Bool.true_eq_false, Bool.false_eq_true, reduceCtorEq, List.map_cons, List.map_nil, List.all_cons, List.all_nil, List.length_cons, List.length_nil, List.length_map, List.length_append, List.nil_append, List.cons_append, List.set_cons_zero, List.set_cons_succ, List.set_nil, List.drop_zero, List.drop_succ_cons, List.drop_nil, List.take_zero, List.take_succ_cons, List.take_nil, Option.map_some, Option.map_none, Option.isSome_some, Nat.reduceEqDiff, Nat.reduceBEq, Nat.reduceGT, List.all_append, List.all_map, Function.comp_def, decide_eq_true_eq, Bool.and_eq_true, beq_self_eq_true, or_self, and_self, ite_true, ite_false, Nat.le_refl, Bool.not_eq_true, decide_not, Bool.not_eq_true', decide_eq_false_iff_not, Bool.not_eq_false, Bool.or_eq_true, if_true, if_false, ite_self, la_it, la_len, la_sure, la_ltA, la_lt1, la_all1, la_ro, la_take, la_cl, la_tm, la_r, la_sl, rc_len, rc_sure, rc_ltA, rc_lt1, rc_all1, rc_ro, rc_take, rc_sl, la_set, rc_set, zcL_eq, zcR_eq, la_allA, la_len7, all_tt, natInt, u_nthM, te_it, tc_len, tc_take, tc_cl, tc_tm, tc_set, zcT_eq, rc_b0, hN, he, hlt', b1, b2, b3, b4, a1, a2, nLs_ltA, nLs_len, w_i64, replies_Fresh_r2_eq]
        exact step
    · have hlt' : ¬ (k : Int) < (b.length : Int) := by omega
      rw [List.drop_of_length_le (by omega)] at hq1 hq2
      unfold frG at hq1 hq2
      rw [List.append_nil] at hq1 hq2
      subst hq1 hq2
      simp (config := {maxSteps := 4000000, implicitDefEqProofs := false}) (disch := omega) only [go_sem, ↓reduceIte, Nat.reduceAdd, Nat.reduceSub, Nat.reduceMul, Nat.reduceLeDiff, Nat.reduceLT, Int.reduceEq, Int.reduceNe, Int.reduceLT, Int.reduceLE, Int.reduceAdd, Int.reduceSub, Int.reduceMul, Int.reduceNeg, Nat.zero_add, Nat.add_zero, Nat.mul_one, Int.toNat_natCast, Int.natCast_zero, Int.cast_ofNat_Int, or_false, false_or, or_true, true_or, Int.reduceToNat, Nat.sub_zero, Int.natCast_nonneg, Int.toNat_zero, Bool.true_and, Bool.and_true, Bool.false_and, Bool.and_false, Bool.true_or, Bool.or_true, Bool.false_or, Bool.or_false, Bool.not_true, Bool.not_false, Bool.not_not, true_and, and_true, false_and, and_false, not_true_eq_false, not_false_eq_true, eq_self, decide_true, decide_false, ne_eq, implies_true, forall_const, true_implies, false_implies, Bool.true_eq_false, Bool.false_eq_true, reduceCtorEq, List.map_cons, List.map_nil, List.all_cons, List.all_nil, List.length_cons, List.length_nil, List.length_map, List.length_append, List.nil_append, List.cons_append, List.set_cons_zero, List.set_cons_succ, List.set_nil, List.drop_zero, List.drop_succ_cons, List.drop_nil, List.take_zero, List.take_succ_cons, List.take_nil, Option.map_some, Option.map_none, Option.isSome_some, Nat.reduceEqDiff, Nat.reduceBEq, Nat.reduceGT, List.all_append, List.all_map, Function.comp_def, decide_eq_true_eq, Bool.and_eq_true, beq_self_eq_true, or_self, and_self, ite_true, ite_false, Nat.le_refl, Bool.not_eq_true, decide_not, Bool.not_eq_true', decide_eq_false_iff_not, Bool.not_eq_false, Bool.or_eq_true, if_true, if_false, ite_self, la_it, la_len, la_sure, la_ltA, la_lt1, la_all1, la_ro, la_take, la_cl, la_tm, la_r, la_sl, rc_len, rc_sure, rc_ltA, rc_lt1, rc_all1, rc_ro, rc_take, rc_sl, la_set, rc_set, zcL_eq, zcR_eq, la_allA, la_len7, all_tt, natInt, u_nthM, hkx, hlt', a1, a2, nLs_ltA, nLs_len, replies_Fresh_r2_eq, replies_Fresh_r1_eq]
def encLa (x : La) : Bytes := put x.cl.toNat ++ put x.tm.toNat ++ put (encRes x.r.code x.r.kind x.r.i x.r.s x.r.ver).length ++ encRes x.r.code x.r.kind x.r.i x.r.s x.r.ver
def encB (l : List La) : Bytes := put l.length ++ l.flatMap encLa
def bC (l : Bytes) : List AV := l.map fun b => V (cB b)
theorem bC_app (a b : Bytes) : bC (a ++ b) = bC a ++ bC b := List.map_append
theorem bC_len (a : Bytes) : (bC a).length = a.length := by simp [bC]
theorem bC_ltA {a : Bytes} {n : Nat} : (bC a).all (ltA n) = true := by unfold bC; rw [List.all_map]; exact List.all_eq_true.2 fun _ _ => rfl
theorem bC_one {a : Bytes} : allCE 1 (bC a) = true := by unfold allCE bC; rw [List.all_map]; exact List.all_eq_true.2 fun _ _ => rfl
theorem bC_one' {a : Bytes} : ((bC a).all fun d => decide ((cellsOf d).length = 1)) = true := bC_one
theorem encRes_len {r : Rs} (h : r.In) : (encRes r.code r.kind r.i r.s r.ver).length ≤ 200 := by
  unfold encRes
  split
  · rename_i hb
    have hb' := hb
    unfold resB at hb'
    simp only [Bool.and_eq_true, decide_eq_true_eq] at hb'
    have h1 := resLen h.1 h.2 hb'.1.1.2
    have h2 := put_len r.ver.toNat (by omega)
    rw [List.length_cons, List.length_append]
    omega
  · simp
theorem encLa_len {x : La} (h : could x.cl x.tm = true) (hr : x.r.In) : (encLa x).length ≤ 300 := by
  have h1 := could_cl h
  have h2 := put_len x.cl.toNat (by omega)
  have h3 := put_len x.tm.toNat (by omega)
  have h4 := encRes_len hr
  have h5 := put_len (encRes x.r.code x.r.kind x.r.i x.r.s x.r.ver).length (by omega)
  unfold encLa
  rw [List.length_append, List.length_append, List.length_append]
  omega
theorem flat_len : ∀ (l : List La), (∀ x ∈ l, could x.cl x.tm = true ∧ x.r.In) → (l.flatMap encLa).length ≤ 300 * l.length
  | [], _ => Nat.zero_le _
  | x :: r, h => by
    have := flat_len r fun y hy => h y (List.mem_cons_of_mem _ hy)
    have h2 := encLa_len (h x (List.mem_cons_self ..)).1 (h x (List.mem_cons_self ..)).2
    rw [List.flatMap_cons, List.length_append, List.length_cons]
    omega
theorem encode_s (m : Nat) (l : List La) (hlm : l.length < m) (hl : l.length ≤ 34359738367) (h : ∀ x ∈ l, x.r.In) : replies_Encode m (lL l) = some (SL (bC (if isL l = true then encB l else [])), []) := by
  have hI := is_s m l hlm hl h
  rw [lL_def] at hI
  rw [replies_Encode_eq, lL_def]
  cases hi : isL l with
  | false =>
    rw [hi] at hI
    simp (config := {maxSteps := 4000000, implicitDefEqProofs := false}) (disch := omega) only [go_sem, ↓reduceIte, Nat.reduceAdd, Nat.reduceSub, Nat.reduceMul, Nat.reduceLeDiff, Nat.reduceLT, Int.reduceEq, Int.reduceNe, Int.reduceLT, Int.reduceLE, Int.reduceAdd, Int.reduceSub, Int.reduceMul, Int.reduceNeg, Nat.zero_add, Nat.add_zero, Nat.mul_one, Int.toNat_natCast, Int.natCast_zero, Int.cast_ofNat_Int, or_false, false_or, or_true, true_or, Int.reduceToNat, Nat.sub_zero, Int.natCast_nonneg, Int.toNat_zero, Bool.true_and, Bool.and_true, Bool.false_and, Bool.and_false, Bool.true_or, Bool.or_true, Bool.false_or, Bool.or_false, Bool.not_true, Bool.not_false, Bool.not_not, true_and, and_true, false_and, and_false, not_true_eq_false, not_false_eq_true, eq_self, decide_true, decide_false, ne_eq, implies_true, forall_const, true_implies, false_implies, Bool.true_eq_false, Bool.false_eq_true, reduceCtorEq, List.map_cons, List.map_nil, List.all_cons, List.all_nil, List.length_cons, List.length_nil, List.length_map, List.length_append, List.nil_append, List.cons_append, List.set_cons_zero, List.set_cons_succ, List.set_nil, List.drop_zero, List.drop_succ_cons, List.drop_nil, List.take_zero, List.take_succ_cons, List.take_nil, Option.map_some, Option.map_none, Option.isSome_some, Nat.reduceEqDiff, Nat.reduceBEq, Nat.reduceGT, List.all_append, List.all_map, Function.comp_def, decide_eq_true_eq, Bool.and_eq_true, beq_self_eq_true, or_self, and_self, ite_true, ite_false, Nat.le_refl, Bool.not_eq_true, decide_not, Bool.not_eq_true', decide_eq_false_iff_not, Bool.not_eq_false, Bool.or_eq_true, if_true, if_false, ite_self, la_it, la_len, la_sure, la_ltA, la_lt1, la_all1, la_ro, la_take, la_cl, la_tm, la_r, la_sl, rc_len, rc_sure, rc_ltA, rc_lt1, rc_all1, rc_ro, rc_take, rc_sl, la_set, rc_set, zcL_eq, zcR_eq, la_allA, la_len7, all_tt, natInt, u_nthM, hI]
    rfl
  | true =>
    rw [hi] at hI
    rw [if_pos rfl]
    have h8 := isL_len hi
    have hall := (isL_iff.1 hi).1
    have hP : ∀ (n v : Nat), v < 18446744073709551616 → varint_Put_t m [V (.int .u64 v)] n = some (OW n (bC (put v)).length, [⟨2, ty_uint8, 1, bC (put v)⟩]) := fun n v hv => by rw [bC_len]; exact varint_Put_e m n v hv
    have hP0 : ∀ n, varint_Put_t m [V (.int .u64 (l.length : Int))] n = some (OW n (bC (put l.length)).length, [⟨2, ty_uint8, 1, bC (put l.length)⟩]) := fun n => hP n l.length (by omega)
    have hpl := put_len l.length (by omega)
    simp (config := {maxSteps := 4000000, implicitDefEqProofs := false}) (disch := omega) only [go_sem, ↓reduceIte, Nat.reduceAdd, Nat.reduceSub, Nat.reduceMul, Nat.reduceLeDiff, Nat.reduceLT, Int.reduceEq, Int.reduceNe, Int.reduceLT, Int.reduceLE, Int.reduceAdd, Int.reduceSub, Int.reduceMul, Int.reduceNeg, Nat.zero_add, Nat.add_zero, Nat.mul_one, Int.toNat_natCast, Int.natCast_zero, Int.cast_ofNat_Int, or_false, false_or, or_true, true_or, Int.reduceToNat, Nat.sub_zero, Int.natCast_nonneg, Int.toNat_zero, Bool.true_and, Bool.and_true, Bool.false_and, Bool.and_false, Bool.true_or, Bool.or_true, Bool.false_or, Bool.or_false, Bool.not_true, Bool.not_false, Bool.not_not, true_and, and_true, false_and, and_false, not_true_eq_false, not_false_eq_true, eq_self, decide_true, decide_false, ne_eq, implies_true, forall_const, true_implies, false_implies, Bool.true_eq_false, Bool.false_eq_true, reduceCtorEq, List.map_cons, List.map_nil, List.all_cons, List.all_nil, List.length_cons, List.length_nil, List.length_map, List.length_append, List.nil_append, List.cons_append, List.set_cons_zero, List.set_cons_succ, List.set_nil, List.drop_zero, List.drop_succ_cons, List.drop_nil, List.take_zero, List.take_succ_cons, List.take_nil, Option.map_some, Option.map_none, Option.isSome_some, Nat.reduceEqDiff, Nat.reduceBEq, Nat.reduceGT, List.all_append, List.all_map, Function.comp_def, decide_eq_true_eq, Bool.and_eq_true, beq_self_eq_true, or_self, and_self, ite_true, ite_false, Nat.le_refl, Bool.not_eq_true, decide_not, Bool.not_eq_true', decide_eq_false_iff_not, Bool.not_eq_false, Bool.or_eq_true, if_true, if_false, ite_self, la_it, la_len, la_sure, la_ltA, la_lt1, la_all1, la_ro, la_take, la_cl, la_tm, la_r, la_sl, rc_len, rc_sure, rc_ltA, rc_lt1, rc_all1, rc_ro, rc_take, rc_sl, la_set, rc_set, zcL_eq, zcR_eq, la_allA, la_len7, all_tt, natInt, u_nthM, hI, hP0, u_addS, w_u64, bC_len]
    have e0 : put l.length ++ (l.take 0).flatMap encLa = put l.length := by simp
    rw [← e0]
    refine iter_go (ι := {k : Nat // k ≤ l.length}) (fun k => ⟨[⟨2, ty_uint8, 1, bC (put l.length ++ (l.take k.1).flatMap encLa)⟩], [(3, OW 0 (put l.length ++ (l.take k.1).flatMap encLa).length), (14, SL (l.map laE)), (15, nA l.length), (16, nA k.1)]⟩) (fun k => l.length - k.1) (fun _ => some (SL (bC (encB l)), [])) ?_ ⟨0, Nat.zero_le _⟩ (by dsimp only; omega)
    rintro kx hkx ⟨k, hk⟩ kc hkc
    dsimp only at hkc ⊢
    rw [replies_Encode_b1_eq]
    have hpre : (put l.length ++ (l.take k).flatMap encLa).length ≤ 100000 := by
      have := flat_len (l.take k) fun x hx => ⟨(hall x (List.mem_of_mem_take hx)).1, h x (List.mem_of_mem_take hx)⟩
      rw [List.length_take] at this
      rw [List.length_append]
      have : min k l.length ≤ 256 := by omega
      omega
    by_cases hlt : k < l.length
    · have hlt' : (k : Int) < (l.length : Int) := by omega
      have hm1 := List.getElem_mem hlt
      have hE := enc_s m l[k].r (h _ hm1)
      have hc := could_cl (hall _ hm1).1
      have q1 : (0 : Int) ≤ l[k].cl := hc.1
      have q2 : l[k].cl ≤ 18446744073709551615 := by omega
      have q3 : (0 : Int) ≤ l[k].tm := by omega
      have q4 : l[k].tm ≤ 18446744073709551615 := by omega
      have hPc : ∀ n, varint_Put_t m [V (.int .u64 l[k].cl)] n = some (OW n (bC (put l[k].cl.toNat)).length, [⟨2, ty_uint8, 1, bC (put l[k].cl.toNat)⟩]) := fun n => by
        have := hP n l[k].cl.toNat (by omega)
        rwa [Int.toNat_of_nonneg q1] at this
      have hPt : ∀ n, varint_Put_t m [V (.int .u64 l[k].tm)] n = some (OW n (bC (put l[k].tm.toNat)).length, [⟨2, ty_uint8, 1, bC (put l[k].tm.toNat)⟩]) := fun n => by
        have := hP n l[k].tm.toNat (by omega)
        rwa [Int.toNat_of_nonneg q3] at this
      have hrl := encRes_len (h _ hm1)
      have hPr : ∀ n, varint_Put_t m [V (.int .u64 ((encRes l[k].r.code l[k].r.kind l[k].r.i l[k].r.s l[k].r.ver).length : Int))] n = some (OW n (bC (put (encRes l[k].r.code l[k].r.kind l[k].r.i l[k].r.s l[k].r.ver).length)).length, [⟨2, ty_uint8, 1, bC (put (encRes l[k].r.code l[k].r.kind l[k].r.i l[k].r.s l[k].r.ver).length)⟩]) := fun n => hP n _ (by omega)
      have l1 := put_len l[k].cl.toNat (by omega)
      have l2 := put_len l[k].tm.toNat (by omega)
      have l3 := put_len (encRes l[k].r.code l[k].r.kind l[k].r.i l[k].r.s l[k].r.ver).length (by omega)
      have hEl : ((encRes l[k].r.code l[k].r.kind l[k].r.i l[k].r.s l[k].r.ver).map fun b => V (cB b)) = bC (encRes l[k].r.code l[k].r.kind l[k].r.i l[k].r.s l[k].r.ver) := rfl
      rw [hEl] at hE
      have step := hkc ⟨k + 1, by omega⟩ (by dsimp only; omega)
      dsimp only at step
      rw [List.take_succ_eq_append_getElem hlt, List.flatMap_append, ← List.append_assoc] at step
      have e2 : [l[k]].flatMap encLa = encLa l[k] := by simp
      rw [e2] at step
      generalize put l.length ++ (l.take k).flatMap encLa = P at hpre step ⊢
      unfold encLa at step
      generalize encRes l[k].r.code l[k].r.kind l[k].r.i l[k].r.s l[k].r.ver = E at hE hrl hPr l3 step
      generalize put l[k].cl.toNat = A at hPc l1 step
      generalize put l[k].tm.toNat = B at hPt l2 step
      generalize put E.length = C at hPr l3 step
      have z1 : P.length + A.length ≤ 34359738368 := by omega
      have z2 : P.length + A.length + B.length ≤ 34359738368 := by omega
      have z3 : P.length + A.length + B.length + C.length ≤ 34359738368 := by omega
      have z4 : P.length + A.length + B.length + C.length + E.length ≤ 34359738368 := by omega
      simp only [bC_app, List.length_append, ← List.append_assoc, ← Nat.add_assoc] at step
      simp (config := {maxSteps := 4000000, implicitDefEqProofs := false}) (disch := omega) only [go_sem, ↓reduceIte, Nat.reduceAdd, Nat.reduceSub, Nat.reduceMul, Nat.reduceLeDiff, Nat.reduceLT, Int.reduceEq, Int.reduceNe, Int.reduceLT, Int.reduceLE, Int.reduceAdd, Int.reduceSub, Int.reduceMul, Int.reduceNeg, Nat.zero_add, Nat.add_zero, Nat.mul_one, Int.toNat_natCast, Int.natCast_zero, Int.cast_ofNat_Int, or_false, false_or, or_true, true_or, Int.reduceToNat, Nat.sub_zero, Int.natCast_nonneg, Int.toNat_zero, Bool.true_and, Bool.and_true, Bool.false_and, Bool.and_false, Bool.true_or, Bool.or_true, Bool.false_or, Bool.or_false, Bool.not_true, Bool.not_false, Bool.not_not, true_and, and_true, false_and, and_false, not_true_eq_false, not_false_eq_true, eq_self, decide_true, decide_false, ne_eq, implies_true, forall_const, true_implies, false_implies, Bool.true_eq_false, Bool.false_eq_true, reduceCtorEq, List.map_cons, List.map_nil, List.all_cons, List.all_nil, List.length_cons, List.length_nil, List.length_map, List.length_append, List.nil_append, List.cons_append, List.set_cons_zero, List.set_cons_succ, List.set_nil, List.drop_zero, List.drop_succ_cons, List.drop_nil, List.take_zero, List.take_succ_cons, List.take_nil, Option.map_some, Option.map_none, Option.isSome_some, Nat.reduceEqDiff, Nat.reduceBEq, Nat.reduceGT, List.all_append, List.all_map, Function.comp_def, decide_eq_true_eq, Bool.and_eq_true, beq_self_eq_true, or_self, and_self, ite_true, ite_false, Nat.le_refl, Bool.not_eq_true, decide_not, Bool.not_eq_true', decide_eq_false_iff_not, Bool.not_eq_false, Bool.or_eq_true, if_true, if_false, ite_self, la_it, la_len, la_sure, la_ltA, la_lt1, la_all1, la_ro, la_take, la_cl, la_tm, la_r, la_sl, rc_len, rc_sure, rc_ltA, rc_lt1, rc_all1, rc_ro, rc_take, rc_sl, la_set, rc_set, zcL_eq, zcR_eq, la_allA, la_len7, all_tt, natInt, u_nthM, hE, hPc, hPt, hPr, u_addS, w_u64, w_i64, bC_len, bC_ltA, bC_one', hlt', z1, z2, z3, z4]
      exact step
    · have hlt' : ¬ (k : Int) < (l.length : Int) := by omega
      have : k = l.length := by omega
      subst this
      rw [List.take_length] at hpre ⊢
      have hz : encB l = put l.length ++ l.flatMap encLa := rfl
      rw [hz]
      simp (config := {maxSteps := 4000000, implicitDefEqProofs := false}) (disch := omega) only [go_sem, ↓reduceIte, Nat.reduceAdd, Nat.reduceSub, Nat.reduceMul, Nat.reduceLeDiff, Nat.reduceLT, Int.reduceEq, Int.reduceNe, Int.reduceLT, Int.reduceLE, Int.reduceAdd, Int.reduceSub, Int.reduceMul, Int.reduceNeg, Nat.zero_add, Nat.add_zero, Nat.mul_one, Int.toNat_natCast, Int.natCast_zero, Int.cast_ofNat_Int, or_false, false_or, or_true, true_or, Int.reduceToNat, Nat.sub_zero, Int.natCast_nonneg, Int.toNat_zero, Bool.true_and, Bool.and_true, Bool.false_and, Bool.and_false, Bool.true_or, Bool.or_true, Bool.false_or, Bool.or_false, Bool.not_true, Bool.not_false, Bool.not_not, true_and, and_true, false_and, and_false, not_true_eq_false, not_false_eq_true, eq_self, decide_true, decide_false, ne_eq, implies_true, forall_const, true_implies, false_implies, Bool.true_eq_false, Bool.false_eq_true, reduceCtorEq, List.map_cons, List.map_nil, List.all_cons, List.all_nil, List.length_cons, List.length_nil, List.length_map, List.length_append, List.nil_append, List.cons_append, List.set_cons_zero, List.set_cons_succ, List.set_nil, List.drop_zero, List.drop_succ_cons, List.drop_nil, List.take_zero, List.take_succ_cons, List.take_nil, Option.map_some, Option.map_none, Option.isSome_some, Nat.reduceEqDiff, Nat.reduceBEq, Nat.reduceGT, List.all_append, List.all_map, Function.comp_def, decide_eq_true_eq, Bool.and_eq_true, beq_self_eq_true, or_self, and_self, ite_true, ite_false, Nat.le_refl, Bool.not_eq_true, decide_not, Bool.not_eq_true', decide_eq_false_iff_not, Bool.not_eq_false, Bool.or_eq_true, if_true, if_false, ite_self, la_it, la_len, la_sure, la_ltA, la_lt1, la_all1, la_ro, la_take, la_cl, la_tm, la_r, la_sl, rc_len, rc_sure, rc_ltA, rc_lt1, rc_all1, rc_ro, rc_take, rc_sl, la_set, rc_set, zcL_eq, zcR_eq, la_allA, la_len7, all_tt, natInt, u_nthM, hkx, hlt', bC_len, bC_ltA, replies_Encode_r1_eq]
end Go.Proofs.Ytchncgdjefbmfaa

namespace Go.Proofs.Ytchncgdjefbmfaa
open Go.RowKit
set_option linter.unusedVariables false
set_option linter.unusedSimpArgs false
set_option maxRecDepth 20000
theorem sameRs (x y : Rs) : sameKs [.int .i64 x.code, .int .i64 x.kind, .int .i64 x.i, .string ⟨x.s.toArray⟩, .int .i64 x.ver] [.int .i64 y.code, .int .i64 y.kind, .int .i64 y.i, .string ⟨y.s.toArray⟩, .int .i64 y.ver] = decide (x = y) := by
  obtain ⟨a3, a4, a5, a6, a7⟩ := x
  obtain ⟨b3, b4, b5, b6, b7⟩ := y
  rw [Bool.eq_iff_iff]
  show (decide (a3 = b3) && (decide (a4 = b4) && (decide (a5 = b5) && (decide (a6 = b6) && (decide (a7 = b7) && true))))) = true ↔ _
  simp
section
variable {R : Type} {isB sl : Bool} {x y : Rs} {K1 : AV → Option R}
theorem u_eqRs : binE (some [.i .i64, .i .i64, .i .i64, .s, .i .i64]) isB sl .eql (.agg (rC x)) (.agg (rC y)) K1 = K1 (bA (decide (x = y))) := by
  rw [← sameRs]; rfl
theorem u_neRs : binE (some [.i .i64, .i .i64, .i .i64, .s, .i .i64]) isB sl .neq (.agg (rC x)) (.agg (rC y)) K1 = K1 (bA (!decide (x = y))) := by
  rw [← sameRs]; rfl
end
theorem u_bconv {R : Type} {K1 : AV → Option R} {isS so : Bool} {dk : Option IntKind} {l : Bytes} : convE isS dk so true (SL (bC l)) K1 = K1 (V (.string ⟨l.toArray⟩)) := by
  have h : bytesOf (bC l) = some l := bytesOf_map l
  show whenE true (match bytesOf (bC l) with | some l => K1 (V (.string ⟨l.toArray⟩)) | none => none) = _
  rw [h]
  exact whenE_t
theorem u_bs4 {R : Type} {t : TypeId} {a b c d : Int} {K1 : AV → Option R} : buildSE (some (t, 1)) 4 [(0, V (.int .i64 a)), (1, V (.int .i64 b)), (2, V (.int .i64 c)), (3, V (.int .i64 d))] K1 = K1 (SL [nA a, nA b, nA c, nA d]) := by
  simp [buildSE, whenE]
  rfl
def L9 : List La := [⟨3, 5, Rs.zero⟩]
theorem in_L9 : ∀ x ∈ L9, x.r.In := fun x hx => by rw [List.mem_singleton.1 hx]; exact zero_in
theorem ex_n : noteA [] 3 5 Rs.zero = (L9, 0) := by kernel_rfl
theorem ex_a1 : askA L9 3 5 = (Rs.zero, 0) := by kernel_rfl
theorem ex_a2 : askA L9 3 6 = (Rs.zero, 6) := by kernel_rfl
theorem ex_a3 : askA L9 3 4 = (Rs.zero, 18) := by kernel_rfl
theorem ex_f : freshA L9 ([5, 6, 6, 7].map timeT) = ([timeT 6, timeT 7], [1, 3]) := by kernel_rfl
theorem ex_e : (if isL L9 = true then encB L9 else []) = [1, 3, 5, 3, 0, 0, 0] := by kernel_rfl
theorem awake26_s (m : Nat) (hm : 300 < m) : plenumlaw26_awake m = some (bA true, []) := by
  have h1 := note_s m [] 3 5 Rs.zero hm (by simp; omega) (by simp) (fun x hx => absurd hx List.not_mem_nil) zero_in
  have h2 := ask_s m L9 3 5 hm (by show 1 < m; omega) (by show (1 : Nat) ≤ 34359738367; omega) in_L9
  have h3 := ask_s m L9 3 6 hm (by show 1 < m; omega) (by show (1 : Nat) ≤ 34359738367; omega) in_L9
  have h4 := ask_s m L9 3 4 hm (by show 1 < m; omega) (by show (1 : Nat) ≤ 34359738367; omega) in_L9
  have h5 := times_s m [5, 6, 6, 7] (by show 4 < m; omega) (by show (4 : Nat) ≤ 1000; omega)
  have h6 := fresh_s m L9 ([5, 6, 6, 7].map timeT) hm (by show 1 < m; omega) (by show 4 < m; omega) (by show (1 : Nat) ≤ 34359738367; omega) (by show (4 : Nat) ≤ 1000000; omega) in_L9 (fun t ht => by obtain ⟨k, _, rfl⟩ := List.mem_map.1 ht; exact timeT_ok)
  have h7 := encode_s m L9 (by show 1 < m; omega) (by show (1 : Nat) ≤ 34359738367; omega) in_L9
  rw [ex_n, lL_def, lL_def, rA_def] at h1
  rw [ex_a1, lL_def, rA_def] at h2
  rw [ex_a2, lL_def, rA_def] at h3
  rw [ex_a3, lL_def, rA_def] at h4
  rw [ex_f, lL_def] at h6
  rw [ex_e, lL_def] at h7
  simp only [List.map_nil] at h1
  have hlen : (L9.map laE).length = 1 := rfl
  have hts : ∀ {n : Nat}, (((([5, 6, 6, 7] : List Int).map timeT).map tE).all fun x => ltA n x) = true := fun {n} => rfl
  generalize hL : L9.map laE = es at h1 h2 h3 h4 h6 h7 hlen
  have hall : ∀ {n : Nat}, es.all (ltA n) = true := fun {n} => by rw [← hL]; exact all_laE
  generalize (([5, 6, 6, 7] : List Int).map timeT).map tE = ts at h5 h6 hts
  have h5' : plenumlaw26_times m (SL [nA 5, nA 6, nA 6, nA 7]) = some (SL ts, []) := h5
  rw [plenumlaw26_awake_eq]
  simp (config := {maxSteps := 4000000, implicitDefEqProofs := false}) (disch := omega) only [go_sem, ↓reduceIte, Nat.reduceAdd, Nat.reduceSub, Nat.reduceMul, Nat.reduceLeDiff, Nat.reduceLT, Int.reduceEq, Int.reduceNe, Int.reduceLT, Int.reduceLE, Int.reduceAdd, Int.reduceSub, Int.reduceMul, Int.reduceNeg, Nat.zero_add, Nat.add_zero, Nat.mul_one, Int.toNat_natCast, Int.natCast_zero, Int.cast_ofNat_Int, or_false, false_or, or_true, true_or, Int.reduceToNat, Nat.sub_zero, Int.natCast_nonneg, Int.toNat_zero, Bool.true_and, Bool.and_true, Bool.false_and, Bool.and_false, Bool.true_or, Bool.or_true, Bool.false_or, Bool.or_false, Bool.not_true, Bool.not_false, Bool.not_not, true_and, and_true, false_and, and_false, not_true_eq_false, not_false_eq_true, eq_self, decide_true, decide_false, ne_eq, implies_true, forall_const, true_implies, false_implies, Bool.true_eq_false, Bool.false_eq_true, reduceCtorEq, List.map_cons, List.map_nil, List.all_cons, List.all_nil, List.length_cons, List.length_nil, List.length_map, List.length_append, List.nil_append, List.cons_append, List.set_cons_zero, List.set_cons_succ, List.set_nil, List.drop_zero, List.drop_succ_cons, List.drop_nil, List.take_zero, List.take_succ_cons, List.take_nil, Option.map_some, Option.map_none, Option.isSome_some, Nat.reduceEqDiff, Nat.reduceBEq, Nat.reduceGT, List.all_append, List.all_map, Function.comp_def, decide_eq_true_eq, Bool.and_eq_true, beq_self_eq_true, or_self, and_self, ite_true, ite_false, Nat.le_refl, Bool.not_eq_true, decide_not, Bool.not_eq_true', decide_eq_false_iff_not, Bool.not_eq_false, Bool.or_eq_true, if_true, if_false, ite_self, la_it, la_len, la_sure, la_ltA, la_lt1, la_all1, la_ro, la_take, la_cl, la_tm, la_r, la_sl, rc_len, rc_sure, rc_ltA, rc_lt1, rc_all1, rc_ro, rc_take, rc_sl, la_set, rc_set, zcL_eq, zcR_eq, la_allA, la_len7, all_tt, natInt, u_nthM, rc_b0, h1, h2, h3, h4, h5', h6, h7, hlen, hall, hts, u_eqRs, u_bconv, u_bs4, nLs]
end Go.Proofs.Ytchncgdjefbmfaa

namespace Go.Proofs.Ytchncgdjefbmfaa
open Go.RowKit
set_option linter.unusedVariables false
set_option linter.unusedSimpArgs false
set_option maxRecDepth 100000
def La.Ok (x : La) : Prop := x.r.s.length ≤ maxLen ∧ x.r.In
theorem ofT_res {n : Nat} {ds : List AV} (h : ofT Try.prog n 32 ds) : ∃ r : Rs, ds = rC r ∧ (r.s.length ≤ maxLen ∧ r.In) := by
  obtain ⟨m, a1, b1, rfl, h1, a2, b2, rfl, h2, a3, b3, rfl, h3, rfl⟩ := ofT_struct Try.underlying32 h
  obtain ⟨c, rfl, _⟩ := ofT_i64 Try.underlying24 h1
  obtain ⟨m2, q1, p1, rfl, k1, q2, p2, rfl, k2, q3, p3, rfl, k3, rfl⟩ := ofT_struct Try.underlying30 h2
  obtain ⟨k, rfl, _⟩ := ofT_i64 Try.underlying3 k1
  obtain ⟨i, rfl, hi⟩ := ofT_i64 Try.underlying2 k2
  obtain ⟨s, rfl, hs⟩ := ofT_str Try.underlying9 k3
  obtain ⟨v, rfl, _⟩ := ofT_i64 Try.underlying3 h3
  exact ⟨⟨c, k, i, s, v⟩, rfl, hs, hi⟩
theorem ofT_last {n : Nat} {ds : List AV} (h : ofT Try.prog n 40 ds) : ∃ x : La, ds = laC x ∧ x.Ok := by
  obtain ⟨m, a1, b1, rfl, h1, a2, b2, rfl, h2, a3, b3, rfl, h3, rfl⟩ := ofT_struct Try.underlying40 h
  obtain ⟨c, rfl, _⟩ := ofT_i64 Try.underlying3 h1
  obtain ⟨t, rfl, _⟩ := ofT_i64 Try.underlying3 h2
  obtain ⟨r, rfl, hr⟩ := ofT_res h3
  exact ⟨⟨c, t, r⟩, by rw [List.append_nil]; rfl, hr⟩
theorem ofT_lasts {n : Nat} {ds : List AV} (h : ofT Try.prog n 22 ds) : ∃ l : List La, ds = [lL l] ∧ l.length ≤ maxLen ∧ ∀ x ∈ l, x.Ok := by
  obtain ⟨m, es, rfl, hl, he⟩ := ofT_slice Try.underlying22 h
  obtain ⟨l, rfl, hi⟩ := list_of (f := laE) (Q := La.Ok) fun x hx => by
    obtain ⟨q1, q2⟩ := he x hx
    obtain ⟨y, hy, hi⟩ := ofT_last q1
    exact ⟨y, by rw [cells_agg (q2.trans (by kernel_rfl)), hy]; rfl, hi⟩
  exact ⟨l, rfl, by simpa using hl, hi⟩
theorem arg_lasts {W : World} {v : Value} (h : Arg Try.prog W 22 v) : ∃ l : List La, (l.length ≤ maxLen ∧ ∀ x ∈ l, x.Ok) ∧ rep (SW W) [] (lL l) v := by
  obtain ⟨n, ds, h1, h2⟩ := h
  obtain ⟨t, rfl, ht⟩ := ofT_lasts h1
  rw [mk_lone (by kernel_rfl)] at h2
  exact ⟨t, ht, h2⟩
theorem few_in {l : List La} (h : ∀ x ∈ l, x.Ok) : ∀ x ∈ fewL l, x.r.In := by
  intro x hx
  unfold fewL at hx
  obtain ⟨y, hy, rfl⟩ := List.mem_map.1 hx
  exact (h y (List.mem_of_mem_take hy)).2
end Go.Proofs.Ytchncgdjefbmfaa

namespace Go.Proofs.Ytchncgdjefbmfaa
open Go.RowKit
set_option linter.unusedVariables false
set_option linter.unusedSimpArgs false
set_option maxRecDepth 100000
theorem ac_of_wpAdd {P : Program} {G : Gl} {f : FuncId} {fn : Func} {c : Code} {args : List AV} {H : List AObj} {X : AV} {Y : List AObj} (hf : P.funcs[f]? = some fn) (hb : fn.body = some c) (hc : callIs P f = true) (rs : List ResultVar) (hrs : fn.results.toList = rs) (N : Nat) (hN : fn.ntmps = N) (hargs : args.length ≤ N)
    (h : AWp P G N H.length c (fun e s => e = .ret ∧ s.H = H ++ Y ∧ resC P s.H s.T rs fun ds => oneOf ds = X) ⟨H, argsT 0 args⟩) : AC P G f args H (Is X (H ++ Y)) := by
  subst hN
  refine ⟨hc, fun w S μ vs hr hg hl hv => ?_⟩
  refine calls_of_wp hf hb ?_
  have hfr : Fr S μ fn.ntmps (argsT 0 args) { tmps := vs.toArray ++ Array.replicate (fn.ntmps - vs.toArray.size) undef, defers := [] } := by
    refine ⟨by simp; omega, rfl, fun i => ?_⟩
    rw [get_argsT]
    simp only [Nat.zero_le, if_true, Nat.sub_zero]
    cases hd : args[i]? with
    | none => trivial
    | some d =>
      have hi : i < vs.length := by rw [hl]; exact (List.getElem?_eq_some_iff.1 hd).1
      have := hv i d vs[i] hd (List.getElem?_eq_getElem hi)
      simp only [Option.getD_some]
      have e : (vs.toArray ++ Array.replicate (fn.ntmps - vs.toArray.size) undef).getD i undef = vs[i] := by
        rw [Array.getD_eq_getD_getElem?, Array.getElem?_append_left (by simpa using hi)]
        simp [hi]
      rw [e]; exact this
  refine wp_mono (h w S μ _ hr hfr hg) ?_
  rintro e a' w' ⟨s', S', μ', ⟨rfl, hH, hK⟩, hr', hf', hst⟩
  obtain ⟨v, r, hrun, hrep, hX⟩ := resultsC_run (K := fun r => r = X) hrs hr' hf' hK
  subst hX
  exact ⟨hf'.nodef, v, hrun, v, _, s'.H, S', μ', rfl, ⟨rfl, hH⟩, hr', hrep, hst⟩
theorem cloneO_cons (x : AV) (es : List AV) (H : List AObj) (hz : allCE 7 (x :: es) = true) (hl : (x :: es).length ≤ 34359738368) :
    AC Try.prog GG 34 [SL (x :: es)] H (Is (OW H.length (x :: es).length) (H ++ [⟨2, 40, 7, x :: es⟩])) := by
  have hx : exec Try.prog GG [] 0 8 ((Try.f34.body).getD .skip) .n ⟨H, argsT 0 [SL (x :: es)]⟩ (fun e s => match e with | .ret => some (get s.T 2, s.H) | _ => none) = appE (some (40, 7)) H ZV (SL (x :: es)) (fun d H' => some (d, H')) :=
    (execK_eq (P := Try.prog) (G := GG) (E := []) (M := 0) (N := 8) _ _ _ _).symm.trans (by kernel_rfl)
  have h2 : exec Try.prog GG [] 0 8 ((Try.f34.body).getD .skip) .n ⟨H, argsT 0 [SL (x :: es)]⟩ (fun e s => match e with | .ret => some (get s.T 2, s.H) | _ => none) = some (OW H.length (x :: es).length, H ++ [⟨2, 40, 7, x :: es⟩]) := by
    rw [hx, u_appZ, u_elS, hz, whenE_t, show decide ((x :: es).length ≤ 34359738368) = true by simpa using hl, whenE_t]
  refine ac_of_wpAdd Try.func34 rfl (by kernel_rfl) [.tmp 2] rfl 8 Try.ntmps34 (Nat.le_of_ble_eq_true rfl) (AWp.mono (exec_ok MIX (by intro f e h; cases h) _ .n ⟨H, argsT 0 [SL (x :: es)]⟩ _ (Nat.le_refl _) h2) fun e s q => ?_)
  cases e with
  | ret =>
    injection q with q
    injection q with q1 q2
    exact ⟨rfl, q2, q1⟩
  | normal => cases q
  | exit id => cases q
  | goto l => cases q
  | panic ch => cases q
  | outgrown => cases q
theorem cloneO_nil (H : List AObj) : AC Try.prog GG 34 [SL []] H (Is (OW H.length 0) (H ++ [⟨2, 40, 7, []⟩])) := by
  refine ⟨by kernel_rfl, fun w S μ vs hr hg hl hv => ?_⟩
  obtain ⟨v, rfl⟩ : ∃ v, vs = [v] := by
    match vs, hl with
    | [v], _ => exact ⟨v, rfl⟩
  obtain ⟨A, c, rfl, _, _, _⟩ := hv 0 _ _ rfl rfl
  have fin : ∀ A' w', Below w.heap.size w w' → CPost w S μ H (Is (OW H.length 0) (H ++ [⟨2, 40, 7, []⟩])) (.returned (.slice A' 0 0)) w' := by
    intro A' w' hb
    obtain ⟨h1, h2⟩ := hr.grow (S' := S) hb (fun _ _ _ q => q) (fun _ _ _ q => .inl q) (fun b j d q hb' => absurd (hr.still_lt q) (by omega))
    obtain ⟨h3, h4⟩ := h1.nilRow A' 40 7
    refine ⟨_, _, _, S, _, rfl, ⟨rfl, rfl⟩, h3, ?_, h2.trans h4⟩
    refine ⟨A', 0, 0, A', 0, ?_, Nat.le_refl _, rfl, fun _ => ⟨rfl, rfl⟩⟩
    rw [← hr.len]; simp
  cases A with
  | none =>
    have hq : ∀ w, (binOp .eql 22 (.slice none 0 c) (.slice none 0 0)).run Try.prog w = .ok (.bool true) w := fun w => by
      simp only [binOp]
      rw [Sem.run_bind, run_equal_slice_nil (P := Try.prog) w _ _ none 0 c Try.underlying22]
      rfl
    go_enter Try.func34, Try.ntmps34
    go_wp2
    go_ret
    exact fin none _ (Below.refl _ _)
  | some a =>
    have hq : ∀ w, (binOp .eql 22 (.slice (some a) 0 c) (.slice none 0 0)).run Try.prog w = .ok (.bool false) w := fun w => by
      simp only [binOp]
      rw [Sem.run_bind, run_equal_slice_nil (P := Try.prog) w _ _ (some a) 0 c Try.underlying22]
      rfl
    go_enter Try.func34, Try.ntmps34
    go_wp2
    go_ret
    exact fin _ _ ((Below.refl _ w).alloc (Nat.le_refl _) _)
noncomputable def slices_Clone_LastO_t (m : Nat) : List AV → Nat → RO
  | [.slice es []], n => whenE (allCE 7 es && decide (es.length ≤ 34359738368)) (some (OW n es.length, [⟨2, 40, 7, es⟩]))
  | _, _ => none
theorem slices_Clone_LastO_inv {m n : Nat} {args : List AV} {X : AV} {Y : List AObj} (h : slices_Clone_LastO_t m args n = some (X, Y)) : ∃ es, args = [SL es] ∧ allCE 7 es = true ∧ es.length ≤ 34359738368 ∧ X = OW n es.length ∧ Y = [⟨2, 40, 7, es⟩] := by
  unfold slices_Clone_LastO_t at h
  split at h
  · obtain ⟨h1, h2⟩ := whenE_some h
    rw [Bool.and_eq_true, decide_eq_true_eq] at h1
    injection h2 with h2
    injection h2 with h2 h3
    exact ⟨_, rfl, h1.1, h1.2, h2.symm, h3.symm⟩
  · cases h
theorem slices_Clone_LastO_ok (m : Nat) : ∀ args H X Y, slices_Clone_LastO_t m args H.length = some (X, Y) → AC Try.prog GG 34 args H (Is X (H ++ Y)) := by
  intro args H X Y h
  obtain ⟨es, rfl, h1, h2, rfl, rfl⟩ := slices_Clone_LastO_inv h
  cases es with
  | nil => exact cloneO_nil H
  | cons x es => exact cloneO_cons x es H h1 h2
theorem slices_Clone_LastO_e (m n : Nat) (es : List AV) (hz : allCE 7 es = true) (hl : es.length ≤ 34359738368) : slices_Clone_LastO_t m [SL es] n = some (OW n es.length, [⟨2, 40, 7, es⟩]) := by
  show whenE (allCE 7 es && decide (es.length ≤ 34359738368)) _ = _
  rw [hz, show decide (es.length ≤ 34359738368) = true by simpa using hl]
  rfl
end Go.Proofs.Ytchncgdjefbmfaa

namespace Go.Proofs.Ytchncgdjefbmfaa
open Go.RowKit
set_option linter.unusedVariables false
set_option maxRecDepth 100000
noncomputable def replies_All_c : Code := (Try.f19.body).getD .skip
def replies_All_h : Hint := (.two .n (.join [0, 1, 2] (.join [0, 1, 2, 21] .n (.two (.two .n .n) .n)) (.two .n (.join [0] (.two .n (.one (.lp [] [0, 2, 24, 25, 26] [0, 6, 7] (.two .n (.two (.two .n .n) (.two (.one (.two .n (.two .n (.two (.two .n (.two (.two .n .n) .n)) .n)))) .n)))))) (.two .n .n)))))
noncomputable def replies_All_env (m : Nat) : Env := [(30, .tell (replies_is_t m)), (34, .add (slices_Clone_LastO_t m)), (14, .tell (replies_Note_t m))]
noncomputable abbrev replies_All_fin : KO (AV × List AObj) := tellFK Try.prog [.tmp 6, .tmp 7]
noncomputable def replies_All_r3 (m : Nat) (s : ASt) : RO := joinW Try.prog GG (replies_All_env m) m 50 (cdR (cdR (cdR (cdR replies_All_c)))) replies_All_h.r.r.r.r s (replies_All_fin)
noncomputable def replies_All_b1 (m : Nat) (s : ASt) (kc : ASt → RO) (kx : KO (AV × List AObj)) : RO := bodyW Try.prog GG (replies_All_env m) m 50 (cdL (cdL (cdR (cdL (cdR (cdR (cdR replies_All_c))))))) replies_All_h.r.r.r.l.r.c.c [0, 2, 24, 25, 26] [0, 6, 7] s kc kx
noncomputable def replies_All_r2 (m : Nat) (s : ASt) : RO := joinW Try.prog GG (replies_All_env m) m 50 (cdR (cdR replies_All_c)) replies_All_h.r.r s (replies_All_fin)
noncomputable def replies_All_r1 (m : Nat) (s : ASt) : RO := joinW Try.prog GG (replies_All_env m) m 50 (cdR (cdL (cdR replies_All_c))) replies_All_h.r.l.r s (seqX (fun s => replies_All_r2 m ⟨s.H, [(0, gt s.T 0), (1, gt s.T 1), (2, gt s.T 2)]⟩) (replies_All_fin))
noncomputable def replies_All (m : Nat) (t0 t1 t2 : AV) : RO := exec Try.prog GG (replies_All_env m) m 50 replies_All_c replies_All_h ⟨[], argsT 0 [t0, t1, t2]⟩ (replies_All_fin)
theorem replies_All_r3_eq (m : Nat) (H : List AObj) (t0 : AV) : replies_All_r3 m ⟨H, [(0, t0)]⟩ =
  tellK H (ro H (TU [noT t0, noT (V (.int .i64 0))])) := by
  refine (joinW_eq Try.prog GG (replies_All_env m) m 50 (cdR (cdR (cdR (cdR replies_All_c)))) replies_All_h.r.r.r.r ⟨H, [(0, t0)]⟩ (replies_All_fin)).trans ?_
  kernel_rfl
theorem replies_All_b1_eq (m : Nat) (H : List AObj) (t0 t2 t24 t25 t26 : AV) (kc : ASt → RO) (kx : KO (AV × List AObj)) : replies_All_b1 m ⟨H, [(0, t0), (2, t2), (24, t24), (25, t25), (26, t26)]⟩ kc kx =
  binE none false false .lss t26 t25 fun t27 =>
  condE t27 (
   idxSE 8 H t24 t26 fun t29 =>
   loadE 8 H t29 fun t30 =>
   allocE (some zc_api_Txn) ty_api_Txn H fun t9 H2 =>
   storeE 8 H2 t9 t30 fun H3 =>
   fieldE (some (0, 1)) t9 fun t33 =>
   loadE 1 H3 t33 fun t34 =>
   fieldE (some (1, 1)) t9 fun t35 =>
   loadE 1 H3 t35 fun t36 =>
   idxSE 7 H3 t2 t26 fun t39 =>
   loadE 7 H3 t39 fun t40 =>
   tellE (replies_Note m (ro H3 t0) (ro H3 t34) (ro H3 t36) (ro H3 t40)) [(ro H3 t0), (ro H3 t34), (ro H3 t36), (ro H3 t40)] fun t41 =>
   extE t41 0 fun t42 =>
   extE t41 1 fun t43 =>
   binE none false false .neq t43 (V (.int .i64 0)) fun t45 =>
   condE t45 (
    kx .ret ⟨H3, [(0, t0), (6, (V (.slice none 0 0))), (7, t43)]⟩) (
    binE none false false .add t26 (V (.int .i64 1)) fun t48 =>
    backE H.length H3 [(0, t42), (2, t2), (24, t24), (25, t25), (26, t48)] kc)) (
   kx (.exit 0) ⟨H, [(0, t0), (6, .nil), (7, .nil)]⟩) := by
  refine (bodyW_eq Try.prog GG (replies_All_env m) m 50 (cdL (cdL (cdR (cdL (cdR (cdR (cdR replies_All_c))))))) replies_All_h.r.r.r.l.r.c.c [0, 2, 24, 25, 26] [0, 6, 7] ⟨H, [(0, t0), (2, t2), (24, t24), (25, t25), (26, t26)]⟩ kc kx).trans ?_
  kernel_rfl
theorem replies_All_r2_eq (m : Nat) (H : List AObj) (t0 t1 t2 : AV) : replies_All_r2 m ⟨H, [(0, t0), (1, t1), (2, t2)]⟩ =
  addE (slices_Clone_LastO_t m [(ro H t0)] H.length) H fun t23 H2 =>
  lenE false true H2 t1 fun t25 =>
  iterC m (replies_All_b1 m) ⟨H2, [(0, t23), (2, t2), (24, t1), (25, t25), (26, (V (.int .i64 0)))]⟩ (blockX 0 (seqX (fun s => replies_All_r3 m ⟨s.H, [(0, gt s.T 0)]⟩) (replies_All_fin))) := by
  refine (joinW_eq Try.prog GG (replies_All_env m) m 50 (cdR (cdR replies_All_c)) replies_All_h.r.r ⟨H, [(0, t0), (1, t1), (2, t2)]⟩ (replies_All_fin)).trans ?_
  kernel_rfl
theorem replies_All_r1_eq (m : Nat) (H : List AObj) (t0 t1 t2 t21 : AV) : replies_All_r1 m ⟨H, [(0, t0), (1, t1), (2, t2), (21, t21)]⟩ =
  condE t21 (
   tellK H (ro H (TU [noT (V (.slice none 0 0)), noT (V (.int .i64 1))]))) (
   replies_All_r2 m ⟨H, [(0, t0), (1, t1), (2, t2)]⟩) := by
  refine (joinW_eq Try.prog GG (replies_All_env m) m 50 (cdR (cdL (cdR replies_All_c))) replies_All_h.r.l.r ⟨H, [(0, t0), (1, t1), (2, t2), (21, t21)]⟩ (seqX (fun s => replies_All_r2 m ⟨s.H, [(0, gt s.T 0), (1, gt s.T 1), (2, gt s.T 2)]⟩) (replies_All_fin))).trans ?_
  kernel_rfl
theorem replies_All_eq (m : Nat) (t0 t1 t2 : AV) : replies_All m t0 t1 t2 =
  tellE (replies_is m (ro [] t0)) [(ro [] t0)] fun t13 =>
  unE .not t13 fun t14 =>
  condE t14 (
   replies_All_r1 m ⟨[], [(0, t0), (1, t1), (2, t2), (21, (V (.bool true)))]⟩) (
   lenE false true [] t1 fun t17 =>
   lenE false true [] t2 fun t19 =>
   binE none false false .neq t17 t19 fun t20 =>
   replies_All_r1 m ⟨[], [(0, t0), (1, t1), (2, t2), (21, t20)]⟩) := by
  refine (tellX Try.prog GG (replies_All_env m) m 50 replies_All_c replies_All_h ⟨[], argsT 0 [t0, t1, t2]⟩ [.tmp 6, .tmp 7]).trans ?_
  kernel_rfl
noncomputable def replies_All_t (m : Nat) : List AV → RO | [t0, t1, t2] => replies_All m t0 t1 t2 | _ => none
theorem replies_All_ok (m : Nat) : ∀ args X H', replies_All_t m args = some (X, H') → ACp Try.prog GG 19 args X := by
  intro args X H' h
  unfold replies_All_t at h
  split at h
  · exact tell_okK MIX (by
    intro f e h
    simp only [replies_All_env, Prod.mk.injEq, List.mem_cons, List.not_mem_nil, or_false] at h
    rcases h with ⟨rfl, rfl⟩ | ⟨rfl, rfl⟩ | ⟨rfl, rfl⟩
    · exact replies_is_ok m
    · exact slices_Clone_LastO_ok m
    · exact replies_Note_ok m) (f := 19) (c := replies_All_c) Try.func19 rfl (by kernel_rfl) _ rfl Try.ntmps19 (Nat.le_of_ble_eq_true rfl) replies_All_h h
  · cases h
noncomputable def plenumlaw26_RepliesOnce_c : Code := (Try.f6.body).getD .skip
def plenumlaw26_RepliesOnce_h : Hint := (.two .n (.two .n (.join [0, 1] (.two .n (.two .n .n)) (.two .n (.two .n (.join [0, 1, 5, 7] (.two .n (.one (.lp [(7, ty_api_Result, 5)] [0, 1, 5, 7, 8] [0, 1, 5, 7] (.two (.two .n (.two .n .n)) (.two (.one .n) .n))))) (.two .n (.two (.two .n (.two (.two .n .n) .n)) (.two .n (.join [5, 7, 9] (.join [5, 7, 9, 79] .n (.two (.two .n .n) .n)) (.join [] (.two .n (.one (.lp [] [5, 7, 9, 13] [4] (.two (.two .n (.two .n .n)) (.join [5, 7, 9, 13] (.one (.two .n (.join [5, 7, 9, 13, 14] (.two .n (.one (.lp [] [5, 7, 9, 13, 14, 15] [5, 7, 9, 13, 14] (.two (.two .n (.two .n .n)) (.join [5, 7, 9, 13, 14, 15] (.one (.two .n (.two .n .n))) .n))))) (.two .n (.join [5, 7, 9, 13, 130] .n (.two (.two .n .n) .n)))))) .n))))) (.two .n .n))))))))))))
noncomputable def plenumlaw26_RepliesOnce_env (m : Nat) : Env := [(8, .tell (plenumlaw26_Few_t m)), (17, .tell (replies_Fresh_t m)), (19, .tell (replies_All_t m)), (21, .tell (plenumref26_Is_t m)), (13, .tell (plenumlaw26_awake_t m)), (11, .tell (replies_Ask_t m))]
noncomputable abbrev plenumlaw26_RepliesOnce_fin : KO (AV × List AObj) := tellFK Try.prog [.tmp 4]
noncomputable def plenumlaw26_RepliesOnce_r11 (m : Nat) (n0 : Nat) (kc : ASt → RO) (kx : KO (AV × List AObj)) (s : ASt) : RO := joinW Try.prog GG (plenumlaw26_RepliesOnce_env m) m 132 (cdR (cdR (cdL (cdL (cdR (cdL (cdR (cdR (cdR (cdR (cdR (cdR (cdR (cdR (cdR (cdR plenumlaw26_RepliesOnce_c)))))))))))))))) plenumlaw26_RepliesOnce_h.r.r.r.r.r.r.r.r.r.r.l.r.c.c.r.r s (backW n0 [5, 7, 9, 13] [4] kc kx)
noncomputable def plenumlaw26_RepliesOnce_r10 (m : Nat) (n0 : Nat) (kc : ASt → RO) (kx : KO (AV × List AObj)) (s : ASt) : RO := joinW Try.prog GG (plenumlaw26_RepliesOnce_env m) m 132 (cdR (cdR (cdL (cdL (cdR (cdL (cdR (cdR (cdR (cdR (cdR (cdR (cdR (cdR (cdR (cdR plenumlaw26_RepliesOnce_c)))))))))))))))) plenumlaw26_RepliesOnce_h.r.r.r.r.r.r.r.r.r.r.l.r.c.c.r.r s (backW n0 [5, 7, 9, 13] [4] kc kx)
noncomputable def plenumlaw26_RepliesOnce_r9 (m : Nat) (n0 : Nat) (kc : ASt → RO) (kx : KO (AV × List AObj)) (s : ASt) : RO := joinW Try.prog GG (plenumlaw26_RepliesOnce_env m) m 132 (cdR (cdR (cdR (cdR (cdL (cdL (cdR (cdL (cdL (cdR (cdL (cdR (cdR (cdR (cdR (cdR (cdR (cdR (cdR (cdR (cdR plenumlaw26_RepliesOnce_c))))))))))))))))))))) plenumlaw26_RepliesOnce_h.r.r.r.r.r.r.r.r.r.r.l.r.c.c.r.l.c.r.r.r.r s (blockX 3 (seqX (fun s => plenumlaw26_RepliesOnce_r11 m n0 kc kx ⟨s.H, [(5, gt s.T 5), (7, gt s.T 7), (9, gt s.T 9), (13, gt s.T 13)]⟩) (backW n0 [5, 7, 9, 13] [4] kc kx)))
noncomputable def plenumlaw26_RepliesOnce_r8 (m : Nat) (n0 : Nat) (kc : ASt → RO) (kx : KO (AV × List AObj)) (s : ASt) : RO := joinW Try.prog GG (plenumlaw26_RepliesOnce_env m) m 132 (cdR (cdR (cdL (cdL (cdR (cdL (cdR (cdL (cdL (cdR (cdL (cdL (cdR (cdL (cdR (cdR (cdR (cdR (cdR (cdR (cdR (cdR (cdR (cdR plenumlaw26_RepliesOnce_c)))))))))))))))))))))))) plenumlaw26_RepliesOnce_h.r.r.r.r.r.r.r.r.r.r.l.r.c.c.r.l.c.r.l.r.c.c.r.r s (backW n0 [5, 7, 9, 13, 14, 15] [5, 7, 9, 13, 14] kc kx)
noncomputable def plenumlaw26_RepliesOnce_r7 (m : Nat) (n0 : Nat) (kc : ASt → RO) (kx : KO (AV × List AObj)) (s : ASt) : RO := joinW Try.prog GG (plenumlaw26_RepliesOnce_env m) m 132 (cdR (cdR (cdL (cdL (cdR (cdL (cdR (cdR (cdR (cdR (cdR (cdR (cdR (cdR (cdR (cdR plenumlaw26_RepliesOnce_c)))))))))))))))) plenumlaw26_RepliesOnce_h.r.r.r.r.r.r.r.r.r.r.l.r.c.c.r.r s (backW n0 [5, 7, 9, 13] [4] kc kx)
noncomputable def plenumlaw26_RepliesOnce_r6 (m : Nat) (n0 : Nat) (kc : ASt → RO) (kx : KO (AV × List AObj)) (s : ASt) : RO := joinW Try.prog GG (plenumlaw26_RepliesOnce_env m) m 132 (cdR (cdR (cdL (cdL (cdR (cdL (cdL (cdR (cdL (cdR (cdR (cdR (cdR (cdR (cdR (cdR (cdR (cdR (cdR plenumlaw26_RepliesOnce_c))))))))))))))))))) plenumlaw26_RepliesOnce_h.r.r.r.r.r.r.r.r.r.r.l.r.c.c.r.l.c.r.r s (blockX 3 (seqX (fun s => plenumlaw26_RepliesOnce_r10 m n0 kc kx ⟨s.H, [(5, gt s.T 5), (7, gt s.T 7), (9, gt s.T 9), (13, gt s.T 13)]⟩) (backW n0 [5, 7, 9, 13] [4] kc kx)))
noncomputable def plenumlaw26_RepliesOnce_r5 (m : Nat) (s : ASt) : RO := joinW Try.prog GG (plenumlaw26_RepliesOnce_env m) m 132 (cdR (cdR (cdR (cdR (cdR (cdR (cdR (cdR (cdR (cdR (cdR plenumlaw26_RepliesOnce_c))))))))))) plenumlaw26_RepliesOnce_h.r.r.r.r.r.r.r.r.r.r.r s (plenumlaw26_RepliesOnce_fin)
noncomputable def plenumlaw26_RepliesOnce_b3 (m : Nat) (s : ASt) (kc : ASt → RO) (kx : KO (AV × List AObj)) : RO := bodyW Try.prog GG (plenumlaw26_RepliesOnce_env m) m 132 (cdL (cdL (cdR (cdL (cdR (cdL (cdL (cdR (cdL (cdL (cdR (cdL (cdR (cdR (cdR (cdR (cdR (cdR (cdR (cdR (cdR (cdR plenumlaw26_RepliesOnce_c)))))))))))))))))))))) plenumlaw26_RepliesOnce_h.r.r.r.r.r.r.r.r.r.r.l.r.c.c.r.l.c.r.l.r.c.c [5, 7, 9, 13, 14, 15] [5, 7, 9, 13, 14] s kc kx
noncomputable def plenumlaw26_RepliesOnce_b2 (m : Nat) (s : ASt) (kc : ASt → RO) (kx : KO (AV × List AObj)) : RO := bodyW Try.prog GG (plenumlaw26_RepliesOnce_env m) m 132 (cdL (cdL (cdR (cdL (cdR (cdR (cdR (cdR (cdR (cdR (cdR (cdR (cdR (cdR plenumlaw26_RepliesOnce_c)))))))))))))) plenumlaw26_RepliesOnce_h.r.r.r.r.r.r.r.r.r.r.l.r.c.c [5, 7, 9, 13] [4] s kc kx
noncomputable def plenumlaw26_RepliesOnce_r4 (m : Nat) (s : ASt) : RO := joinW Try.prog GG (plenumlaw26_RepliesOnce_env m) m 132 (cdR (cdR (cdR (cdR (cdR (cdR (cdR (cdR (cdR (cdR plenumlaw26_RepliesOnce_c)))))))))) plenumlaw26_RepliesOnce_h.r.r.r.r.r.r.r.r.r.r s (plenumlaw26_RepliesOnce_fin)
noncomputable def plenumlaw26_RepliesOnce_r3 (m : Nat) (s : ASt) : RO := joinW Try.prog GG (plenumlaw26_RepliesOnce_env m) m 132 (cdR (cdL (cdR (cdR (cdR (cdR (cdR (cdR (cdR (cdR (cdR plenumlaw26_RepliesOnce_c))))))))))) plenumlaw26_RepliesOnce_h.r.r.r.r.r.r.r.r.r.l.r s (seqX (fun s => plenumlaw26_RepliesOnce_r4 m ⟨s.H, [(5, gt s.T 5), (7, gt s.T 7), (9, gt s.T 9)]⟩) (plenumlaw26_RepliesOnce_fin))
noncomputable def plenumlaw26_RepliesOnce_r2 (m : Nat) (s : ASt) : RO := joinW Try.prog GG (plenumlaw26_RepliesOnce_env m) m 132 (cdR (cdR (cdR (cdR (cdR (cdR plenumlaw26_RepliesOnce_c)))))) plenumlaw26_RepliesOnce_h.r.r.r.r.r.r s (plenumlaw26_RepliesOnce_fin)
noncomputable def plenumlaw26_RepliesOnce_b1 (m : Nat) (s : ASt) (kc : ASt → RO) (kx : KO (AV × List AObj)) : RO := bodyW Try.prog GG (plenumlaw26_RepliesOnce_env m) m 132 (cdL (cdL (cdR (cdL (cdR (cdR (cdR (cdR (cdR plenumlaw26_RepliesOnce_c))))))))) plenumlaw26_RepliesOnce_h.r.r.r.r.r.l.r.c.c [0, 1, 5, 7, 8] [0, 1, 5, 7] s kc kx
noncomputable def plenumlaw26_RepliesOnce_r1 (m : Nat) (s : ASt) : RO := joinW Try.prog GG (plenumlaw26_RepliesOnce_env m) m 132 (cdR (cdR (cdR plenumlaw26_RepliesOnce_c))) plenumlaw26_RepliesOnce_h.r.r.r s (plenumlaw26_RepliesOnce_fin)
noncomputable def plenumlaw26_RepliesOnce (m : Nat) (t0 t1 : AV) : RO := exec Try.prog GG (plenumlaw26_RepliesOnce_env m) m 132 plenumlaw26_RepliesOnce_c plenumlaw26_RepliesOnce_h ⟨[], argsT 0 [t0, t1]⟩ (plenumlaw26_RepliesOnce_fin)
theorem plenumlaw26_RepliesOnce_r11_eq (m : Nat) (n0 : Nat) (kc : ASt → RO) (kx : KO (AV × List AObj)) (H : List AObj) (t5 t7 t9 t13 : AV) : plenumlaw26_RepliesOnce_r11 m n0 kc kx ⟨H, [(5, t5), (7, t7), (9, t9), (13, t13)]⟩ =
  binE none false false .add t13 (V (.int .i64 1)) fun t85 =>
  backE n0 H [(5, t5), (7, t7), (9, t9), (13, t85)] kc := by
  refine (joinW_eq Try.prog GG (plenumlaw26_RepliesOnce_env m) m 132 (cdR (cdR (cdL (cdL (cdR (cdL (cdR (cdR (cdR (cdR (cdR (cdR (cdR (cdR (cdR (cdR plenumlaw26_RepliesOnce_c)))))))))))))))) plenumlaw26_RepliesOnce_h.r.r.r.r.r.r.r.r.r.r.l.r.c.c.r.r ⟨H, [(5, t5), (7, t7), (9, t9), (13, t13)]⟩ (backW n0 [5, 7, 9, 13] [4] kc kx)).trans ?_
  kernel_rfl
theorem plenumlaw26_RepliesOnce_r10_eq (m : Nat) (n0 : Nat) (kc : ASt → RO) (kx : KO (AV × List AObj)) (H : List AObj) (t5 t7 t9 t13 : AV) : plenumlaw26_RepliesOnce_r10 m n0 kc kx ⟨H, [(5, t5), (7, t7), (9, t9), (13, t13)]⟩ =
  binE none false false .add t13 (V (.int .i64 1)) fun t85 =>
  backE n0 H [(5, t5), (7, t7), (9, t9), (13, t85)] kc := by
  refine (joinW_eq Try.prog GG (plenumlaw26_RepliesOnce_env m) m 132 (cdR (cdR (cdL (cdL (cdR (cdL (cdR (cdR (cdR (cdR (cdR (cdR (cdR (cdR (cdR (cdR plenumlaw26_RepliesOnce_c)))))))))))))))) plenumlaw26_RepliesOnce_h.r.r.r.r.r.r.r.r.r.r.l.r.c.c.r.r ⟨H, [(5, t5), (7, t7), (9, t9), (13, t13)]⟩ (backW n0 [5, 7, 9, 13] [4] kc kx)).trans ?_
  kernel_rfl
theorem plenumlaw26_RepliesOnce_r9_eq (m : Nat) (n0 : Nat) (kc : ASt → RO) (kx : KO (AV × List AObj)) (H : List AObj) (t5 t7 t9 t13 t130 : AV) : plenumlaw26_RepliesOnce_r9 m n0 kc kx ⟨H, [(5, t5), (7, t7), (9, t9), (13, t13), (130, t130)]⟩ =
  condE t130 (
   kx .ret ⟨H, [(4, (V (.bool false)))]⟩) (
   plenumlaw26_RepliesOnce_r11 m n0 kc kx ⟨H, [(5, t5), (7, t7), (9, t9), (13, t13)]⟩) := by
  refine (joinW_eq Try.prog GG (plenumlaw26_RepliesOnce_env m) m 132 (cdR (cdR (cdR (cdR (cdL (cdL (cdR (cdL (cdL (cdR (cdL (cdR (cdR (cdR (cdR (cdR (cdR (cdR (cdR (cdR (cdR plenumlaw26_RepliesOnce_c))))))))))))))))))))) plenumlaw26_RepliesOnce_h.r.r.r.r.r.r.r.r.r.r.l.r.c.c.r.l.c.r.r.r.r ⟨H, [(5, t5), (7, t7), (9, t9), (13, t13), (130, t130)]⟩ (blockX 3 (seqX (fun s => plenumlaw26_RepliesOnce_r11 m n0 kc kx ⟨s.H, [(5, gt s.T 5), (7, gt s.T 7), (9, gt s.T 9), (13, gt s.T 13)]⟩) (backW n0 [5, 7, 9, 13] [4] kc kx)))).trans ?_
  kernel_rfl
theorem plenumlaw26_RepliesOnce_r8_eq (m : Nat) (n0 : Nat) (kc : ASt → RO) (kx : KO (AV × List AObj)) (H : List AObj) (t5 t7 t9 t13 t14 t15 : AV) : plenumlaw26_RepliesOnce_r8 m n0 kc kx ⟨H, [(5, t5), (7, t7), (9, t9), (13, t13), (14, t14), (15, t15)]⟩ =
  binE none false false .add t15 (V (.int .i64 1)) fun t93 =>
  backE n0 H [(5, t5), (7, t7), (9, t9), (13, t13), (14, t14), (15, t93)] kc := by
  refine (joinW_eq Try.prog GG (plenumlaw26_RepliesOnce_env m) m 132 (cdR (cdR (cdL (cdL (cdR (cdL (cdR (cdL (cdL (cdR (cdL (cdL (cdR (cdL (cdR (cdR (cdR (cdR (cdR (cdR (cdR (cdR (cdR (cdR plenumlaw26_RepliesOnce_c)))))))))))))))))))))))) plenumlaw26_RepliesOnce_h.r.r.r.r.r.r.r.r.r.r.l.r.c.c.r.l.c.r.l.r.c.c.r.r ⟨H, [(5, t5), (7, t7), (9, t9), (13, t13), (14, t14), (15, t15)]⟩ (backW n0 [5, 7, 9, 13, 14, 15] [5, 7, 9, 13, 14] kc kx)).trans ?_
  kernel_rfl
theorem plenumlaw26_RepliesOnce_r7_eq (m : Nat) (n0 : Nat) (kc : ASt → RO) (kx : KO (AV × List AObj)) (H : List AObj) (t5 t7 t9 t13 : AV) : plenumlaw26_RepliesOnce_r7 m n0 kc kx ⟨H, [(5, t5), (7, t7), (9, t9), (13, t13)]⟩ =
  binE none false false .add t13 (V (.int .i64 1)) fun t85 =>
  backE n0 H [(5, t5), (7, t7), (9, t9), (13, t85)] kc := by
  refine (joinW_eq Try.prog GG (plenumlaw26_RepliesOnce_env m) m 132 (cdR (cdR (cdL (cdL (cdR (cdL (cdR (cdR (cdR (cdR (cdR (cdR (cdR (cdR (cdR (cdR plenumlaw26_RepliesOnce_c)))))))))))))))) plenumlaw26_RepliesOnce_h.r.r.r.r.r.r.r.r.r.r.l.r.c.c.r.r ⟨H, [(5, t5), (7, t7), (9, t9), (13, t13)]⟩ (backW n0 [5, 7, 9, 13] [4] kc kx)).trans ?_
  kernel_rfl
theorem plenumlaw26_RepliesOnce_r6_eq (m : Nat) (n0 : Nat) (kc : ASt → RO) (kx : KO (AV × List AObj)) (H : List AObj) (t5 t7 t9 t13 t14 : AV) : plenumlaw26_RepliesOnce_r6 m n0 kc kx ⟨H, [(5, t5), (7, t7), (9, t9), (13, t13), (14, t14)]⟩ =
  idxSE 8 H t5 t13 fun t110 =>
  fieldE (some (0, 1)) t110 fun t111 =>
  loadE 1 H t111 fun t112 =>
  idxSE 8 H t5 t14 fun t115 =>
  fieldE (some (1, 1)) t115 fun t116 =>
  loadE 1 H t116 fun t117 =>
  tellE (replies_Ask m (ro H t9) (ro H t112) (ro H t117)) [(ro H t9), (ro H t112), (ro H t117)] fun t118 =>
  extE t118 0 fun t119 =>
  extE t118 1 fun t120 =>
  allocE (some zc_api_Result) ty_api_Result H fun t16 H2 =>
  storeE 7 H2 t16 t119 fun H3 =>
  binE none false false .neq t120 (V (.int .i64 0)) fun t122 =>
  condE t122 (
   plenumlaw26_RepliesOnce_r9 m n0 kc kx ⟨H3, [(5, t5), (7, t7), (9, t9), (13, t13), (130, (V (.bool true)))]⟩) (
   loadE 7 H3 t16 fun t124 =>
   idxSE 7 H3 t7 t14 fun t127 =>
   loadE 7 H3 t127 fun t128 =>
   binE (some [.i .i64, .i .i64, .i .i64, .s, .i .i64]) false false .neq t124 t128 fun t129 =>
   plenumlaw26_RepliesOnce_r9 m n0 kc kx ⟨H3, [(5, t5), (7, t7), (9, t9), (13, t13), (130, t129)]⟩) := by
  refine (joinW_eq Try.prog GG (plenumlaw26_RepliesOnce_env m) m 132 (cdR (cdR (cdL (cdL (cdR (cdL (cdL (cdR (cdL (cdR (cdR (cdR (cdR (cdR (cdR (cdR (cdR (cdR (cdR plenumlaw26_RepliesOnce_c))))))))))))))))))) plenumlaw26_RepliesOnce_h.r.r.r.r.r.r.r.r.r.r.l.r.c.c.r.l.c.r.r ⟨H, [(5, t5), (7, t7), (9, t9), (13, t13), (14, t14)]⟩ (blockX 3 (seqX (fun s => plenumlaw26_RepliesOnce_r10 m n0 kc kx ⟨s.H, [(5, gt s.T 5), (7, gt s.T 7), (9, gt s.T 9), (13, gt s.T 13)]⟩) (backW n0 [5, 7, 9, 13] [4] kc kx)))).trans ?_
  kernel_rfl
theorem plenumlaw26_RepliesOnce_r5_eq (m : Nat) (H : List AObj) : plenumlaw26_RepliesOnce_r5 m ⟨H, []⟩ =
  tellE (plenumlaw26_awake m) [] fun t131 =>
  tellK H (ro H t131) := by
  refine (joinW_eq Try.prog GG (plenumlaw26_RepliesOnce_env m) m 132 (cdR (cdR (cdR (cdR (cdR (cdR (cdR (cdR (cdR (cdR (cdR plenumlaw26_RepliesOnce_c))))))))))) plenumlaw26_RepliesOnce_h.r.r.r.r.r.r.r.r.r.r.r ⟨H, []⟩ (plenumlaw26_RepliesOnce_fin)).trans ?_
  kernel_rfl
theorem plenumlaw26_RepliesOnce_b3_eq (m : Nat) (H : List AObj) (t5 t7 t9 t13 t14 t15 : AV) (kc : ASt → RO) (kx : KO (AV × List AObj)) : plenumlaw26_RepliesOnce_b3 m ⟨H, [(5, t5), (7, t7), (9, t9), (13, t13), (14, t14), (15, t15)]⟩ kc kx =
  lenE false true H t5 fun t90 =>
  binE none false false .lss t15 t90 fun t91 =>
  condE t91 (
   idxSE 8 H t5 t15 fun t96 =>
   fieldE (some (0, 1)) t96 fun t97 =>
   loadE 1 H t97 fun t98 =>
   idxSE 8 H t5 t13 fun t101 =>
   fieldE (some (0, 1)) t101 fun t102 =>
   loadE 1 H t102 fun t103 =>
   binE none false false .eql t98 t103 fun t104 =>
   condE t104 (
    plenumlaw26_RepliesOnce_r8 m H.length kc kx ⟨H, [(5, t5), (7, t7), (9, t9), (13, t13), (14, t15), (15, t15)]⟩) (
    plenumlaw26_RepliesOnce_r8 m H.length kc kx ⟨H, [(5, t5), (7, t7), (9, t9), (13, t13), (14, t14), (15, t15)]⟩)) (
   kx (.exit 4) ⟨H, [(5, t5), (7, t7), (9, t9), (13, t13), (14, t14)]⟩) := by
  refine (bodyW_eq Try.prog GG (plenumlaw26_RepliesOnce_env m) m 132 (cdL (cdL (cdR (cdL (cdR (cdL (cdL (cdR (cdL (cdL (cdR (cdL (cdR (cdR (cdR (cdR (cdR (cdR (cdR (cdR (cdR (cdR plenumlaw26_RepliesOnce_c)))))))))))))))))))))) plenumlaw26_RepliesOnce_h.r.r.r.r.r.r.r.r.r.r.l.r.c.c.r.l.c.r.l.r.c.c [5, 7, 9, 13, 14, 15] [5, 7, 9, 13, 14] ⟨H, [(5, t5), (7, t7), (9, t9), (13, t13), (14, t14), (15, t15)]⟩ kc kx).trans ?_
  kernel_rfl
theorem plenumlaw26_RepliesOnce_b2_eq (m : Nat) (H : List AObj) (t5 t7 t9 t13 : AV) (kc : ASt → RO) (kx : KO (AV × List AObj)) : plenumlaw26_RepliesOnce_b2 m ⟨H, [(5, t5), (7, t7), (9, t9), (13, t13)]⟩ kc kx =
  lenE false true H t5 fun t82 =>
  binE none false false .lss t13 t82 fun t83 =>
  condE t83 (
   iterC m (plenumlaw26_RepliesOnce_b3 m) ⟨H, [(5, t5), (7, t7), (9, t9), (13, t13), (14, t13), (15, t13)]⟩ (blockX 4 (seqX (fun s => plenumlaw26_RepliesOnce_r6 m H.length kc kx ⟨s.H, [(5, gt s.T 5), (7, gt s.T 7), (9, gt s.T 9), (13, gt s.T 13), (14, gt s.T 14)]⟩) (blockX 3 (seqX (fun s => plenumlaw26_RepliesOnce_r7 m H.length kc kx ⟨s.H, [(5, gt s.T 5), (7, gt s.T 7), (9, gt s.T 9), (13, gt s.T 13)]⟩) (backW H.length [5, 7, 9, 13] [4] kc kx)))))) (
   kx (.exit 2) ⟨H, [(4, .nil)]⟩) := by
  refine (bodyW_eq Try.prog GG (plenumlaw26_RepliesOnce_env m) m 132 (cdL (cdL (cdR (cdL (cdR (cdR (cdR (cdR (cdR (cdR (cdR (cdR (cdR (cdR plenumlaw26_RepliesOnce_c)))))))))))))) plenumlaw26_RepliesOnce_h.r.r.r.r.r.r.r.r.r.r.l.r.c.c [5, 7, 9, 13] [4] ⟨H, [(5, t5), (7, t7), (9, t9), (13, t13)]⟩ kc kx).trans ?_
  kernel_rfl
theorem plenumlaw26_RepliesOnce_r4_eq (m : Nat) (H : List AObj) (t5 t7 t9 : AV) : plenumlaw26_RepliesOnce_r4 m ⟨H, [(5, t5), (7, t7), (9, t9)]⟩ =
  iterC m (plenumlaw26_RepliesOnce_b2 m) ⟨H, [(5, t5), (7, t7), (9, t9), (13, (V (.int .i64 0)))]⟩ (blockX 2 (seqX (fun s => plenumlaw26_RepliesOnce_r5 m ⟨s.H, []⟩) (plenumlaw26_RepliesOnce_fin))) := by
  refine (joinW_eq Try.prog GG (plenumlaw26_RepliesOnce_env m) m 132 (cdR (cdR (cdR (cdR (cdR (cdR (cdR (cdR (cdR (cdR plenumlaw26_RepliesOnce_c)))))))))) plenumlaw26_RepliesOnce_h.r.r.r.r.r.r.r.r.r.r ⟨H, [(5, t5), (7, t7), (9, t9)]⟩ (plenumlaw26_RepliesOnce_fin)).trans ?_
  kernel_rfl
theorem plenumlaw26_RepliesOnce_r3_eq (m : Nat) (H : List AObj) (t5 t7 t9 t79 : AV) : plenumlaw26_RepliesOnce_r3 m ⟨H, [(5, t5), (7, t7), (9, t9), (79, t79)]⟩ =
  condE t79 (
   tellK H (ro H (V (.bool false)))) (
   plenumlaw26_RepliesOnce_r4 m ⟨H, [(5, t5), (7, t7), (9, t9)]⟩) := by
  refine (joinW_eq Try.prog GG (plenumlaw26_RepliesOnce_env m) m 132 (cdR (cdL (cdR (cdR (cdR (cdR (cdR (cdR (cdR (cdR (cdR plenumlaw26_RepliesOnce_c))))))))))) plenumlaw26_RepliesOnce_h.r.r.r.r.r.r.r.r.r.l.r ⟨H, [(5, t5), (7, t7), (9, t9), (79, t79)]⟩ (seqX (fun s => plenumlaw26_RepliesOnce_r4 m ⟨s.H, [(5, gt s.T 5), (7, gt s.T 7), (9, gt s.T 9)]⟩) (plenumlaw26_RepliesOnce_fin))).trans ?_
  kernel_rfl
theorem plenumlaw26_RepliesOnce_r2_eq (m : Nat) (H : List AObj) (t0 t1 t5 t7 : AV) : plenumlaw26_RepliesOnce_r2 m ⟨H, [(0, t0), (1, t1), (5, t5), (7, t7)]⟩ =
  tellE (replies_All m (ro H t0) (ro H t5) (ro H t7)) [(ro H t0), (ro H t5), (ro H t7)] fun t46 =>
  extE t46 0 fun t47 =>
  extE t46 1 fun t48 =>
  tellE (plenumref26_Is m (ro H t0)) [(ro H t0)] fun t50 =>
  unE .not t50 fun t51 =>
  condE t51 (
   lenE false true H t5 fun t53 =>
   binE none false false .eql t53 (V (.int .i64 0)) fun t54 =>
   condE t54 (
    lenE false true H t47 fun t57 =>
    binE none false false .eql t57 (V (.int .i64 0)) fun t58 =>
    condE t58 (
    binE none false false .eql t48 (V (.int .i64 1)) fun t62 =>
    condE t62 (
    tellE (plenumlaw26_awake m) [] fun t65 =>
    tellK H (ro H t65)) (
    tellK H (ro H (V (.bool false))))) (
    tellK H (ro H (V (.bool false))))) (
    tellK H (ro H (V (.bool false))))) (
   tellE (replies_Fresh m (ro H t47) (ro H t1)) [(ro H t47), (ro H t1)] fun t70 =>
   extE t70 0 fun t71 =>
   extE t70 1 fun t72 =>
   binE none false false .neq t48 (V (.int .i64 0)) fun t74 =>
   condE t74 (
    plenumlaw26_RepliesOnce_r3 m ⟨H, [(5, t5), (7, t7), (9, t47), (79, (V (.bool true)))]⟩) (
    lenE false true H t71 fun t77 =>
    binE none false false .neq t77 (V (.int .i64 0)) fun t78 =>
    plenumlaw26_RepliesOnce_r3 m ⟨H, [(5, t5), (7, t7), (9, t47), (79, t78)]⟩)) := by
  refine (joinW_eq Try.prog GG (plenumlaw26_RepliesOnce_env m) m 132 (cdR (cdR (cdR (cdR (cdR (cdR plenumlaw26_RepliesOnce_c)))))) plenumlaw26_RepliesOnce_h.r.r.r.r.r.r ⟨H, [(0, t0), (1, t1), (5, t5), (7, t7)]⟩ (plenumlaw26_RepliesOnce_fin)).trans ?_
  kernel_rfl
theorem plenumlaw26_RepliesOnce_b1_eq (m : Nat) (H : List AObj) (t0 t1 t5 t7 t8 : AV) (kc : ASt → RO) (kx : KO (AV × List AObj)) : plenumlaw26_RepliesOnce_b1 m ⟨H, [(0, t0), (1, t1), (5, t5), (7, t7), (8, t8)]⟩ kc kx =
  lenE false true H t5 fun t33 =>
  binE none false false .lss t8 t33 fun t34 =>
  condE t34 (
   buildE (some pl_api_Result) (some zc_api_Result) [(2, t8)] fun t39 =>
   buildSE (some (ty_api_Result, 5)) 1 [(0, t39)] fun t40 =>
   appE (some (ty_api_Result, 5)) H t7 t40 fun t41 H2 =>
   binE none false false .add t8 (V (.int .i64 1)) fun t36 =>
   backE H.length H2 [(0, t0), (1, t1), (5, t5), (7, t41), (8, t36)] kc) (
   kx (.exit 0) ⟨H, [(0, t0), (1, t1), (5, t5), (7, t7)]⟩) := by
  refine (bodyW_eq Try.prog GG (plenumlaw26_RepliesOnce_env m) m 132 (cdL (cdL (cdR (cdL (cdR (cdR (cdR (cdR (cdR plenumlaw26_RepliesOnce_c))))))))) plenumlaw26_RepliesOnce_h.r.r.r.r.r.l.r.c.c [0, 1, 5, 7, 8] [0, 1, 5, 7] ⟨H, [(0, t0), (1, t1), (5, t5), (7, t7), (8, t8)]⟩ kc kx).trans ?_
  kernel_rfl
theorem plenumlaw26_RepliesOnce_r1_eq (m : Nat) (H : List AObj) (t0 t1 : AV) : plenumlaw26_RepliesOnce_r1 m ⟨H, [(0, t0), (1, t1)]⟩ =
  tellE (replies_Fresh m (ro H t0) (ro H t1)) [(ro H t0), (ro H t1)] fun t28 =>
  extE t28 0 fun t29 =>
  extE t28 1 fun t30 =>
  rowE (V (.slice none 0 0)) ty_api_Result 5 H fun t7 H2 =>
  iterC m (plenumlaw26_RepliesOnce_b1 m) ⟨H2, [(0, t0), (1, t1), (5, t29), (7, t7), (8, (V (.int .i64 0)))]⟩ (blockX 0 (seqX (fun s => plenumlaw26_RepliesOnce_r2 m ⟨s.H, [(0, gt s.T 0), (1, gt s.T 1), (5, gt s.T 5), (7, gt s.T 7)]⟩) (plenumlaw26_RepliesOnce_fin))) := by
  refine (joinW_eq Try.prog GG (plenumlaw26_RepliesOnce_env m) m 132 (cdR (cdR (cdR plenumlaw26_RepliesOnce_c))) plenumlaw26_RepliesOnce_h.r.r.r ⟨H, [(0, t0), (1, t1)]⟩ (plenumlaw26_RepliesOnce_fin)).trans ?_
  kernel_rfl
theorem plenumlaw26_RepliesOnce_eq (m : Nat) (t0 t1 : AV) : plenumlaw26_RepliesOnce m t0 t1 =
  tellE (plenumlaw26_Few m (ro [] t0)) [(ro [] t0)] fun t19 =>
  lenE false true [] t1 fun t21 =>
  binE none false false .gtr t21 (V (.int .i64 70)) fun t22 =>
  condE t22 (
   sliceE false (some (ty_api_Txn, 8)) [] t1 none (some (V (.int .i64 70))) fun t24 =>
   plenumlaw26_RepliesOnce_r1 m ⟨[], [(0, t19), (1, t24)]⟩) (
   plenumlaw26_RepliesOnce_r1 m ⟨[], [(0, t19), (1, t1)]⟩) := by
  refine (tellX Try.prog GG (plenumlaw26_RepliesOnce_env m) m 132 plenumlaw26_RepliesOnce_c plenumlaw26_RepliesOnce_h ⟨[], argsT 0 [t0, t1]⟩ [.tmp 4]).trans ?_
  kernel_rfl
noncomputable def plenumlaw26_RepliesOnce_t (m : Nat) : List AV → RO | [t0, t1] => plenumlaw26_RepliesOnce m t0 t1 | _ => none
theorem plenumlaw26_RepliesOnce_ok (m : Nat) : ∀ args X H', plenumlaw26_RepliesOnce_t m args = some (X, H') → ACp Try.prog GG 6 args X := by
  intro args X H' h
  unfold plenumlaw26_RepliesOnce_t at h
  split at h
  · exact tell_okK MIX (by
    intro f e h
    simp only [plenumlaw26_RepliesOnce_env, Prod.mk.injEq, List.mem_cons, List.not_mem_nil, or_false] at h
    rcases h with ⟨rfl, rfl⟩ | ⟨rfl, rfl⟩ | ⟨rfl, rfl⟩ | ⟨rfl, rfl⟩ | ⟨rfl, rfl⟩ | ⟨rfl, rfl⟩
    · exact plenumlaw26_Few_ok m
    · exact replies_Fresh_ok m
    · exact replies_All_ok m
    · exact plenumref26_Is_ok m
    · exact plenumlaw26_awake_ok m
    · exact replies_Ask_ok m) (f := 6) (c := plenumlaw26_RepliesOnce_c) Try.func6 rfl (by kernel_rfl) _ rfl Try.ntmps6 (Nat.le_of_ble_eq_true rfl) plenumlaw26_RepliesOnce_h h
  · cases h
end Go.Proofs.Ytchncgdjefbmfaa

namespace Go.Proofs.Ytchncgdjefbmfaa
open Go.RowKit
set_option linter.unusedVariables false
set_option linter.unusedSimpArgs false
set_option maxRecDepth 20000
theorem ask_hit {l : List La} {c t : Int} (hi : isL l = true) (hc : could c t = true) {x : La} (hx : x ∈ l) (e : x.cl = c) : askA l c t = if x.tm < t then (Rs.zero, 6) else if t < x.tm then (Rs.zero, 18) else (x.r, 0) := by
  obtain ⟨k, hk, rfl⟩ := List.getElem_of_mem hx
  unfold askA
  rw [if_pos ⟨hi, hc⟩, fnd_eq (isL_inc hi) hk e, List.getElem?_eq_getElem hk]
  dsimp only
  rw [if_pos e]
theorem ask_miss {l : List La} {c t : Int} (hi : isL l = true) (hc : could c t = true) (h : ∀ x ∈ l, x.cl ≠ c) : askA l c t = (Rs.zero, 6) := by
  unfold askA
  rw [if_pos ⟨hi, hc⟩]
  split
  · rename_i x hx
    rw [if_neg (h x (List.mem_of_getElem? hx))]
  · rfl
theorem ask_bad {l : List La} {c t : Int} (hc : could c t = false) : askA l c t = (Rs.zero, 1) := by
  unfold askA
  rw [hc]; simp
theorem ask_six {l : List La} {c t : Int} (h : (askA l c t).2 = 6) : isL l = true ∧ could c t = true := by
  unfold askA at h
  split at h
  · rename_i q; exact q
  · simp at h
theorem note_zero {l : List La} {c t : Int} {r : Rs} : (noteA l c t r).2 = 0 ↔ (askA l c t).2 = 6 ∧ rB r = true := by
  constructor
  · intro h
    obtain ⟨_, _, h3, h4, _⟩ := note_ok h
    exact ⟨h4, h3⟩
  · rintro ⟨h1, h2⟩
    unfold noteA
    rw [if_pos h1, if_pos h2]
theorem note_mem {l : List La} {c t : Int} {r : Rs} (h : (noteA l c t r).2 = 0) (x : La) : x ∈ (noteA l c t r).1 ↔ x = ⟨c, t, r⟩ ∨ (x ∈ l ∧ x.cl ≠ c) := by
  obtain ⟨_, _, _, _, h5⟩ := note_ok h
  rw [h5, List.mem_append, List.mem_cons]
  unfold loL hiL
  simp only [List.mem_filter, decide_eq_true_eq]
  constructor
  · rintro (⟨h1, h2⟩ | rfl | ⟨h1, h2⟩)
    · exact .inr ⟨h1, by omega⟩
    · exact .inl rfl
    · exact .inr ⟨h1, by omega⟩
  · rintro (rfl | ⟨h1, h2⟩)
    · exact .inr (.inl rfl)
    · rcases Int.lt_or_gt_of_ne h2 with q | q
      · exact .inl ⟨h1, q⟩
      · exact .inr (.inr ⟨h1, q⟩)
theorem ask_told {l : List La} {c t : Int} {r : Rs} (h : (noteA l c t r).2 = 0) : askA (noteA l c t r).1 c t = (r, 0) := by
  have hi := note_isL h
  obtain ⟨_, h2, _, _, _⟩ := note_ok h
  rw [ask_hit hi h2 ((note_mem h _).2 (.inl rfl)) rfl]
  simp
theorem ask_other {l : List La} {c t : Int} {r : Rs} (h : (noteA l c t r).2 = 0) {c' t' : Int} (hne : c' ≠ c) : askA (noteA l c t r).1 c' t' = askA l c' t' := by
  have hi := note_isL h
  have h1 := (note_ok h).1
  cases hc : could c' t' with
  | false => rw [ask_bad hc, ask_bad hc]
  | true =>
    by_cases hx : ∃ x ∈ l, x.cl = c'
    · obtain ⟨x, hx, e⟩ := hx
      rw [ask_hit h1 hc hx e, ask_hit hi hc ((note_mem h x).2 (.inr ⟨hx, by rw [e]; exact hne⟩)) e]
    · have hm : ∀ x ∈ l, x.cl ≠ c' := fun x q e => hx ⟨x, q, e⟩
      rw [ask_miss h1 hc hm, ask_miss hi hc]
      intro x q
      rcases (note_mem h x).1 q with rfl | ⟨q, _⟩
      · exact fun e => hne e.symm
      · exact hm x q
theorem ask_same {l : List La} {c t : Int} {r : Rs} (h : (noteA l c t r).2 = 0) {t' : Int} : (askA (noteA l c t r).1 c t').2 = 6 ↔ could c t' = true ∧ t < t' := by
  have hi := note_isL h
  constructor
  · intro q
    obtain ⟨_, hc⟩ := ask_six q
    refine ⟨hc, ?_⟩
    rw [ask_hit hi hc ((note_mem h _).2 (.inl rfl)) rfl] at q
    dsimp only at q
    by_cases h1 : t < t'
    · exact h1
    · rw [if_neg h1] at q
      split at q <;> simp at q
  · rintro ⟨hc, q⟩
    rw [ask_hit hi hc ((note_mem h _).2 (.inl rfl)) rfl]
    dsimp only
    rw [if_pos q]
theorem ask_up {l : List La} {c t t' : Int} (h : (askA l c t).2 = 6) (hc : could c t' = true) (ht : t ≤ t') : (askA l c t').2 = 6 := by
  obtain ⟨hi, hc0⟩ := ask_six h
  by_cases hx : ∃ x ∈ l, x.cl = c
  · obtain ⟨x, hx, e⟩ := hx
    rw [ask_hit hi hc0 hx e] at h
    rw [ask_hit hi hc hx e]
    by_cases h1 : x.tm < t
    · rw [if_pos (by omega)]
    · rw [if_neg h1] at h
      split at h <;> simp at h
  · rw [ask_miss hi hc fun x q e => hx ⟨x, q, e⟩]
theorem note_new {l : List La} {c t : Int} {r : Rs} (h : (noteA l c t r).2 = 0) {c' t' : Int} : (askA (noteA l c t r).1 c' t').2 = 6 ↔ (askA l c' t').2 = 6 ∧ (c' = c → t < t') := by
  by_cases e : c' = c
  · subst e
    rw [ask_same h]
    constructor
    · rintro ⟨h1, h2⟩
      exact ⟨ask_up (note_ok h).2.2.2.1 h1 (by omega), fun _ => h2⟩
    · rintro ⟨h1, h2⟩
      exact ⟨(ask_six h1).2, h2 rfl⟩
  · rw [ask_other h e]
    exact ⟨fun q => ⟨q, fun q2 => absurd q2 e⟩, fun q => q.1⟩
def Alike (l l' : List La) : Prop := ∀ c t, (askA l c t).2 = 6 ↔ (askA l' c t).2 = 6
theorem Alike.note {l l' : List La} (h : Alike l l') {c t : Int} {r r' : Rs} (h1 : (noteA l c t r).2 = 0) (h2 : (noteA l' c t r').2 = 0) : Alike (noteA l c t r).1 (noteA l' c t r').1 := fun c' t' => by
  rw [note_new h1, note_new h2, h c' t']
def allG : List La → List Tx → List Rs → List La × Int
  | l, t :: b, r :: rs => if (noteA l t.cl t.tm r).2 = 0 then allG (noteA l t.cl t.tm r).1 b rs else ([], (noteA l t.cl t.tm r).2)
  | l, _, _ => (l, 0)
def allA (l : List La) (b : List Tx) (r : List Rs) : List La × Int := if isL l = true ∧ b.length = r.length then allG l b r else ([], 1)
def rL (l : List Rs) : AV := SL (l.map rA)
theorem rL_def (l : List Rs) : rL l = SL (l.map rA) := _root_.id rfl
theorem drop_two {l : List Tx} {r : List Rs} (k : Nat) (h : k < l.length) (h2 : l.length = r.length) (cur : List La) : allG cur (l.drop k) (r.drop k) = if (noteA cur l[k].cl l[k].tm (r[k]'(by omega))).2 = 0 then allG (noteA cur l[k].cl l[k].tm (r[k]'(by omega))).1 (l.drop (k + 1)) (r.drop (k + 1)) else ([], (noteA cur l[k].cl l[k].tm (r[k]'(by omega))).2) := by
  rw [List.drop_eq_getElem_cons h, List.drop_eq_getElem_cons (show k < r.length by omega)]
  rfl
theorem rL_sl {n : Nat} {r : Rs} : ((rC r).all fun y => sure y && lt1 n y) = true := _root_.id rfl
theorem all_s (m : Nat) (l : List La) (b : List Tx) (r : List Rs) (hm : 1000 < m) (hlm : l.length < m) (hbm : b.length < m) (hl : l.length ≤ 34359738367) (hb : b.length ≤ 1000000) (h : ∀ x ∈ l, x.r.In) (ht : ∀ t ∈ b, t.Ok) (hr : ∀ x ∈ r, x.In) : replies_All m (lL l) (SL (b.map tE)) (rL r) = some (TU [lL (allA l b r).1, nA (allA l b r).2], []) := by
  have hI := is_s m l hlm hl h
  rw [lL_def] at hI
  rw [replies_All_eq, lL_def, rL_def]
  unfold allA
  cases hi : isL l with
  | false =>
    rw [hi] at hI
    rw [if_neg (by simp), lL_def]
    simp (config := {maxSteps := 4000000, implicitDefEqProofs := false}) (disch := omega) only [go_sem, ↓reduceIte, Nat.reduceAdd, Nat.reduceSub, Nat.reduceMul, Nat.reduceLeDiff, Nat.reduceLT, Int.reduceEq, Int.reduceNe, Int.reduceLT, Int.reduceLE, Int.reduceAdd, Int.reduceSub, Int.reduceMul, Int.reduceNeg, Nat.zero_add, Nat.add_zero, Nat.mul_one, Int.toNat_natCast, Int.natCast_zero, Int.cast_ofNat_Int, or_false, false_or, or_true, true_or, Int.reduceToNat, Nat.sub_zero, Int.natCast_nonneg, Int.toNat_zero, Bool.true_and, Bool.and_true, Bool.false_and, Bool.and_false, Bool.true_or, Bool.or_true, Bool.false_or, Bool.or_false, Bool.not_true, Bool.not_false, Bool.not_not, true_and, and_true, false_and, and_false, not_true_eq_false, not_false_eq_true, eq_self, decide_true, decide_false, ne_eq, implies_true, forall_const, true_implies, false_implies, Bool.true_eq_false, Bool.false_eq_true, reduceCtorEq, List.map_cons, List.map_nil, List.all_cons, List.all_nil, List.length_cons, List.length_nil, List.length_map, List.length_append, List.nil_append, List.cons_append, List.set_cons_zero, List.set_cons_succ, List.set_nil, List.drop_zero, List.drop_succ_cons, List.drop_nil, List.take_zero, List.take_succ_cons, List.take_nil, Option.map_some, Option.map_none, Option.isSome_some, Nat.reduceEqDiff, Nat.reduceBEq, Nat.reduceGT, List.all_append, List.all_map, Function.comp_def, decide_eq_true_eq, Bool.and_eq_true, beq_self_eq_true, or_self, and_self, ite_true, ite_false, Nat.le_refl, Bool.not_eq_true, decide_not, Bool.not_eq_true', decide_eq_false_iff_not, Bool.not_eq_false, Bool.or_eq_true, if_true, if_false, ite_self, la_it, la_len, la_sure, la_ltA, la_lt1, la_all1, la_ro, la_take, la_cl, la_tm, la_r, la_sl, rc_len, rc_sure, rc_ltA, rc_lt1, rc_all1, rc_ro, rc_take, rc_sl, la_set, rc_set, zcL_eq, zcR_eq, la_allA, la_len7, all_tt, natInt, u_nthM, hI, replies_All_r3_eq, replies_All_r2_eq, replies_All_r1_eq]
  | true =>
    rw [hi] at hI
    by_cases hlr : b.length = r.length
    · rw [if_pos ⟨rfl, hlr⟩]
      have hlr' : ((b.length : Int) ≠ (r.length : Int)) = False := by simp [hlr]
      have hlr2 : ((b.length : Int) = (r.length : Int)) = True := by simp [hlr]
      generalize hF : allG l b r = F
      obtain ⟨F1, F2⟩ := F
      have hz : ∀ n, slices_Clone_LastO_t m [SL (l.map laE)] n = some (OW n (l.map laE).length, [⟨2, ty_api_Last, 7, l.map laE⟩]) := fun n => slices_Clone_LastO_e m n _ allC_laE (by rw [List.length_map]; omega)
      rw [lL_def]
      simp (config := {maxSteps := 4000000, implicitDefEqProofs := false}) (disch := omega) only [go_sem, ↓reduceIte, Nat.reduceAdd, Nat.reduceSub, Nat.reduceMul, Nat.reduceLeDiff, Nat.reduceLT, Int.reduceEq, Int.reduceNe, Int.reduceLT, Int.reduceLE, Int.reduceAdd, Int.reduceSub, Int.reduceMul, Int.reduceNeg, Nat.zero_add, Nat.add_zero, Nat.mul_one, Int.toNat_natCast, Int.natCast_zero, Int.cast_ofNat_Int, or_false, false_or, or_true, true_or, Int.reduceToNat, Nat.sub_zero, Int.natCast_nonneg, Int.toNat_zero, Bool.true_and, Bool.and_true, Bool.false_and, Bool.and_false, Bool.true_or, Bool.or_true, Bool.false_or, Bool.or_false, Bool.not_true, Bool.not_false, Bool.not_not, true_and, and_true, false_and, and_false, not_true_eq_false, not_false_eq_true, eq_self, decide_true, decide_false, ne_eq, implies_true, forall_const, true_implies, false_implies, Bool.true_eq_false, Bool.false_eq_true, reduceCtorEq, List.map_cons, List.map_nil, List.all_cons, List.all_nil, List.length_cons, List.length_nil, List.length_map, List.length_append, List.nil_append, List.cons_append, List.set_cons_zero, List.set_cons_succ, List.set_nil, List.drop_zero, List.drop_succ_cons, List.drop_nil, List.take_zero, List.take_succ_cons, List.take_nil, Option.map_some, Option.map_none, Option.isSome_some, Nat.reduceEqDiff, Nat.reduceBEq, Nat.reduceGT, List.all_append, List.all_map, Function.comp_def, decide_eq_true_eq, Bool.and_eq_true, beq_self_eq_true, or_self, and_self, ite_true, ite_false, Nat.le_refl, Bool.not_eq_true, decide_not, Bool.not_eq_true', decide_eq_false_iff_not, Bool.not_eq_false, Bool.or_eq_true, if_true, if_false, ite_self, la_it, la_len, la_sure, la_ltA, la_lt1, la_all1, la_ro, la_take, la_cl, la_tm, la_r, la_sl, rc_len, rc_sure, rc_ltA, rc_lt1, rc_all1, rc_ro, rc_take, rc_sl, la_set, rc_set, zcL_eq, zcR_eq, la_allA, la_len7, all_tt, natInt, u_nthM, hI, hlr', hlr2, hz, u_addS, replies_All_r1_eq, replies_All_r2_eq]
      refine iter_go (ι := {p : Bool × Nat × List La // p.2.1 ≤ b.length ∧ isL p.2.2 = true ∧ (∀ x ∈ p.2.2, x.r.In) ∧ (p.1 = true → p.2.2 = l) ∧ allG p.2.2 (b.drop p.2.1) (r.drop p.2.1) = (F1, F2)})
        (fun p => ⟨[⟨2, ty_api_Last, 7, l.map laE⟩], [(0, match p.1.1 with | true => OW 0 l.length | false => SL (p.1.2.2.map laE)), (2, SL (r.map rA)), (24, SL (b.map tE)), (25, nA b.length), (26, nA p.1.2.1)]⟩) (fun p => b.length - p.1.2.1) (fun _ => some (TU [SL (F1.map laE), nA F2], [])) ?_ ⟨(true, 0, l), Nat.zero_le _, hi, h, fun _ => rfl, by rw [List.drop_zero, List.drop_zero]; exact hF⟩ (by dsimp only; omega)
      rintro kx hkx ⟨⟨q, k, cur⟩, hk, hci, hcin, hq, hG⟩ kc hkc
      dsimp only at hkc hk hci hcin hq hG ⊢
      have hcl := isL_len hci
      by_cases hlt : k < b.length
      · have hlt' : (k : Int) < (b.length : Int) := by omega
        have hkr : k < r.length := by omega
        have hkr' : (k : Int) < (r.length : Int) := by omega
        have hN := note_s m cur b[k].cl b[k].tm r[k] (by omega) (by omega) (by omega) hcin (hr _ (List.getElem_mem hkr))
        rw [lL_def, rA_def, lL_def] at hN
        have hT := ht _ (List.getElem_mem hlt)
        have b1 : ∀ {n : Nat}, ltA n (.agg (tC b[k])) = true := tc_ltA hT
        have b2 : ∀ {n : Nat}, (tC b[k]).all (lt1 n) = true := tc_lt1 hT
        have b3 : (tC b[k]).all sure = true := tc_sure hT
        have b4 : ∀ {n : Nat}, ((tC b[k]).all fun y => sure y && lt1 n y) = true := tc_sl hT
        rw [drop_two k hlt hlr] at hG
        by_cases he : (noteA cur b[k].cl b[k].tm r[k]).2 = 0
        · rw [if_pos he] at hG
          have step := hkc ⟨(false, k + 1, (noteA cur b[k].cl b[k].tm r[k]).1), by dsimp only; omega, note_isL he, note_in he hcin (hr _ (List.getElem_mem hkr)), (fun q => by cases q), hG⟩ (by dsimp only; omega)
          dsimp only at step
          generalize noteA cur b[k].cl b[k].tm r[k] = N at hN he step
          obtain ⟨N1, N2⟩ := N
          dsimp only at hN he step
          cases q with
          | true =>
            obtain rfl := hq rfl
            dsimp only
            rw [replies_All_b1_eq]
            simp (config := {maxSteps := 4000000, implicitDefEqProofs := false}) (disch := omega) only [go_sem, ↓reduceIte, Nat.reduceAdd, Nat.reduceSub, Nat.reduceMul, Nat.reduceLeDiff, Nat.reduceLT, Int.reduceEq, Int.reduceNe, Int.reduceLT, Int.reduceLE, Int.reduceAdd, Int.reduceSub, Int.reduceMul, Int.reduceNeg, Nat.zero_add, Nat.add_zero, Nat.mul_one, Int.toNat_natCast, Int.natCast_zero, Int.cast_ofNat_Int, or_false, false_or, or_true, true_or, Int.reduceToNat, Nat.sub_zero, Int.natCast_nonneg, Int.toNat_zero, Bool.true_and, Bool.and_true, Bool.false_and, Bool.and_false, Bool.true_or, Bool.or_true, Bool.false_or, Bool.or_false, Bool.not_true, Bool.not_false, Bool.not_not, true_and, and_true, false_and, and_false, not_true_eq_false, not_false_eq_true, eq_self, decide_true, decide_false, ne_eq, implies_true, forall_const, true_implies, false_implies, Bool.true_eq_false, Bool.false_eq_true, reduceCtorEq, List.map_cons, List.map_nil, List.all_cons, List.all_nil, List.length_cons, List.length_nil, List.length_map, List.length_append, List.nil_append, List.cons_append, List.set_cons_zero, List.set_cons_succ, List.set_nil, List.drop_zero, List.drop_succ_cons, List.drop_nil, List.take_zero, List.take_succ_cons, List.take_nil, Option.map_some, Option.map_none, Option.isSome_some, Nat.reduceEqDiff, Nat.reduceBEq, Nat.reduceGT, List.all_append, List.all_map, Function.comp_def, decide_eq_true_eq, Bool.and_eq_true, beq_self_eq_true, or_self, and_self, ite_true, ite_false, Nat.le_refl, Bool.not_eq_true, decide_not, Bool.not_eq_true', decide_eq_false_iff_not, Bool.not_eq_false, Bool.or_eq_true, if_true, if_false, ite_self, la_it, la_len, la_sure, la_ltA, la_lt1, la_all1, la_ro, la_take, la_cl, la_tm, la_r, la_sl, rc_len, rc_sure, rc_ltA, rc_lt1, rc_all1, rc_ro, rc_take, rc_sl, la_set, rc_set, zcL_eq, zcR_eq, la_allA, la_len7, all_tt, natInt, u_nthM, te_it, tc_len, tc_take, tc_cl, tc_tm, tc_set, zcT_eq, rc_b0, rA_def, rL_sl, hN, he, hlt', hkr', b1, b2, b3, b4, w_i64, replies_All_r3_eq, replies_All_r2_eq, replies_All_r1_eq]
            exact step
          | false =>
            dsimp only
            rw [replies_All_b1_eq]
            simp (config := {maxSteps := 4000000, implicitDefEqProofs := false}) (disch := omega) only [go_sem, ↓reduceIte, Nat.reduceAdd, Nat.reduceSub, Nat.reduceMul, Nat.reduceLeDiff, Nat.reduceLT, Int.reduceEq, Int.reduceNe, Int.reduceLT, Int.reduceLE, Int.reduceAdd, Int.reduceSub, Int.reduceMul, Int.reduceNeg, Nat.zero_add, Nat.add_zero, Nat.mul_one, Int.toNat_natCast, Int.natCast_zero, Int.cast_ofNat_Int, or_false, false_or, or_true, true_or, Int.reduceToNat, Nat.sub_zero, Int.natCast_nonneg, Int.toNat_zero, Bool.true_and, Bool.and_true, Bool.false_and, Bool.and_false, Bool.true_or, Bool.or_true, Bool.false_or, Bool.or_false, Bool.not_true, Bool.not_false, Bool.not_not, true_and, and_true, false_and, and_false, not_true_eq_false, not_false_eq_true, eq_self, decide_true, decide_false, ne_eq, implies_true, forall_const, true_implies, false_implies, Bool.true_eq_false, Bool.false_eq_true, reduceCtorEq, List.map_cons, List.map_nil, List.all_cons, List.all_nil, List.length_cons, List.length_nil, List.length_map, List.length_append, List.nil_append, List.cons_append, List.set_cons_zero, List.set_cons_succ, List.set_nil, List.drop_zero, List.drop_succ_cons, List.drop_nil, List.take_zero, List.take_succ_cons, List.take_nil, Option.map_some, Option.map_none, Option.isSome_some, Nat.reduceEqDiff, Nat.reduceBEq, Nat.reduceGT, List.all_append, List.all_map, Function.comp_def, decide_eq_true_eq, Bool.and_eq_true, beq_self_eq_true, or_self, and_self, ite_true, ite_false, Nat.le_refl, Bool.not_eq_true, decide_not, Bool.not_eq_true', decide_eq_false_iff_not, Bool.not_eq_false, Bool.or_eq_true, if_true, if_false, ite_self, la_it, la_len, la_sure, la_ltA, la_lt1, la_all1, la_ro, la_take, la_cl, la_tm, la_r, la_sl, rc_len, rc_sure, rc_ltA, rc_lt1, rc_all1, rc_ro, rc_take, rc_sl, la_set, rc_set, zcL_eq, zcR_eq, la_allA, la_len7, all_tt, natInt, u_nthM, te_it, tc_len, tc_take, tc_cl, tc_tm, tc_set, zcT_eq, rc_b0, rA_def, rL_sl, hN, he, hlt', hkr', b1, b2, b3, b4, w_i64, replies_All_r3_eq, replies_All_r2_eq, replies_All_r1_eq]
            exact step
        · rw [if_neg he] at hG
          injection hG with g1 g2
          subst g1 g2
          generalize noteA cur b[k].cl b[k].tm r[k] = N at hN he
          obtain ⟨N1, N2⟩ := N
          dsimp only at hN he
          cases q with
          | true =>
            obtain rfl := hq rfl
            dsimp only
            rw [replies_All_b1_eq]
            simp (config := {maxSteps := 4000000, implicitDefEqProofs := false}) (disch := omega) only [go_sem, ↓reduceIte, Nat.reduceAdd, Nat.reduceSub, Nat.reduceMul, Nat.reduceLeDiff, Nat.reduceLT, Int.reduceEq, Int.reduceNe, Int.reduceLT, Int.reduceLE, Int.reduceAdd, Int.reduceSub, Int.reduceMul, Int.reduceNeg, Nat.zero_add, Nat.add_zero, Nat.mul_one, Int.toNat_natCast, Int.natCast_zero, Int.cast_ofNat_Int, or_false, false_or, or_true, true_or, Int.reduceToNat, Nat.sub_zero, Int.natCast_nonneg, Int.toNat_zero, Bool.true_and, Bool.and_true, Bool.false_and, Bool.and_false, Bool.true_or, Bool.or_true, Bool.false_or, Bool.or_false, Bool.not_true, Bool.not_false, Bool.not_not, true_and, and_true, false_and, and_false, not_true_eq_false, not_false_eq_true, eq_self, decide_true, decide_false, ne_eq, implies_true, forall_const, true_implies, false_implies, Bool.true_eq_false, Bool.false_eq_true, reduceCtorEq, List.map_cons, List.map_nil, List.all_cons, List.all_nil, List.length_cons, List.length_nil, List.length_map, List.length_append, List.nil_append, List.cons_append, List.set_cons_zero, List.set_cons_succ, List.set_nil, List.drop_zero, List.drop_succ_cons, List.drop_nil, List.take_zero, List.take_succ_cons, List.take_nil, Option.map_some, Option.map_none, Option.isSome_some, Nat.reduceEqDiff, Nat.reduceBEq, Nat.reduceGT, List.all_append, List.all_map, Function.comp_def, decide_eq_true_eq, Bool.and_eq_true, beq_self_eq_true, or_self, and_self, ite_true, ite_false, Nat.le_refl, Bool.not_eq_true, decide_not, Bool.not_eq_true', decide_eq_false_iff_not, Bool.not_eq_false, Bool.or_eq_true, if_true, if_false, ite_self, la_it, la_len, la_sure, la_ltA, la_lt1, la_all1, la_ro, la_take, la_cl, la_tm, la_r, la_sl, rc_len, rc_sure, rc_ltA, rc_lt1, rc_all1, rc_ro, rc_take, rc_sl, la_set, rc_set, zcL_eq, zcR_eq, la_allA, la_len7, all_tt, natInt, u_nthM, te_it, tc_len, tc_take, tc_cl, tc_tm, tc_set, zcT_eq, rc_b0, rA_def, rL_sl, hN, he, hlt', hkr', b1, b2, b3, b4, w_i64, hkx, replies_All_r3_eq, replies_All_r2_eq, replies_All_r1_eq]
          | false =>
            dsimp only
            rw [replies_All_b1_eq]
            simp (config := {maxSteps := 4000000, implicitDefEqProofs := false}) (disch := omega) only [go_sem, ↓reduceIte, Nat.reduceAdd, Nat.reduceSub, Nat.reduceMul, Nat.reduceLeDiff, Nat.reduceLT, Int.reduceEq, Int.reduceNe, Int.reduceLT, Int.reduceLE, Int.reduceAdd, Int.reduceSub, Int.reduceMul, Int.reduceNeg, Nat.zero_add, Nat.add_zero, Nat.mul_one, Int.toNat_natCast, Int.natCast_zero, Int.cast_ofNat_Int, or_false, false_or, or_true, true_or, Int.reduceToNat, Nat.sub_zero, Int.natCast_nonneg, Int.toNat_zero, Bool.true_and, Bool.and_true, Bool.false_and, Bool.and_false, Bool.true_or, Bool.or_true, Bool.false_or, Bool.or_false, Bool.not_true, Bool.not_false, Bool.not_not, true_and, and_true, false_and, and_false, not_true_eq_false, not_false_eq_true, eq_self, decide_true, decide_false, ne_eq, implies_true, forall_const, true_implies, false_implies, Bool.true_eq_false, Bool.false_eq_true, reduceCtorEq, List.map_cons, List.map_nil, List.all_cons, List.all_nil, List.length_cons, List.length_nil, List.length_map, List.length_append, List.nil_append, List.cons_append, List.set_cons_zero, List.set_cons_succ, List.set_nil, List.drop_zero, List.drop_succ_cons, List.drop_nil, List.take_zero, List.take_succ_cons, List.take_nil, Option.map_some, Option.map_none, Option.isSome_some, Nat.reduceEqDiff, Nat.reduceBEq, Nat.reduceGT, List.all_append, List.all_map, Function.comp_def, decide_eq_true_eq, Bool.and_eq_true, beq_self_eq_true, or_self, and_self, ite_true, ite_false, Nat.le_refl, Bool.not_eq_true, decide_not, Bool.not_eq_true', decide_eq_false_iff_not, Bool.not_eq_false, Bool.or_eq_true, if_true, if_false, ite_self, la_it, la_len, la_sure, la_ltA, la_lt1, la_all1, la_ro, la_take, la_cl, la_tm, la_r, la_sl, rc_len, rc_sure, rc_ltA, rc_lt1, rc_all1, rc_ro, rc_take, rc_sl, la_set, rc_set, zcL_eq, zcR_eq, la_allA, la_len7, all_tt, natInt, u_nthM, te_it, tc_len, tc_take, tc_cl, tc_tm, tc_set, zcT_eq, rc_b0, rA_def, rL_sl, hN, he, hlt', hkr', b1, b2, b3, b4, w_i64, hkx, replies_All_r3_eq, replies_All_r2_eq, replies_All_r1_eq]
      · have hlt' : ¬ (k : Int) < (b.length : Int) := by omega
        rw [List.drop_of_length_le (by omega)] at hG
        have hG2 : (cur, (0 : Int)) = (F1, F2) := hG
        injection hG2 with g1 g2
        subst g1 g2
        cases q with
        | true =>
          obtain rfl := hq rfl
          dsimp only
          rw [replies_All_b1_eq]
          simp (config := {maxSteps := 4000000, implicitDefEqProofs := false}) (disch := omega) only [go_sem, ↓reduceIte, Nat.reduceAdd, Nat.reduceSub, Nat.reduceMul, Nat.reduceLeDiff, Nat.reduceLT, Int.reduceEq, Int.reduceNe, Int.reduceLT, Int.reduceLE, Int.reduceAdd, Int.reduceSub, Int.reduceMul, Int.reduceNeg, Nat.zero_add, Nat.add_zero, Nat.mul_one, Int.toNat_natCast, Int.natCast_zero, Int.cast_ofNat_Int, or_false, false_or, or_true, true_or, Int.reduceToNat, Nat.sub_zero, Int.natCast_nonneg, Int.toNat_zero, Bool.true_and, Bool.and_true, Bool.false_and, Bool.and_false, Bool.true_or, Bool.or_true, Bool.false_or, Bool.or_false, Bool.not_true, Bool.not_false, Bool.not_not, true_and, and_true, false_and, and_false, not_true_eq_false, not_false_eq_true, eq_self, decide_true, decide_false, ne_eq, implies_true, forall_const, true_implies, false_implies, Bool.true_eq_false, Bool.false_eq_true, reduceCtorEq, List.map_cons, List.map_nil, List.all_cons, List.all_nil, List.length_cons, List.length_nil, List.length_map, List.length_append, List.nil_append, List.cons_append, List.set_cons_zero, List.set_cons_succ, List.set_nil, List.drop_zero, List.drop_succ_cons, List.drop_nil, List.take_zero, List.take_succ_cons, List.take_nil, Option.map_some, Option.map_none, Option.isSome_some, Nat.reduceEqDiff, Nat.reduceBEq, Nat.reduceGT, List.all_append, List.all_map, Function.comp_def, decide_eq_true_eq, Bool.and_eq_true, beq_self_eq_true, or_self, and_self, ite_true, ite_false, Nat.le_refl, Bool.not_eq_true, decide_not, Bool.not_eq_true', decide_eq_false_iff_not, Bool.not_eq_false, Bool.or_eq_true, if_true, if_false, ite_self, la_it, la_len, la_sure, la_ltA, la_lt1, la_all1, la_ro, la_take, la_cl, la_tm, la_r, la_sl, rc_len, rc_sure, rc_ltA, rc_lt1, rc_all1, rc_ro, rc_take, rc_sl, la_set, rc_set, zcL_eq, zcR_eq, la_allA, la_len7, all_tt, natInt, u_nthM, hkx, hlt', replies_All_r3_eq, replies_All_r2_eq, replies_All_r1_eq]
        | false =>
          dsimp only
          rw [replies_All_b1_eq]
          simp (config := {maxSteps := 4000000, implicitDefEqProofs := false}) (disch := omega) only [go_sem, ↓reduceIte, Nat.reduceAdd, Nat.reduceSub, Nat.reduceMul, Nat.reduceLeDiff, Nat.reduceLT, Int.reduceEq, Int.reduceNe, Int.reduceLT, Int.reduceLE, Int.reduceAdd, Int.reduceSub, Int.reduceMul, Int.reduceNeg, Nat.zero_add, Nat.add_zero, Nat.mul_one, Int.toNat_natCast, Int.natCast_zero, Int.cast_ofNat_Int, or_false, false_or, or_true, true_or, Int.reduceToNat, Nat.sub_zero, Int.natCast_nonneg, Int.toNat_zero, Bool.true_and, Bool.and_true, Bool.false_and, Bool.and_false, Bool.true_or, Bool.or_true, Bool.false_or, Bool.or_false, Bool.not_true, Bool.not_false, Bool.not_not, true_and, and_true, false_and, and_false, not_true_eq_false, not_false_eq_true, eq_self, decide_true, decide_false, ne_eq, implies_true, forall_const, true_implies, false_implies, Bool.true_eq_false, Bool.false_eq_true, reduceCtorEq, List.map_cons, List.map_nil, List.all_cons, List.all_nil, List.length_cons, List.length_nil, List.length_map, List.length_append, List.nil_append, List.cons_append, List.set_cons_zero, List.set_cons_succ, List.set_nil, List.drop_zero, List.drop_succ_cons, List.drop_nil, List.take_zero, List.take_succ_cons, List.take_nil, Option.map_some, Option.map_none, Option.isSome_some, Nat.reduceEqDiff, Nat.reduceBEq, Nat.reduceGT, List.all_append, List.all_map, Function.comp_def, decide_eq_true_eq, Bool.and_eq_true, beq_self_eq_true, or_self, and_self, ite_true, ite_false, Nat.le_refl, Bool.not_eq_true, decide_not, Bool.not_eq_true', decide_eq_false_iff_not, Bool.not_eq_false, Bool.or_eq_true, if_true, if_false, ite_self, la_it, la_len, la_sure, la_ltA, la_lt1, la_all1, la_ro, la_take, la_cl, la_tm, la_r, la_sl, rc_len, rc_sure, rc_ltA, rc_lt1, rc_all1, rc_ro, rc_take, rc_sl, la_set, rc_set, zcL_eq, zcR_eq, la_allA, la_len7, all_tt, natInt, u_nthM, hkx, hlt', replies_All_r3_eq, replies_All_r2_eq, replies_All_r1_eq]
    · rw [if_neg (fun q => hlr q.2), lL_def]
      have hlr' : ((b.length : Int) = (r.length : Int)) = False := by simp; omega
      simp (config := {maxSteps := 4000000, implicitDefEqProofs := false}) (disch := omega) only [go_sem, ↓reduceIte, Nat.reduceAdd, Nat.reduceSub, Nat.reduceMul, Nat.reduceLeDiff, Nat.reduceLT, Int.reduceEq, Int.reduceNe, Int.reduceLT, Int.reduceLE, Int.reduceAdd, Int.reduceSub, Int.reduceMul, Int.reduceNeg, Nat.zero_add, Nat.add_zero, Nat.mul_one, Int.toNat_natCast, Int.natCast_zero, Int.cast_ofNat_Int, or_false, false_or, or_true, true_or, Int.reduceToNat, Nat.sub_zero, Int.natCast_nonneg, Int.toNat_zero, Bool.true_and, Bool.and_true, Bool.false_and, Bool.and_false, Bool.true_or, Bool.or_true, Bool.false_or, Bool.or_false, Bool.not_true, Bool.not_false, Bool.not_not, true_and, and_true, false_and, and_false, not_true_eq_false, not_false_eq_true, eq_self, decide_true, decide_false, ne_eq, implies_true, forall_const, true_implies, false_implies, Bool.true_eq_false, Bool.false_eq_true, reduceCtorEq, List.map_cons, List.map_nil, List.all_cons, List.all_nil, List.length_cons, List.length_nil, List.length_map, List.length_append, List.nil_append, List.cons_append, List.set_cons_zero, List.set_cons_succ, List.set_nil, List.drop_zero, List.drop_succ_cons, List.drop_nil, List.take_zero, List.take_succ_cons, List.take_nil, Option.map_some, Option.map_none, Option.isSome_some, Nat.reduceEqDiff, Nat.reduceBEq, Nat.reduceGT, List.all_append, List.all_map, Function.comp_def, decide_eq_true_eq, Bool.and_eq_true, beq_self_eq_true, or_self, and_self, ite_true, ite_false, Nat.le_refl, Bool.not_eq_true, decide_not, Bool.not_eq_true', decide_eq_false_iff_not, Bool.not_eq_false, Bool.or_eq_true, if_true, if_false, ite_self, la_it, la_len, la_sure, la_ltA, la_lt1, la_all1, la_ro, la_take, la_cl, la_tm, la_r, la_sl, rc_len, rc_sure, rc_ltA, rc_lt1, rc_all1, rc_ro, rc_take, rc_sl, la_set, rc_set, zcL_eq, zcR_eq, la_allA, la_len7, all_tt, natInt, u_nthM, hI, hlr', replies_All_r3_eq, replies_All_r2_eq, replies_All_r1_eq]
end Go.Proofs.Ytchncgdjefbmfaa
