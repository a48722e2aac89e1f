/-
  Texts laid together, part 5 of 5: laws of a walk over data, contracts of functions, each whole by itself.
-/
import Derived.Test.YtchncgdjefbmfaaMgd
import Derived.KernelRfl
import Derived.Test.YtchncgdjefbmfaaMgc
namespace Go.Proofs.Ytchncgdjefbmfaa
open Go.RowKit
set_option linter.unusedVariables false
set_option linter.unusedSimpArgs false
set_option maxRecDepth 20000
def putL (l : List La) (p : Nat) (x : La) (b : Bool) : List La := match b with | true => l.set p x | false => l.take p ++ x :: l.drop p
def noteA (l : List La) (c t : Int) (r : Rs) : List La × Int := if (askA l c t).2 = 6 then (if rB r = true then (putL l (fndN l c) ⟨c, t, r⟩ (thereB l c), 0) else ([], 1)) else if (askA l c t).2 = 1 then ([], 1) else if rB r = true then ([], 18) else ([], 1)
theorem old_s (m : Nat) (r : Rs) (h : r.In) : replies_old m (rA r) = some (nA (if rB r = true then 18 else 1), []) := by
  have hE := enc_s m r h
  have hen := encR_len r
  rw [replies_old_eq, rA_def]
  cases hr : rB r with
  | false =>
    rw [hr] at hen
    have hen' : (encRes r.code r.kind r.i r.s r.ver).length = 0 := by rw [hen]
    simp (config := {maxSteps := 4000000, implicitDefEqProofs := false}) (disch := omega) only [go_sem, ↓reduceIte, Nat.reduceAdd, Nat.reduceSub, Nat.reduceMul, Nat.reduceLeDiff, Nat.reduceLT, Int.reduceEq, Int.reduceNe, Int.reduceLT, Int.reduceLE, Int.reduceAdd, Int.reduceSub, Int.reduceMul, Int.reduceNeg, Nat.zero_add, Nat.add_zero, Nat.mul_one, Int.toNat_natCast, Int.natCast_zero, Int.cast_ofNat_Int, or_false, false_or, or_true, true_or, Int.reduceToNat, Nat.sub_zero, Int.natCast_nonneg, Int.toNat_zero, Bool.true_and, Bool.and_true, Bool.false_and, Bool.and_false, Bool.true_or, Bool.or_true, Bool.false_or, Bool.or_false, Bool.not_true, Bool.not_false, Bool.not_not, true_and, and_true, false_and, and_false, not_true_eq_false, not_false_eq_true, eq_self, decide_true, decide_false, ne_eq, implies_true, forall_const, true_implies, false_implies, Bool.true_eq_false, Bool.false_eq_true, reduceCtorEq, List.map_cons, List.map_nil, List.all_cons, List.all_nil, List.length_cons, List.length_nil, List.length_map, List.length_append, List.nil_append, List.cons_append, List.set_cons_zero, List.set_cons_succ, List.set_nil, List.drop_zero, List.drop_succ_cons, List.drop_nil, List.take_zero, List.take_succ_cons, List.take_nil, Option.map_some, Option.map_none, Option.isSome_some, Nat.reduceEqDiff, Nat.reduceBEq, Nat.reduceGT, List.all_append, List.all_map, Function.comp_def, decide_eq_true_eq, Bool.and_eq_true, beq_self_eq_true, or_self, and_self, ite_true, ite_false, Nat.le_refl, Bool.not_eq_true, decide_not, Bool.not_eq_true', decide_eq_false_iff_not, Bool.not_eq_false, Bool.or_eq_true, if_true, if_false, ite_self, la_it, la_len, la_sure, la_ltA, la_lt1, la_all1, la_ro, la_take, la_cl, la_tm, la_r, la_sl, rc_len, rc_sure, rc_ltA, rc_lt1, rc_all1, rc_ro, rc_take, rc_sl, la_set, rc_set, zcL_eq, zcR_eq, la_allA, la_len7, all_tt, natInt, u_nthM, hE, hen']
  | true =>
    rw [hr] at hen
    have hen' : ¬ ((encRes r.code r.kind r.i r.s r.ver).length : Int) = 0 := by
      intro q
      have q : (encRes r.code r.kind r.i r.s r.ver).length = 0 := by omega
      rw [hen] at q; cases q
    simp (config := {maxSteps := 4000000, implicitDefEqProofs := false}) (disch := omega) only [go_sem, ↓reduceIte, Nat.reduceAdd, Nat.reduceSub, Nat.reduceMul, Nat.reduceLeDiff, Nat.reduceLT, Int.reduceEq, Int.reduceNe, Int.reduceLT, Int.reduceLE, Int.reduceAdd, Int.reduceSub, Int.reduceMul, Int.reduceNeg, Nat.zero_add, Nat.add_zero, Nat.mul_one, Int.toNat_natCast, Int.natCast_zero, Int.cast_ofNat_Int, or_false, false_or, or_true, true_or, Int.reduceToNat, Nat.sub_zero, Int.natCast_nonneg, Int.toNat_zero, Bool.true_and, Bool.and_true, Bool.false_and, Bool.and_false, Bool.true_or, Bool.or_true, Bool.false_or, Bool.or_false, Bool.not_true, Bool.not_false, Bool.not_not, true_and, and_true, false_and, and_false, not_true_eq_false, not_false_eq_true, eq_self, decide_true, decide_false, ne_eq, implies_true, forall_const, true_implies, false_implies, Bool.true_eq_false, Bool.false_eq_true, reduceCtorEq, List.map_cons, List.map_nil, List.all_cons, List.all_nil, List.length_cons, List.length_nil, List.length_map, List.length_append, List.nil_append, List.cons_append, List.set_cons_zero, List.set_cons_succ, List.set_nil, List.drop_zero, List.drop_succ_cons, List.drop_nil, List.take_zero, List.take_succ_cons, List.take_nil, Option.map_some, Option.map_none, Option.isSome_some, Nat.reduceEqDiff, Nat.reduceBEq, Nat.reduceGT, List.all_append, List.all_map, Function.comp_def, decide_eq_true_eq, Bool.and_eq_true, beq_self_eq_true, or_self, and_self, ite_true, ite_false, Nat.le_refl, Bool.not_eq_true, decide_not, Bool.not_eq_true', decide_eq_false_iff_not, Bool.not_eq_false, Bool.or_eq_true, if_true, if_false, ite_self, la_it, la_len, la_sure, la_ltA, la_lt1, la_all1, la_ro, la_take, la_cl, la_tm, la_r, la_sl, rc_len, rc_sure, rc_ltA, rc_lt1, rc_all1, rc_ro, rc_take, rc_sl, la_set, rc_set, zcL_eq, zcR_eq, la_allA, la_len7, all_tt, natInt, u_nthM, hE, hen']
theorem fz_two {H : List AObj} {i n : Nat} {e : TypeId} {z : Nat} {es : List AV} {k : Int} (h : H[i]? = some ⟨4, e, z, es⟩) (hn : n = es.length) (hl : es.all (ltA 0) = true) : fzV H (TU [PR i n, nA k]) = TU [SL es, nA k] := by
  subst hn
  simp [fzV, fzA, fz1, fzO, h, hl]
theorem lt_PR {i n : Nat} : ltA 0 (PR i n) = false := _root_.id rfl
theorem all_laE {l : List La} {n : Nat} : (l.map laE).all (ltA n) = true := by rw [List.all_map]; exact List.all_eq_true.2 fun _ _ => rfl
theorem allC_laE {l : List La} : allCE 7 (l.map laE) = true := by unfold allCE; rw [List.all_map]; exact la_len7
theorem note_s (m : Nat) (l : List La) (c t : Int) (r : Rs) (hm : 300 < m) (hlm : l.length < m) (hl : l.length ≤ 34359738367) (h : ∀ x ∈ l, x.r.In) (hr : r.In) : replies_Note m (lL l) (nA c) (nA t) (rA r) = some (TU [lL (noteA l c t r).1, nA (noteA l c t r).2], []) := by
  have hA := ask_s m l c t hm hlm hl h
  have hO := old_s m r hr
  have hE := enc_s m r hr
  have hen := encR_len r
  rw [lL_def, rA_def] at hA
  rw [rA_def] at hO
  rw [replies_Note_eq, lL_def, rA_def]
  unfold noteA
  have hAA : (askA l c t).2 = 6 → isL l = true := fun e => by
    unfold askA at e
    split at e
    · rename_i q; exact q.1
    · simp at e
  generalize askA l c t = A at hA hAA ⊢
  obtain ⟨q, e⟩ := A
  dsimp only at hA hAA ⊢
  by_cases he : e = 6
  · cases hb : rB r with
    | false =>
      rw [hb] at hen
      have hen' : (encRes r.code r.kind r.i r.s r.ver).length = 0 := by rw [hen]
      rw [lL_def]
      simp (config := {maxSteps := 4000000, implicitDefEqProofs := false}) (disch := omega) only [go_sem, ↓reduceIte, Nat.reduceAdd, Nat.reduceSub, Nat.reduceMul, Nat.reduceLeDiff, Nat.reduceLT, Int.reduceEq, Int.reduceNe, Int.reduceLT, Int.reduceLE, Int.reduceAdd, Int.reduceSub, Int.reduceMul, Int.reduceNeg, Nat.zero_add, Nat.add_zero, Nat.mul_one, Int.toNat_natCast, Int.natCast_zero, Int.cast_ofNat_Int, or_false, false_or, or_true, true_or, Int.reduceToNat, Nat.sub_zero, Int.natCast_nonneg, Int.toNat_zero, Bool.true_and, Bool.and_true, Bool.false_and, Bool.and_false, Bool.true_or, Bool.or_true, Bool.false_or, Bool.or_false, Bool.not_true, Bool.not_false, Bool.not_not, true_and, and_true, false_and, and_false, not_true_eq_false, not_false_eq_true, eq_self, decide_true, decide_false, ne_eq, implies_true, forall_const, true_implies, false_implies, Bool.true_eq_false, Bool.false_eq_true, reduceCtorEq, List.map_cons, List.map_nil, List.all_cons, List.all_nil, List.length_cons, List.length_nil, List.length_map, List.length_append, List.nil_append, List.cons_append, List.set_cons_zero, List.set_cons_succ, List.set_nil, List.drop_zero, List.drop_succ_cons, List.drop_nil, List.take_zero, List.take_succ_cons, List.take_nil, Option.map_some, Option.map_none, Option.isSome_some, Nat.reduceEqDiff, Nat.reduceBEq, Nat.reduceGT, List.all_append, List.all_map, Function.comp_def, decide_eq_true_eq, Bool.and_eq_true, beq_self_eq_true, or_self, and_self, ite_true, ite_false, Nat.le_refl, Bool.not_eq_true, decide_not, Bool.not_eq_true', decide_eq_false_iff_not, Bool.not_eq_false, Bool.or_eq_true, if_true, if_false, ite_self, la_it, la_len, la_sure, la_ltA, la_lt1, la_all1, la_ro, la_take, la_cl, la_tm, la_r, la_sl, rc_len, rc_sure, rc_ltA, rc_lt1, rc_all1, rc_ro, rc_take, rc_sl, la_set, rc_set, zcL_eq, zcR_eq, la_allA, la_len7, all_tt, natInt, u_nthM, hA, he, hE, hen']
    | true =>
      rw [hb] at hen
      have hen' : ¬ ((encRes r.code r.kind r.i r.s r.ver).length : Int) = 0 := by
        intro q
        have q : (encRes r.code r.kind r.i r.s r.ver).length = 0 := by omega
        rw [hen] at q; cases q
      have hi := hAA he
      have h8 := isL_len hi
      have hF := find_s m l c hm h8 (isL_inc hi)
      have hfl := fndN_le l c
      rw [lL_def] at hF
      have hth : thereB l c = true → fndN l c < l.length := fun q => by
        unfold thereB at q
        rcases Nat.lt_or_ge (fndN l c) l.length with w | w
        · exact w
        · rw [List.getElem?_eq_none w] at q; cases q
      generalize fndN l c = p at hF hfl hth ⊢
      have hC : ∀ n, slices_Clone_Last_t m [SL (l.map laE)] n = some (PR n (l.map laE).length, [⟨4, ty_api_Last, 7, l.map laE⟩]) := fun n => slices_Clone_Last_e m n (l.map laE) allC_laE (by rw [List.length_map]; omega)
      cases hb2 : thereB l c with
      | true =>
        rw [hb2] at hF
        have hp := hth hb2
        have hp' : (p : Int) < (l.length : Int) := by omega
        rw [lL_def]
        have hm7 : p * 7 % 7 = 0 := Nat.mul_mod_left p 7
        have hd7 : p * 7 / 7 = p := Nat.mul_div_cancel p (by omega)
        have hz : ∀ X Y W, fzV [X, Y, ⟨4, ty_api_Last, 7, (l.map laE).set p (.agg (laC ⟨c, t, r⟩))⟩, W] (TU [PR 2 l.length, nA 0]) = TU [SL ((l.set p ⟨c, t, r⟩).map laE), nA 0] := fun X Y W => by
          have e : (l.map laE).set p (.agg (laC ⟨c, t, r⟩)) = (l.set p ⟨c, t, r⟩).map laE := by rw [List.map_set]; rfl
          rw [e]
          exact fz_two rfl (by simp) all_laE
        simp (config := {maxSteps := 4000000, implicitDefEqProofs := false}) (disch := omega) only [go_sem, ↓reduceIte, Nat.reduceAdd, Nat.reduceSub, Nat.reduceMul, Nat.reduceLeDiff, Nat.reduceLT, Int.reduceEq, Int.reduceNe, Int.reduceLT, Int.reduceLE, Int.reduceAdd, Int.reduceSub, Int.reduceMul, Int.reduceNeg, Nat.zero_add, Nat.add_zero, Nat.mul_one, Int.toNat_natCast, Int.natCast_zero, Int.cast_ofNat_Int, or_false, false_or, or_true, true_or, Int.reduceToNat, Nat.sub_zero, Int.natCast_nonneg, Int.toNat_zero, Bool.true_and, Bool.and_true, Bool.false_and, Bool.and_false, Bool.true_or, Bool.or_true, Bool.false_or, Bool.or_false, Bool.not_true, Bool.not_false, Bool.not_not, true_and, and_true, false_and, and_false, not_true_eq_false, not_false_eq_true, eq_self, decide_true, decide_false, ne_eq, implies_true, forall_const, true_implies, false_implies, Bool.true_eq_false, Bool.false_eq_true, reduceCtorEq, List.map_cons, List.map_nil, List.all_cons, List.all_nil, List.length_cons, List.length_nil, List.length_map, List.length_append, List.nil_append, List.cons_append, List.set_cons_zero, List.set_cons_succ, List.set_nil, List.drop_zero, List.drop_succ_cons, List.drop_nil, List.take_zero, List.take_succ_cons, List.take_nil, Option.map_some, Option.map_none, Option.isSome_some, Nat.reduceEqDiff, Nat.reduceBEq, Nat.reduceGT, List.all_append, List.all_map, Function.comp_def, decide_eq_true_eq, Bool.and_eq_true, beq_self_eq_true, or_self, and_self, ite_true, ite_false, Nat.le_refl, Bool.not_eq_true, decide_not, Bool.not_eq_true', decide_eq_false_iff_not, Bool.not_eq_false, Bool.or_eq_true, if_true, if_false, ite_self, la_it, la_len, la_sure, la_ltA, la_lt1, la_all1, la_ro, la_take, la_cl, la_tm, la_r, la_sl, rc_len, rc_sure, rc_ltA, rc_lt1, rc_all1, rc_ro, rc_take, rc_sl, la_set, rc_set, zcL_eq, zcR_eq, la_allA, la_len7, all_tt, natInt, u_nthM, hA, he, hE, hen', hF, hC, u_addS, la_bL, hp, hp', hm7, hd7, lt_PR, u_tellZ, hz, putL]
      | false =>
        rw [hb2] at hF
        have hIn : ∀ X Y W, slices_Insert_Last_t m [PR 2 l.length, nA (p : Int), SL [.agg (laC ⟨c, t, r⟩)]] [X, Y, ⟨4, ty_api_Last, 7, l.map laE⟩, W] = some (SL ((l.take p ++ ⟨c, t, r⟩ :: l.drop p).map laE), [X, Y, ⟨0, ty_api_Last, 7, []⟩, W]) := fun X Y W => by
          have := slices_Insert_Last_e m (i := 2) (H := [X, Y, ⟨4, ty_api_Last, 7, l.map laE⟩, W]) (x := .agg (laC ⟨c, t, r⟩)) rfl (by rw [List.length_map]; exact hfl) (by rw [List.length_map]; omega) all_laE rfl
          rw [List.length_map] at this
          refine this.trans ?_
          rw [List.map_append, List.map_take, List.map_cons, List.map_drop]
          rfl
        rw [lL_def]
        simp (config := {maxSteps := 4000000, implicitDefEqProofs := false}) (disch := omega) only [go_sem, ↓reduceIte, Nat.reduceAdd, Nat.reduceSub, Nat.reduceMul, Nat.reduceLeDiff, Nat.reduceLT, Int.reduceEq, Int.reduceNe, Int.reduceLT, Int.reduceLE, Int.reduceAdd, Int.reduceSub, Int.reduceMul, Int.reduceNeg, Nat.zero_add, Nat.add_zero, Nat.mul_one, Int.toNat_natCast, Int.natCast_zero, Int.cast_ofNat_Int, or_false, false_or, or_true, true_or, Int.reduceToNat, Nat.sub_zero, Int.natCast_nonneg, Int.toNat_zero, Bool.true_and, Bool.and_true, Bool.false_and, Bool.and_false, Bool.true_or, Bool.or_true, Bool.false_or, Bool.or_false, Bool.not_true, Bool.not_false, Bool.not_not, true_and, and_true, false_and, and_false, not_true_eq_false, not_false_eq_true, eq_self, decide_true, decide_false, ne_eq, implies_true, forall_const, true_implies, false_implies, Bool.true_eq_false, Bool.false_eq_true, reduceCtorEq, List.map_cons, List.map_nil, List.all_cons, List.all_nil, List.length_cons, List.length_nil, List.length_map, List.length_append, List.nil_append, List.cons_append, List.set_cons_zero, List.set_cons_succ, List.set_nil, List.drop_zero, List.drop_succ_cons, List.drop_nil, List.take_zero, List.take_succ_cons, List.take_nil, Option.map_some, Option.map_none, Option.isSome_some, Nat.reduceEqDiff, Nat.reduceBEq, Nat.reduceGT, List.all_append, List.all_map, Function.comp_def, decide_eq_true_eq, Bool.and_eq_true, beq_self_eq_true, or_self, and_self, ite_true, ite_false, Nat.le_refl, Bool.not_eq_true, decide_not, Bool.not_eq_true', decide_eq_false_iff_not, Bool.not_eq_false, Bool.or_eq_true, if_true, if_false, ite_self, la_it, la_len, la_sure, la_ltA, la_lt1, la_all1, la_ro, la_take, la_cl, la_tm, la_r, la_sl, rc_len, rc_sure, rc_ltA, rc_lt1, rc_all1, rc_ro, rc_take, rc_sl, la_set, rc_set, zcL_eq, zcR_eq, la_allA, la_len7, all_tt, natInt, u_nthM, hA, he, hE, hen', hF, hC, u_addS, la_bL, hIn, putL]
  · by_cases h1 : e = 1
    · rw [lL_def]
      simp (config := {maxSteps := 4000000, implicitDefEqProofs := false}) (disch := omega) only [go_sem, ↓reduceIte, Nat.reduceAdd, Nat.reduceSub, Nat.reduceMul, Nat.reduceLeDiff, Nat.reduceLT, Int.reduceEq, Int.reduceNe, Int.reduceLT, Int.reduceLE, Int.reduceAdd, Int.reduceSub, Int.reduceMul, Int.reduceNeg, Nat.zero_add, Nat.add_zero, Nat.mul_one, Int.toNat_natCast, Int.natCast_zero, Int.cast_ofNat_Int, or_false, false_or, or_true, true_or, Int.reduceToNat, Nat.sub_zero, Int.natCast_nonneg, Int.toNat_zero, Bool.true_and, Bool.and_true, Bool.false_and, Bool.and_false, Bool.true_or, Bool.or_true, Bool.false_or, Bool.or_false, Bool.not_true, Bool.not_false, Bool.not_not, true_and, and_true, false_and, and_false, not_true_eq_false, not_false_eq_true, eq_self, decide_true, decide_false, ne_eq, implies_true, forall_const, true_implies, false_implies, Bool.true_eq_false, Bool.false_eq_true, reduceCtorEq, List.map_cons, List.map_nil, List.all_cons, List.all_nil, List.length_cons, List.length_nil, List.length_map, List.length_append, List.nil_append, List.cons_append, List.set_cons_zero, List.set_cons_succ, List.set_nil, List.drop_zero, List.drop_succ_cons, List.drop_nil, List.take_zero, List.take_succ_cons, List.take_nil, Option.map_some, Option.map_none, Option.isSome_some, Nat.reduceEqDiff, Nat.reduceBEq, Nat.reduceGT, List.all_append, List.all_map, Function.comp_def, decide_eq_true_eq, Bool.and_eq_true, beq_self_eq_true, or_self, and_self, ite_true, ite_false, Nat.le_refl, Bool.not_eq_true, decide_not, Bool.not_eq_true', decide_eq_false_iff_not, Bool.not_eq_false, Bool.or_eq_true, if_true, if_false, ite_self, la_it, la_len, la_sure, la_ltA, la_lt1, la_all1, la_ro, la_take, la_cl, la_tm, la_r, la_sl, rc_len, rc_sure, rc_ltA, rc_lt1, rc_all1, rc_ro, rc_take, rc_sl, la_set, rc_set, zcL_eq, zcR_eq, la_allA, la_len7, all_tt, natInt, u_nthM, hA, he, h1]
    · rw [lL_def]
      cases hb : rB r with
      | false =>
        rw [hb] at hO
        simp (config := {maxSteps := 4000000, implicitDefEqProofs := false}) (disch := omega) only [go_sem, ↓reduceIte, Nat.reduceAdd, Nat.reduceSub, Nat.reduceMul, Nat.reduceLeDiff, Nat.reduceLT, Int.reduceEq, Int.reduceNe, Int.reduceLT, Int.reduceLE, Int.reduceAdd, Int.reduceSub, Int.reduceMul, Int.reduceNeg, Nat.zero_add, Nat.add_zero, Nat.mul_one, Int.toNat_natCast, Int.natCast_zero, Int.cast_ofNat_Int, or_false, false_or, or_true, true_or, Int.reduceToNat, Nat.sub_zero, Int.natCast_nonneg, Int.toNat_zero, Bool.true_and, Bool.and_true, Bool.false_and, Bool.and_false, Bool.true_or, Bool.or_true, Bool.false_or, Bool.or_false, Bool.not_true, Bool.not_false, Bool.not_not, true_and, and_true, false_and, and_false, not_true_eq_false, not_false_eq_true, eq_self, decide_true, decide_false, ne_eq, implies_true, forall_const, true_implies, false_implies, Bool.true_eq_false, Bool.false_eq_true, reduceCtorEq, List.map_cons, List.map_nil, List.all_cons, List.all_nil, List.length_cons, List.length_nil, List.length_map, List.length_append, List.nil_append, List.cons_append, List.set_cons_zero, List.set_cons_succ, List.set_nil, List.drop_zero, List.drop_succ_cons, List.drop_nil, List.take_zero, List.take_succ_cons, List.take_nil, Option.map_some, Option.map_none, Option.isSome_some, Nat.reduceEqDiff, Nat.reduceBEq, Nat.reduceGT, List.all_append, List.all_map, Function.comp_def, decide_eq_true_eq, Bool.and_eq_true, beq_self_eq_true, or_self, and_self, ite_true, ite_false, Nat.le_refl, Bool.not_eq_true, decide_not, Bool.not_eq_true', decide_eq_false_iff_not, Bool.not_eq_false, Bool.or_eq_true, if_true, if_false, ite_self, la_it, la_len, la_sure, la_ltA, la_lt1, la_all1, la_ro, la_take, la_cl, la_tm, la_r, la_sl, rc_len, rc_sure, rc_ltA, rc_lt1, rc_all1, rc_ro, rc_take, rc_sl, la_set, rc_set, zcL_eq, zcR_eq, la_allA, la_len7, all_tt, natInt, u_nthM, hA, he, h1, hO]
      | true =>
        rw [hb] at hO
        simp (config := {maxSteps := 4000000, implicitDefEqProofs := false}) (disch := omega) only [go_sem, ↓reduceIte, Nat.reduceAdd, Nat.reduceSub, Nat.reduceMul, Nat.reduceLeDiff, Nat.reduceLT, Int.reduceEq, Int.reduceNe, Int.reduceLT, Int.reduceLE, Int.reduceAdd, Int.reduceSub, Int.reduceMul, Int.reduceNeg, Nat.zero_add, Nat.add_zero, Nat.mul_one, Int.toNat_natCast, Int.natCast_zero, Int.cast_ofNat_Int, or_false, false_or, or_true, true_or, Int.reduceToNat, Nat.sub_zero, Int.natCast_nonneg, Int.toNat_zero, Bool.true_and, Bool.and_true, Bool.false_and, Bool.and_false, Bool.true_or, Bool.or_true, Bool.false_or, Bool.or_false, Bool.not_true, Bool.not_false, Bool.not_not, true_and, and_true, false_and, and_false, not_true_eq_false, not_false_eq_true, eq_self, decide_true, decide_false, ne_eq, implies_true, forall_const, true_implies, false_implies, Bool.true_eq_false, Bool.false_eq_true, reduceCtorEq, List.map_cons, List.map_nil, List.all_cons, List.all_nil, List.length_cons, List.length_nil, List.length_map, List.length_append, List.nil_append, List.cons_append, List.set_cons_zero, List.set_cons_succ, List.set_nil, List.drop_zero, List.drop_succ_cons, List.drop_nil, List.take_zero, List.take_succ_cons, List.take_nil, Option.map_some, Option.map_none, Option.isSome_some, Nat.reduceEqDiff, Nat.reduceBEq, Nat.reduceGT, List.all_append, List.all_map, Function.comp_def, decide_eq_true_eq, Bool.and_eq_true, beq_self_eq_true, or_self, and_self, ite_true, ite_false, Nat.le_refl, Bool.not_eq_true, decide_not, Bool.not_eq_true', decide_eq_false_iff_not, Bool.not_eq_false, Bool.or_eq_true, if_true, if_false, ite_self, la_it, la_len, la_sure, la_ltA, la_lt1, la_all1, la_ro, la_take, la_cl, la_tm, la_r, la_sl, rc_len, rc_sure, rc_ltA, rc_lt1, rc_all1, rc_ro, rc_take, rc_sl, la_set, rc_set, zcL_eq, zcR_eq, la_allA, la_len7, all_tt, natInt, u_nthM, hA, he, h1, hO]
end Go.Proofs.Ytchncgdjefbmfaa

namespace Go.Proofs.Ytchncgdjefbmfaa
open Go.RowKit
set_option linter.unusedVariables false
set_option linter.unusedSimpArgs false
set_option maxRecDepth 20000
def loL (l : List La) (c : Int) : List La := l.filter fun x => decide (x.cl < c)
def hiL (l : List La) (c : Int) : List La := l.filter fun x => decide (c < x.cl)
theorem filter_all' {α : Type} {l : List α} {p : α → Bool} (h : ∀ x ∈ l, p x = true) : l.filter p = l := List.filter_eq_self.2 h
theorem filter_none' {α : Type} {l : List α} {p : α → Bool} (h : ∀ x ∈ l, p x = false) : l.filter p = [] := by
  rw [List.filter_eq_nil_iff]
  intro x hx
  rw [h x hx]; simp
theorem putL_eq {l : List La} (hi : isL l = true) (c : Int) (x : La) : putL l (fndN l c) x (thereB l c) = loL l c ++ x :: hiL l c := by
  have hinc := isL_inc hi
  have hfl := fndN_le l c
  have h1 : ∀ y ∈ l.take (fndN l c), y.cl < c := by
    intro y hy
    obtain ⟨i, hi, rfl⟩ := List.getElem_of_mem hy
    rw [List.length_take] at hi
    rw [List.getElem_take]
    exact fnd_lo (by omega) (by omega)
  have h2 : ∀ y ∈ l.drop (fndN l c), c ≤ y.cl := by
    intro y hy
    obtain ⟨i, hi, rfl⟩ := List.getElem_of_mem hy
    rw [List.length_drop] at hi
    rw [List.getElem_drop]
    have h3 := fnd_hi (l := l) (q := c) (by omega)
    rcases Nat.eq_zero_or_pos i with e | e
    · subst e; exact h3
    · have := hinc (fndN l c) (fndN l c + i) (by omega) (by omega); omega
  have hlo : loL l c = l.take (fndN l c) := by
    unfold loL
    conv => lhs; rw [← List.take_append_drop (fndN l c) l, List.filter_append]
    rw [filter_all' (fun y hy => by simpa using h1 y hy), filter_none' (fun y hy => by have := h2 y hy; simp; omega), List.append_nil]
  have hhi : hiL l c = hiL (l.drop (fndN l c)) c := by
    unfold hiL
    conv => lhs; rw [← List.take_append_drop (fndN l c) l, List.filter_append]
    rw [filter_none' (l := l.take (fndN l c)) (fun y hy => by have := h1 y hy; simp; omega), List.nil_append]
  rw [hlo, hhi]
  unfold thereB
  rcases Nat.lt_or_ge (fndN l c) l.length with hp | hp
  · rw [List.getElem?_eq_getElem hp]
    dsimp only
    by_cases he : l[fndN l c].cl = c
    · rw [decide_eq_true he]
      show l.set (fndN l c) x = _
      rw [List.set_eq_take_append_cons_drop, if_pos hp, List.drop_eq_getElem_cons hp]
      unfold hiL
      rw [List.filter_cons, if_neg (by simp; omega), filter_all']
      intro y hy
      obtain ⟨i, hi, rfl⟩ := List.getElem_of_mem hy
      rw [List.length_drop] at hi
      rw [List.getElem_drop]
      have := hinc (fndN l c) (fndN l c + 1 + i) (by omega) (by omega)
      simp; omega
    · rw [decide_eq_false he]
      show l.take (fndN l c) ++ x :: l.drop (fndN l c) = _
      unfold hiL
      rw [filter_all']
      intro y hy
      obtain ⟨i, hi, rfl⟩ := List.getElem_of_mem hy
      rw [List.length_drop] at hi
      rw [List.getElem_drop]
      have h3 := fnd_hi hp
      rcases Nat.eq_zero_or_pos i with e | e
      · subst e; simp only [Nat.add_zero]; simp; omega
      · have := hinc (fndN l c) (fndN l c + i) (by omega) (by omega)
        simp; omega
  · rw [List.getElem?_eq_none hp]
    show l.take (fndN l c) ++ x :: l.drop (fndN l c) = _
    rw [List.drop_of_length_le hp]
    rfl
theorem rnote_s (m : Nat) (l : List La) (c t : Int) (r : Rs) (hm : 300 < m) (hlm : l.length < m) (hl : l.length ≤ 34359738367) : plenumref26_Note m (lL l) (nA c) (nA t) (rA r) = some (TU [lL (noteA l c t r).1, nA (noteA l c t r).2], []) := by
  have hA := rask_s m l c t hm hlm hl
  have hM := rmay_s m r
  rw [lL_def, rA_def] at hA
  rw [rA_def] at hM
  rw [plenumref26_Note_eq, lL_def, rA_def]
  unfold noteA
  have hAA : (askA l c t).2 = 6 → isL l = true := fun e => by
    unfold askA at e
    split at e
    · rename_i q; exact q.1
    · simp at e
  generalize askA l c t = A at hA hAA ⊢
  obtain ⟨q, e⟩ := A
  dsimp only at hA hAA ⊢
  by_cases h1 : e = 1
  · rw [lL_def]
    simp (config := {maxSteps := 4000000, implicitDefEqProofs := false}) (disch := omega) only [go_sem, ↓reduceIte, Nat.reduceAdd, Nat.reduceSub, Nat.reduceMul, Nat.reduceLeDiff, Nat.reduceLT, Int.reduceEq, Int.reduceNe, Int.reduceLT, Int.reduceLE, Int.reduceAdd, Int.reduceSub, Int.reduceMul, Int.reduceNeg, Nat.zero_add, Nat.add_zero, Nat.mul_one, Int.toNat_natCast, Int.natCast_zero, Int.cast_ofNat_Int, or_false, false_or, or_true, true_or, Int.reduceToNat, Nat.sub_zero, Int.natCast_nonneg, Int.toNat_zero, Bool.true_and, Bool.and_true, Bool.false_and, Bool.and_false, Bool.true_or, Bool.or_true, Bool.false_or, Bool.or_false, Bool.not_true, Bool.not_false, Bool.not_not, true_and, and_true, false_and, and_false, not_true_eq_false, not_false_eq_true, eq_self, decide_true, decide_false, ne_eq, implies_true, forall_const, true_implies, false_implies, Bool.true_eq_false, Bool.false_eq_true, reduceCtorEq, List.map_cons, List.map_nil, List.all_cons, List.all_nil, List.length_cons, List.length_nil, List.length_map, List.length_append, List.nil_append, List.cons_append, List.set_cons_zero, List.set_cons_succ, List.set_nil, List.drop_zero, List.drop_succ_cons, List.drop_nil, List.take_zero, List.take_succ_cons, List.take_nil, Option.map_some, Option.map_none, Option.isSome_some, Nat.reduceEqDiff, Nat.reduceBEq, Nat.reduceGT, List.all_append, List.all_map, Function.comp_def, decide_eq_true_eq, Bool.and_eq_true, beq_self_eq_true, or_self, and_self, ite_true, ite_false, Nat.le_refl, Bool.not_eq_true, decide_not, Bool.not_eq_true', decide_eq_false_iff_not, Bool.not_eq_false, Bool.or_eq_true, if_true, if_false, ite_self, la_it, la_len, la_sure, la_ltA, la_lt1, la_all1, la_ro, la_take, la_cl, la_tm, la_r, la_sl, rc_len, rc_sure, rc_ltA, rc_lt1, rc_all1, rc_ro, rc_take, rc_sl, la_set, rc_set, zcL_eq, zcR_eq, la_allA, la_len7, all_tt, natInt, u_nthM, hA, h1, plenumref26_Note_r1_eq]
  cases hb : rB r with
  | false =>
    rw [hb] at hM
    have hz : (if e = 6 then (if (false = true) then (putL l (fndN l c) ⟨c, t, r⟩ (thereB l c), (0 : Int)) else ([], 1)) else if e = 1 then ([], 1) else if (false = true) then ([], 18) else ([], 1)) = ([], 1) := by simp
    rw [hz, lL_def]
    simp (config := {maxSteps := 4000000, implicitDefEqProofs := false}) (disch := omega) only [go_sem, ↓reduceIte, Nat.reduceAdd, Nat.reduceSub, Nat.reduceMul, Nat.reduceLeDiff, Nat.reduceLT, Int.reduceEq, Int.reduceNe, Int.reduceLT, Int.reduceLE, Int.reduceAdd, Int.reduceSub, Int.reduceMul, Int.reduceNeg, Nat.zero_add, Nat.add_zero, Nat.mul_one, Int.toNat_natCast, Int.natCast_zero, Int.cast_ofNat_Int, or_false, false_or, or_true, true_or, Int.reduceToNat, Nat.sub_zero, Int.natCast_nonneg, Int.toNat_zero, Bool.true_and, Bool.and_true, Bool.false_and, Bool.and_false, Bool.true_or, Bool.or_true, Bool.false_or, Bool.or_false, Bool.not_true, Bool.not_false, Bool.not_not, true_and, and_true, false_and, and_false, not_true_eq_false, not_false_eq_true, eq_self, decide_true, decide_false, ne_eq, implies_true, forall_const, true_implies, false_implies, Bool.true_eq_false, Bool.false_eq_true, reduceCtorEq, List.map_cons, List.map_nil, List.all_cons, List.all_nil, List.length_cons, List.length_nil, List.length_map, List.length_append, List.nil_append, List.cons_append, List.set_cons_zero, List.set_cons_succ, List.set_nil, List.drop_zero, List.drop_succ_cons, List.drop_nil, List.take_zero, List.take_succ_cons, List.take_nil, Option.map_some, Option.map_none, Option.isSome_some, Nat.reduceEqDiff, Nat.reduceBEq, Nat.reduceGT, List.all_append, List.all_map, Function.comp_def, decide_eq_true_eq, Bool.and_eq_true, beq_self_eq_true, or_self, and_self, ite_true, ite_false, Nat.le_refl, Bool.not_eq_true, decide_not, Bool.not_eq_true', decide_eq_false_iff_not, Bool.not_eq_false, Bool.or_eq_true, if_true, if_false, ite_self, la_it, la_len, la_sure, la_ltA, la_lt1, la_all1, la_ro, la_take, la_cl, la_tm, la_r, la_sl, rc_len, rc_sure, rc_ltA, rc_lt1, rc_all1, rc_ro, rc_take, rc_sl, la_set, rc_set, zcL_eq, zcR_eq, la_allA, la_len7, all_tt, natInt, u_nthM, hA, h1, hM, plenumref26_Note_r1_eq]
  | true =>
  rw [hb] at hM
  by_cases he : e = 6
  · have hi := hAA he
    have h8 := isL_len hi
    rw [if_pos he, if_pos rfl, putL_eq hi, lL_def]
    dsimp only
    simp (config := {maxSteps := 4000000, implicitDefEqProofs := false}) (disch := omega) only [go_sem, ↓reduceIte, Nat.reduceAdd, Nat.reduceSub, Nat.reduceMul, Nat.reduceLeDiff, Nat.reduceLT, Int.reduceEq, Int.reduceNe, Int.reduceLT, Int.reduceLE, Int.reduceAdd, Int.reduceSub, Int.reduceMul, Int.reduceNeg, Nat.zero_add, Nat.add_zero, Nat.mul_one, Int.toNat_natCast, Int.natCast_zero, Int.cast_ofNat_Int, or_false, false_or, or_true, true_or, Int.reduceToNat, Nat.sub_zero, Int.natCast_nonneg, Int.toNat_zero, Bool.true_and, Bool.and_true, Bool.false_and, Bool.and_false, Bool.true_or, Bool.or_true, Bool.false_or, Bool.or_false, Bool.not_true, Bool.not_false, Bool.not_not, true_and, and_true, false_and, and_false, not_true_eq_false, not_false_eq_true, eq_self, decide_true, decide_false, ne_eq, implies_true, forall_const, true_implies, false_implies, Bool.true_eq_false, Bool.false_eq_true, reduceCtorEq, List.map_cons, List.map_nil, List.all_cons, List.all_nil, List.length_cons, List.length_nil, List.length_map, List.length_append, List.nil_append, List.cons_append, List.set_cons_zero, List.set_cons_succ, List.set_nil, List.drop_zero, List.drop_succ_cons, List.drop_nil, List.take_zero, List.take_succ_cons, List.take_nil, Option.map_some, Option.map_none, Option.isSome_some, Nat.reduceEqDiff, Nat.reduceBEq, Nat.reduceGT, List.all_append, List.all_map, Function.comp_def, decide_eq_true_eq, Bool.and_eq_true, beq_self_eq_true, or_self, and_self, ite_true, ite_false, Nat.le_refl, Bool.not_eq_true, decide_not, Bool.not_eq_true', decide_eq_false_iff_not, Bool.not_eq_false, Bool.or_eq_true, if_true, if_false, ite_self, la_it, la_len, la_sure, la_ltA, la_lt1, la_all1, la_ro, la_take, la_cl, la_tm, la_r, la_sl, rc_len, rc_sure, rc_ltA, rc_lt1, rc_all1, rc_ro, rc_take, rc_sl, la_set, rc_set, zcL_eq, zcR_eq, la_allA, la_len7, all_tt, natInt, u_nthM, hA, he, hM, plenumref26_Note_r1_eq, plenumref26_Note_r2_eq]
    refine iter_go (ι := {k : Nat // k ≤ l.length}) (fun k => ⟨[⟨1, ty_api_Result, 0, rC r⟩, ⟨1, ty_api_Result, 0, rC q⟩, ⟨2, ty_api_Last, 7, (loL (l.take k.1) c).map laE⟩], [(0, SL (l.map laE)), (1, nA c), (2, nA t), (7, OP 0 0), (12, OW 2 (loL (l.take k.1) c).length), (13, nA k.1)]⟩) (fun k => l.length - k.1) (fun _ => some (TU [SL ((loL l c ++ ⟨c, t, r⟩ :: hiL l c).map laE), nA 0], [])) ?_ ⟨0, Nat.zero_le _⟩ (by dsimp only; omega)
    rintro kx hkx ⟨k, hk⟩ kc hkc
    dsimp only at hkc ⊢
    rw [plenumref26_Note_b1_eq]
    have hlen : (loL (l.take k) c).length ≤ 256 := Nat.le_trans (List.length_filter_le ..) (by rw [List.length_take]; omega)
    have hlen1 : (loL (l.take k) c).length + 1 ≤ 34359738368 := by omega
    by_cases hlt : k < l.length
    · have hlt' : (k : Int) < (l.length : Int) := by omega
      have step := hkc ⟨k + 1, by omega⟩ (by dsimp only; omega)
      dsimp only at step
      rw [List.take_succ_eq_append_getElem hlt] at step
      by_cases hx : l[k].cl < c
      · have e2 : loL (l.take k ++ [l[k]]) c = loL (l.take k) c ++ [l[k]] := by unfold loL; rw [List.filter_append]; simp [hx]
        rw [e2, List.map_append, List.length_append] at step
        simp (config := {maxSteps := 4000000, implicitDefEqProofs := false}) (disch := omega) only [go_sem, ↓reduceIte, Nat.reduceAdd, Nat.reduceSub, Nat.reduceMul, Nat.reduceLeDiff, Nat.reduceLT, Int.reduceEq, Int.reduceNe, Int.reduceLT, Int.reduceLE, Int.reduceAdd, Int.reduceSub, Int.reduceMul, Int.reduceNeg, Nat.zero_add, Nat.add_zero, Nat.mul_one, Int.toNat_natCast, Int.natCast_zero, Int.cast_ofNat_Int, or_false, false_or, or_true, true_or, Int.reduceToNat, Nat.sub_zero, Int.natCast_nonneg, Int.toNat_zero, Bool.true_and, Bool.and_true, Bool.false_and, Bool.and_false, Bool.true_or, Bool.or_true, Bool.false_or, Bool.or_false, Bool.not_true, Bool.not_false, Bool.not_not, true_and, and_true, false_and, and_false, not_true_eq_false, not_false_eq_true, eq_self, decide_true, decide_false, ne_eq, implies_true, forall_const, true_implies, false_implies, Bool.true_eq_false, Bool.false_eq_true, reduceCtorEq, List.map_cons, List.map_nil, List.all_cons, List.all_nil, List.length_cons, List.length_nil, List.length_map, List.length_append, List.nil_append, List.cons_append, List.set_cons_zero, List.set_cons_succ, List.set_nil, List.drop_zero, List.drop_succ_cons, List.drop_nil, List.take_zero, List.take_succ_cons, List.take_nil, Option.map_some, Option.map_none, Option.isSome_some, Nat.reduceEqDiff, Nat.reduceBEq, Nat.reduceGT, List.all_append, List.all_map, Function.comp_def, decide_eq_true_eq, Bool.and_eq_true, beq_self_eq_true, or_self, and_self, ite_true, ite_false, Nat.le_refl, Bool.not_eq_true, decide_not, Bool.not_eq_true', decide_eq_false_iff_not, Bool.not_eq_false, Bool.or_eq_true, if_true, if_false, ite_self, la_it, la_len, la_sure, la_ltA, la_lt1, la_all1, la_ro, la_take, la_cl, la_tm, la_r, la_sl, rc_len, rc_sure, rc_ltA, rc_lt1, rc_all1, rc_ro, rc_take, rc_sl, la_set, rc_set, zcL_eq, zcR_eq, la_allA, la_len7, all_tt, natInt, u_nthM, hlt', hx, w_i64, hlen1, plenumref26_Note_r4_eq]
        exact step
      · have e2 : loL (l.take k ++ [l[k]]) c = loL (l.take k) c := by unfold loL; rw [List.filter_append]; simp [hx]
        rw [e2] at step
        simp (config := {maxSteps := 4000000, implicitDefEqProofs := false}) (disch := omega) only [go_sem, ↓reduceIte, Nat.reduceAdd, Nat.reduceSub, Nat.reduceMul, Nat.reduceLeDiff, Nat.reduceLT, Int.reduceEq, Int.reduceNe, Int.reduceLT, Int.reduceLE, Int.reduceAdd, Int.reduceSub, Int.reduceMul, Int.reduceNeg, Nat.zero_add, Nat.add_zero, Nat.mul_one, Int.toNat_natCast, Int.natCast_zero, Int.cast_ofNat_Int, or_false, false_or, or_true, true_or, Int.reduceToNat, Nat.sub_zero, Int.natCast_nonneg, Int.toNat_zero, Bool.true_and, Bool.and_true, Bool.false_and, Bool.and_false, Bool.true_or, Bool.or_true, Bool.false_or, Bool.or_false, Bool.not_true, Bool.not_false, Bool.not_not, true_and, and_true, false_and, and_false, not_true_eq_false, not_false_eq_true, eq_self, decide_true, decide_false, ne_eq, implies_true, forall_const, true_implies, false_implies, Bool.true_eq_false, Bool.false_eq_true, reduceCtorEq, List.map_cons, List.map_nil, List.all_cons, List.all_nil, List.length_cons, List.length_nil, List.length_map, List.length_append, List.nil_append, List.cons_append, List.set_cons_zero, List.set_cons_succ, List.set_nil, List.drop_zero, List.drop_succ_cons, List.drop_nil, List.take_zero, List.take_succ_cons, List.take_nil, Option.map_some, Option.map_none, Option.isSome_some, Nat.reduceEqDiff, Nat.reduceBEq, Nat.reduceGT, List.all_append, List.all_map, Function.comp_def, decide_eq_true_eq, Bool.and_eq_true, beq_self_eq_true, or_self, and_self, ite_true, ite_false, Nat.le_refl, Bool.not_eq_true, decide_not, Bool.not_eq_true', decide_eq_false_iff_not, Bool.not_eq_false, Bool.or_eq_true, if_true, if_false, ite_self, la_it, la_len, la_sure, la_ltA, la_lt1, la_all1, la_ro, la_take, la_cl, la_tm, la_r, la_sl, rc_len, rc_sure, rc_ltA, rc_lt1, rc_all1, rc_ro, rc_take, rc_sl, la_set, rc_set, zcL_eq, zcR_eq, la_allA, la_len7, all_tt, natInt, u_nthM, hlt', hx, w_i64, plenumref26_Note_r4_eq]
        exact step
    · have hlt' : ¬ (k : Int) < (l.length : Int) := by omega
      have : k = l.length := by omega
      subst this
      rw [List.take_length] at hlen hlen1 ⊢
      simp (config := {maxSteps := 4000000, implicitDefEqProofs := false}) (disch := omega) only [go_sem, ↓reduceIte, Nat.reduceAdd, Nat.reduceSub, Nat.reduceMul, Nat.reduceLeDiff, Nat.reduceLT, Int.reduceEq, Int.reduceNe, Int.reduceLT, Int.reduceLE, Int.reduceAdd, Int.reduceSub, Int.reduceMul, Int.reduceNeg, Nat.zero_add, Nat.add_zero, Nat.mul_one, Int.toNat_natCast, Int.natCast_zero, Int.cast_ofNat_Int, or_false, false_or, or_true, true_or, Int.reduceToNat, Nat.sub_zero, Int.natCast_nonneg, Int.toNat_zero, Bool.true_and, Bool.and_true, Bool.false_and, Bool.and_false, Bool.true_or, Bool.or_true, Bool.false_or, Bool.or_false, Bool.not_true, Bool.not_false, Bool.not_not, true_and, and_true, false_and, and_false, not_true_eq_false, not_false_eq_true, eq_self, decide_true, decide_false, ne_eq, implies_true, forall_const, true_implies, false_implies, Bool.true_eq_false, Bool.false_eq_true, reduceCtorEq, List.map_cons, List.map_nil, List.all_cons, List.all_nil, List.length_cons, List.length_nil, List.length_map, List.length_append, List.nil_append, List.cons_append, List.set_cons_zero, List.set_cons_succ, List.set_nil, List.drop_zero, List.drop_succ_cons, List.drop_nil, List.take_zero, List.take_succ_cons, List.take_nil, Option.map_some, Option.map_none, Option.isSome_some, Nat.reduceEqDiff, Nat.reduceBEq, Nat.reduceGT, List.all_append, List.all_map, Function.comp_def, decide_eq_true_eq, Bool.and_eq_true, beq_self_eq_true, or_self, and_self, ite_true, ite_false, Nat.le_refl, Bool.not_eq_true, decide_not, Bool.not_eq_true', decide_eq_false_iff_not, Bool.not_eq_false, Bool.or_eq_true, if_true, if_false, ite_self, la_it, la_len, la_sure, la_ltA, la_lt1, la_all1, la_ro, la_take, la_cl, la_tm, la_r, la_sl, rc_len, rc_sure, rc_ltA, rc_lt1, rc_all1, rc_ro, rc_take, rc_sl, la_set, rc_set, zcL_eq, zcR_eq, la_allA, la_len7, all_tt, natInt, u_nthM, hkx, hlt', la_bL, hlen1, plenumref26_Note_r3_eq]
      have e0 : (List.map laE (loL l c) ++ [DataW.agg (laC ⟨c, t, r⟩)] : List AV) = (loL l c ++ ⟨c, t, r⟩ :: hiL (l.take 0) c).map laE := by rw [List.map_append, List.take_zero]; rfl
      have e1 : (loL l c).length + 1 = (loL l c ++ (⟨c, t, r⟩ : La) :: hiL (l.take 0) c).length := by rw [List.take_zero, List.length_append]; rfl
      rw [e0, e1]
      refine iter_go (ι := {k : Nat // k ≤ l.length}) (fun k => ⟨[⟨1, ty_api_Result, 0, rC r⟩, ⟨1, ty_api_Result, 0, rC q⟩, ⟨2, ty_api_Last, 7, (loL l c ++ ⟨c, t, r⟩ :: hiL (l.take k.1) c).map laE⟩], [(0, SL (l.map laE)), (1, nA c), (12, OW 2 (loL l c ++ (⟨c, t, r⟩ : La) :: hiL (l.take k.1) c).length), (14, nA k.1)]⟩) (fun k => l.length - k.1) (fun _ => some (TU [SL ((loL l c ++ ⟨c, t, r⟩ :: hiL l c).map laE), nA 0], [])) ?_ ⟨0, Nat.zero_le _⟩ (by dsimp only; omega)
      clear e0 e1
      rintro kx hkx ⟨k, hk⟩ kc hkc
      dsimp only at hkc ⊢
      rw [plenumref26_Note_b2_eq]
      have hlen2 : (hiL (l.take k) c).length ≤ 256 := Nat.le_trans (List.length_filter_le ..) (by rw [List.length_take]; omega)
      have hlen3 : (loL l c ++ (⟨c, t, r⟩ : La) :: hiL (l.take k) c).length + 1 ≤ 34359738368 := by rw [List.length_append, List.length_cons]; omega
      generalize hG : loL l c ++ (⟨c, t, r⟩ : La) :: hiL (l.take k) c = g at hlen3 ⊢
      by_cases hlt : k < l.length
      · have hlt' : (k : Int) < (l.length : Int) := by omega
        have step := hkc ⟨k + 1, by omega⟩ (by dsimp only; omega)
        dsimp only at step
        rw [List.take_succ_eq_append_getElem hlt] at step
        by_cases hx : c < l[k].cl
        · have e2 : loL l c ++ (⟨c, t, r⟩ : La) :: hiL (l.take k ++ [l[k]]) c = g ++ [l[k]] := by rw [← hG]; unfold hiL; rw [List.filter_append]; simp [hx]
          rw [e2, List.map_append, List.length_append] at step
          simp (config := {maxSteps := 4000000, implicitDefEqProofs := false}) (disch := omega) only [go_sem, ↓reduceIte, Nat.reduceAdd, Nat.reduceSub, Nat.reduceMul, Nat.reduceLeDiff, Nat.reduceLT, Int.reduceEq, Int.reduceNe, Int.reduceLT, Int.reduceLE, Int.reduceAdd, Int.reduceSub, Int.reduceMul, Int.reduceNeg, Nat.zero_add, Nat.add_zero, Nat.mul_one, Int.toNat_natCast, Int.natCast_zero, Int.cast_ofNat_Int, or_false, false_or, or_true, true_or, Int.reduceToNat, Nat.sub_zero, Int.natCast_nonneg, Int.toNat_zero, Bool.true_and, Bool.and_true, Bool.false_and, Bool.and_false, Bool.true_or, Bool.or_true, Bool.false_or, Bool.or_false, Bool.not_true, Bool.not_false, Bool.not_not, true_and, and_true, false_and, and_false, not_true_eq_false, not_false_eq_true, eq_self, decide_true, decide_false, ne_eq, implies_true, forall_const, true_implies, false_implies, Bool.true_eq_false, Bool.false_eq_true, reduceCtorEq, List.map_cons, List.map_nil, List.all_cons, List.all_nil, List.length_cons, List.length_nil, List.length_map, List.length_append, List.nil_append, List.cons_append, List.set_cons_zero, List.set_cons_succ, List.set_nil, List.drop_zero, List.drop_succ_cons, List.drop_nil, List.take_zero, List.take_succ_cons, List.take_nil, Option.map_some, Option.map_none, Option.isSome_some, Nat.reduceEqDiff, Nat.reduceBEq, Nat.reduceGT, List.all_append, List.all_map, Function.comp_def, decide_eq_true_eq, Bool.and_eq_true, beq_self_eq_true, or_self, and_self, ite_true, ite_false, Nat.le_refl, Bool.not_eq_true, decide_not, Bool.not_eq_true', decide_eq_false_iff_not, Bool.not_eq_false, Bool.or_eq_true, if_true, if_false, ite_self, la_it, la_len, la_sure, la_ltA, la_lt1, la_all1, la_ro, la_take, la_cl, la_tm, la_r, la_sl, rc_len, rc_sure, rc_ltA, rc_lt1, rc_all1, rc_ro, rc_take, rc_sl, la_set, rc_set, zcL_eq, zcR_eq, la_allA, la_len7, all_tt, natInt, u_nthM, hlt', hx, w_i64, hlen3, plenumref26_Note_r6_eq]
          exact step
        · have e2 : loL l c ++ (⟨c, t, r⟩ : La) :: hiL (l.take k ++ [l[k]]) c = g := by rw [← hG]; unfold hiL; rw [List.filter_append]; simp [hx]
          rw [e2] at step
          simp (config := {maxSteps := 4000000, implicitDefEqProofs := false}) (disch := omega) only [go_sem, ↓reduceIte, Nat.reduceAdd, Nat.reduceSub, Nat.reduceMul, Nat.reduceLeDiff, Nat.reduceLT, Int.reduceEq, Int.reduceNe, Int.reduceLT, Int.reduceLE, Int.reduceAdd, Int.reduceSub, Int.reduceMul, Int.reduceNeg, Nat.zero_add, Nat.add_zero, Nat.mul_one, Int.toNat_natCast, Int.natCast_zero, Int.cast_ofNat_Int, or_false, false_or, or_true, true_or, Int.reduceToNat, Nat.sub_zero, Int.natCast_nonneg, Int.toNat_zero, Bool.true_and, Bool.and_true, Bool.false_and, Bool.and_false, Bool.true_or, Bool.or_true, Bool.false_or, Bool.or_false, Bool.not_true, Bool.not_false, Bool.not_not, true_and, and_true, false_and, and_false, not_true_eq_false, not_false_eq_true, eq_self, decide_true, decide_false, ne_eq, implies_true, forall_const, true_implies, false_implies, Bool.true_eq_false, Bool.false_eq_true, reduceCtorEq, List.map_cons, List.map_nil, List.all_cons, List.all_nil, List.length_cons, List.length_nil, List.length_map, List.length_append, List.nil_append, List.cons_append, List.set_cons_zero, List.set_cons_succ, List.set_nil, List.drop_zero, List.drop_succ_cons, List.drop_nil, List.take_zero, List.take_succ_cons, List.take_nil, Option.map_some, Option.map_none, Option.isSome_some, Nat.reduceEqDiff, Nat.reduceBEq, Nat.reduceGT, List.all_append, List.all_map, Function.comp_def, decide_eq_true_eq, Bool.and_eq_true, beq_self_eq_true, or_self, and_self, ite_true, ite_false, Nat.le_refl, Bool.not_eq_true, decide_not, Bool.not_eq_true', decide_eq_false_iff_not, Bool.not_eq_false, Bool.or_eq_true, if_true, if_false, ite_self, la_it, la_len, la_sure, la_ltA, la_lt1, la_all1, la_ro, la_take, la_cl, la_tm, la_r, la_sl, rc_len, rc_sure, rc_ltA, rc_lt1, rc_all1, rc_ro, rc_take, rc_sl, la_set, rc_set, zcL_eq, zcR_eq, la_allA, la_len7, all_tt, natInt, u_nthM, hlt', hx, w_i64, plenumref26_Note_r6_eq]
          exact step
      · have hlt' : ¬ (k : Int) < (l.length : Int) := by omega
        have : k = l.length := by omega
        subst this
        rw [List.take_length] at hG
        rw [hG]
        simp (config := {maxSteps := 4000000, implicitDefEqProofs := false}) (disch := omega) only [go_sem, ↓reduceIte, Nat.reduceAdd, Nat.reduceSub, Nat.reduceMul, Nat.reduceLeDiff, Nat.reduceLT, Int.reduceEq, Int.reduceNe, Int.reduceLT, Int.reduceLE, Int.reduceAdd, Int.reduceSub, Int.reduceMul, Int.reduceNeg, Nat.zero_add, Nat.add_zero, Nat.mul_one, Int.toNat_natCast, Int.natCast_zero, Int.cast_ofNat_Int, or_false, false_or, or_true, true_or, Int.reduceToNat, Nat.sub_zero, Int.natCast_nonneg, Int.toNat_zero, Bool.true_and, Bool.and_true, Bool.false_and, Bool.and_false, Bool.true_or, Bool.or_true, Bool.false_or, Bool.or_false, Bool.not_true, Bool.not_false, Bool.not_not, true_and, and_true, false_and, and_false, not_true_eq_false, not_false_eq_true, eq_self, decide_true, decide_false, ne_eq, implies_true, forall_const, true_implies, false_implies, Bool.true_eq_false, Bool.false_eq_true, reduceCtorEq, List.map_cons, List.map_nil, List.all_cons, List.all_nil, List.length_cons, List.length_nil, List.length_map, List.length_append, List.nil_append, List.cons_append, List.set_cons_zero, List.set_cons_succ, List.set_nil, List.drop_zero, List.drop_succ_cons, List.drop_nil, List.take_zero, List.take_succ_cons, List.take_nil, Option.map_some, Option.map_none, Option.isSome_some, Nat.reduceEqDiff, Nat.reduceBEq, Nat.reduceGT, List.all_append, List.all_map, Function.comp_def, decide_eq_true_eq, Bool.and_eq_true, beq_self_eq_true, or_self, and_self, ite_true, ite_false, Nat.le_refl, Bool.not_eq_true, decide_not, Bool.not_eq_true', decide_eq_false_iff_not, Bool.not_eq_false, Bool.or_eq_true, if_true, if_false, ite_self, la_it, la_len, la_sure, la_ltA, la_lt1, la_all1, la_ro, la_take, la_cl, la_tm, la_r, la_sl, rc_len, rc_sure, rc_ltA, rc_lt1, rc_all1, rc_ro, rc_take, rc_sl, la_set, rc_set, zcL_eq, zcR_eq, la_allA, la_len7, all_tt, natInt, u_nthM, hkx, hlt', plenumref26_Note_r5_eq]
  · rw [if_neg he, if_neg h1, if_pos rfl, lL_def]
    simp (config := {maxSteps := 4000000, implicitDefEqProofs := false}) (disch := omega) only [go_sem, ↓reduceIte, Nat.reduceAdd, Nat.reduceSub, Nat.reduceMul, Nat.reduceLeDiff, Nat.reduceLT, Int.reduceEq, Int.reduceNe, Int.reduceLT, Int.reduceLE, Int.reduceAdd, Int.reduceSub, Int.reduceMul, Int.reduceNeg, Nat.zero_add, Nat.add_zero, Nat.mul_one, Int.toNat_natCast, Int.natCast_zero, Int.cast_ofNat_Int, or_false, false_or, or_true, true_or, Int.reduceToNat, Nat.sub_zero, Int.natCast_nonneg, Int.toNat_zero, Bool.true_and, Bool.and_true, Bool.false_and, Bool.and_false, Bool.true_or, Bool.or_true, Bool.false_or, Bool.or_false, Bool.not_true, Bool.not_false, Bool.not_not, true_and, and_true, false_and, and_false, not_true_eq_false, not_false_eq_true, eq_self, decide_true, decide_false, ne_eq, implies_true, forall_const, true_implies, false_implies, Bool.true_eq_false, Bool.false_eq_true, reduceCtorEq, List.map_cons, List.map_nil, List.all_cons, List.all_nil, List.length_cons, List.length_nil, List.length_map, List.length_append, List.nil_append, List.cons_append, List.set_cons_zero, List.set_cons_succ, List.set_nil, List.drop_zero, List.drop_succ_cons, List.drop_nil, List.take_zero, List.take_succ_cons, List.take_nil, Option.map_some, Option.map_none, Option.isSome_some, Nat.reduceEqDiff, Nat.reduceBEq, Nat.reduceGT, List.all_append, List.all_map, Function.comp_def, decide_eq_true_eq, Bool.and_eq_true, beq_self_eq_true, or_self, and_self, ite_true, ite_false, Nat.le_refl, Bool.not_eq_true, decide_not, Bool.not_eq_true', decide_eq_false_iff_not, Bool.not_eq_false, Bool.or_eq_true, if_true, if_false, ite_self, la_it, la_len, la_sure, la_ltA, la_lt1, la_all1, la_ro, la_take, la_cl, la_tm, la_r, la_sl, rc_len, rc_sure, rc_ltA, rc_lt1, rc_all1, rc_ro, rc_take, rc_sl, la_set, rc_set, zcL_eq, zcR_eq, la_allA, la_len7, all_tt, natInt, u_nthM, hA, h1, he, hM, plenumref26_Note_r1_eq, plenumref26_Note_r2_eq]
theorem sameLa (x y : La) : sameKs [.int .i64 x.cl, .int .i64 x.tm, .int .i64 x.r.code, .int .i64 x.r.kind, .int .i64 x.r.i, .string ⟨x.r.s.toArray⟩, .int .i64 x.r.ver] [.int .i64 y.cl, .int .i64 y.tm, .int .i64 y.r.code, .int .i64 y.r.kind, .int .i64 y.r.i, .string ⟨y.r.s.toArray⟩, .int .i64 y.r.ver] = decide (x = y) := by
  obtain ⟨a1, a2, a3, a4, a5, a6, a7⟩ := x
  obtain ⟨b1, b2, b3, b4, b5, b6, b7⟩ := y
  rw [Bool.eq_iff_iff]
  show (decide (a1 = b1) && (decide (a2 = b2) && (decide (a3 = b3) && (decide (a4 = b4) && (decide (a5 = b5) && (decide (a6 = b6) && (decide (a7 = b7) && true))))))) = true ↔ _
  simp
section
variable {R : Type} {isB sl : Bool} {x y : La} {K1 : AV → Option R}
theorem u_neLa : binE (some [.i .i64, .i .i64, .i .i64, .i .i64, .i .i64, .s, .i .i64]) isB sl .neq (.agg (laC x)) (.agg (laC y)) K1 = K1 (bA (!decide (x = y))) := by
  rw [← sameLa]; rfl
end
theorem same_s (m : Nat) (a b : List La) (hm : a.length < m) (hl : a.length ≤ 34359738367) : plenumref26_Same m (lL a) (lL b) = some (bA (decide (a = b)), []) := by
  rw [plenumref26_Same_eq, lL_def, lL_def]
  by_cases hlen : a.length = b.length
  · have hlen' : (a.length : Int) = (b.length : Int) := by omega
    simp (config := {maxSteps := 4000000, implicitDefEqProofs := false}) (disch := omega) only [go_sem, ↓reduceIte, Nat.reduceAdd, Nat.reduceSub, Nat.reduceMul, Nat.reduceLeDiff, Nat.reduceLT, Int.reduceEq, Int.reduceNe, Int.reduceLT, Int.reduceLE, Int.reduceAdd, Int.reduceSub, Int.reduceMul, Int.reduceNeg, Nat.zero_add, Nat.add_zero, Nat.mul_one, Int.toNat_natCast, Int.natCast_zero, Int.cast_ofNat_Int, or_false, false_or, or_true, true_or, Int.reduceToNat, Nat.sub_zero, Int.natCast_nonneg, Int.toNat_zero, Bool.true_and, Bool.and_true, Bool.false_and, Bool.and_false, Bool.true_or, Bool.or_true, Bool.false_or, Bool.or_false, Bool.not_true, Bool.not_false, Bool.not_not, true_and, and_true, false_and, and_false, not_true_eq_false, not_false_eq_true, eq_self, decide_true, decide_false, ne_eq, implies_true, forall_const, true_implies, false_implies, Bool.true_eq_false, Bool.false_eq_true, reduceCtorEq, List.map_cons, List.map_nil, List.all_cons, List.all_nil, List.length_cons, List.length_nil, List.length_map, List.length_append, List.nil_append, List.cons_append, List.set_cons_zero, List.set_cons_succ, List.set_nil, List.drop_zero, List.drop_succ_cons, List.drop_nil, List.take_zero, List.take_succ_cons, List.take_nil, Option.map_some, Option.map_none, Option.isSome_some, Nat.reduceEqDiff, Nat.reduceBEq, Nat.reduceGT, List.all_append, List.all_map, Function.comp_def, decide_eq_true_eq, Bool.and_eq_true, beq_self_eq_true, or_self, and_self, ite_true, ite_false, Nat.le_refl, Bool.not_eq_true, decide_not, Bool.not_eq_true', decide_eq_false_iff_not, Bool.not_eq_false, Bool.or_eq_true, if_true, if_false, ite_self, hlen, hlen']
    refine iter_go (ι := {k : Nat // k ≤ a.length ∧ a.take k = b.take k}) (fun k => ⟨[], [(0, SL (a.map laE)), (1, SL (b.map laE)), (5, nA k.1)]⟩) (fun k => a.length - k.1) (fun _ => some (bA (decide (a = b)), [])) ?_ ⟨0, Nat.zero_le _, rfl⟩ (by dsimp only; omega)
    rintro kx hkx ⟨k, hk, hinv⟩ kc hkc
    dsimp only at hkc ⊢
    rw [plenumref26_Same_b1_eq]
    by_cases hlt : k < a.length
    · have hltb : k < b.length := by omega
      have hlt' : (k : Int) < (a.length : Int) := by omega
      have hltb' : (k : Int) < (b.length : Int) := by omega
      by_cases hq : a[k] = b[k]
      · have step := hkc ⟨k + 1, by omega, by rw [List.take_succ_eq_append_getElem hlt, List.take_succ_eq_append_getElem hltb, hinv, hq]⟩ (by dsimp only; omega)
        simp (config := {maxSteps := 4000000, implicitDefEqProofs := false}) (disch := omega) only [go_sem, ↓reduceIte, Nat.reduceAdd, Nat.reduceSub, Nat.reduceMul, Nat.reduceLeDiff, Nat.reduceLT, Int.reduceEq, Int.reduceNe, Int.reduceLT, Int.reduceLE, Int.reduceAdd, Int.reduceSub, Int.reduceMul, Int.reduceNeg, Nat.zero_add, Nat.add_zero, Nat.mul_one, Int.toNat_natCast, Int.natCast_zero, Int.cast_ofNat_Int, or_false, false_or, or_true, true_or, Int.reduceToNat, Nat.sub_zero, Int.natCast_nonneg, Int.toNat_zero, Bool.true_and, Bool.and_true, Bool.false_and, Bool.and_false, Bool.true_or, Bool.or_true, Bool.false_or, Bool.or_false, Bool.not_true, Bool.not_false, Bool.not_not, true_and, and_true, false_and, and_false, not_true_eq_false, not_false_eq_true, eq_self, decide_true, decide_false, ne_eq, implies_true, forall_const, true_implies, false_implies, Bool.true_eq_false, Bool.false_eq_true, reduceCtorEq, List.map_cons, List.map_nil, List.all_cons, List.all_nil, List.length_cons, List.length_nil, List.length_map, List.length_append, List.nil_append, List.cons_append, List.set_cons_zero, List.set_cons_succ, List.set_nil, List.drop_zero, List.drop_succ_cons, List.drop_nil, List.take_zero, List.take_succ_cons, List.take_nil, Option.map_some, Option.map_none, Option.isSome_some, Nat.reduceEqDiff, Nat.reduceBEq, Nat.reduceGT, List.all_append, List.all_map, Function.comp_def, decide_eq_true_eq, Bool.and_eq_true, beq_self_eq_true, or_self, and_self, ite_true, ite_false, Nat.le_refl, Bool.not_eq_true, decide_not, Bool.not_eq_true', decide_eq_false_iff_not, Bool.not_eq_false, Bool.or_eq_true, if_true, if_false, ite_self, la_it, la_len, la_sure, la_ltA, la_lt1, la_all1, la_ro, la_take, la_cl, la_tm, la_r, la_sl, rc_len, rc_sure, rc_ltA, rc_lt1, rc_all1, rc_ro, rc_take, rc_sl, la_set, rc_set, zcL_eq, zcR_eq, la_allA, la_len7, all_tt, natInt, u_nthM, hlt', hltb', u_neLa, hq, w_i64]
        exact step
      · have hne : a ≠ b := fun e => hq (by subst e; rfl)
        simp (config := {maxSteps := 4000000, implicitDefEqProofs := false}) (disch := omega) only [go_sem, ↓reduceIte, Nat.reduceAdd, Nat.reduceSub, Nat.reduceMul, Nat.reduceLeDiff, Nat.reduceLT, Int.reduceEq, Int.reduceNe, Int.reduceLT, Int.reduceLE, Int.reduceAdd, Int.reduceSub, Int.reduceMul, Int.reduceNeg, Nat.zero_add, Nat.add_zero, Nat.mul_one, Int.toNat_natCast, Int.natCast_zero, Int.cast_ofNat_Int, or_false, false_or, or_true, true_or, Int.reduceToNat, Nat.sub_zero, Int.natCast_nonneg, Int.toNat_zero, Bool.true_and, Bool.and_true, Bool.false_and, Bool.and_false, Bool.true_or, Bool.or_true, Bool.false_or, Bool.or_false, Bool.not_true, Bool.not_false, Bool.not_not, true_and, and_true, false_and, and_false, not_true_eq_false, not_false_eq_true, eq_self, decide_true, decide_false, ne_eq, implies_true, forall_const, true_implies, false_implies, Bool.true_eq_false, Bool.false_eq_true, reduceCtorEq, List.map_cons, List.map_nil, List.all_cons, List.all_nil, List.length_cons, List.length_nil, List.length_map, List.length_append, List.nil_append, List.cons_append, List.set_cons_zero, List.set_cons_succ, List.set_nil, List.drop_zero, List.drop_succ_cons, List.drop_nil, List.take_zero, List.take_succ_cons, List.take_nil, Option.map_some, Option.map_none, Option.isSome_some, Nat.reduceEqDiff, Nat.reduceBEq, Nat.reduceGT, List.all_append, List.all_map, Function.comp_def, decide_eq_true_eq, Bool.and_eq_true, beq_self_eq_true, or_self, and_self, ite_true, ite_false, Nat.le_refl, Bool.not_eq_true, decide_not, Bool.not_eq_true', decide_eq_false_iff_not, Bool.not_eq_false, Bool.or_eq_true, if_true, if_false, ite_self, la_it, la_len, la_sure, la_ltA, la_lt1, la_all1, la_ro, la_take, la_cl, la_tm, la_r, la_sl, rc_len, rc_sure, rc_ltA, rc_lt1, rc_all1, rc_ro, rc_take, rc_sl, la_set, rc_set, zcL_eq, zcR_eq, la_allA, la_len7, all_tt, natInt, u_nthM, hkx, hlt', hltb', u_neLa, hq, hne]
    · have hlt' : ¬ (k : Int) < (b.length : Int) := by omega
      have hlt2 : ¬ (k : Int) < (a.length : Int) := by omega
      have he : a = b := by rw [← List.take_of_length_le (l := a) (i := k) (by omega), ← List.take_of_length_le (l := b) (i := k) (by omega)]; exact hinv
      simp (config := {maxSteps := 4000000, implicitDefEqProofs := false}) (disch := omega) only [go_sem, ↓reduceIte, Nat.reduceAdd, Nat.reduceSub, Nat.reduceMul, Nat.reduceLeDiff, Nat.reduceLT, Int.reduceEq, Int.reduceNe, Int.reduceLT, Int.reduceLE, Int.reduceAdd, Int.reduceSub, Int.reduceMul, Int.reduceNeg, Nat.zero_add, Nat.add_zero, Nat.mul_one, Int.toNat_natCast, Int.natCast_zero, Int.cast_ofNat_Int, or_false, false_or, or_true, true_or, Int.reduceToNat, Nat.sub_zero, Int.natCast_nonneg, Int.toNat_zero, Bool.true_and, Bool.and_true, Bool.false_and, Bool.and_false, Bool.true_or, Bool.or_true, Bool.false_or, Bool.or_false, Bool.not_true, Bool.not_false, Bool.not_not, true_and, and_true, false_and, and_false, not_true_eq_false, not_false_eq_true, eq_self, decide_true, decide_false, ne_eq, implies_true, forall_const, true_implies, false_implies, Bool.true_eq_false, Bool.false_eq_true, reduceCtorEq, List.map_cons, List.map_nil, List.all_cons, List.all_nil, List.length_cons, List.length_nil, List.length_map, List.length_append, List.nil_append, List.cons_append, List.set_cons_zero, List.set_cons_succ, List.set_nil, List.drop_zero, List.drop_succ_cons, List.drop_nil, List.take_zero, List.take_succ_cons, List.take_nil, Option.map_some, Option.map_none, Option.isSome_some, Nat.reduceEqDiff, Nat.reduceBEq, Nat.reduceGT, List.all_append, List.all_map, Function.comp_def, decide_eq_true_eq, Bool.and_eq_true, beq_self_eq_true, or_self, and_self, ite_true, ite_false, Nat.le_refl, Bool.not_eq_true, decide_not, Bool.not_eq_true', decide_eq_false_iff_not, Bool.not_eq_false, Bool.or_eq_true, if_true, if_false, ite_self, hkx, hlt', hlt2, he, plenumref26_Same_r1_eq]
  · have hlen' : ¬ (a.length : Int) = (b.length : Int) := by omega
    have hne : a ≠ b := fun e => hlen (by rw [e])
    simp (config := {maxSteps := 4000000, implicitDefEqProofs := false}) (disch := omega) only [go_sem, ↓reduceIte, Nat.reduceAdd, Nat.reduceSub, Nat.reduceMul, Nat.reduceLeDiff, Nat.reduceLT, Int.reduceEq, Int.reduceNe, Int.reduceLT, Int.reduceLE, Int.reduceAdd, Int.reduceSub, Int.reduceMul, Int.reduceNeg, Nat.zero_add, Nat.add_zero, Nat.mul_one, Int.toNat_natCast, Int.natCast_zero, Int.cast_ofNat_Int, or_false, false_or, or_true, true_or, Int.reduceToNat, Nat.sub_zero, Int.natCast_nonneg, Int.toNat_zero, Bool.true_and, Bool.and_true, Bool.false_and, Bool.and_false, Bool.true_or, Bool.or_true, Bool.false_or, Bool.or_false, Bool.not_true, Bool.not_false, Bool.not_not, true_and, and_true, false_and, and_false, not_true_eq_false, not_false_eq_true, eq_self, decide_true, decide_false, ne_eq, implies_true, forall_const, true_implies, false_implies, Bool.true_eq_false, Bool.false_eq_true, reduceCtorEq, List.map_cons, List.map_nil, List.all_cons, List.all_nil, List.length_cons, List.length_nil, List.length_map, List.length_append, List.nil_append, List.cons_append, List.set_cons_zero, List.set_cons_succ, List.set_nil, List.drop_zero, List.drop_succ_cons, List.drop_nil, List.take_zero, List.take_succ_cons, List.take_nil, Option.map_some, Option.map_none, Option.isSome_some, Nat.reduceEqDiff, Nat.reduceBEq, Nat.reduceGT, List.all_append, List.all_map, Function.comp_def, decide_eq_true_eq, Bool.and_eq_true, beq_self_eq_true, or_self, and_self, ite_true, ite_false, Nat.le_refl, Bool.not_eq_true, decide_not, Bool.not_eq_true', decide_eq_false_iff_not, Bool.not_eq_false, Bool.or_eq_true, if_true, if_false, ite_self, hlen, hlen', hne]
theorem la_set5 {x : La} {s : Bytes} : setCells (laC x) 5 [sA s] = laC { x with r := { x.r with s := s } } := _root_.id rfl
def fewN (x : La) : La := { x with r := { x.r with s := x.r.s.take 200 } }
def fewL (l : List La) : List La := (l.take 260).map fewN
theorem few_s (m : Nat) (l : List La) (hm : 260 < m) (hl : l.length ≤ maxLen) (hs : ∀ x ∈ l, x.r.s.length ≤ maxLen) : plenumlaw26_Few m (lL l) = some (lL (fewL l), []) := by
  have main : ∀ a : List La, a.length ≤ 260 → (∀ x ∈ a, x.r.s.length ≤ maxLen) → plenumlaw26_Few_r1 m ⟨[], [(0, SL (a.map laE))]⟩ = some (SL ((a.map fewN).map laE), []) := by
    intro a ha h
    rw [plenumlaw26_Few_r1_eq]
    simp (config := {maxSteps := 4000000, implicitDefEqProofs := false}) (disch := omega) only [go_sem, ↓reduceIte, Nat.reduceAdd, Nat.reduceSub, Nat.reduceMul, Nat.reduceLeDiff, Nat.reduceLT, Int.reduceEq, Int.reduceNe, Int.reduceLT, Int.reduceLE, Int.reduceAdd, Int.reduceSub, Int.reduceMul, Int.reduceNeg, Nat.zero_add, Nat.add_zero, Nat.mul_one, Int.toNat_natCast, Int.natCast_zero, Int.cast_ofNat_Int, or_false, false_or, or_true, true_or, Int.reduceToNat, Nat.sub_zero, Int.natCast_nonneg, Int.toNat_zero, Bool.true_and, Bool.and_true, Bool.false_and, Bool.and_false, Bool.true_or, Bool.or_true, Bool.false_or, Bool.or_false, Bool.not_true, Bool.not_false, Bool.not_not, true_and, and_true, false_and, and_false, not_true_eq_false, not_false_eq_true, eq_self, decide_true, decide_false, ne_eq, implies_true, forall_const, true_implies, false_implies, Bool.true_eq_false, Bool.false_eq_true, reduceCtorEq, List.map_cons, List.map_nil, List.all_cons, List.all_nil, List.length_cons, List.length_nil, List.length_map, List.length_append, List.nil_append, List.cons_append, List.set_cons_zero, List.set_cons_succ, List.set_nil, List.drop_zero, List.drop_succ_cons, List.drop_nil, List.take_zero, List.take_succ_cons, List.take_nil, Option.map_some, Option.map_none, Option.isSome_some, Nat.reduceEqDiff, Nat.reduceBEq, Nat.reduceGT, List.all_append, List.all_map, Function.comp_def, decide_eq_true_eq, Bool.and_eq_true, beq_self_eq_true, or_self, and_self, ite_true, ite_false, Nat.le_refl, Bool.not_eq_true, decide_not, Bool.not_eq_true', decide_eq_false_iff_not, Bool.not_eq_false, Bool.or_eq_true, if_true, if_false, ite_self, ha]
    refine iter_go (ι := {k : Nat // k ≤ a.length}) (fun k => ⟨[⟨2, ty_api_Last, 7, ((a.take k.1).map fewN).map laE⟩], [(0, SL (a.map laE)), (3, OW 0 k.1), (4, nA k.1)]⟩) (fun k => a.length - k.1) (fun _ => some (SL ((a.map fewN).map laE), [])) ?_ ⟨0, Nat.zero_le _⟩ (by dsimp only; omega)
    rintro kx hkx ⟨k, hk⟩ kc hkc
    dsimp only at hkc ⊢
    rw [plenumlaw26_Few_b1_eq]
    by_cases hlt : k < a.length
    · have hlt' : (k : Int) < (a.length : Int) := by omega
      have step := hkc ⟨k + 1, by omega⟩ (by dsimp only; omega)
      dsimp only at step
      rw [List.take_succ_eq_append_getElem hlt, List.map_append, List.map_append] at step
      have hkm : k + 1 ≤ 34359738368 := by omega
      by_cases h2 : 200 < a[k].r.s.length
      · have h2' : (200 : Int) < (a[k].r.s.length : Int) := by omega
        have h2l : (200 : Int) ≤ (a[k].r.s.length : Int) := by omega
        simp (config := {maxSteps := 4000000, implicitDefEqProofs := false}) (disch := omega) only [go_sem, ↓reduceIte, Nat.reduceAdd, Nat.reduceSub, Nat.reduceMul, Nat.reduceLeDiff, Nat.reduceLT, Int.reduceEq, Int.reduceNe, Int.reduceLT, Int.reduceLE, Int.reduceAdd, Int.reduceSub, Int.reduceMul, Int.reduceNeg, Nat.zero_add, Nat.add_zero, Nat.mul_one, Int.toNat_natCast, Int.natCast_zero, Int.cast_ofNat_Int, or_false, false_or, or_true, true_or, Int.reduceToNat, Nat.sub_zero, Int.natCast_nonneg, Int.toNat_zero, Bool.true_and, Bool.and_true, Bool.false_and, Bool.and_false, Bool.true_or, Bool.or_true, Bool.false_or, Bool.or_false, Bool.not_true, Bool.not_false, Bool.not_not, true_and, and_true, false_and, and_false, not_true_eq_false, not_false_eq_true, eq_self, decide_true, decide_false, ne_eq, implies_true, forall_const, true_implies, false_implies, Bool.true_eq_false, Bool.false_eq_true, reduceCtorEq, List.map_cons, List.map_nil, List.all_cons, List.all_nil, List.length_cons, List.length_nil, List.length_map, List.length_append, List.nil_append, List.cons_append, List.set_cons_zero, List.set_cons_succ, List.set_nil, List.drop_zero, List.drop_succ_cons, List.drop_nil, List.take_zero, List.take_succ_cons, List.take_nil, Option.map_some, Option.map_none, Option.isSome_some, Nat.reduceEqDiff, Nat.reduceBEq, Nat.reduceGT, List.all_append, List.all_map, Function.comp_def, decide_eq_true_eq, Bool.and_eq_true, beq_self_eq_true, or_self, and_self, ite_true, ite_false, Nat.le_refl, Bool.not_eq_true, decide_not, Bool.not_eq_true', decide_eq_false_iff_not, Bool.not_eq_false, Bool.or_eq_true, if_true, if_false, ite_self, la_it, la_len, la_sure, la_ltA, la_lt1, la_all1, la_ro, la_take, la_cl, la_tm, la_r, la_sl, rc_len, rc_sure, rc_ltA, rc_lt1, rc_all1, rc_ro, rc_take, rc_sl, la_set, rc_set, zcL_eq, zcR_eq, la_allA, la_len7, all_tt, natInt, u_nthM, la_s, la_set5, hlt', h2', h2l, w_i64, hkm, List.length_take, Nat.min_eq_left, plenumlaw26_Few_r3_eq, plenumlaw26_Few_r4_eq]
        exact step
      · have h2' : ¬ (200 : Int) < (a[k].r.s.length : Int) := by omega
        have hf : fewN a[k] = a[k] := by unfold fewN; rw [List.take_of_length_le (by omega)]
        rw [List.map_singleton, hf] at step
        simp (config := {maxSteps := 4000000, implicitDefEqProofs := false}) (disch := omega) only [go_sem, ↓reduceIte, Nat.reduceAdd, Nat.reduceSub, Nat.reduceMul, Nat.reduceLeDiff, Nat.reduceLT, Int.reduceEq, Int.reduceNe, Int.reduceLT, Int.reduceLE, Int.reduceAdd, Int.reduceSub, Int.reduceMul, Int.reduceNeg, Nat.zero_add, Nat.add_zero, Nat.mul_one, Int.toNat_natCast, Int.natCast_zero, Int.cast_ofNat_Int, or_false, false_or, or_true, true_or, Int.reduceToNat, Nat.sub_zero, Int.natCast_nonneg, Int.toNat_zero, Bool.true_and, Bool.and_true, Bool.false_and, Bool.and_false, Bool.true_or, Bool.or_true, Bool.false_or, Bool.or_false, Bool.not_true, Bool.not_false, Bool.not_not, true_and, and_true, false_and, and_false, not_true_eq_false, not_false_eq_true, eq_self, decide_true, decide_false, ne_eq, implies_true, forall_const, true_implies, false_implies, Bool.true_eq_false, Bool.false_eq_true, reduceCtorEq, List.map_cons, List.map_nil, List.all_cons, List.all_nil, List.length_cons, List.length_nil, List.length_map, List.length_append, List.nil_append, List.cons_append, List.set_cons_zero, List.set_cons_succ, List.set_nil, List.drop_zero, List.drop_succ_cons, List.drop_nil, List.take_zero, List.take_succ_cons, List.take_nil, Option.map_some, Option.map_none, Option.isSome_some, Nat.reduceEqDiff, Nat.reduceBEq, Nat.reduceGT, List.all_append, List.all_map, Function.comp_def, decide_eq_true_eq, Bool.and_eq_true, beq_self_eq_true, or_self, and_self, ite_true, ite_false, Nat.le_refl, Bool.not_eq_true, decide_not, Bool.not_eq_true', decide_eq_false_iff_not, Bool.not_eq_false, Bool.or_eq_true, if_true, if_false, ite_self, la_it, la_len, la_sure, la_ltA, la_lt1, la_all1, la_ro, la_take, la_cl, la_tm, la_r, la_sl, rc_len, rc_sure, rc_ltA, rc_lt1, rc_all1, rc_ro, rc_take, rc_sl, la_set, rc_set, zcL_eq, zcR_eq, la_allA, la_len7, all_tt, natInt, u_nthM, la_s, hlt', h2', w_i64, hkm, List.length_take, Nat.min_eq_left, plenumlaw26_Few_r3_eq, plenumlaw26_Few_r4_eq]
        exact step
    · have hlt' : ¬ (k : Int) < (a.length : Int) := by omega
      have : k = a.length := by omega
      subst this
      simp (config := {maxSteps := 4000000, implicitDefEqProofs := false}) (disch := omega) only [go_sem, ↓reduceIte, Nat.reduceAdd, Nat.reduceSub, Nat.reduceMul, Nat.reduceLeDiff, Nat.reduceLT, Int.reduceEq, Int.reduceNe, Int.reduceLT, Int.reduceLE, Int.reduceAdd, Int.reduceSub, Int.reduceMul, Int.reduceNeg, Nat.zero_add, Nat.add_zero, Nat.mul_one, Int.toNat_natCast, Int.natCast_zero, Int.cast_ofNat_Int, or_false, false_or, or_true, true_or, Int.reduceToNat, Nat.sub_zero, Int.natCast_nonneg, Int.toNat_zero, Bool.true_and, Bool.and_true, Bool.false_and, Bool.and_false, Bool.true_or, Bool.or_true, Bool.false_or, Bool.or_false, Bool.not_true, Bool.not_false, Bool.not_not, true_and, and_true, false_and, and_false, not_true_eq_false, not_false_eq_true, eq_self, decide_true, decide_false, ne_eq, implies_true, forall_const, true_implies, false_implies, Bool.true_eq_false, Bool.false_eq_true, reduceCtorEq, List.map_cons, List.map_nil, List.all_cons, List.all_nil, List.length_cons, List.length_nil, List.length_map, List.length_append, List.nil_append, List.cons_append, List.set_cons_zero, List.set_cons_succ, List.set_nil, List.drop_zero, List.drop_succ_cons, List.drop_nil, List.take_zero, List.take_succ_cons, List.take_nil, Option.map_some, Option.map_none, Option.isSome_some, Nat.reduceEqDiff, Nat.reduceBEq, Nat.reduceGT, List.all_append, List.all_map, Function.comp_def, decide_eq_true_eq, Bool.and_eq_true, beq_self_eq_true, or_self, and_self, ite_true, ite_false, Nat.le_refl, Bool.not_eq_true, decide_not, Bool.not_eq_true', decide_eq_false_iff_not, Bool.not_eq_false, Bool.or_eq_true, if_true, if_false, ite_self, la_it, la_len, la_sure, la_ltA, la_lt1, la_all1, la_ro, la_take, la_cl, la_tm, la_r, la_sl, rc_len, rc_sure, rc_ltA, rc_lt1, rc_all1, rc_ro, rc_take, rc_sl, la_set, rc_set, zcL_eq, zcR_eq, la_allA, la_len7, all_tt, natInt, u_nthM, hlt', hkx, List.take_length, plenumlaw26_Few_r4_eq, plenumlaw26_Few_r3_eq, plenumlaw26_Few_r2_eq, plenumlaw26_Few_r1_eq]
  rw [plenumlaw26_Few_eq, lL_def, lL_def]
  unfold fewL
  by_cases h10 : 260 < l.length
  · have h10' : (260 : Int) < (l.length : Int) := by omega
    have h10l : 260 ≤ l.length := by omega
    have := main (l.take 260) (by rw [List.length_take]; omega) (fun x hx => hs x (List.mem_of_mem_take hx))
    have h10z : (260 : Int) ≤ (l.length : Int) := by omega
    simp (config := {maxSteps := 4000000, implicitDefEqProofs := false}) (disch := omega) only [go_sem, ↓reduceIte, Nat.reduceAdd, Nat.reduceSub, Nat.reduceMul, Nat.reduceLeDiff, Nat.reduceLT, Int.reduceEq, Int.reduceNe, Int.reduceLT, Int.reduceLE, Int.reduceAdd, Int.reduceSub, Int.reduceMul, Int.reduceNeg, Nat.zero_add, Nat.add_zero, Nat.mul_one, Int.toNat_natCast, Int.natCast_zero, Int.cast_ofNat_Int, or_false, false_or, or_true, true_or, Int.reduceToNat, Nat.sub_zero, Int.natCast_nonneg, Int.toNat_zero, Bool.true_and, Bool.and_true, Bool.false_and, Bool.and_false, Bool.true_or, Bool.or_true, Bool.false_or, Bool.or_false, Bool.not_true, Bool.not_false, Bool.not_not, true_and, and_true, false_and, and_false, not_true_eq_false, not_false_eq_true, eq_self, decide_true, decide_false, ne_eq, implies_true, forall_const, true_implies, false_implies, Bool.true_eq_false, Bool.false_eq_true, reduceCtorEq, List.map_cons, List.map_nil, List.all_cons, List.all_nil, List.length_cons, List.length_nil, List.length_map, List.length_append, List.nil_append, List.cons_append, List.set_cons_zero, List.set_cons_succ, List.set_nil, List.drop_zero, List.drop_succ_cons, List.drop_nil, List.take_zero, List.take_succ_cons, List.take_nil, Option.map_some, Option.map_none, Option.isSome_some, Nat.reduceEqDiff, Nat.reduceBEq, Nat.reduceGT, List.all_append, List.all_map, Function.comp_def, decide_eq_true_eq, Bool.and_eq_true, beq_self_eq_true, or_self, and_self, ite_true, ite_false, Nat.le_refl, Bool.not_eq_true, decide_not, Bool.not_eq_true', decide_eq_false_iff_not, Bool.not_eq_false, Bool.or_eq_true, if_true, if_false, ite_self, la_it, la_len, la_sure, la_ltA, la_lt1, la_all1, la_ro, la_take, la_cl, la_tm, la_r, la_sl, rc_len, rc_sure, rc_ltA, rc_lt1, rc_all1, rc_ro, rc_take, rc_sl, la_set, rc_set, zcL_eq, zcR_eq, la_allA, la_len7, all_tt, natInt, u_nthM, h10', h10l, h10z]
    rw [← List.map_take]
    exact this
  · have h10' : ¬ (260 : Int) < (l.length : Int) := by omega
    rw [List.take_of_length_le (by omega)]
    have := main l (by omega) hs
    simp (config := {maxSteps := 4000000, implicitDefEqProofs := false}) (disch := omega) only [go_sem, ↓reduceIte, Nat.reduceAdd, Nat.reduceSub, Nat.reduceMul, Nat.reduceLeDiff, Nat.reduceLT, Int.reduceEq, Int.reduceNe, Int.reduceLT, Int.reduceLE, Int.reduceAdd, Int.reduceSub, Int.reduceMul, Int.reduceNeg, Nat.zero_add, Nat.add_zero, Nat.mul_one, Int.toNat_natCast, Int.natCast_zero, Int.cast_ofNat_Int, or_false, false_or, or_true, true_or, Int.reduceToNat, Nat.sub_zero, Int.natCast_nonneg, Int.toNat_zero, Bool.true_and, Bool.and_true, Bool.false_and, Bool.and_false, Bool.true_or, Bool.or_true, Bool.false_or, Bool.or_false, Bool.not_true, Bool.not_false, Bool.not_not, true_and, and_true, false_and, and_false, not_true_eq_false, not_false_eq_true, eq_self, decide_true, decide_false, ne_eq, implies_true, forall_const, true_implies, false_implies, Bool.true_eq_false, Bool.false_eq_true, reduceCtorEq, List.map_cons, List.map_nil, List.all_cons, List.all_nil, List.length_cons, List.length_nil, List.length_map, List.length_append, List.nil_append, List.cons_append, List.set_cons_zero, List.set_cons_succ, List.set_nil, List.drop_zero, List.drop_succ_cons, List.drop_nil, List.take_zero, List.take_succ_cons, List.take_nil, Option.map_some, Option.map_none, Option.isSome_some, Nat.reduceEqDiff, Nat.reduceBEq, Nat.reduceGT, List.all_append, List.all_map, Function.comp_def, decide_eq_true_eq, Bool.and_eq_true, beq_self_eq_true, or_self, and_self, ite_true, ite_false, Nat.le_refl, Bool.not_eq_true, decide_not, Bool.not_eq_true', decide_eq_false_iff_not, Bool.not_eq_false, Bool.or_eq_true, if_true, if_false, ite_self, h10']
    exact this
end Go.Proofs.Ytchncgdjefbmfaa

namespace Go.Proofs.Ytchncgdjefbmfaa
open Go.RowKit
set_option linter.unusedVariables false
set_option linter.unusedSimpArgs false
set_option maxRecDepth 20000
structure Tx where
  cl : Int
  tm : Int
  rd : AV
  wr : AV
  src : Bytes
  gas : Int
def tC (t : Tx) : List AV := [nA t.cl, nA t.tm, t.rd, t.wr, sA t.src, nA t.gas]
def tE (t : Tx) : AV := .agg (tC t)
def Tx.Ok (t : Tx) : Prop := (sure t.rd = true ∧ sure t.wr = true) ∧ (∀ n, lt1 n t.rd = true) ∧ (∀ n, lt1 n t.wr = true)
theorem te_it (t : Tx) : tE t = .agg (tC t) := _root_.id rfl
section
variable {R : Type} {t u : Tx} {n : Nat} {K1 : AV → Option R}
theorem tc_len : (tC t).length = 6 := _root_.id rfl
theorem tc_sure (h : t.Ok) : (tC t).all sure = true := by
  show (true && (true && (sure t.rd && (sure t.wr && (true && (true && true)))))) = true
  rw [h.1.1, h.1.2]; rfl
theorem tc_lt1 (h : t.Ok) : (tC t).all (lt1 n) = true := by
  show (true && (true && (lt1 n t.rd && (lt1 n t.wr && (true && (true && true)))))) = true
  rw [h.2.1 n, h.2.2 n]; rfl
theorem tc_ltA (h : t.Ok) : ltA n (.agg (tC t)) = true := tc_lt1 h
theorem tc_sl (h : t.Ok) : ((tC t).all fun y => sure y && lt1 n y) = true := by
  show (true && (true && ((sure t.rd && lt1 n t.rd) && ((sure t.wr && lt1 n t.wr) && (true && (true && true)))))) = true
  rw [h.2.1 n, h.2.2 n, h.1.1, h.1.2]; rfl
theorem tc_take : (tC t).take 6 = tC t := _root_.id rfl
theorem tc_cl : nthE (tC t) 0 K1 = K1 (nA t.cl) := _root_.id rfl
theorem tc_tm : nthE (tC t) 1 K1 = K1 (nA t.tm) := _root_.id rfl
theorem tc_set : setCells (tC u) 0 (tC t) = tC t := _root_.id rfl
def Tx.zero : Tx := ⟨0, 0, V (.slice none 0 0), V (.slice none 0 0), [], 0⟩
theorem zcT_eq : zc_api_Txn = tC Tx.zero := _root_.id rfl
def timeT (k : Int) : Tx := ⟨3, k, V (.slice none 0 0), V (.slice none 0 0), [], 0⟩
theorem tc_bT {k : Int} : buildE (some pl_api_Txn) (some (tC Tx.zero)) [(0, nA 3), (1, nA k)] K1 = K1 (.agg (tC (timeT k))) := _root_.id rfl
theorem timeT_ok {k : Int} : (timeT k).Ok := ⟨⟨rfl, rfl⟩, fun _ => rfl, fun _ => rfl⟩
end
theorem all_tE' {l : List Tx} {n : Nat} (h : ∀ t ∈ l, t.Ok) : (l.all fun t => ltA n (tE t)) = true := List.all_eq_true.2 fun t ht => tc_ltA (h t ht)
theorem times_s (m : Nat) (l : List Int) (hm : l.length < m) (hl : l.length ≤ 1000) : plenumlaw26_times m (SL (l.map fun k => nA k)) = some (SL ((l.map timeT).map tE), []) := by
  rw [plenumlaw26_times_eq]
  simp (config := {maxSteps := 4000000, implicitDefEqProofs := false}) (disch := omega) only [go_sem, ↓reduceIte, Nat.reduceAdd, Nat.reduceSub, Nat.reduceMul, Nat.reduceLeDiff, Nat.reduceLT, Int.reduceEq, Int.reduceNe, Int.reduceLT, Int.reduceLE, Int.reduceAdd, Int.reduceSub, Int.reduceMul, Int.reduceNeg, Nat.zero_add, Nat.add_zero, Nat.mul_one, Int.toNat_natCast, Int.natCast_zero, Int.cast_ofNat_Int, or_false, false_or, or_true, true_or, Int.reduceToNat, Nat.sub_zero, Int.natCast_nonneg, Int.toNat_zero, Bool.true_and, Bool.and_true, Bool.false_and, Bool.and_false, Bool.true_or, Bool.or_true, Bool.false_or, Bool.or_false, Bool.not_true, Bool.not_false, Bool.not_not, true_and, and_true, false_and, and_false, not_true_eq_false, not_false_eq_true, eq_self, decide_true, decide_false, ne_eq, implies_true, forall_const, true_implies, false_implies, Bool.true_eq_false, Bool.false_eq_true, reduceCtorEq, List.map_cons, List.map_nil, List.all_cons, List.all_nil, List.length_cons, List.length_nil, List.length_map, List.length_append, List.nil_append, List.cons_append, List.set_cons_zero, List.set_cons_succ, List.set_nil, List.drop_zero, List.drop_succ_cons, List.drop_nil, List.take_zero, List.take_succ_cons, List.take_nil, Option.map_some, Option.map_none, Option.isSome_some, Nat.reduceEqDiff, Nat.reduceBEq, Nat.reduceGT, List.all_append, List.all_map, Function.comp_def, decide_eq_true_eq, Bool.and_eq_true, beq_self_eq_true, or_self, and_self, ite_true, ite_false, Nat.le_refl, Bool.not_eq_true, decide_not, Bool.not_eq_true', decide_eq_false_iff_not, Bool.not_eq_false, Bool.or_eq_true, if_true, if_false, ite_self, hl]
  refine iter_go (ι := {k : Nat // k ≤ l.length}) (fun k => ⟨[⟨2, ty_api_Txn, 6, ((l.take k.1).map timeT).map tE⟩], [(0, SL (l.map fun k => nA k)), (3, OW 0 k.1), (4, nA k.1)]⟩) (fun k => l.length - k.1) (fun _ => some (SL ((l.map timeT).map tE), [])) ?_ ⟨0, Nat.zero_le _⟩ (by dsimp only; omega)
  rintro kx hkx ⟨k, hk⟩ kc hkc
  dsimp only at hkc ⊢
  rw [plenumlaw26_times_b1_eq]
  by_cases hlt : k < l.length
  · have hlt' : (k : Int) < (l.length : Int) := by omega
    have step := hkc ⟨k + 1, by omega⟩ (by dsimp only; omega)
    dsimp only at step
    rw [List.take_succ_eq_append_getElem hlt, List.map_append, List.map_append] at step
    have hkm : k + 1 ≤ 34359738368 := by omega
    have hq : ∀ {n : Nat}, ltA n (.agg (tC (timeT l[k]))) = true := tc_ltA timeT_ok
    have hq1 : ∀ {n : Nat}, (tC (timeT l[k])).all (lt1 n) = true := tc_lt1 timeT_ok
    have hq2 : (tC (timeT l[k])).all sure = true := tc_sure timeT_ok
    have hq3 : ∀ {n : Nat}, ((tC (timeT l[k])).all fun y => sure y && lt1 n y) = true := tc_sl timeT_ok
    have hq4 : ∀ {n : Nat}, (l.take k).all ((ltA n) ∘ tE ∘ timeT) = true := List.all_eq_true.2 fun t ht => tc_ltA timeT_ok
    have hq5 : ∀ {n : Nat}, ((l.take k).all fun x => ltA n (tE (timeT x))) = true := List.all_eq_true.2 fun t ht => tc_ltA timeT_ok
    simp (config := {maxSteps := 4000000, implicitDefEqProofs := false}) (disch := omega) only [go_sem, ↓reduceIte, Nat.reduceAdd, Nat.reduceSub, Nat.reduceMul, Nat.reduceLeDiff, Nat.reduceLT, Int.reduceEq, Int.reduceNe, Int.reduceLT, Int.reduceLE, Int.reduceAdd, Int.reduceSub, Int.reduceMul, Int.reduceNeg, Nat.zero_add, Nat.add_zero, Nat.mul_one, Int.toNat_natCast, Int.natCast_zero, Int.cast_ofNat_Int, or_false, false_or, or_true, true_or, Int.reduceToNat, Nat.sub_zero, Int.natCast_nonneg, Int.toNat_zero, Bool.true_and, Bool.and_true, Bool.false_and, Bool.and_false, Bool.true_or, Bool.or_true, Bool.false_or, Bool.or_false, Bool.not_true, Bool.not_false, Bool.not_not, true_and, and_true, false_and, and_false, not_true_eq_false, not_false_eq_true, eq_self, decide_true, decide_false, ne_eq, implies_true, forall_const, true_implies, false_implies, Bool.true_eq_false, Bool.false_eq_true, reduceCtorEq, List.map_cons, List.map_nil, List.all_cons, List.all_nil, List.length_cons, List.length_nil, List.length_map, List.length_append, List.nil_append, List.cons_append, List.set_cons_zero, List.set_cons_succ, List.set_nil, List.drop_zero, List.drop_succ_cons, List.drop_nil, List.take_zero, List.take_succ_cons, List.take_nil, Option.map_some, Option.map_none, Option.isSome_some, Nat.reduceEqDiff, Nat.reduceBEq, Nat.reduceGT, List.all_append, List.all_map, Function.comp_def, decide_eq_true_eq, Bool.and_eq_true, beq_self_eq_true, or_self, and_self, ite_true, ite_false, Nat.le_refl, Bool.not_eq_true, decide_not, Bool.not_eq_true', decide_eq_false_iff_not, Bool.not_eq_false, Bool.or_eq_true, if_true, if_false, ite_self, natInt, u_nthM, hlt', tc_len, zcT_eq, tc_bT, hq, hq1, hq2, hq3, hq5, w_i64, hkm, all_tt, List.length_take, Nat.min_eq_left]
    exact step
  · have hlt' : ¬ (k : Int) < (l.length : Int) := by omega
    have : k = l.length := by omega
    subst this
    have hq5 : ∀ {n : Nat}, (l.all fun x => ltA n (tE (timeT x))) = true := List.all_eq_true.2 fun t ht => tc_ltA timeT_ok
    simp (config := {maxSteps := 4000000, implicitDefEqProofs := false}) (disch := omega) only [go_sem, ↓reduceIte, Nat.reduceAdd, Nat.reduceSub, Nat.reduceMul, Nat.reduceLeDiff, Nat.reduceLT, Int.reduceEq, Int.reduceNe, Int.reduceLT, Int.reduceLE, Int.reduceAdd, Int.reduceSub, Int.reduceMul, Int.reduceNeg, Nat.zero_add, Nat.add_zero, Nat.mul_one, Int.toNat_natCast, Int.natCast_zero, Int.cast_ofNat_Int, or_false, false_or, or_true, true_or, Int.reduceToNat, Nat.sub_zero, Int.natCast_nonneg, Int.toNat_zero, Bool.true_and, Bool.and_true, Bool.false_and, Bool.and_false, Bool.true_or, Bool.or_true, Bool.false_or, Bool.or_false, Bool.not_true, Bool.not_false, Bool.not_not, true_and, and_true, false_and, and_false, not_true_eq_false, not_false_eq_true, eq_self, decide_true, decide_false, ne_eq, implies_true, forall_const, true_implies, false_implies, Bool.true_eq_false, Bool.false_eq_true, reduceCtorEq, List.map_cons, List.map_nil, List.all_cons, List.all_nil, List.length_cons, List.length_nil, List.length_map, List.length_append, List.nil_append, List.cons_append, List.set_cons_zero, List.set_cons_succ, List.set_nil, List.drop_zero, List.drop_succ_cons, List.drop_nil, List.take_zero, List.take_succ_cons, List.take_nil, Option.map_some, Option.map_none, Option.isSome_some, Nat.reduceEqDiff, Nat.reduceBEq, Nat.reduceGT, List.all_append, List.all_map, Function.comp_def, decide_eq_true_eq, Bool.and_eq_true, beq_self_eq_true, or_self, and_self, ite_true, ite_false, Nat.le_refl, Bool.not_eq_true, decide_not, Bool.not_eq_true', decide_eq_false_iff_not, Bool.not_eq_false, Bool.or_eq_true, if_true, if_false, ite_self, hlt', hkx, hq5, List.take_length, plenumlaw26_times_r1_eq]
def frG : List La → Nat → List Tx → List Tx × List Nat
  | _, _, [] => ([], [])
  | l, k, t :: r => if (noteA l t.cl t.tm Rs.zero).2 = 0 then (t :: (frG (noteA l t.cl t.tm Rs.zero).1 (k + 1) r).1, k :: (frG (noteA l t.cl t.tm Rs.zero).1 (k + 1) r).2) else frG l (k + 1) r
def freshA (l : List La) (b : List Tx) : List Tx × List Nat := if isL l = true then frG l 0 b else ([], [])
theorem note_ok {l : List La} {c t : Int} {r : Rs} (h : (noteA l c t r).2 = 0) : isL l = true ∧ could c t = true ∧ rB r = true ∧ (askA l c t).2 = 6 ∧ (noteA l c t r).1 = loL l c ++ ⟨c, t, r⟩ :: hiL l c := by
  have ha : (askA l c t).2 = 6 → isL l = true ∧ could c t = true := fun e => by
    unfold askA at e
    split at e
    · rename_i q; exact q
    · simp at e
  unfold noteA at h ⊢
  by_cases h6 : (askA l c t).2 = 6
  · rw [if_pos h6] at h ⊢
    by_cases hb : rB r = true
    · obtain ⟨q1, q2⟩ := ha h6
      rw [if_pos hb]
      exact ⟨q1, q2, hb, h6, putL_eq q1 c ⟨c, t, r⟩⟩
    · rw [if_neg hb] at h; simp at h
  · rw [if_neg h6] at h
    split at h
    · simp at h
    · split at h <;> simp at h
theorem mid_ok {l : List La} {c t : Int} {r : Rs} (hi : isL l = true) (hc : could c t = true) (hr : rB r = true) : isL (loL l c ++ ⟨c, t, r⟩ :: hiL l c) = true := by
  obtain ⟨h1, h2⟩ := isL_iff.1 hi
  refine isL_iff.2 ⟨fun x hx => ?_, ?_⟩
  · rcases List.mem_append.1 hx with q | q
    · exact h1 x ((List.mem_filter.1 q).1)
    · rcases List.mem_cons.1 q with rfl | q
      · exact ⟨hc, hr⟩
      · exact h1 x ((List.mem_filter.1 q).1)
  · rw [List.pairwise_append]
    refine ⟨h2.sublist List.filter_sublist, List.pairwise_cons.2 ⟨fun y hy => ?_, h2.sublist List.filter_sublist⟩, fun x hx y hy => ?_⟩
    · have := (List.mem_filter.1 hy).2
      simpa using this
    · have q1 : x.cl < c := by have := (List.mem_filter.1 hx).2; simpa using this
      rcases List.mem_cons.1 hy with rfl | hy
      · exact q1
      · have q2 : c < y.cl := by have := (List.mem_filter.1 hy).2; simpa using this
        omega
theorem note_isL {l : List La} {c t : Int} {r : Rs} (h : (noteA l c t r).2 = 0) : isL (noteA l c t r).1 = true := by
  obtain ⟨h1, h2, h3, _, h5⟩ := note_ok h
  rw [h5]
  exact mid_ok h1 h2 h3
theorem note_in {l : List La} {c t : Int} {r : Rs} (h : (noteA l c t r).2 = 0) (hl : ∀ x ∈ l, x.r.In) (hr : r.In) : ∀ x ∈ (noteA l c t r).1, x.r.In := by
  obtain ⟨_, _, _, _, h5⟩ := note_ok h
  rw [h5]
  intro x hx
  rcases List.mem_append.1 hx with q | q
  · exact hl x ((List.mem_filter.1 q).1)
  · rcases List.mem_cons.1 q with rfl | q
    · exact hr
    · exact hl x ((List.mem_filter.1 q).1)
theorem zero_in : Rs.zero.In := ⟨by show (-9223372036854775808 : Int) ≤ 0; omega, by show (0 : Int) < 9223372036854775808; omega⟩
def nLs (l : List Nat) : List AV := l.map fun (k : Nat) => nA (k : Int)
theorem nLs_len (l : List Nat) : (nLs l).length = l.length := by simp [nLs]
theorem nLs_ltA {l : List Nat} {n : Nat} : (nLs l).all (ltA n) = true := by unfold nLs; rw [List.all_map]; exact List.all_eq_true.2 fun _ _ => rfl
theorem nLs_app (l : List Nat) (k : Nat) : nLs (l ++ [k]) = nLs l ++ [nA (k : Int)] := by simp [nLs]
theorem fresh_s (m : Nat) (l : List La) (b : List Tx) (hm : 300 < m) (hlm : l.length < m) (hbm : b.length < m) (hl : l.length ≤ 34359738367) (hb : b.length ≤ 1000000) (h : ∀ x ∈ l, x.r.In) (ht : ∀ t ∈ b, t.Ok) : replies_Fresh m (lL l) (SL (b.map tE)) = some (TU [SL ((freshA l b).1.map tE), SL (nLs (freshA l b).2)], []) := by
  have hI := is_s m l hlm hl h
  rw [lL_def] at hI
  rw [replies_Fresh_eq, lL_def]
  unfold freshA
  cases hi : isL l with
  | false =>
    rw [hi] at hI
    simp (config := {maxSteps := 4000000, implicitDefEqProofs := false}) (disch := omega) only [go_sem, ↓reduceIte, Nat.reduceAdd, Nat.reduceSub, Nat.reduceMul, Nat.reduceLeDiff, Nat.reduceLT, Int.reduceEq, Int.reduceNe, Int.reduceLT, Int.reduceLE, Int.reduceAdd, Int.reduceSub, Int.reduceMul, Int.reduceNeg, Nat.zero_add, Nat.add_zero, Nat.mul_one, Int.toNat_natCast, Int.natCast_zero, Int.cast_ofNat_Int, or_false, false_or, or_true, true_or, Int.reduceToNat, Nat.sub_zero, Int.natCast_nonneg, Int.toNat_zero, Bool.true_and, Bool.and_true, Bool.false_and, Bool.and_false, Bool.true_or, Bool.or_true, Bool.false_or, Bool.or_false, Bool.not_true, Bool.not_false, Bool.not_not, true_and, and_true, false_and, and_false, not_true_eq_false, not_false_eq_true, eq_self, decide_true, decide_false, ne_eq, implies_true, forall_const, true_implies, false_implies, Bool.true_eq_false, Bool.false_eq_true, reduceCtorEq, List.map_cons, List.map_nil, List.all_cons, List.all_nil, List.length_cons, List.length_nil, List.length_map, List.length_append, List.nil_append, List.cons_append, List.set_cons_zero, List.set_cons_succ, List.set_nil, List.drop_zero, List.drop_succ_cons, List.drop_nil, List.take_zero, List.take_succ_cons, List.take_nil, Option.map_some, Option.map_none, Option.isSome_some, Nat.reduceEqDiff, Nat.reduceBEq, Nat.reduceGT, List.all_append, List.all_map, Function.comp_def, decide_eq_true_eq, Bool.and_eq_true, beq_self_eq_true, or_self, and_self, ite_true, ite_false, Nat.le_refl, Bool.not_eq_true, decide_not, Bool.not_eq_true', decide_eq_false_iff_not, Bool.not_eq_false, Bool.or_eq_true, if_true, if_false, ite_self, la_it, la_len, la_sure, la_ltA, la_lt1, la_all1, la_ro, la_take, la_cl, la_tm, la_r, la_sl, rc_len, rc_sure, rc_ltA, rc_lt1, rc_all1, rc_ro, rc_take, rc_sl, la_set, rc_set, zcL_eq, zcR_eq, la_allA, la_len7, all_tt, natInt, u_nthM, hI]
    rfl
  | true =>
    rw [hi] at hI
    rw [if_pos rfl]
    generalize hF : frG l 0 b = F
    obtain ⟨F1, F2⟩ := F
    simp (config := {maxSteps := 4000000, implicitDefEqProofs := false}) (disch := omega) only [go_sem, ↓reduceIte, Nat.reduceAdd, Nat.reduceSub, Nat.reduceMul, Nat.reduceLeDiff, Nat.reduceLT, Int.reduceEq, Int.reduceNe, Int.reduceLT, Int.reduceLE, Int.reduceAdd, Int.reduceSub, Int.reduceMul, Int.reduceNeg, Nat.zero_add, Nat.add_zero, Nat.mul_one, Int.toNat_natCast, Int.natCast_zero, Int.cast_ofNat_Int, or_false, false_or, or_true, true_or, Int.reduceToNat, Nat.sub_zero, Int.natCast_nonneg, Int.toNat_zero, Bool.true_and, Bool.and_true, Bool.false_and, Bool.and_false, Bool.true_or, Bool.or_true, Bool.false_or, Bool.or_false, Bool.not_true, Bool.not_false, Bool.not_not, true_and, and_true, false_and, and_false, not_true_eq_false, not_false_eq_true, eq_self, decide_true, decide_false, ne_eq, implies_true, forall_const, true_implies, false_implies, Bool.true_eq_false, Bool.false_eq_true, reduceCtorEq, List.map_cons, List.map_nil, List.all_cons, List.all_nil, List.length_cons, List.length_nil, List.length_map, List.length_append, List.nil_append, List.cons_append, List.set_cons_zero, List.set_cons_succ, List.set_nil, List.drop_zero, List.drop_succ_cons, List.drop_nil, List.take_zero, List.take_succ_cons, List.take_nil, Option.map_some, Option.map_none, Option.isSome_some, Nat.reduceEqDiff, Nat.reduceBEq, Nat.reduceGT, List.all_append, List.all_map, Function.comp_def, decide_eq_true_eq, Bool.and_eq_true, beq_self_eq_true, or_self, and_self, ite_true, ite_false, Nat.le_refl, Bool.not_eq_true, decide_not, Bool.not_eq_true', decide_eq_false_iff_not, Bool.not_eq_false, Bool.or_eq_true, if_true, if_false, ite_self, la_it, la_len, la_sure, la_ltA, la_lt1, la_all1, la_ro, la_take, la_cl, la_tm, la_r, la_sl, rc_len, rc_sure, rc_ltA, rc_lt1, rc_all1, rc_ro, rc_take, rc_sl, la_set, rc_set, zcL_eq, zcR_eq, la_allA, la_len7, all_tt, natInt, u_nthM, hI]
    refine iter_go (ι := {p : Nat × List La × List Tx × List Nat // p.1 ≤ b.length ∧ isL p.2.1 = true ∧ (∀ x ∈ p.2.1, x.r.In) ∧ p.2.2.1.length ≤ p.1 ∧ p.2.2.2.length ≤ p.1 ∧ (∀ t ∈ p.2.2.1, t.Ok) ∧ p.2.2.1 ++ (frG p.2.1 p.1 (b.drop p.1)).1 = F1 ∧ p.2.2.2 ++ (frG p.2.1 p.1 (b.drop p.1)).2 = F2})
      (fun p => ⟨[⟨2, ty_api_Txn, 6, p.1.2.2.1.map tE⟩, ⟨2, ty_int, 1, nLs p.1.2.2.2⟩], [(0, SL (p.1.2.1.map laE)), (6, OW 0 p.1.2.2.1.length), (7, OW 1 p.1.2.2.2.length), (15, SL (b.map tE)), (16, nA b.length), (17, nA p.1.1)]⟩) (fun p => b.length - p.1.1) (fun _ => some (TU [SL (F1.map tE), SL (nLs F2)], [])) ?_ ⟨(0, l, [], []), Nat.zero_le _, hi, h, Nat.zero_le _, Nat.zero_le _, fun t q => by simp at q, by rw [List.drop_zero, hF]; rfl, by rw [List.drop_zero, hF]; rfl⟩ (by dsimp only; omega)
    rintro kx hkx ⟨⟨k, cur, outs, pls⟩, hk, hci, hcin, ho, hp, hok, hq1, hq2⟩ kc hkc
    dsimp only at hkc hk hci hcin ho hp hok hq1 hq2 ⊢
    rw [replies_Fresh_b1_eq]
    have hcl := isL_len hci
    have a1 : ∀ {n : Nat}, (outs.all fun t => ltA n (tE t)) = true := all_tE' hok
    have a2 : ∀ {n : Nat}, (outs.all fun x => (tC x).all (lt1 n)) = true := all_tE' hok
    by_cases hlt : k < b.length
    · have hlt' : (k : Int) < (b.length : Int) := by omega
      have hN := note_s m cur b[k].cl b[k].tm Rs.zero hm (by omega) (by omega) hcin zero_in
      rw [lL_def, rA_def, lL_def] at hN
      have hT := ht _ (List.getElem_mem hlt)
      have b1 : ∀ {n : Nat}, ltA n (.agg (tC b[k])) = true := tc_ltA hT
      have b2 : ∀ {n : Nat}, (tC b[k]).all (lt1 n) = true := tc_lt1 hT
      have b3 : (tC b[k]).all sure = true := tc_sure hT
      have b4 : ∀ {n : Nat}, ((tC b[k]).all fun y => sure y && lt1 n y) = true := tc_sl hT
      have hol : outs.length + 1 ≤ 34359738368 := by omega
      have hpl : pls.length + 1 ≤ 34359738368 := by omega
      rw [List.drop_eq_getElem_cons hlt] at hq1 hq2
      unfold frG at hq1 hq2
      by_cases he : (noteA cur b[k].cl b[k].tm Rs.zero).2 = 0
      · rw [if_pos he] at hq1 hq2
        have step := hkc ⟨(k + 1, (noteA cur b[k].cl b[k].tm Rs.zero).1, outs ++ [b[k]], pls ++ [k]), by dsimp only; omega, note_isL he, note_in he hcin zero_in, by simp; omega, by simp; omega, by
          intro t q
          rcases List.mem_append.1 q with q | q
          · exact hok t q
          · rw [List.mem_singleton.1 q]; exact hT, by dsimp only; rw [List.append_assoc]; exact hq1, by dsimp only; rw [List.append_assoc]; exact hq2⟩ (by dsimp only; omega)
        dsimp only at step
        rw [nLs_app, List.map_append, List.length_append, List.length_append] at step
        generalize noteA cur b[k].cl b[k].tm Rs.zero = N at hN he step
        obtain ⟨N1, N2⟩ := N
        dsimp only at hN he step
        simp (config := {maxSteps := 4000000, implicitDefEqProofs := false}) (disch := omega) only [go_sem, ↓reduceIte, Nat.reduceAdd, Nat.reduceSub, Nat.reduceMul, Nat.reduceLeDiff, Nat.reduceLT, Int.reduceEq, Int.reduceNe, Int.reduceLT, Int.reduceLE, Int.reduceAdd, Int.reduceSub, Int.reduceMul, Int.reduceNeg, Nat.zero_add, Nat.add_zero, Nat.mul_one, Int.toNat_natCast, Int.natCast_zero, Int.cast_ofNat_Int, or_false, false_or, or_true, true_or, Int.reduceToNat, Nat.sub_zero, Int.natCast_nonneg, Int.toNat_zero, Bool.true_and, Bool.and_true, Bool.false_and, Bool.and_false, Bool.true_or, Bool.or_true, Bool.false_or, Bool.or_false, Bool.not_true, Bool.not_false, Bool.not_not, true_and, and_true, false_and, and_false, not_true_eq_false, not_false_eq_true, eq_self, decide_true, decide_false, ne_eq, implies_true, forall_const, true_implies, false_implies, Bool.true_eq_false, Bool.false_eq_true, reduceCtorEq, List.map_cons, List.map_nil, List.all_cons, List.all_nil, List.length_cons, List.length_nil, List.length_map, List.length_append, List.nil_append, List.cons_append, List.set_cons_zero, List.set_cons_succ, List.set_nil, List.drop_zero, List.drop_succ_cons, List.drop_nil, List.take_zero, List.take_succ_cons, List.take_nil, Option.map_some, Option.map_none, Option.isSome_some, Nat.reduceEqDiff, Nat.reduceBEq, Nat.reduceGT, List.all_append, List.all_map, Function.comp_def, decide_eq_true_eq, Bool.and_eq_true, beq_self_eq_true, or_self, and_self, ite_true, ite_false, Nat.le_refl, Bool.not_eq_true, decide_not, Bool.not_eq_true', decide_eq_false_iff_not, Bool.not_eq_false, Bool.or_eq_true, if_true, if_false, ite_self, la_it, la_len, la_sure, la_ltA, la_lt1, la_all1, la_ro, la_take, la_cl, la_tm, la_r, la_sl, rc_len, rc_sure, rc_ltA, rc_lt1, rc_all1, rc_ro, rc_take, rc_sl, la_set, rc_set, zcL_eq, zcR_eq, la_allA, la_len7, all_tt, natInt, u_nthM, te_it, tc_len, tc_take, tc_cl, tc_tm, tc_set, zcT_eq, rc_b0, hN, he, hlt', b1, b2, b3, b4, a1, a2, nLs_ltA, nLs_len, hol, hpl, w_i64, replies_Fresh_r2_eq]
        exact step
      · rw [if_neg he] at hq1 hq2
        have step := hkc ⟨(k + 1, cur, outs, pls), by dsimp only; omega, hci, hcin, by dsimp only; omega, by dsimp only; omega, hok, hq1, hq2⟩ (by dsimp only; omega)
        dsimp only at step
        generalize noteA cur b[k].cl b[k].tm Rs.zero = N at hN he
        obtain ⟨N1, N2⟩ := N
        dsimp only at hN he
        simp (config := {maxSteps := 4000000, implicitDefEqProofs := false}) (disch := omega) only [go_sem, ↓reduceIte, Nat.reduceAdd, Nat.reduceSub, Nat.reduceMul, Nat.reduceLeDiff, Nat.reduceLT, Int.reduceEq, Int.reduceNe, Int.reduceLT, Int.reduceLE, Int.reduceAdd, Int.reduceSub, Int.reduceMul, Int.reduceNeg, Nat.zero_add, Nat.add_zero, Nat.mul_one, Int.toNat_natCast, Int.natCast_zero, Int.cast_ofNat_Int, or_false, false_or, or_true, true_or, Int.reduceToNat, Nat.sub_zero, Int.natCast_nonneg, Int.toNat_zero, Bool.true_and, Bool.and_true, Bool.false_and, Bool.and_false, Bool.true_or, Bool.or_true, Bool.false_or, Bool.or_false, Bool.not_true, Bool.not_false, Bool.not_not, true_and, and_true, false_and, and_false, not_true_eq_false, not_false_eq_true, eq_self, decide_true, decide_false, ne_eq, implies_true, forall_const, true_implies, false_implies, Bool.true_eq_false, Bool.false_eq_true, reduceCtorEq, List.map_cons, List.map_nil, List.all_cons, List.all_nil, List.length_cons, List.length_nil, List.length_map, List.length_append, List.nil_append, List.cons_append, List.set_cons_zero, List.set_cons_succ, List.set_nil, List.drop_zero, List.drop_succ_cons, List.drop_nil, List.take_zero, List.take_succ_cons, List.take_nil, Option.map_some, Option.map_none, Option.isSome_some, Nat.reduceEqDiff, Nat.reduceBEq, Nat.reduceGT, List.all_append, List.all_map, Function.comp_def, decide_eq_true_eq, Bool.and_eq_true, beq_self_eq_true, or_self, and_self, ite_true, ite_false, Nat.le_refl, Bool.not_eq_true, decide_not, Bool.not_eq_true', decide_eq_false_iff_not, Bool.not_eq_false, Bool.or_eq_true, if_true, if_false, ite_self, la_it, la_len, la_sure, la_ltA, la_lt1, la_all1, la_ro, la_take, la_cl, la_tm, la_r, la_sl, rc_len, rc_sure, rc_ltA, rc_lt1, rc_all1, rc_ro, rc_take, rc_sl, la_set, rc_set, zcL_eq, zcR_eq, la_allA, la_len7, all_tt, natInt, u_nthM, te_it, tc_len, tc_take, tc_cl, tc_tm, tc_set, zcT_eq, rc_b0, hN, he, hlt', b1, b2, b3, b4, a1, a2, nLs_ltA, nLs_len, w_i64, replies_Fresh_r2_eq]
        exact step
    · have hlt' : ¬ (k : Int) < (b.length : Int) := by omega
      rw [List.drop_of_length_le (by omega)] at hq1 hq2
      unfold frG at hq1 hq2
      rw [List.append_nil] at hq1 hq2
      subst hq1 hq2
      simp (config := {maxSteps := 4000000, implicitDefEqProofs := false}) (disch := omega) only [go_sem, ↓reduceIte, Nat.reduceAdd, Nat.reduceSub, Nat.reduceMul, Nat.reduceLeDiff, Nat.reduceLT, Int.reduceEq, Int.reduceNe, Int.reduceLT, Int.reduceLE, Int.reduceAdd, Int.reduceSub, Int.reduceMul, Int.reduceNeg, Nat.zero_add, Nat.add_zero, Nat.mul_one, Int.toNat_natCast, Int.natCast_zero, Int.cast_ofNat_Int, or_false, false_or, or_true, true_or, Int.reduceToNat, Nat.sub_zero, Int.natCast_nonneg, Int.toNat_zero, Bool.true_and, Bool.and_true, Bool.false_and, Bool.and_false, Bool.true_or, Bool.or_true, Bool.false_or, Bool.or_false, Bool.not_true, Bool.not_false, Bool.not_not, true_and, and_true, false_and, and_false, not_true_eq_false, not_false_eq_true, eq_self, decide_true, decide_false, ne_eq, implies_true, forall_const, true_implies, false_implies, Bool.true_eq_false, Bool.false_eq_true, reduceCtorEq, List.map_cons, List.map_nil, List.all_cons, List.all_nil, List.length_cons, List.length_nil, List.length_map, List.length_append, List.nil_append, List.cons_append, List.set_cons_zero, List.set_cons_succ, List.set_nil, List.drop_zero, List.drop_succ_cons, List.drop_nil, List.take_zero, List.take_succ_cons, List.take_nil, Option.map_some, Option.map_none, Option.isSome_some, Nat.reduceEqDiff, Nat.reduceBEq, Nat.reduceGT, List.all_append, List.all_map, Function.comp_def, decide_eq_true_eq, Bool.and_eq_true, beq_self_eq_true, or_self, and_self, ite_true, ite_false, Nat.le_refl, Bool.not_eq_true, decide_not, Bool.not_eq_true', decide_eq_false_iff_not, Bool.not_eq_false, Bool.or_eq_true, if_true, if_false, ite_self, la_it, la_len, la_sure, la_ltA, la_lt1, la_all1, la_ro, la_take, la_cl, la_tm, la_r, la_sl, rc_len, rc_sure, rc_ltA, rc_lt1, rc_all1, rc_ro, rc_take, rc_sl, la_set, rc_set, zcL_eq, zcR_eq, la_allA, la_len7, all_tt, natInt, u_nthM, hkx, hlt', a1, a2, nLs_ltA, nLs_len, replies_Fresh_r2_eq, replies_Fresh_r1_eq]
def encLa (x : La) : Bytes := put x.cl.toNat ++ put x.tm.toNat ++ put (encRes x.r.code x.r.kind x.r.i x.r.s x.r.ver).length ++ encRes x.r.code x.r.kind x.r.i x.r.s x.r.ver
def encB (l : List La) : Bytes := put l.length ++ l.flatMap encLa
def bC (l : Bytes) : List AV := l.map fun b => V (cB b)
theorem bC_app (a b : Bytes) : bC (a ++ b) = bC a ++ bC b := List.map_append
theorem bC_len (a : Bytes) : (bC a).length = a.length := by simp [bC]
theorem bC_ltA {a : Bytes} {n : Nat} : (bC a).all (ltA n) = true := by unfold bC; rw [List.all_map]; exact List.all_eq_true.2 fun _ _ => rfl
theorem bC_one {a : Bytes} : allCE 1 (bC a) = true := by unfold allCE bC; rw [List.all_map]; exact List.all_eq_true.2 fun _ _ => rfl
theorem bC_one' {a : Bytes} : ((bC a).all fun d => decide ((cellsOf d).length = 1)) = true := bC_one
theorem encRes_len {r : Rs} (h : r.In) : (encRes r.code r.kind r.i r.s r.ver).length ≤ 200 := by
  unfold encRes
  split
  · rename_i hb
    have hb' := hb
    unfold resB at hb'
    simp only [Bool.and_eq_true, decide_eq_true_eq] at hb'
    have h1 := resLen h.1 h.2 hb'.1.1.2
    have h2 := put_len r.ver.toNat (by omega)
    rw [List.length_cons, List.length_append]
    omega
  · simp
theorem encLa_len {x : La} (h : could x.cl x.tm = true) (hr : x.r.In) : (encLa x).length ≤ 300 := by
  have h1 := could_cl h
  have h2 := put_len x.cl.toNat (by omega)
  have h3 := put_len x.tm.toNat (by omega)
  have h4 := encRes_len hr
  have h5 := put_len (encRes x.r.code x.r.kind x.r.i x.r.s x.r.ver).length (by omega)
  unfold encLa
  rw [List.length_append, List.length_append, List.length_append]
  omega
theorem flat_len : ∀ (l : List La), (∀ x ∈ l, could x.cl x.tm = true ∧ x.r.In) → (l.flatMap encLa).length ≤ 300 * l.length
  | [], _ => Nat.zero_le _
  | x :: r, h => by
    have := flat_len r fun y hy => h y (List.mem_cons_of_mem _ hy)
    have h2 := encLa_len (h x (List.mem_cons_self ..)).1 (h x (List.mem_cons_self ..)).2
    rw [List.flatMap_cons, List.length_append, List.length_cons]
    omega
theorem encode_s (m : Nat) (l : List La) (hlm : l.length < m) (hl : l.length ≤ 34359738367) (h : ∀ x ∈ l, x.r.In) : replies_Encode m (lL l) = some (SL (bC (if isL l = true then encB l else [])), []) := by
  have hI := is_s m l hlm hl h
  rw [lL_def] at hI
  rw [replies_Encode_eq, lL_def]
  cases hi : isL l with
  | false =>
    rw [hi] at hI
    simp (config := {maxSteps := 4000000, implicitDefEqProofs := false}) (disch := omega) only [go_sem, ↓reduceIte, Nat.reduceAdd, Nat.reduceSub, Nat.reduceMul, Nat.reduceLeDiff, Nat.reduceLT, Int.reduceEq, Int.reduceNe, Int.reduceLT, Int.reduceLE, Int.reduceAdd, Int.reduceSub, Int.reduceMul, Int.reduceNeg, Nat.zero_add, Nat.add_zero, Nat.mul_one, Int.toNat_natCast, Int.natCast_zero, Int.cast_ofNat_Int, or_false, false_or, or_true, true_or, Int.reduceToNat, Nat.sub_zero, Int.natCast_nonneg, Int.toNat_zero, Bool.true_and, Bool.and_true, Bool.false_and, Bool.and_false, Bool.true_or, Bool.or_true, Bool.false_or, Bool.or_false, Bool.not_true, Bool.not_false, Bool.not_not, true_and, and_true, false_and, and_false, not_true_eq_false, not_false_eq_true, eq_self, decide_true, decide_false, ne_eq, implies_true, forall_const, true_implies, false_implies, Bool.true_eq_false, Bool.false_eq_true, reduceCtorEq, List.map_cons, List.map_nil, List.all_cons, List.all_nil, List.length_cons, List.length_nil, List.length_map, List.length_append, List.nil_append, List.cons_append, List.set_cons_zero, List.set_cons_succ, List.set_nil, List.drop_zero, List.drop_succ_cons, List.drop_nil, List.take_zero, List.take_succ_cons, List.take_nil, Option.map_some, Option.map_none, Option.isSome_some, Nat.reduceEqDiff, Nat.reduceBEq, Nat.reduceGT, List.all_append, List.all_map, Function.comp_def, decide_eq_true_eq, Bool.and_eq_true, beq_self_eq_true, or_self, and_self, ite_true, ite_false, Nat.le_refl, Bool.not_eq_true, decide_not, Bool.not_eq_true', decide_eq_false_iff_not, Bool.not_eq_false, Bool.or_eq_true, if_true, if_false, ite_self, la_it, la_len, la_sure, la_ltA, la_lt1, la_all1, la_ro, la_take, la_cl, la_tm, la_r, la_sl, rc_len, rc_sure, rc_ltA, rc_lt1, rc_all1, rc_ro, rc_take, rc_sl, la_set, rc_set, zcL_eq, zcR_eq, la_allA, la_len7, all_tt, natInt, u_nthM, hI]
    rfl
  | true =>
    rw [hi] at hI
    rw [if_pos rfl]
    have h8 := isL_len hi
    have hall := (isL_iff.1 hi).1
    have hP : ∀ (n v : Nat), v < 18446744073709551616 → varint_Put_t m [V (.int .u64 v)] n = some (OW n (bC (put v)).length, [⟨2, ty_uint8, 1, bC (put v)⟩]) := fun n v hv => by rw [bC_len]; exact varint_Put_e m n v hv
    have hP0 : ∀ n, varint_Put_t m [V (.int .u64 (l.length : Int))] n = some (OW n (bC (put l.length)).length, [⟨2, ty_uint8, 1, bC (put l.length)⟩]) := fun n => hP n l.length (by omega)
    have hpl := put_len l.length (by omega)
    simp (config := {maxSteps := 4000000, implicitDefEqProofs := false}) (disch := omega) only [go_sem, ↓reduceIte, Nat.reduceAdd, Nat.reduceSub, Nat.reduceMul, Nat.reduceLeDiff, Nat.reduceLT, Int.reduceEq, Int.reduceNe, Int.reduceLT, Int.reduceLE, Int.reduceAdd, Int.reduceSub, Int.reduceMul, Int.reduceNeg, Nat.zero_add, Nat.add_zero, Nat.mul_one, Int.toNat_natCast, Int.natCast_zero, Int.cast_ofNat_Int, or_false, false_or, or_true, true_or, Int.reduceToNat, Nat.sub_zero, Int.natCast_nonneg, Int.toNat_zero, Bool.true_and, Bool.and_true, Bool.false_and, Bool.and_false, Bool.true_or, Bool.or_true, Bool.false_or, Bool.or_false, Bool.not_true, Bool.not_false, Bool.not_not, true_and, and_true, false_and, and_false, not_true_eq_false, not_false_eq_true, eq_self, decide_true, decide_false, ne_eq, implies_true, forall_const, true_implies, false_implies, Bool.true_eq_false, Bool.false_eq_true, reduceCtorEq, List.map_cons, List.map_nil, List.all_cons, List.all_nil, List.length_cons, List.length_nil, List.length_map, List.length_append, List.nil_append, List.cons_append, List.set_cons_zero, List.set_cons_succ, List.set_nil, List.drop_zero, List.drop_succ_cons, List.drop_nil, List.take_zero, List.take_succ_cons, List.take_nil, Option.map_some, Option.map_none, Option.isSome_some, Nat.reduceEqDiff, Nat.reduceBEq, Nat.reduceGT, List.all_append, List.all_map, Function.comp_def, decide_eq_true_eq, Bool.and_eq_true, beq_self_eq_true, or_self, and_self, ite_true, ite_false, Nat.le_refl, Bool.not_eq_true, decide_not, Bool.not_eq_true', decide_eq_false_iff_not, Bool.not_eq_false, Bool.or_eq_true, if_true, if_false, ite_self, la_it, la_len, la_sure, la_ltA, la_lt1, la_all1, la_ro, la_take, la_cl, la_tm, la_r, la_sl, rc_len, rc_sure, rc_ltA, rc_lt1, rc_all1, rc_ro, rc_take, rc_sl, la_set, rc_set, zcL_eq, zcR_eq, la_allA, la_len7, all_tt, natInt, u_nthM, hI, hP0, u_addS, w_u64, bC_len]
    have e0 : put l.length ++ (l.take 0).flatMap encLa = put l.length := by simp
    rw [← e0]
    refine iter_go (ι := {k : Nat // k ≤ l.length}) (fun k => ⟨[⟨2, ty_uint8, 1, bC (put l.length ++ (l.take k.1).flatMap encLa)⟩], [(3, OW 0 (put l.length ++ (l.take k.1).flatMap encLa).length), (14, SL (l.map laE)), (15, nA l.length), (16, nA k.1)]⟩) (fun k => l.length - k.1) (fun _ => some (SL (bC (encB l)), [])) ?_ ⟨0, Nat.zero_le _⟩ (by dsimp only; omega)
    rintro kx hkx ⟨k, hk⟩ kc hkc
    dsimp only at hkc ⊢
    rw [replies_Encode_b1_eq]
    have hpre : (put l.length ++ (l.take k).flatMap encLa).length ≤ 100000 := by
      have := flat_len (l.take k) fun x hx => ⟨(hall x (List.mem_of_mem_take hx)).1, h x (List.mem_of_mem_take hx)⟩
      rw [List.length_take] at this
      rw [List.length_append]
      have : min k l.length ≤ 256 := by omega
      omega
    by_cases hlt : k < l.length
    · have hlt' : (k : Int) < (l.length : Int) := by omega
      have hm1 := List.getElem_mem hlt
      have hE := enc_s m l[k].r (h _ hm1)
      have hc := could_cl (hall _ hm1).1
      have q1 : (0 : Int) ≤ l[k].cl := hc.1
      have q2 : l[k].cl ≤ 18446744073709551615 := by omega
      have q3 : (0 : Int) ≤ l[k].tm := by omega
      have q4 : l[k].tm ≤ 18446744073709551615 := by omega
      have hPc : ∀ n, varint_Put_t m [V (.int .u64 l[k].cl)] n = some (OW n (bC (put l[k].cl.toNat)).length, [⟨2, ty_uint8, 1, bC (put l[k].cl.toNat)⟩]) := fun n => by
        have := hP n l[k].cl.toNat (by omega)
        rwa [Int.toNat_of_nonneg q1] at this
      have hPt : ∀ n, varint_Put_t m [V (.int .u64 l[k].tm)] n = some (OW n (bC (put l[k].tm.toNat)).length, [⟨2, ty_uint8, 1, bC (put l[k].tm.toNat)⟩]) := fun n => by
        have := hP n l[k].tm.toNat (by omega)
        rwa [Int.toNat_of_nonneg q3] at this
      have hrl := encRes_len (h _ hm1)
      have hPr : ∀ n, varint_Put_t m [V (.int .u64 ((encRes l[k].r.code l[k].r.kind l[k].r.i l[k].r.s l[k].r.ver).length : Int))] n = some (OW n (bC (put (encRes l[k].r.code l[k].r.kind l[k].r.i l[k].r.s l[k].r.ver).length)).length, [⟨2, ty_uint8, 1, bC (put (encRes l[k].r.code l[k].r.kind l[k].r.i l[k].r.s l[k].r.ver).length)⟩]) := fun n => hP n _ (by omega)
      have l1 := put_len l[k].cl.toNat (by omega)
      have l2 := put_len l[k].tm.toNat (by omega)
      have l3 := put_len (encRes l[k].r.code l[k].r.kind l[k].r.i l[k].r.s l[k].r.ver).length (by omega)
      have hEl : ((encRes l[k].r.code l[k].r.kind l[k].r.i l[k].r.s l[k].r.ver).map fun b => V (cB b)) = bC (encRes l[k].r.code l[k].r.kind l[k].r.i l[k].r.s l[k].r.ver) := rfl
      rw [hEl] at hE
      have step := hkc ⟨k + 1, by omega⟩ (by dsimp only; omega)
      dsimp only at step
      rw [List.take_succ_eq_append_getElem hlt, List.flatMap_append, ← List.append_assoc] at step
      have e2 : [l[k]].flatMap encLa = encLa l[k] := by simp
      rw [e2] at step
      generalize put l.length ++ (l.take k).flatMap encLa = P at hpre step ⊢
      unfold encLa at step
      generalize encRes l[k].r.code l[k].r.kind l[k].r.i l[k].r.s l[k].r.ver = E at hE hrl hPr l3 step
      generalize put l[k].cl.toNat = A at hPc l1 step
      generalize put l[k].tm.toNat = B at hPt l2 step
      generalize put E.length = C at hPr l3 step
      have z1 : P.length + A.length ≤ 34359738368 := by omega
      have z2 : P.length + A.length + B.length ≤ 34359738368 := by omega
      have z3 : P.length + A.length + B.length + C.length ≤ 34359738368 := by omega
      have z4 : P.length + A.length + B.length + C.length + E.length ≤ 34359738368 := by omega
      simp only [bC_app, List.length_append, ← List.append_assoc, ← Nat.add_assoc] at step
      simp (config := {maxSteps := 4000000, implicitDefEqProofs := false}) (disch := omega) only [go_sem, ↓reduceIte, Nat.reduceAdd, Nat.reduceSub, Nat.reduceMul, Nat.reduceLeDiff, Nat.reduceLT, Int.reduceEq, Int.reduceNe, Int.reduceLT, Int.reduceLE, Int.reduceAdd, Int.reduceSub, Int.reduceMul, Int.reduceNeg, Nat.zero_add, Nat.add_zero, Nat.mul_one, Int.toNat_natCast, Int.natCast_zero, Int.cast_ofNat_Int, or_false, false_or, or_true, true_or, Int.reduceToNat, Nat.sub_zero, Int.natCast_nonneg, Int.toNat_zero, Bool.true_and, Bool.and_true, Bool.false_and, Bool.and_false, Bool.true_or, Bool.or_true, Bool.false_or, Bool.or_false, Bool.not_true, Bool.not_false, Bool.not_not, true_and, and_true, false_and, and_false, not_true_eq_false, not_false_eq_true, eq_self, decide_true, decide_false, ne_eq, implies_true, forall_const, true_implies, false_implies, Bool.true_eq_false, Bool.false_eq_true, reduceCtorEq, List.map_cons, List.map_nil, List.all_cons, List.all_nil, List.length_cons, List.length_nil, List.length_map, List.length_append, List.nil_append, List.cons_append, List.set_cons_zero, List.set_cons_succ, List.set_nil, List.drop_zero, List.drop_succ_cons, List.drop_nil, List.take_zero, List.take_succ_cons, List.take_nil, Option.map_some, Option.map_none, Option.isSome_some, Nat.reduceEqDiff, Nat.reduceBEq, Nat.reduceGT, List.all_append, List.all_map, Function.comp_def, decide_eq_true_eq, Bool.and_eq_true, beq_self_eq_true, or_self, and_self, ite_true, ite_false, Nat.le_refl, Bool.not_eq_true, decide_not, Bool.not_eq_true', decide_eq_false_iff_not, Bool.not_eq_false, Bool.or_eq_true, if_true, if_false, ite_self, la_it, la_len, la_sure, la_ltA, la_lt1, la_all1, la_ro, la_take, la_cl, la_tm, la_r, la_sl, rc_len, rc_sure, rc_ltA, rc_lt1, rc_all1, rc_ro, rc_take, rc_sl, la_set, rc_set, zcL_eq, zcR_eq, la_allA, la_len7, all_tt, natInt, u_nthM, hE, hPc, hPt, hPr, u_addS, w_u64, w_i64, bC_len, bC_ltA, bC_one', hlt', z1, z2, z3, z4]
      exact step
    · have hlt' : ¬ (k : Int) < (l.length : Int) := by omega
      have : k = l.length := by omega
      subst this
      rw [List.take_length] at hpre ⊢
      have hz : encB l = put l.length ++ l.flatMap encLa := rfl
      rw [hz]
      simp (config := {maxSteps := 4000000, implicitDefEqProofs := false}) (disch := omega) only [go_sem, ↓reduceIte, Nat.reduceAdd, Nat.reduceSub, Nat.reduceMul, Nat.reduceLeDiff, Nat.reduceLT, Int.reduceEq, Int.reduceNe, Int.reduceLT, Int.reduceLE, Int.reduceAdd, Int.reduceSub, Int.reduceMul, Int.reduceNeg, Nat.zero_add, Nat.add_zero, Nat.mul_one, Int.toNat_natCast, Int.natCast_zero, Int.cast_ofNat_Int, or_false, false_or, or_true, true_or, Int.reduceToNat, Nat.sub_zero, Int.natCast_nonneg, Int.toNat_zero, Bool.true_and, Bool.and_true, Bool.false_and, Bool.and_false, Bool.true_or, Bool.or_true, Bool.false_or, Bool.or_false, Bool.not_true, Bool.not_false, Bool.not_not, true_and, and_true, false_and, and_false, not_true_eq_false, not_false_eq_true, eq_self, decide_true, decide_false, ne_eq, implies_true, forall_const, true_implies, false_implies, Bool.true_eq_false, Bool.false_eq_true, reduceCtorEq, List.map_cons, List.map_nil, List.all_cons, List.all_nil, List.length_cons, List.length_nil, List.length_map, List.length_append, List.nil_append, List.cons_append, List.set_cons_zero, List.set_cons_succ, List.set_nil, List.drop_zero, List.drop_succ_cons, List.drop_nil, List.take_zero, List.take_succ_cons, List.take_nil, Option.map_some, Option.map_none, Option.isSome_some, Nat.reduceEqDiff, Nat.reduceBEq, Nat.reduceGT, List.all_append, List.all_map, Function.comp_def, decide_eq_true_eq, Bool.and_eq_true, beq_self_eq_true, or_self, and_self, ite_true, ite_false, Nat.le_refl, Bool.not_eq_true, decide_not, Bool.not_eq_true', decide_eq_false_iff_not, Bool.not_eq_false, Bool.or_eq_true, if_true, if_false, ite_self, la_it, la_len, la_sure, la_ltA, la_lt1, la_all1, la_ro, la_take, la_cl, la_tm, la_r, la_sl, rc_len, rc_sure, rc_ltA, rc_lt1, rc_all1, rc_ro, rc_take, rc_sl, la_set, rc_set, zcL_eq, zcR_eq, la_allA, la_len7, all_tt, natInt, u_nthM, hkx, hlt', bC_len, bC_ltA, replies_Encode_r1_eq]
end Go.Proofs.Ytchncgdjefbmfaa

namespace Go.Proofs.Ytchncgdjefbmfaa
open Go.RowKit
set_option linter.unusedVariables false
set_option linter.unusedSimpArgs false
set_option maxRecDepth 20000
theorem sameRs (x y : Rs) : sameKs [.int .i64 x.code, .int .i64 x.kind, .int .i64 x.i, .string ⟨x.s.toArray⟩, .int .i64 x.ver] [.int .i64 y.code, .int .i64 y.kind, .int .i64 y.i, .string ⟨y.s.toArray⟩, .int .i64 y.ver] = decide (x = y) := by
  obtain ⟨a3, a4, a5, a6, a7⟩ := x
  obtain ⟨b3, b4, b5, b6, b7⟩ := y
  rw [Bool.eq_iff_iff]
  show (decide (a3 = b3) && (decide (a4 = b4) && (decide (a5 = b5) && (decide (a6 = b6) && (decide (a7 = b7) && true))))) = true ↔ _
  simp
section
variable {R : Type} {isB sl : Bool} {x y : Rs} {K1 : AV → Option R}
theorem u_eqRs : binE (some [.i .i64, .i .i64, .i .i64, .s, .i .i64]) isB sl .eql (.agg (rC x)) (.agg (rC y)) K1 = K1 (bA (decide (x = y))) := by
  rw [← sameRs]; rfl
end
theorem u_bconv {R : Type} {K1 : AV → Option R} {isS so : Bool} {dk : Option IntKind} {l : Bytes} : convE isS dk so true (SL (bC l)) K1 = K1 (V (.string ⟨l.toArray⟩)) := by
  have h : bytesOf (bC l) = some l := bytesOf_map l
  show whenE true (match bytesOf (bC l) with | some l => K1 (V (.string ⟨l.toArray⟩)) | none => none) = _
  rw [h]
  exact whenE_t
theorem u_bs4 {R : Type} {t : TypeId} {a b c d : Int} {K1 : AV → Option R} : buildSE (some (t, 1)) 4 [(0, V (.int .i64 a)), (1, V (.int .i64 b)), (2, V (.int .i64 c)), (3, V (.int .i64 d))] K1 = K1 (SL [nA a, nA b, nA c, nA d]) := by
  simp [buildSE, whenE]
  rfl
def L9 : List La := [⟨3, 5, Rs.zero⟩]
theorem in_L9 : ∀ x ∈ L9, x.r.In := fun x hx => by rw [List.mem_singleton.1 hx]; exact zero_in
theorem ex_n : noteA [] 3 5 Rs.zero = (L9, 0) := by kernel_rfl
theorem ex_a1 : askA L9 3 5 = (Rs.zero, 0) := by kernel_rfl
theorem ex_a2 : askA L9 3 6 = (Rs.zero, 6) := by kernel_rfl
theorem ex_a3 : askA L9 3 4 = (Rs.zero, 18) := by kernel_rfl
theorem ex_f : freshA L9 ([5, 6, 6, 7].map timeT) = ([timeT 6, timeT 7], [1, 3]) := by kernel_rfl
theorem ex_e : (if isL L9 = true then encB L9 else []) = [1, 3, 5, 3, 0, 0, 0] := by kernel_rfl
theorem awake26_s (m : Nat) (hm : 300 < m) : plenumlaw26_awake m = some (bA true, []) := by
  have h1 := note_s m [] 3 5 Rs.zero hm (by simp; omega) (by simp) (fun x hx => absurd hx List.not_mem_nil) zero_in
  have h2 := ask_s m L9 3 5 hm (by show 1 < m; omega) (by show (1 : Nat) ≤ 34359738367; omega) in_L9
  have h3 := ask_s m L9 3 6 hm (by show 1 < m; omega) (by show (1 : Nat) ≤ 34359738367; omega) in_L9
  have h4 := ask_s m L9 3 4 hm (by show 1 < m; omega) (by show (1 : Nat) ≤ 34359738367; omega) in_L9
  have h5 := times_s m [5, 6, 6, 7] (by show 4 < m; omega) (by show (4 : Nat) ≤ 1000; omega)
  have h6 := fresh_s m L9 ([5, 6, 6, 7].map timeT) hm (by show 1 < m; omega) (by show 4 < m; omega) (by show (1 : Nat) ≤ 34359738367; omega) (by show (4 : Nat) ≤ 1000000; omega) in_L9 (fun t ht => by obtain ⟨k, _, rfl⟩ := List.mem_map.1 ht; exact timeT_ok)
  have h7 := encode_s m L9 (by show 1 < m; omega) (by show (1 : Nat) ≤ 34359738367; omega) in_L9
  rw [ex_n, lL_def, lL_def, rA_def] at h1
  rw [ex_a1, lL_def, rA_def] at h2
  rw [ex_a2, lL_def, rA_def] at h3
  rw [ex_a3, lL_def, rA_def] at h4
  rw [ex_f, lL_def] at h6
  rw [ex_e, lL_def] at h7
  simp only [List.map_nil] at h1
  have hlen : (L9.map laE).length = 1 := rfl
  have hts : ∀ {n : Nat}, (((([5, 6, 6, 7] : List Int).map timeT).map tE).all fun x => ltA n x) = true := fun {n} => rfl
  generalize hL : L9.map laE = es at h1 h2 h3 h4 h6 h7 hlen
  have hall : ∀ {n : Nat}, es.all (ltA n) = true := fun {n} => by rw [← hL]; exact all_laE
  generalize (([5, 6, 6, 7] : List Int).map timeT).map tE = ts at h5 h6 hts
  have h5' : plenumlaw26_times m (SL [nA 5, nA 6, nA 6, nA 7]) = some (SL ts, []) := h5
  rw [plenumlaw26_awake_eq]
  simp (config := {maxSteps := 4000000, implicitDefEqProofs := false}) (disch := omega) only [go_sem, ↓reduceIte, Nat.reduceAdd, Nat.reduceSub, Nat.reduceMul, Nat.reduceLeDiff, Nat.reduceLT, Int.reduceEq, Int.reduceNe, Int.reduceLT, Int.reduceLE, Int.reduceAdd, Int.reduceSub, Int.reduceMul, Int.reduceNeg, Nat.zero_add, Nat.add_zero, Nat.mul_one, Int.toNat_natCast, Int.natCast_zero, Int.cast_ofNat_Int, or_false, false_or, or_true, true_or, Int.reduceToNat, Nat.sub_zero, Int.natCast_nonneg, Int.toNat_zero, Bool.true_and, Bool.and_true, Bool.false_and, Bool.and_false, Bool.true_or, Bool.or_true, Bool.false_or, Bool.or_false, Bool.not_true, Bool.not_false, Bool.not_not, true_and, and_true, false_and, and_false, not_true_eq_false, not_false_eq_true, eq_self, decide_true, decide_false, ne_eq, implies_true, forall_const, true_implies, false_implies, Bool.true_eq_false, Bool.false_eq_true, reduceCtorEq, List.map_cons, List.map_nil, List.all_cons, List.all_nil, List.length_cons, List.length_nil, List.length_map, List.length_append, List.nil_append, List.cons_append, List.set_cons_zero, List.set_cons_succ, List.set_nil, List.drop_zero, List.drop_succ_cons, List.drop_nil, List.take_zero, List.take_succ_cons, List.take_nil, Option.map_some, Option.map_none, Option.isSome_some, Nat.reduceEqDiff, Nat.reduceBEq, Nat.reduceGT, List.all_append, List.all_map, Function.comp_def, decide_eq_true_eq, Bool.and_eq_true, beq_self_eq_true, or_self, and_self, ite_true, ite_false, Nat.le_refl, Bool.not_eq_true, decide_not, Bool.not_eq_true', decide_eq_false_iff_not, Bool.not_eq_false, Bool.or_eq_true, if_true, if_false, ite_self, la_it, la_len, la_sure, la_ltA, la_lt1, la_all1, la_ro, la_take, la_cl, la_tm, la_r, la_sl, rc_len, rc_sure, rc_ltA, rc_lt1, rc_all1, rc_ro, rc_take, rc_sl, la_set, rc_set, zcL_eq, zcR_eq, la_allA, la_len7, all_tt, natInt, u_nthM, rc_b0, h1, h2, h3, h4, h5', h6, h7, hlen, hall, hts, u_eqRs, u_bconv, u_bs4, nLs]
theorem checks_s26 (m : Nat) (l : List La) (c t : Int) (hm : 300 < m) (hl : l.length ≤ maxLen) (hs : ∀ x ∈ l, x.r.s.length ≤ maxLen) (h : ∀ x ∈ fewL l, x.r.In) : plenumlaw26_RepliesChecks m (lL l) (nA c) (nA t) = some (bA true, []) := by
  have hF := few_s m l (by omega) hl hs
  have h9 : (fewL l).length ≤ 260 := by unfold fewL; rw [List.length_map, List.length_take]; omega
  generalize fewL l = f at hF h h9
  have h1 := check_s m f (by omega) (by omega) h
  have h2 := rcheck_s m f (by omega) (by omega)
  have h3 := ask_s m f c t hm (by omega) (by omega) h
  have h4 := rask_s m f c t hm (by omega) (by omega)
  have hA := awake26_s m hm
  rw [lL_def, lL_def] at hF
  rw [lL_def] at h1 h2 h3 h4
  rw [rA_def] at h3 h4
  rw [plenumlaw26_RepliesChecks_eq, lL_def]
  simp (config := {maxSteps := 4000000, implicitDefEqProofs := false}) (disch := omega) only [go_sem, ↓reduceIte, Nat.reduceAdd, Nat.reduceSub, Nat.reduceMul, Nat.reduceLeDiff, Nat.reduceLT, Int.reduceEq, Int.reduceNe, Int.reduceLT, Int.reduceLE, Int.reduceAdd, Int.reduceSub, Int.reduceMul, Int.reduceNeg, Nat.zero_add, Nat.add_zero, Nat.mul_one, Int.toNat_natCast, Int.natCast_zero, Int.cast_ofNat_Int, or_false, false_or, or_true, true_or, Int.reduceToNat, Nat.sub_zero, Int.natCast_nonneg, Int.toNat_zero, Bool.true_and, Bool.and_true, Bool.false_and, Bool.and_false, Bool.true_or, Bool.or_true, Bool.false_or, Bool.or_false, Bool.not_true, Bool.not_false, Bool.not_not, true_and, and_true, false_and, and_false, not_true_eq_false, not_false_eq_true, eq_self, decide_true, decide_false, ne_eq, implies_true, forall_const, true_implies, false_implies, Bool.true_eq_false, Bool.false_eq_true, reduceCtorEq, List.map_cons, List.map_nil, List.all_cons, List.all_nil, List.length_cons, List.length_nil, List.length_map, List.length_append, List.nil_append, List.cons_append, List.set_cons_zero, List.set_cons_succ, List.set_nil, List.drop_zero, List.drop_succ_cons, List.drop_nil, List.take_zero, List.take_succ_cons, List.take_nil, Option.map_some, Option.map_none, Option.isSome_some, Nat.reduceEqDiff, Nat.reduceBEq, Nat.reduceGT, List.all_append, List.all_map, Function.comp_def, decide_eq_true_eq, Bool.and_eq_true, beq_self_eq_true, or_self, and_self, ite_true, ite_false, Nat.le_refl, Bool.not_eq_true, decide_not, Bool.not_eq_true', decide_eq_false_iff_not, Bool.not_eq_false, Bool.or_eq_true, if_true, if_false, ite_self, la_it, la_len, la_sure, la_ltA, la_lt1, la_all1, la_ro, la_take, la_cl, la_tm, la_r, la_sl, rc_len, rc_sure, rc_ltA, rc_lt1, rc_all1, rc_ro, rc_take, rc_sl, la_set, rc_set, zcL_eq, zcR_eq, la_allA, la_len7, all_tt, natInt, u_nthM, hF, h1, h2, h3, h4, hA, u_eqRs]
theorem la_b7 {R : Type} {K1 : AV → Option R} : buildE (some pl_api_Last) (some (laC La.zero)) [(0, V (.int .i64 (-7)))] K1 = K1 (.agg (laC ⟨-7, 0, Rs.zero⟩)) := _root_.id rfl
theorem u_bs0 {R : Type} {t : TypeId} {z : Nat} {K1 : AV → Option R} : buildSE (some (t, z)) 0 [] K1 = K1 ZV := by
  simp [buildSE, whenE]
  rfl
theorem noteA_len (l : List La) (c t : Int) (r : Rs) : (noteA l c t r).1.length ≤ 257 + l.length := by
  by_cases h : (noteA l c t r).2 = 0
  · obtain ⟨_, _, _, _, h5⟩ := note_ok h
    rw [h5, List.length_append, List.length_cons]
    have h1 : (loL l c).length ≤ l.length := List.length_filter_le ..
    have h2 := isL_len (note_isL h)
    rw [h5, List.length_append, List.length_cons] at h2
    omega
  · unfold noteA at h ⊢
    split
    · rename_i h6
      rw [if_pos h6] at h
      split
      · rename_i hb
        rw [if_pos hb] at h
        exact absurd rfl h
      · simp
    · split
      · simp
      · split <;> simp
theorem notes_s26 (m : Nat) (l : List La) (x : La) (hm : 1000 < m) (hl : l.length ≤ maxLen) (hs : ∀ x ∈ l, x.r.s.length ≤ maxLen) (hx : x.r.s.length ≤ maxLen) (h : ∀ x ∈ fewL l, x.r.In) (hxi : (fewN x).r.In) : plenumlaw26_RepliesNotes m (lL l) (laE x) = some (bA true, []) := by
  have hF := few_s m l (by omega) hl hs
  have hF1 := few_s m [x] (by omega) (by show 1 ≤ maxLen; unfold maxLen; omega) (fun y hy => by rw [List.mem_singleton.1 hy]; exact hx)
  have h9 : (fewL l).length ≤ 260 := by unfold fewL; rw [List.length_map, List.length_take]; omega
  generalize fewL l = f at hF h h9
  have hf1 : fewL [x] = [fewN x] := rfl
  rw [hf1] at hF1
  generalize fewN x = y at hF1 hxi
  have h1 := note_s m f y.cl y.tm y.r (by omega) (by omega) (by omega) h hxi
  have h2 := rnote_s m f y.cl y.tm y.r (by omega) (by omega) (by omega)
  have hnl := noteA_len f y.cl y.tm y.r
  generalize noteA f y.cl y.tm y.r = N at h1 h2 hnl
  obtain ⟨N1, N2⟩ := N
  dsimp only at h1 h2 hnl
  have h3 := same_s m N1 N1 (by omega) (by omega)
  have h4 := same_s m f f (by omega) (by omega)
  have hA := awake26_s m (by omega)
  rw [lL_def, lL_def] at hF hF1
  simp only [List.map_cons, List.map_nil, la_it] at hF1
  rw [lL_def, rA_def, lL_def] at h1 h2
  rw [lL_def, decide_eq_true rfl] at h3 h4
  have hfl : f.length + 1 ≤ 34359738368 := by omega
  have hfl0 : f.length ≤ 34359738368 := by omega
  have hfl' : f.length ≤ 34359738367 := by omega
  have hle : (f.length : Int) ≤ ((f.length + 1 : Nat) : Int) := by omega
  have hlt : (f.length : Int) < ((f.length + 1 : Nat) : Int) := by omega
  have htk : List.take f.length (f.map laE ++ [.agg (laC ⟨-7, 0, Rs.zero⟩)]) = f.map laE := List.take_left' (by rw [List.length_map])
  have hnt : ∀ {R : Type} {K1 : AV → Option R}, nthE (f.map laE ++ [.agg (laC ⟨-7, 0, Rs.zero⟩)]) f.length K1 = K1 (.agg (laC ⟨-7, 0, Rs.zero⟩)) := by
    intro R K1
    unfold nthE
    rw [List.getElem?_append_right (by rw [List.length_map]; exact Nat.le_refl _), List.length_map, Nat.sub_self]
    rfl
  rw [plenumlaw26_RepliesNotes_eq, lL_def, la_it]
  simp (config := {maxSteps := 4000000, implicitDefEqProofs := false}) (disch := omega) only [go_sem, ↓reduceIte, Nat.reduceAdd, Nat.reduceSub, Nat.reduceMul, Nat.reduceLeDiff, Nat.reduceLT, Int.reduceEq, Int.reduceNe, Int.reduceLT, Int.reduceLE, Int.reduceAdd, Int.reduceSub, Int.reduceMul, Int.reduceNeg, Nat.zero_add, Nat.add_zero, Nat.mul_one, Int.toNat_natCast, Int.natCast_zero, Int.cast_ofNat_Int, or_false, false_or, or_true, true_or, Int.reduceToNat, Nat.sub_zero, Int.natCast_nonneg, Int.toNat_zero, Bool.true_and, Bool.and_true, Bool.false_and, Bool.and_false, Bool.true_or, Bool.or_true, Bool.false_or, Bool.or_false, Bool.not_true, Bool.not_false, Bool.not_not, true_and, and_true, false_and, and_false, not_true_eq_false, not_false_eq_true, eq_self, decide_true, decide_false, ne_eq, implies_true, forall_const, true_implies, false_implies, Bool.true_eq_false, Bool.false_eq_true, reduceCtorEq, List.map_cons, List.map_nil, List.all_cons, List.all_nil, List.length_cons, List.length_nil, List.length_map, List.length_append, List.nil_append, List.cons_append, List.set_cons_zero, List.set_cons_succ, List.set_nil, List.drop_zero, List.drop_succ_cons, List.drop_nil, List.take_zero, List.take_succ_cons, List.take_nil, Option.map_some, Option.map_none, Option.isSome_some, Nat.reduceEqDiff, Nat.reduceBEq, Nat.reduceGT, List.all_append, List.all_map, Function.comp_def, decide_eq_true_eq, Bool.and_eq_true, beq_self_eq_true, or_self, and_self, ite_true, ite_false, Nat.le_refl, Bool.not_eq_true, decide_not, Bool.not_eq_true', decide_eq_false_iff_not, Bool.not_eq_false, Bool.or_eq_true, if_true, if_false, ite_self, la_it, la_len, la_sure, la_ltA, la_lt1, la_all1, la_ro, la_take, la_cl, la_tm, la_r, la_sl, rc_len, rc_sure, rc_ltA, rc_lt1, rc_all1, rc_ro, rc_take, rc_sl, la_set, rc_set, zcL_eq, zcR_eq, la_allA, la_len7, all_tt, natInt, u_nthM, hF, hF1, h1, h2, h3, h4, hA, la_b7, u_bs0, hfl, hfl0, hfl', hle, hlt, htk, hnt]
end Go.Proofs.Ytchncgdjefbmfaa

namespace Go.Proofs.Ytchncgdjefbmfaa
open Go.RowKit
set_option linter.unusedVariables false
set_option linter.unusedSimpArgs false
set_option maxRecDepth 100000
def La.Ok (x : La) : Prop := x.r.s.length ≤ maxLen ∧ x.r.In
theorem ofT_res {n : Nat} {ds : List AV} (h : ofT Try.prog n 32 ds) : ∃ r : Rs, ds = rC r ∧ (r.s.length ≤ maxLen ∧ r.In) := by
  obtain ⟨m, a1, b1, rfl, h1, a2, b2, rfl, h2, a3, b3, rfl, h3, rfl⟩ := ofT_struct Try.underlying32 h
  obtain ⟨c, rfl, _⟩ := ofT_i64 Try.underlying24 h1
  obtain ⟨m2, q1, p1, rfl, k1, q2, p2, rfl, k2, q3, p3, rfl, k3, rfl⟩ := ofT_struct Try.underlying30 h2
  obtain ⟨k, rfl, _⟩ := ofT_i64 Try.underlying3 k1
  obtain ⟨i, rfl, hi⟩ := ofT_i64 Try.underlying2 k2
  obtain ⟨s, rfl, hs⟩ := ofT_str Try.underlying9 k3
  obtain ⟨v, rfl, _⟩ := ofT_i64 Try.underlying3 h3
  exact ⟨⟨c, k, i, s, v⟩, rfl, hs, hi⟩
theorem ofT_last {n : Nat} {ds : List AV} (h : ofT Try.prog n 40 ds) : ∃ x : La, ds = laC x ∧ x.Ok := by
  obtain ⟨m, a1, b1, rfl, h1, a2, b2, rfl, h2, a3, b3, rfl, h3, rfl⟩ := ofT_struct Try.underlying40 h
  obtain ⟨c, rfl, _⟩ := ofT_i64 Try.underlying3 h1
  obtain ⟨t, rfl, _⟩ := ofT_i64 Try.underlying3 h2
  obtain ⟨r, rfl, hr⟩ := ofT_res h3
  exact ⟨⟨c, t, r⟩, by rw [List.append_nil]; rfl, hr⟩
theorem ofT_lasts {n : Nat} {ds : List AV} (h : ofT Try.prog n 22 ds) : ∃ l : List La, ds = [lL l] ∧ l.length ≤ maxLen ∧ ∀ x ∈ l, x.Ok := by
  obtain ⟨m, es, rfl, hl, he⟩ := ofT_slice Try.underlying22 h
  obtain ⟨l, rfl, hi⟩ := list_of (f := laE) (Q := La.Ok) fun x hx => by
    obtain ⟨q1, q2⟩ := he x hx
    obtain ⟨y, hy, hi⟩ := ofT_last q1
    exact ⟨y, by rw [cells_agg (q2.trans (by kernel_rfl)), hy]; rfl, hi⟩
  exact ⟨l, rfl, by simpa using hl, hi⟩
theorem arg_lasts {W : World} {v : Value} (h : Arg Try.prog W 22 v) : ∃ l : List La, (l.length ≤ maxLen ∧ ∀ x ∈ l, x.Ok) ∧ rep (SW W) [] (lL l) v := by
  obtain ⟨n, ds, h1, h2⟩ := h
  obtain ⟨t, rfl, ht⟩ := ofT_lasts h1
  rw [mk_lone (by kernel_rfl)] at h2
  exact ⟨t, ht, h2⟩
theorem arg_last {W : World} {v : Value} (h : Arg Try.prog W 40 v) : ∃ x : La, x.Ok ∧ rep (SW W) [] (laE x) v := by
  obtain ⟨n, ds, h1, h2⟩ := h
  obtain ⟨t, rfl, ht⟩ := ofT_last h1
  rw [mk_many (by kernel_rfl)] at h2
  exact ⟨t, ht, h2⟩
theorem few_in {l : List La} (h : ∀ x ∈ l, x.Ok) : ∀ x ∈ fewL l, x.r.In := by
  intro x hx
  unfold fewL at hx
  obtain ⟨y, hy, rfl⟩ := List.mem_map.1 hx
  exact (h y (List.mem_of_mem_take hy)).2
theorem walk_RepliesChecks (W : World) (v0 : Value) (h0 : Arg Try.prog W 22 v0) (v1 : Value) (h1 : Arg Try.prog W 3 v1) (v2 : Value) (h2 : Arg Try.prog W 3 v2) :
    Calls Try.prog 3 #[v0, v1, v2] W fun e W' => e = .returned (.bool true) ∧ Below W.heap.size W W' := by
  obtain ⟨l, ⟨hl, ht⟩, r0⟩ := arg_lasts h0
  obtain ⟨c, _, r1⟩ := arg_int h1
  obtain ⟨t, _, r2⟩ := arg_int h2
  exact run_tells (plenumlaw26_RepliesChecks_ok 16000001 [_, _, _] _ _ (checks_s26 _ l c t (by omega) hl (fun x hx => (ht x hx).1) (few_in ht))) gok_nil (vs := [v0, v1, v2]) rfl (reps3 r0 r1 r2)
theorem walk_RepliesNotes (W : World) (v0 : Value) (h0 : Arg Try.prog W 22 v0) (v1 : Value) (h1 : Arg Try.prog W 40 v1) :
    Calls Try.prog 4 #[v0, v1] W fun e W' => e = .returned (.bool true) ∧ Below W.heap.size W W' := by
  obtain ⟨l, ⟨hl, ht⟩, r0⟩ := arg_lasts h0
  obtain ⟨x, hx, r1⟩ := arg_last h1
  exact run_tells (plenumlaw26_RepliesNotes_ok 16000001 [_, _] _ _ (notes_s26 _ l x (by omega) hl (fun x hx => (ht x hx).1) hx.1 (few_in ht) hx.2)) gok_nil (vs := [v0, v1]) rfl (reps2 r0 r1)
end Go.Proofs.Ytchncgdjefbmfaa
