/-
  Texts laid together, part 6 of 6: laws of a walk over data, contracts of functions, each whole by itself.
-/
import Derived.Test.YtchncgdjefbmfaaMge
namespace Go.Proofs.Ytchncgdjefbmfaa
open Go.RowKit
set_option linter.unusedVariables false
set_option linter.unusedSimpArgs false
set_option maxRecDepth 20000
def rfG (l : List La) (b : List Tx) : Nat → Nat → List Nat → List Nat
  | 0, _, out => out
  | n + 1, i, out => rfG l b n (i + 1) (match b[i]? with | some t => if (askA l t.cl t.tm).2 = 6 ∧ nwB b out t i = true then out ++ [i] else out | none => out)
def Kept (l cur : List La) (b : List Tx) (out : List Nat) (i : Nat) : Prop := isL cur = true ∧ (∀ c t, (askA cur c t).2 = 6 ↔ (askA l c t).2 = 6 ∧ ∀ (k : Nat) (h : k < b.length), k ∈ out → b[k].cl = c → b[k].tm < t) ∧ ∀ k ∈ out, k < i
theorem zero_rB : rB Rs.zero = true := by kernel_rfl
theorem kept_new {l cur : List La} {b : List Tx} {out : List Nat} {i : Nat} (h : Kept l cur b out i) (hi : i < b.length) : (noteA cur b[i].cl b[i].tm Rs.zero).2 = 0 ↔ (askA l b[i].cl b[i].tm).2 = 6 ∧ nwB b out b[i] i = true := by
  rw [note_zero, h.2.1, nwB_iff (by omega)]
  constructor
  · rintro ⟨⟨h1, h2⟩, _⟩
    exact ⟨h1, fun k hk _ ho he => h2 k hk ho he⟩
  · rintro ⟨h1, h2⟩
    exact ⟨⟨h1, fun k hk ho he => h2 k hk (h.2.2 k ho) ho he⟩, zero_rB⟩
theorem kept_step {l cur : List La} {b : List Tx} {out : List Nat} {i : Nat} (h : Kept l cur b out i) (hi : i < b.length) (hn : (noteA cur b[i].cl b[i].tm Rs.zero).2 = 0) : Kept l (noteA cur b[i].cl b[i].tm Rs.zero).1 b (out ++ [i]) (i + 1) := by
  refine ⟨note_isL hn, fun c t => ?_, fun k hk => ?_⟩
  · rw [note_new hn, h.2.1]
    constructor
    · rintro ⟨⟨h1, h2⟩, h3⟩
      refine ⟨h1, fun k hk ho he => ?_⟩
      rcases List.mem_append.1 ho with q | q
      · exact h2 k hk q he
      · have : k = i := by simpa using q
        subst this
        exact h3 he.symm
    · rintro ⟨h1, h2⟩
      exact ⟨⟨h1, fun k hk ho he => h2 k hk (List.mem_append_left _ ho) he⟩, fun e => h2 i hi (List.mem_append_right _ (List.mem_singleton.2 rfl)) e.symm⟩
  · rcases List.mem_append.1 hk with q | q
    · have := h.2.2 k q; omega
    · have : k = i := by simpa using q
      omega
theorem kept_pass {l cur : List La} {b : List Tx} {out : List Nat} {i : Nat} (h : Kept l cur b out i) : Kept l cur b out (i + 1) := ⟨h.1, h.2.1, fun k hk => by have := h.2.2 k hk; omega⟩
theorem rf_fr {l : List La} {b : List Tx} : ∀ (n i : Nat) (cur : List La) (out : List Nat), i + n = b.length → Kept l cur b out i → rfG l b n i out = out ++ (frG cur i (b.drop i)).2
  | 0, i, cur, out, hn, h => by
    rw [List.drop_of_length_le (by omega)]
    simp [rfG, frG]
  | n + 1, i, cur, out, hn, h => by
    have hi : i < b.length := by omega
    unfold rfG
    rw [List.getElem?_eq_getElem hi, List.drop_eq_getElem_cons hi]
    dsimp only
    unfold frG
    by_cases hq : (noteA cur b[i].cl b[i].tm Rs.zero).2 = 0
    · rw [if_pos hq, if_pos ((kept_new h hi).1 hq), rf_fr n (i + 1) _ _ (by omega) (kept_step h hi hq)]
      simp
    · rw [if_neg hq, if_neg (fun q => hq ((kept_new h hi).2 q)), rf_fr n (i + 1) _ _ (by omega) (kept_pass h)]
theorem rf_fresh {l : List La} {b : List Tx} (hi : isL l = true) : rfG l b b.length 0 [] = (freshA l b).2 := by
  rw [rf_fr b.length 0 l [] (by omega) ⟨hi, fun c t => by simp, fun k hk => by cases hk⟩]
  unfold freshA
  rw [if_pos hi]
  rfl
theorem rfresh_s (m : Nat) (l : List La) (b : List Tx) (hm : 1000 < m) (hlm : l.length < m) (hbm : b.length < m) (hl : l.length ≤ 34359738367) (hb : b.length ≤ 1000000) : plenumref26_Fresh m (lL l) (SL (b.map tE)) = some (SL (nLs (freshA l b).2), []) := by
  have hI := ris_s m l hlm hl
  rw [lL_def] at hI
  rw [plenumref26_Fresh_eq, lL_def]
  simp (config := {maxSteps := 4000000, implicitDefEqProofs := false}) (disch := omega) only [go_sem, ↓reduceIte, Nat.reduceAdd, Nat.reduceSub, Nat.reduceMul, Nat.reduceLeDiff, Nat.reduceLT, Int.reduceEq, Int.reduceNe, Int.reduceLT, Int.reduceLE, Int.reduceAdd, Int.reduceSub, Int.reduceMul, Int.reduceNeg, Nat.zero_add, Nat.add_zero, Nat.mul_one, Int.toNat_natCast, Int.natCast_zero, Int.cast_ofNat_Int, or_false, false_or, or_true, true_or, Int.reduceToNat, Nat.sub_zero, Int.natCast_nonneg, Int.toNat_zero, Bool.true_and, Bool.and_true, Bool.false_and, Bool.and_false, Bool.true_or, Bool.or_true, Bool.false_or, Bool.or_false, Bool.not_true, Bool.not_false, Bool.not_not, true_and, and_true, false_and, and_false, not_true_eq_false, not_false_eq_true, eq_self, decide_true, decide_false, ne_eq, implies_true, forall_const, true_implies, false_implies, Bool.true_eq_false, Bool.false_eq_true, reduceCtorEq, List.map_cons, List.map_nil, List.all_cons, List.all_nil, List.length_cons, List.length_nil, List.length_map, List.length_append, List.nil_append, List.cons_append, List.set_cons_zero, List.set_cons_succ, List.set_nil, List.drop_zero, List.drop_succ_cons, List.drop_nil, List.take_zero, List.take_succ_cons, List.take_nil, Option.map_some, Option.map_none, Option.isSome_some, Nat.reduceEqDiff, Nat.reduceBEq, Nat.reduceGT, List.all_append, List.all_map, Function.comp_def, decide_eq_true_eq, Bool.and_eq_true, beq_self_eq_true, or_self, and_self, ite_true, ite_false, Nat.le_refl, Bool.not_eq_true, decide_not, Bool.not_eq_true', decide_eq_false_iff_not, Bool.not_eq_false, Bool.or_eq_true, if_true, if_false, ite_self, la_it, la_len, la_sure, la_ltA, la_lt1, la_all1, la_ro, la_take, la_cl, la_tm, la_r, la_sl, rc_len, rc_sure, rc_ltA, rc_lt1, rc_all1, rc_ro, rc_take, rc_sl, la_set, rc_set, zcL_eq, zcR_eq, la_allA, la_len7, all_tt, natInt, u_nthM]
  cases hi : isL l with
  | false =>
    rw [hi] at hI
    have he : freshA l b = ([], []) := by unfold freshA; rw [hi]; rfl
    rw [he]
    refine iter_go (ι := Unit) (fun _ => ⟨[⟨2, ty_int, 1, []⟩], [(0, SL (l.map laE)), (1, SL (b.map tE)), (5, OW 0 0), (6, nA 0)]⟩) (fun _ => 0) (fun _ => some (SL (nLs []), [])) ?_ () (by omega)
    rintro kx hkx _ kc hkc
    rw [plenumref26_Fresh_b1_eq]
    rcases Nat.eq_zero_or_pos b.length with h0 | h0
    · have hlt' : ¬ (0 : Int) < (b.length : Int) := by omega
      simp (config := {maxSteps := 4000000, implicitDefEqProofs := false}) (disch := omega) only [go_sem, ↓reduceIte, Nat.reduceAdd, Nat.reduceSub, Nat.reduceMul, Nat.reduceLeDiff, Nat.reduceLT, Int.reduceEq, Int.reduceNe, Int.reduceLT, Int.reduceLE, Int.reduceAdd, Int.reduceSub, Int.reduceMul, Int.reduceNeg, Nat.zero_add, Nat.add_zero, Nat.mul_one, Int.toNat_natCast, Int.natCast_zero, Int.cast_ofNat_Int, or_false, false_or, or_true, true_or, Int.reduceToNat, Nat.sub_zero, Int.natCast_nonneg, Int.toNat_zero, Bool.true_and, Bool.and_true, Bool.false_and, Bool.and_false, Bool.true_or, Bool.or_true, Bool.false_or, Bool.or_false, Bool.not_true, Bool.not_false, Bool.not_not, true_and, and_true, false_and, and_false, not_true_eq_false, not_false_eq_true, eq_self, decide_true, decide_false, ne_eq, implies_true, forall_const, true_implies, false_implies, Bool.true_eq_false, Bool.false_eq_true, reduceCtorEq, List.map_cons, List.map_nil, List.all_cons, List.all_nil, List.length_cons, List.length_nil, List.length_map, List.length_append, List.nil_append, List.cons_append, List.set_cons_zero, List.set_cons_succ, List.set_nil, List.drop_zero, List.drop_succ_cons, List.drop_nil, List.take_zero, List.take_succ_cons, List.take_nil, Option.map_some, Option.map_none, Option.isSome_some, Nat.reduceEqDiff, Nat.reduceBEq, Nat.reduceGT, List.all_append, List.all_map, Function.comp_def, decide_eq_true_eq, Bool.and_eq_true, beq_self_eq_true, or_self, and_self, ite_true, ite_false, Nat.le_refl, Bool.not_eq_true, decide_not, Bool.not_eq_true', decide_eq_false_iff_not, Bool.not_eq_false, Bool.or_eq_true, if_true, if_false, ite_self, la_it, la_len, la_sure, la_ltA, la_lt1, la_all1, la_ro, la_take, la_cl, la_tm, la_r, la_sl, rc_len, rc_sure, rc_ltA, rc_lt1, rc_all1, rc_ro, rc_take, rc_sl, la_set, rc_set, zcL_eq, zcR_eq, la_allA, la_len7, all_tt, natInt, u_nthM, hI, hlt', nLs_len, nLs_ltA, hkx, plenumref26_Fresh_r8_eq, plenumref26_Fresh_r7_eq, plenumref26_Fresh_r6_eq, plenumref26_Fresh_r5_eq, plenumref26_Fresh_r4_eq, plenumref26_Fresh_r3_eq, plenumref26_Fresh_r2_eq, plenumref26_Fresh_r1_eq]
      rfl
    · have hlt' : (0 : Int) < (b.length : Int) := by omega
      simp (config := {maxSteps := 4000000, implicitDefEqProofs := false}) (disch := omega) only [go_sem, ↓reduceIte, Nat.reduceAdd, Nat.reduceSub, Nat.reduceMul, Nat.reduceLeDiff, Nat.reduceLT, Int.reduceEq, Int.reduceNe, Int.reduceLT, Int.reduceLE, Int.reduceAdd, Int.reduceSub, Int.reduceMul, Int.reduceNeg, Nat.zero_add, Nat.add_zero, Nat.mul_one, Int.toNat_natCast, Int.natCast_zero, Int.cast_ofNat_Int, or_false, false_or, or_true, true_or, Int.reduceToNat, Nat.sub_zero, Int.natCast_nonneg, Int.toNat_zero, Bool.true_and, Bool.and_true, Bool.false_and, Bool.and_false, Bool.true_or, Bool.or_true, Bool.false_or, Bool.or_false, Bool.not_true, Bool.not_false, Bool.not_not, true_and, and_true, false_and, and_false, not_true_eq_false, not_false_eq_true, eq_self, decide_true, decide_false, ne_eq, implies_true, forall_const, true_implies, false_implies, Bool.true_eq_false, Bool.false_eq_true, reduceCtorEq, List.map_cons, List.map_nil, List.all_cons, List.all_nil, List.length_cons, List.length_nil, List.length_map, List.length_append, List.nil_append, List.cons_append, List.set_cons_zero, List.set_cons_succ, List.set_nil, List.drop_zero, List.drop_succ_cons, List.drop_nil, List.take_zero, List.take_succ_cons, List.take_nil, Option.map_some, Option.map_none, Option.isSome_some, Nat.reduceEqDiff, Nat.reduceBEq, Nat.reduceGT, List.all_append, List.all_map, Function.comp_def, decide_eq_true_eq, Bool.and_eq_true, beq_self_eq_true, or_self, and_self, ite_true, ite_false, Nat.le_refl, Bool.not_eq_true, decide_not, Bool.not_eq_true', decide_eq_false_iff_not, Bool.not_eq_false, Bool.or_eq_true, if_true, if_false, ite_self, la_it, la_len, la_sure, la_ltA, la_lt1, la_all1, la_ro, la_take, la_cl, la_tm, la_r, la_sl, rc_len, rc_sure, rc_ltA, rc_lt1, rc_all1, rc_ro, rc_take, rc_sl, la_set, rc_set, zcL_eq, zcR_eq, la_allA, la_len7, all_tt, natInt, u_nthM, hI, hlt', nLs_len, nLs_ltA, hkx, plenumref26_Fresh_r8_eq, plenumref26_Fresh_r7_eq, plenumref26_Fresh_r6_eq, plenumref26_Fresh_r5_eq, plenumref26_Fresh_r4_eq, plenumref26_Fresh_r3_eq, plenumref26_Fresh_r2_eq, plenumref26_Fresh_r1_eq]
      rfl
  | true =>
  rw [hi] at hI
  rw [← rf_fresh hi]
  generalize hF : rfG l b b.length 0 [] = F
  refine iter_go (ι := {p : Nat × List Nat // p.1 ≤ b.length ∧ p.2.length ≤ p.1 ∧ rfG l b (b.length - p.1) p.1 p.2 = F}) (fun p => ⟨[⟨2, ty_int, 1, nLs p.1.2⟩], [(0, SL (l.map laE)), (1, SL (b.map tE)), (5, OW 0 p.1.2.length), (6, nA p.1.1)]⟩) (fun p => b.length - p.1.1) (fun _ => some (SL (nLs F), [])) ?_ ⟨(0, []), Nat.zero_le _, Nat.zero_le _, hF⟩ (by dsimp only; omega)
  rintro kx hkx ⟨⟨i, out⟩, hi0, ho, hG⟩ kc hkc
  dsimp only at hkc hi0 ho hG ⊢
  rw [plenumref26_Fresh_b1_eq]
  by_cases hlt : i < b.length
  · have hlt' : (i : Int) < (b.length : Int) := by omega
    have hA := rask_s m l b[i].cl b[i].tm (by omega) hlm hl
    rw [lL_def, rA_def] at hA
    obtain ⟨n, hn⟩ : ∃ n, b.length - i = n + 1 := ⟨b.length - i - 1, by omega⟩
    have hn' : n = b.length - (i + 1) := by omega
    rw [hn] at hG
    unfold rfG at hG
    rw [List.getElem?_eq_getElem hlt, hn'] at hG
    dsimp only at hG
    generalize hQ : askA l b[i].cl b[i].tm = Q at hA hG
    obtain ⟨Q1, Q2⟩ := Q
    dsimp only at hA hG
    simp (config := {maxSteps := 4000000, implicitDefEqProofs := false}) (disch := omega) only [go_sem, ↓reduceIte, Nat.reduceAdd, Nat.reduceSub, Nat.reduceMul, Nat.reduceLeDiff, Nat.reduceLT, Int.reduceEq, Int.reduceNe, Int.reduceLT, Int.reduceLE, Int.reduceAdd, Int.reduceSub, Int.reduceMul, Int.reduceNeg, Nat.zero_add, Nat.add_zero, Nat.mul_one, Int.toNat_natCast, Int.natCast_zero, Int.cast_ofNat_Int, or_false, false_or, or_true, true_or, Int.reduceToNat, Nat.sub_zero, Int.natCast_nonneg, Int.toNat_zero, Bool.true_and, Bool.and_true, Bool.false_and, Bool.and_false, Bool.true_or, Bool.or_true, Bool.false_or, Bool.or_false, Bool.not_true, Bool.not_false, Bool.not_not, true_and, and_true, false_and, and_false, not_true_eq_false, not_false_eq_true, eq_self, decide_true, decide_false, ne_eq, implies_true, forall_const, true_implies, false_implies, Bool.true_eq_false, Bool.false_eq_true, reduceCtorEq, List.map_cons, List.map_nil, List.all_cons, List.all_nil, List.length_cons, List.length_nil, List.length_map, List.length_append, List.nil_append, List.cons_append, List.set_cons_zero, List.set_cons_succ, List.set_nil, List.drop_zero, List.drop_succ_cons, List.drop_nil, List.take_zero, List.take_succ_cons, List.take_nil, Option.map_some, Option.map_none, Option.isSome_some, Nat.reduceEqDiff, Nat.reduceBEq, Nat.reduceGT, List.all_append, List.all_map, Function.comp_def, decide_eq_true_eq, Bool.and_eq_true, beq_self_eq_true, or_self, and_self, ite_true, ite_false, Nat.le_refl, Bool.not_eq_true, decide_not, Bool.not_eq_true', decide_eq_false_iff_not, Bool.not_eq_false, Bool.or_eq_true, if_true, if_false, ite_self, la_it, la_len, la_sure, la_ltA, la_lt1, la_all1, la_ro, la_take, la_cl, la_tm, la_r, la_sl, rc_len, rc_sure, rc_ltA, rc_lt1, rc_all1, rc_ro, rc_take, rc_sl, la_set, rc_set, zcL_eq, zcR_eq, la_allA, la_len7, all_tt, natInt, u_nthM, hI, hlt', te_it, tc_len, tc_cl, tc_tm, hA, nLs_len, rA_def, plenumref26_Fresh_r2_eq, plenumref26_Fresh_r3_eq]
    have e0 : decide (Q2 = 6) = (decide (Q2 = 6) && nwB b out b[i] 0) := by unfold nwB; simp
    rw [e0]
    refine iter_go (ι := {k : Nat // k ≤ i}) (fun k => ⟨[⟨2, ty_int, 1, nLs out⟩, ⟨1, ty_api_Result, 0, rC Q1⟩], [(0, SL (l.map laE)), (1, SL (b.map tE)), (5, OW 0 out.length), (6, nA i), (9, bA (decide (Q2 = 6) && nwB b out b[i] k.1)), (10, nA k.1)]⟩) (fun k => i - k.1) (fun _ => some (SL (nLs F), [])) ?_ ⟨0, Nat.zero_le _⟩ (by dsimp only; omega)
    rintro kx2 hkx2 ⟨k, hk⟩ kc2 hkc2
    dsimp only at hkc2 ⊢
    rw [plenumref26_Fresh_b2_eq]
    by_cases hki : k < i
    · have hki' : (k : Int) < (i : Int) := by omega
      have hkb : k < b.length := by omega
      have hkb' : (k : Int) < (b.length : Int) := by omega
      have hH := has_s m out k (by omega) (by omega)
      have step := hkc2 ⟨k + 1, by omega⟩ (by dsimp only; omega)
      dsimp only at step
      rw [show nwB b out b[i] (k + 1) = (nwB b out b[i] k && !(match b[k]? with | some x => decide (x.cl = b[i].cl) && (decide (b[i].tm ≤ x.tm) && decide (k ∈ out)) | none => false)) from rfl, List.getElem?_eq_getElem hkb] at step
      dsimp only at step
      generalize nwB b out b[i] k = W at step ⊢
      by_cases c1 : b[k].cl = b[i].cl
      · by_cases c2 : b[i].tm ≤ b[k].tm
        · by_cases c3 : k ∈ out
          · simp only [c1, c2, c3, decide_true, Bool.true_and, Bool.and_self, Bool.not_true, Bool.and_false] at step
            simp (config := {maxSteps := 4000000, implicitDefEqProofs := false}) (disch := omega) only [go_sem, ↓reduceIte, Nat.reduceAdd, Nat.reduceSub, Nat.reduceMul, Nat.reduceLeDiff, Nat.reduceLT, Int.reduceEq, Int.reduceNe, Int.reduceLT, Int.reduceLE, Int.reduceAdd, Int.reduceSub, Int.reduceMul, Int.reduceNeg, Nat.zero_add, Nat.add_zero, Nat.mul_one, Int.toNat_natCast, Int.natCast_zero, Int.cast_ofNat_Int, or_false, false_or, or_true, true_or, Int.reduceToNat, Nat.sub_zero, Int.natCast_nonneg, Int.toNat_zero, Bool.true_and, Bool.and_true, Bool.false_and, Bool.and_false, Bool.true_or, Bool.or_true, Bool.false_or, Bool.or_false, Bool.not_true, Bool.not_false, Bool.not_not, true_and, and_true, false_and, and_false, not_true_eq_false, not_false_eq_true, eq_self, decide_true, decide_false, ne_eq, implies_true, forall_const, true_implies, false_implies, Bool.true_eq_false, Bool.false_eq_true, reduceCtorEq, List.map_cons, List.map_nil, List.all_cons, List.all_nil, List.length_cons, List.length_nil, List.length_map, List.length_append, List.nil_append, List.cons_append, List.set_cons_zero, List.set_cons_succ, List.set_nil, List.drop_zero, List.drop_succ_cons, List.drop_nil, List.take_zero, List.take_succ_cons, List.take_nil, Option.map_some, Option.map_none, Option.isSome_some, Nat.reduceEqDiff, Nat.reduceBEq, Nat.reduceGT, List.all_append, List.all_map, Function.comp_def, decide_eq_true_eq, Bool.and_eq_true, beq_self_eq_true, or_self, and_self, ite_true, ite_false, Nat.le_refl, Bool.not_eq_true, decide_not, Bool.not_eq_true', decide_eq_false_iff_not, Bool.not_eq_false, Bool.or_eq_true, if_true, if_false, ite_self, la_it, la_len, la_sure, la_ltA, la_lt1, la_all1, la_ro, la_take, la_cl, la_tm, la_r, la_sl, rc_len, rc_sure, rc_ltA, rc_lt1, rc_all1, rc_ro, rc_take, rc_sl, la_set, rc_set, zcL_eq, zcR_eq, la_allA, la_len7, all_tt, natInt, u_nthM, hki', hkb', hlt', te_it, tc_len, tc_cl, tc_tm, hH, c1, c2, c3, nLs_len, nLs_ltA, w_i64, plenumref26_Fresh_r6_eq, plenumref26_Fresh_r8_eq]
            exact step
          · simp only [c1, c2, c3, decide_true, decide_false, Bool.true_and, Bool.and_false, Bool.not_false, Bool.and_true] at step
            simp (config := {maxSteps := 4000000, implicitDefEqProofs := false}) (disch := omega) only [go_sem, ↓reduceIte, Nat.reduceAdd, Nat.reduceSub, Nat.reduceMul, Nat.reduceLeDiff, Nat.reduceLT, Int.reduceEq, Int.reduceNe, Int.reduceLT, Int.reduceLE, Int.reduceAdd, Int.reduceSub, Int.reduceMul, Int.reduceNeg, Nat.zero_add, Nat.add_zero, Nat.mul_one, Int.toNat_natCast, Int.natCast_zero, Int.cast_ofNat_Int, or_false, false_or, or_true, true_or, Int.reduceToNat, Nat.sub_zero, Int.natCast_nonneg, Int.toNat_zero, Bool.true_and, Bool.and_true, Bool.false_and, Bool.and_false, Bool.true_or, Bool.or_true, Bool.false_or, Bool.or_false, Bool.not_true, Bool.not_false, Bool.not_not, true_and, and_true, false_and, and_false, not_true_eq_false, not_false_eq_true, eq_self, decide_true, decide_false, ne_eq, implies_true, forall_const, true_implies, false_implies, Bool.true_eq_false, Bool.false_eq_true, reduceCtorEq, List.map_cons, List.map_nil, List.all_cons, List.all_nil, List.length_cons, List.length_nil, List.length_map, List.length_append, List.nil_append, List.cons_append, List.set_cons_zero, List.set_cons_succ, List.set_nil, List.drop_zero, List.drop_succ_cons, List.drop_nil, List.take_zero, List.take_succ_cons, List.take_nil, Option.map_some, Option.map_none, Option.isSome_some, Nat.reduceEqDiff, Nat.reduceBEq, Nat.reduceGT, List.all_append, List.all_map, Function.comp_def, decide_eq_true_eq, Bool.and_eq_true, beq_self_eq_true, or_self, and_self, ite_true, ite_false, Nat.le_refl, Bool.not_eq_true, decide_not, Bool.not_eq_true', decide_eq_false_iff_not, Bool.not_eq_false, Bool.or_eq_true, if_true, if_false, ite_self, la_it, la_len, la_sure, la_ltA, la_lt1, la_all1, la_ro, la_take, la_cl, la_tm, la_r, la_sl, rc_len, rc_sure, rc_ltA, rc_lt1, rc_all1, rc_ro, rc_take, rc_sl, la_set, rc_set, zcL_eq, zcR_eq, la_allA, la_len7, all_tt, natInt, u_nthM, hki', hkb', hlt', te_it, tc_len, tc_cl, tc_tm, hH, c1, c2, c3, nLs_len, nLs_ltA, w_i64, plenumref26_Fresh_r6_eq, plenumref26_Fresh_r8_eq]
            exact step
        · simp only [c1, c2, decide_true, decide_false, Bool.true_and, Bool.false_and, Bool.not_false, Bool.and_true] at step
          simp (config := {maxSteps := 4000000, implicitDefEqProofs := false}) (disch := omega) only [go_sem, ↓reduceIte, Nat.reduceAdd, Nat.reduceSub, Nat.reduceMul, Nat.reduceLeDiff, Nat.reduceLT, Int.reduceEq, Int.reduceNe, Int.reduceLT, Int.reduceLE, Int.reduceAdd, Int.reduceSub, Int.reduceMul, Int.reduceNeg, Nat.zero_add, Nat.add_zero, Nat.mul_one, Int.toNat_natCast, Int.natCast_zero, Int.cast_ofNat_Int, or_false, false_or, or_true, true_or, Int.reduceToNat, Nat.sub_zero, Int.natCast_nonneg, Int.toNat_zero, Bool.true_and, Bool.and_true, Bool.false_and, Bool.and_false, Bool.true_or, Bool.or_true, Bool.false_or, Bool.or_false, Bool.not_true, Bool.not_false, Bool.not_not, true_and, and_true, false_and, and_false, not_true_eq_false, not_false_eq_true, eq_self, decide_true, decide_false, ne_eq, implies_true, forall_const, true_implies, false_implies, Bool.true_eq_false, Bool.false_eq_true, reduceCtorEq, List.map_cons, List.map_nil, List.all_cons, List.all_nil, List.length_cons, List.length_nil, List.length_map, List.length_append, List.nil_append, List.cons_append, List.set_cons_zero, List.set_cons_succ, List.set_nil, List.drop_zero, List.drop_succ_cons, List.drop_nil, List.take_zero, List.take_succ_cons, List.take_nil, Option.map_some, Option.map_none, Option.isSome_some, Nat.reduceEqDiff, Nat.reduceBEq, Nat.reduceGT, List.all_append, List.all_map, Function.comp_def, decide_eq_true_eq, Bool.and_eq_true, beq_self_eq_true, or_self, and_self, ite_true, ite_false, Nat.le_refl, Bool.not_eq_true, decide_not, Bool.not_eq_true', decide_eq_false_iff_not, Bool.not_eq_false, Bool.or_eq_true, if_true, if_false, ite_self, la_it, la_len, la_sure, la_ltA, la_lt1, la_all1, la_ro, la_take, la_cl, la_tm, la_r, la_sl, rc_len, rc_sure, rc_ltA, rc_lt1, rc_all1, rc_ro, rc_take, rc_sl, la_set, rc_set, zcL_eq, zcR_eq, la_allA, la_len7, all_tt, natInt, u_nthM, hki', hkb', hlt', te_it, tc_len, tc_cl, tc_tm, hH, c1, c2, nLs_len, nLs_ltA, w_i64, plenumref26_Fresh_r6_eq, plenumref26_Fresh_r8_eq]
          exact step
      · simp only [c1, decide_false, Bool.false_and, Bool.not_false, Bool.and_true] at step
        simp (config := {maxSteps := 4000000, implicitDefEqProofs := false}) (disch := omega) only [go_sem, ↓reduceIte, Nat.reduceAdd, Nat.reduceSub, Nat.reduceMul, Nat.reduceLeDiff, Nat.reduceLT, Int.reduceEq, Int.reduceNe, Int.reduceLT, Int.reduceLE, Int.reduceAdd, Int.reduceSub, Int.reduceMul, Int.reduceNeg, Nat.zero_add, Nat.add_zero, Nat.mul_one, Int.toNat_natCast, Int.natCast_zero, Int.cast_ofNat_Int, or_false, false_or, or_true, true_or, Int.reduceToNat, Nat.sub_zero, Int.natCast_nonneg, Int.toNat_zero, Bool.true_and, Bool.and_true, Bool.false_and, Bool.and_false, Bool.true_or, Bool.or_true, Bool.false_or, Bool.or_false, Bool.not_true, Bool.not_false, Bool.not_not, true_and, and_true, false_and, and_false, not_true_eq_false, not_false_eq_true, eq_self, decide_true, decide_false, ne_eq, implies_true, forall_const, true_implies, false_implies, Bool.true_eq_false, Bool.false_eq_true, reduceCtorEq, List.map_cons, List.map_nil, List.all_cons, List.all_nil, List.length_cons, List.length_nil, List.length_map, List.length_append, List.nil_append, List.cons_append, List.set_cons_zero, List.set_cons_succ, List.set_nil, List.drop_zero, List.drop_succ_cons, List.drop_nil, List.take_zero, List.take_succ_cons, List.take_nil, Option.map_some, Option.map_none, Option.isSome_some, Nat.reduceEqDiff, Nat.reduceBEq, Nat.reduceGT, List.all_append, List.all_map, Function.comp_def, decide_eq_true_eq, Bool.and_eq_true, beq_self_eq_true, or_self, and_self, ite_true, ite_false, Nat.le_refl, Bool.not_eq_true, decide_not, Bool.not_eq_true', decide_eq_false_iff_not, Bool.not_eq_false, Bool.or_eq_true, if_true, if_false, ite_self, la_it, la_len, la_sure, la_ltA, la_lt1, la_all1, la_ro, la_take, la_cl, la_tm, la_r, la_sl, rc_len, rc_sure, rc_ltA, rc_lt1, rc_all1, rc_ro, rc_take, rc_sl, la_set, rc_set, zcL_eq, zcR_eq, la_allA, la_len7, all_tt, natInt, u_nthM, hki', hkb', hlt', te_it, tc_len, tc_cl, tc_tm, hH, c1, nLs_len, nLs_ltA, w_i64, plenumref26_Fresh_r6_eq, plenumref26_Fresh_r8_eq]
        exact step
    · have hki' : ¬ (k : Int) < (i : Int) := by omega
      have : k = i := by omega
      subst this
      have hol : out.length + 1 ≤ 34359738368 := by omega
      by_cases c : Q2 = 6 ∧ nwB b out b[k] k = true
      · have cd : (decide (Q2 = 6) && nwB b out b[k] k) = true := by simp [c.1, c.2]
        rw [if_pos c] at hG
        rw [cd]
        have step := hkc ⟨(k + 1, out ++ [k]), by dsimp only; omega, by simp; omega, hG⟩ (by dsimp only; omega)
        dsimp only at step
        rw [nLs_app, List.length_append] at step
        simp (config := {maxSteps := 4000000, implicitDefEqProofs := false}) (disch := omega) only [go_sem, ↓reduceIte, Nat.reduceAdd, Nat.reduceSub, Nat.reduceMul, Nat.reduceLeDiff, Nat.reduceLT, Int.reduceEq, Int.reduceNe, Int.reduceLT, Int.reduceLE, Int.reduceAdd, Int.reduceSub, Int.reduceMul, Int.reduceNeg, Nat.zero_add, Nat.add_zero, Nat.mul_one, Int.toNat_natCast, Int.natCast_zero, Int.cast_ofNat_Int, or_false, false_or, or_true, true_or, Int.reduceToNat, Nat.sub_zero, Int.natCast_nonneg, Int.toNat_zero, Bool.true_and, Bool.and_true, Bool.false_and, Bool.and_false, Bool.true_or, Bool.or_true, Bool.false_or, Bool.or_false, Bool.not_true, Bool.not_false, Bool.not_not, true_and, and_true, false_and, and_false, not_true_eq_false, not_false_eq_true, eq_self, decide_true, decide_false, ne_eq, implies_true, forall_const, true_implies, false_implies, Bool.true_eq_false, Bool.false_eq_true, reduceCtorEq, List.map_cons, List.map_nil, List.all_cons, List.all_nil, List.length_cons, List.length_nil, List.length_map, List.length_append, List.nil_append, List.cons_append, List.set_cons_zero, List.set_cons_succ, List.set_nil, List.drop_zero, List.drop_succ_cons, List.drop_nil, List.take_zero, List.take_succ_cons, List.take_nil, Option.map_some, Option.map_none, Option.isSome_some, Nat.reduceEqDiff, Nat.reduceBEq, Nat.reduceGT, List.all_append, List.all_map, Function.comp_def, decide_eq_true_eq, Bool.and_eq_true, beq_self_eq_true, or_self, and_self, ite_true, ite_false, Nat.le_refl, Bool.not_eq_true, decide_not, Bool.not_eq_true', decide_eq_false_iff_not, Bool.not_eq_false, Bool.or_eq_true, if_true, if_false, ite_self, la_it, la_len, la_sure, la_ltA, la_lt1, la_all1, la_ro, la_take, la_cl, la_tm, la_r, la_sl, rc_len, rc_sure, rc_ltA, rc_lt1, rc_all1, rc_ro, rc_take, rc_sl, la_set, rc_set, zcL_eq, zcR_eq, la_allA, la_len7, all_tt, natInt, u_nthM, hki', hlt', nLs_len, nLs_ltA, hkx2, hol, w_i64, plenumref26_Fresh_r4_eq, plenumref26_Fresh_r7_eq]
        exact step
      · have cd : (decide (Q2 = 6) && nwB b out b[k] k) = false := by
          simp only [Bool.and_eq_false_iff, decide_eq_false_iff_not]
          by_cases q : Q2 = 6
          · right
            cases hz : nwB b out b[k] k with
            | false => rfl
            | true => exact absurd ⟨q, hz⟩ c
          · exact .inl q
        rw [if_neg c] at hG
        rw [cd]
        have step := hkc ⟨(k + 1, out), by dsimp only; omega, by dsimp only; omega, hG⟩ (by dsimp only; omega)
        dsimp only at step
        simp (config := {maxSteps := 4000000, implicitDefEqProofs := false}) (disch := omega) only [go_sem, ↓reduceIte, Nat.reduceAdd, Nat.reduceSub, Nat.reduceMul, Nat.reduceLeDiff, Nat.reduceLT, Int.reduceEq, Int.reduceNe, Int.reduceLT, Int.reduceLE, Int.reduceAdd, Int.reduceSub, Int.reduceMul, Int.reduceNeg, Nat.zero_add, Nat.add_zero, Nat.mul_one, Int.toNat_natCast, Int.natCast_zero, Int.cast_ofNat_Int, or_false, false_or, or_true, true_or, Int.reduceToNat, Nat.sub_zero, Int.natCast_nonneg, Int.toNat_zero, Bool.true_and, Bool.and_true, Bool.false_and, Bool.and_false, Bool.true_or, Bool.or_true, Bool.false_or, Bool.or_false, Bool.not_true, Bool.not_false, Bool.not_not, true_and, and_true, false_and, and_false, not_true_eq_false, not_false_eq_true, eq_self, decide_true, decide_false, ne_eq, implies_true, forall_const, true_implies, false_implies, Bool.true_eq_false, Bool.false_eq_true, reduceCtorEq, List.map_cons, List.map_nil, List.all_cons, List.all_nil, List.length_cons, List.length_nil, List.length_map, List.length_append, List.nil_append, List.cons_append, List.set_cons_zero, List.set_cons_succ, List.set_nil, List.drop_zero, List.drop_succ_cons, List.drop_nil, List.take_zero, List.take_succ_cons, List.take_nil, Option.map_some, Option.map_none, Option.isSome_some, Nat.reduceEqDiff, Nat.reduceBEq, Nat.reduceGT, List.all_append, List.all_map, Function.comp_def, decide_eq_true_eq, Bool.and_eq_true, beq_self_eq_true, or_self, and_self, ite_true, ite_false, Nat.le_refl, Bool.not_eq_true, decide_not, Bool.not_eq_true', decide_eq_false_iff_not, Bool.not_eq_false, Bool.or_eq_true, if_true, if_false, ite_self, la_it, la_len, la_sure, la_ltA, la_lt1, la_all1, la_ro, la_take, la_cl, la_tm, la_r, la_sl, rc_len, rc_sure, rc_ltA, rc_lt1, rc_all1, rc_ro, rc_take, rc_sl, la_set, rc_set, zcL_eq, zcR_eq, la_allA, la_len7, all_tt, natInt, u_nthM, hki', hlt', nLs_len, nLs_ltA, hkx2, w_i64, plenumref26_Fresh_r4_eq, plenumref26_Fresh_r7_eq]
        exact step
  · have hlt' : ¬ (i : Int) < (b.length : Int) := by omega
    have : b.length - i = 0 := by omega
    rw [this] at hG
    have hG2 : out = F := hG
    subst hG2
    simp (config := {maxSteps := 4000000, implicitDefEqProofs := false}) (disch := omega) only [go_sem, ↓reduceIte, Nat.reduceAdd, Nat.reduceSub, Nat.reduceMul, Nat.reduceLeDiff, Nat.reduceLT, Int.reduceEq, Int.reduceNe, Int.reduceLT, Int.reduceLE, Int.reduceAdd, Int.reduceSub, Int.reduceMul, Int.reduceNeg, Nat.zero_add, Nat.add_zero, Nat.mul_one, Int.toNat_natCast, Int.natCast_zero, Int.cast_ofNat_Int, or_false, false_or, or_true, true_or, Int.reduceToNat, Nat.sub_zero, Int.natCast_nonneg, Int.toNat_zero, Bool.true_and, Bool.and_true, Bool.false_and, Bool.and_false, Bool.true_or, Bool.or_true, Bool.false_or, Bool.or_false, Bool.not_true, Bool.not_false, Bool.not_not, true_and, and_true, false_and, and_false, not_true_eq_false, not_false_eq_true, eq_self, decide_true, decide_false, ne_eq, implies_true, forall_const, true_implies, false_implies, Bool.true_eq_false, Bool.false_eq_true, reduceCtorEq, List.map_cons, List.map_nil, List.all_cons, List.all_nil, List.length_cons, List.length_nil, List.length_map, List.length_append, List.nil_append, List.cons_append, List.set_cons_zero, List.set_cons_succ, List.set_nil, List.drop_zero, List.drop_succ_cons, List.drop_nil, List.take_zero, List.take_succ_cons, List.take_nil, Option.map_some, Option.map_none, Option.isSome_some, Nat.reduceEqDiff, Nat.reduceBEq, Nat.reduceGT, List.all_append, List.all_map, Function.comp_def, decide_eq_true_eq, Bool.and_eq_true, beq_self_eq_true, or_self, and_self, ite_true, ite_false, Nat.le_refl, Bool.not_eq_true, decide_not, Bool.not_eq_true', decide_eq_false_iff_not, Bool.not_eq_false, Bool.or_eq_true, if_true, if_false, ite_self, la_it, la_len, la_sure, la_ltA, la_lt1, la_all1, la_ro, la_take, la_cl, la_tm, la_r, la_sl, rc_len, rc_sure, rc_ltA, rc_lt1, rc_all1, rc_ro, rc_take, rc_sl, la_set, rc_set, zcL_eq, zcR_eq, la_allA, la_len7, all_tt, natInt, u_nthM, hI, hlt', nLs_len, nLs_ltA, hkx, plenumref26_Fresh_r8_eq, plenumref26_Fresh_r7_eq, plenumref26_Fresh_r6_eq, plenumref26_Fresh_r5_eq, plenumref26_Fresh_r4_eq, plenumref26_Fresh_r3_eq, plenumref26_Fresh_r2_eq, plenumref26_Fresh_r1_eq]
theorem fr_map {b : List Tx} : ∀ (d : List Tx) (cur : List La) (i : Nat), d = b.drop i → (frG cur i d).1 = (frG cur i d).2.map (fun j => b.getD j Tx.zero) ∧ (∀ j ∈ (frG cur i d).2, j < b.length) ∧ (frG cur i d).2.length ≤ d.length
  | [], cur, i, h => ⟨rfl, (fun j hj => by cases hj), Nat.le_refl _⟩
  | t :: r, cur, i, h => by
    have hi : i < b.length := by
      rcases Nat.lt_or_ge i b.length with q | q
      · exact q
      · rw [List.drop_of_length_le q] at h; cases h
    rw [List.drop_eq_getElem_cons hi] at h
    injection h with h1 h2
    unfold frG
    by_cases hq : (noteA cur t.cl t.tm Rs.zero).2 = 0
    · obtain ⟨q1, q2, q3⟩ := fr_map r (noteA cur t.cl t.tm Rs.zero).1 (i + 1) h2
      rw [if_pos hq]
      refine ⟨?_, fun j hj => ?_, by simp; omega⟩
      · dsimp only
        rw [List.map_cons, ← q1, h1]
        simp [hi]
      · rcases List.mem_cons.1 hj with rfl | hj
        · exact hi
        · exact q2 j hj
    · obtain ⟨q1, q2, q3⟩ := fr_map r cur (i + 1) h2
      rw [if_neg hq]
      exact ⟨q1, q2, by simp; omega⟩
theorem fresh_map {l : List La} {b : List Tx} : (freshA l b).1 = (freshA l b).2.map (fun j => b.getD j Tx.zero) ∧ (∀ j ∈ (freshA l b).2, j < b.length) ∧ (freshA l b).2.length ≤ b.length := by
  unfold freshA
  split
  · exact fr_map b l 0 (by simp)
  · exact ⟨rfl, (fun j hj => by cases hj), Nat.zero_le _⟩
theorem tE_len6 {l : List Tx} : (l.all fun x => decide ((cellsOf (tE x)).length = 6)) = true := List.all_eq_true.2 fun _ _ => rfl
theorem rA_len5 {l : List Rs} : (l.all fun x => decide ((cellsOf (rA x)).length = 5)) = true := List.all_eq_true.2 fun _ _ => rfl
theorem all_len (l : List La) (b : List Tx) (r : List Rs) (h : l.length ≤ 260) : (allA l b r).1.length ≤ 260 := by
  unfold allA
  split
  · rename_i hc
    obtain ⟨hi, _⟩ := hc
    have main : ∀ (b : List Tx) (r : List Rs) (l : List La), isL l = true → (allG l b r).1.length ≤ 260 := by
      intro b
      induction b with
      | nil => intro r l hi; have := isL_len hi; unfold allG; dsimp only; omega
      | cons t b ih =>
        intro r l hi
        cases r with
        | nil => have := isL_len hi; unfold allG; dsimp only; omega
        | cons x r =>
          unfold allG
          by_cases hq : (noteA l t.cl t.tm x).2 = 0
          · rw [if_pos hq]; exact ih r _ (note_isL hq)
          · rw [if_neg hq]; simp
    exact main b r l hi
  · simp
theorem batches_s26 (m : Nat) (l : List La) (b : List Tx) (r : List Rs) (hm : 2000 < m) (hl : l.length ≤ maxLen) (hs : ∀ x ∈ l, x.r.s.length ≤ maxLen) (h : ∀ x ∈ fewL l, x.r.In) (ht : ∀ t ∈ b, t.Ok) (hr : ∀ x ∈ r, x.In) : plenumlaw26_RepliesBatches m (lL l) (SL (b.map tE)) (rL r) = some (bA true, []) := by
  have hF := few_s m l (by omega) hl hs
  have h9 : (fewL l).length ≤ 260 := by unfold fewL; rw [List.length_map, List.length_take]; omega
  generalize fewL l = f at hF h h9
  have hA := awake26_s m (by omega)
  have main : ∀ (b : List Tx) (r : List Rs), b.length ≤ 70 → r.length ≤ 70 → (∀ t ∈ b, t.Ok) → (∀ x ∈ r, x.In) → plenumlaw26_RepliesBatches_r2 m ⟨[], [(0, SL (f.map laE)), (1, SL (b.map tE)), (2, SL (r.map rA))]⟩ = some (bA true, []) := by
    intro b r hb hr' ht hr
    have h1 := fresh_s m f b (by omega) (by omega) (by omega) (by omega) (by omega) h ht
    have h2 := rfresh_s m f b (by omega) (by omega) (by omega) (by omega) (by omega)
    have h3 := all_s m f b r (by omega) (by omega) (by omega) (by omega) (by omega) h ht hr
    have h4 := rall_s m f b r (by omega) (by omega) (by omega) (by omega) (by omega)
    have h5 := all_len f b r h9
    generalize allA f b r = A at h3 h4 h5
    obtain ⟨A1, A2⟩ := A
    dsimp only at h3 h4 h5
    have h6 := same_s m A1 A1 (by omega) (by omega)
    obtain ⟨e1, e2, e3⟩ := fresh_map (l := f) (b := b)
    generalize freshA f b = F at h1 h2 e1 e2 e3
    obtain ⟨F1, F2⟩ := F
    dsimp only at h1 h2 e1 e2 e3
    have e4 : F1.length = F2.length := by rw [e1, List.length_map]
    have e5 : (F1.length : Int) = (F2.length : Int) := by omega
    rw [lL_def] at h1 h2
    rw [lL_def, rL_def, lL_def] at h3 h4
    rw [lL_def, decide_eq_true rfl] at h6
    rw [plenumlaw26_RepliesBatches_r2_eq]
    have e6 : ((F1.length : Int) = (F2.length : Int)) = True := by simp [e5]
    simp (config := {maxSteps := 4000000, implicitDefEqProofs := false}) (disch := omega) only [go_sem, ↓reduceIte, Nat.reduceAdd, Nat.reduceSub, Nat.reduceMul, Nat.reduceLeDiff, Nat.reduceLT, Int.reduceEq, Int.reduceNe, Int.reduceLT, Int.reduceLE, Int.reduceAdd, Int.reduceSub, Int.reduceMul, Int.reduceNeg, Nat.zero_add, Nat.add_zero, Nat.mul_one, Int.toNat_natCast, Int.natCast_zero, Int.cast_ofNat_Int, or_false, false_or, or_true, true_or, Int.reduceToNat, Nat.sub_zero, Int.natCast_nonneg, Int.toNat_zero, Bool.true_and, Bool.and_true, Bool.false_and, Bool.and_false, Bool.true_or, Bool.or_true, Bool.false_or, Bool.or_false, Bool.not_true, Bool.not_false, Bool.not_not, true_and, and_true, false_and, and_false, not_true_eq_false, not_false_eq_true, eq_self, decide_true, decide_false, ne_eq, implies_true, forall_const, true_implies, false_implies, Bool.true_eq_false, Bool.false_eq_true, reduceCtorEq, List.map_cons, List.map_nil, List.all_cons, List.all_nil, List.length_cons, List.length_nil, List.length_map, List.length_append, List.nil_append, List.cons_append, List.set_cons_zero, List.set_cons_succ, List.set_nil, List.drop_zero, List.drop_succ_cons, List.drop_nil, List.take_zero, List.take_succ_cons, List.take_nil, Option.map_some, Option.map_none, Option.isSome_some, Nat.reduceEqDiff, Nat.reduceBEq, Nat.reduceGT, List.all_append, List.all_map, Function.comp_def, decide_eq_true_eq, Bool.and_eq_true, beq_self_eq_true, or_self, and_self, ite_true, ite_false, Nat.le_refl, Bool.not_eq_true, decide_not, Bool.not_eq_true', decide_eq_false_iff_not, Bool.not_eq_false, Bool.or_eq_true, if_true, if_false, ite_self, la_it, la_len, la_sure, la_ltA, la_lt1, la_all1, la_ro, la_take, la_cl, la_tm, la_r, la_sl, rc_len, rc_sure, rc_ltA, rc_lt1, rc_all1, rc_ro, rc_take, rc_sl, la_set, rc_set, zcL_eq, zcR_eq, la_allA, la_len7, all_tt, natInt, u_nthM, h1, h2, e6, nLs_len, plenumlaw26_RepliesBatches_r3_eq, plenumlaw26_RepliesBatches_r4_eq]
    refine iter_go (ι := {k : Nat // k ≤ F2.length}) (fun k => ⟨[], [(0, SL (f.map laE)), (1, SL (b.map tE)), (2, SL (r.map rA)), (7, SL (F1.map tE)), (8, SL (nLs F2)), (9, SL (nLs F2)), (10, nA k.1)]⟩) (fun k => F2.length - k.1) (fun _ => some (bA true, [])) ?_ ⟨0, Nat.zero_le _⟩ (by dsimp only; omega)
    rintro kx hkx ⟨k, hk⟩ kc hkc
    dsimp only at hkc ⊢
    rw [plenumlaw26_RepliesBatches_b1_eq]
    by_cases hlt : k < F2.length
    · have hlt' : (k : Int) < (F2.length : Int) := by omega
      have hlt1 : k < F1.length := by omega
      have hlt1' : (k : Int) < (F1.length : Int) := by omega
      have hg : ∀ {R : Type} {K1 : AV → Option R}, nthE (nLs F2) k K1 = K1 (nA (F2[k] : Int)) := nLs_get hlt
      have hj := e2 _ (List.getElem_mem hlt)
      have hj' : ((F2[k] : Nat) : Int) < (b.length : Int) := by omega
      have hx : F1[k] = b[F2[k]] := by
        have : F1[k]? = some b[F2[k]] := by rw [e1, List.getElem?_map, List.getElem?_eq_getElem hlt]; simp [hj]
        rw [List.getElem?_eq_getElem hlt1] at this
        exact Option.some.inj this
      have step := hkc ⟨k + 1, by omega⟩ (by dsimp only; omega)
      dsimp only at step
      simp (config := {maxSteps := 4000000, implicitDefEqProofs := false}) (disch := omega) only [go_sem, ↓reduceIte, Nat.reduceAdd, Nat.reduceSub, Nat.reduceMul, Nat.reduceLeDiff, Nat.reduceLT, Int.reduceEq, Int.reduceNe, Int.reduceLT, Int.reduceLE, Int.reduceAdd, Int.reduceSub, Int.reduceMul, Int.reduceNeg, Nat.zero_add, Nat.add_zero, Nat.mul_one, Int.toNat_natCast, Int.natCast_zero, Int.cast_ofNat_Int, or_false, false_or, or_true, true_or, Int.reduceToNat, Nat.sub_zero, Int.natCast_nonneg, Int.toNat_zero, Bool.true_and, Bool.and_true, Bool.false_and, Bool.and_false, Bool.true_or, Bool.or_true, Bool.false_or, Bool.or_false, Bool.not_true, Bool.not_false, Bool.not_not, true_and, and_true, false_and, and_false, not_true_eq_false, not_false_eq_true, eq_self, decide_true, decide_false, ne_eq, implies_true, forall_const, true_implies, false_implies, Bool.true_eq_false, Bool.false_eq_true, reduceCtorEq, List.map_cons, List.map_nil, List.all_cons, List.all_nil, List.length_cons, List.length_nil, List.length_map, List.length_append, List.nil_append, List.cons_append, List.set_cons_zero, List.set_cons_succ, List.set_nil, List.drop_zero, List.drop_succ_cons, List.drop_nil, List.take_zero, List.take_succ_cons, List.take_nil, Option.map_some, Option.map_none, Option.isSome_some, Nat.reduceEqDiff, Nat.reduceBEq, Nat.reduceGT, List.all_append, List.all_map, Function.comp_def, decide_eq_true_eq, Bool.and_eq_true, beq_self_eq_true, or_self, and_self, ite_true, ite_false, Nat.le_refl, Bool.not_eq_true, decide_not, Bool.not_eq_true', decide_eq_false_iff_not, Bool.not_eq_false, Bool.or_eq_true, if_true, if_false, ite_self, la_it, la_len, la_sure, la_ltA, la_lt1, la_all1, la_ro, la_take, la_cl, la_tm, la_r, la_sl, rc_len, rc_sure, rc_ltA, rc_lt1, rc_all1, rc_ro, rc_take, rc_sl, la_set, rc_set, zcL_eq, zcR_eq, la_allA, la_len7, all_tt, natInt, u_nthM, hlt', hlt1', hg, hj', hx, te_it, tc_len, tc_cl, tc_tm, tc_src, nLs_len, w_i64, plenumlaw26_RepliesBatches_r6_eq, plenumlaw26_RepliesBatches_r7_eq]
      exact step
    · have hlt' : ¬ (k : Int) < (F2.length : Int) := by omega
      simp (config := {maxSteps := 4000000, implicitDefEqProofs := false}) (disch := omega) only [go_sem, ↓reduceIte, Nat.reduceAdd, Nat.reduceSub, Nat.reduceMul, Nat.reduceLeDiff, Nat.reduceLT, Int.reduceEq, Int.reduceNe, Int.reduceLT, Int.reduceLE, Int.reduceAdd, Int.reduceSub, Int.reduceMul, Int.reduceNeg, Nat.zero_add, Nat.add_zero, Nat.mul_one, Int.toNat_natCast, Int.natCast_zero, Int.cast_ofNat_Int, or_false, false_or, or_true, true_or, Int.reduceToNat, Nat.sub_zero, Int.natCast_nonneg, Int.toNat_zero, Bool.true_and, Bool.and_true, Bool.false_and, Bool.and_false, Bool.true_or, Bool.or_true, Bool.false_or, Bool.or_false, Bool.not_true, Bool.not_false, Bool.not_not, true_and, and_true, false_and, and_false, not_true_eq_false, not_false_eq_true, eq_self, decide_true, decide_false, ne_eq, implies_true, forall_const, true_implies, false_implies, Bool.true_eq_false, Bool.false_eq_true, reduceCtorEq, List.map_cons, List.map_nil, List.all_cons, List.all_nil, List.length_cons, List.length_nil, List.length_map, List.length_append, List.nil_append, List.cons_append, List.set_cons_zero, List.set_cons_succ, List.set_nil, List.drop_zero, List.drop_succ_cons, List.drop_nil, List.take_zero, List.take_succ_cons, List.take_nil, Option.map_some, Option.map_none, Option.isSome_some, Nat.reduceEqDiff, Nat.reduceBEq, Nat.reduceGT, List.all_append, List.all_map, Function.comp_def, decide_eq_true_eq, Bool.and_eq_true, beq_self_eq_true, or_self, and_self, ite_true, ite_false, Nat.le_refl, Bool.not_eq_true, decide_not, Bool.not_eq_true', decide_eq_false_iff_not, Bool.not_eq_false, Bool.or_eq_true, if_true, if_false, ite_self, la_it, la_len, la_sure, la_ltA, la_lt1, la_all1, la_ro, la_take, la_cl, la_tm, la_r, la_sl, rc_len, rc_sure, rc_ltA, rc_lt1, rc_all1, rc_ro, rc_take, rc_sl, la_set, rc_set, zcL_eq, zcR_eq, la_allA, la_len7, all_tt, natInt, u_nthM, hlt', hkx, h3, h4, h6, hA, nLs_len, plenumlaw26_RepliesBatches_r7_eq, plenumlaw26_RepliesBatches_r6_eq, plenumlaw26_RepliesBatches_r5_eq, plenumlaw26_RepliesBatches_r4_eq, plenumlaw26_RepliesBatches_r3_eq, plenumlaw26_RepliesBatches_r2_eq, plenumlaw26_RepliesBatches_r1_eq]
  rw [plenumlaw26_RepliesBatches_eq, lL_def, rL_def]
  rw [lL_def, lL_def] at hF
  have htk : ∀ t ∈ b.take 70, t.Ok := fun t q => ht t (List.mem_of_mem_take q)
  have hrk : ∀ x ∈ r.take 70, x.In := fun x q => hr x (List.mem_of_mem_take q)
  by_cases c1 : 70 < b.length
  · have c1' : (70 : Int) < (b.length : Int) := by omega
    have c3 : (70 : Int) ≤ (b.length : Int) := by omega
    by_cases c2 : 70 < r.length
    · have c2' : (70 : Int) < (r.length : Int) := by omega
      have c4 : (70 : Int) ≤ (r.length : Int) := by omega
      simp (config := {maxSteps := 4000000, implicitDefEqProofs := false}) (disch := omega) only [go_sem, ↓reduceIte, Nat.reduceAdd, Nat.reduceSub, Nat.reduceMul, Nat.reduceLeDiff, Nat.reduceLT, Int.reduceEq, Int.reduceNe, Int.reduceLT, Int.reduceLE, Int.reduceAdd, Int.reduceSub, Int.reduceMul, Int.reduceNeg, Nat.zero_add, Nat.add_zero, Nat.mul_one, Int.toNat_natCast, Int.natCast_zero, Int.cast_ofNat_Int, or_false, false_or, or_true, true_or, Int.reduceToNat, Nat.sub_zero, Int.natCast_nonneg, Int.toNat_zero, Bool.true_and, Bool.and_true, Bool.false_and, Bool.and_false, Bool.true_or, Bool.or_true, Bool.false_or, Bool.or_false, Bool.not_true, Bool.not_false, Bool.not_not, true_and, and_true, false_and, and_false, not_true_eq_false, not_false_eq_true, eq_self, decide_true, decide_false, ne_eq, implies_true, forall_const, true_implies, false_implies, Bool.true_eq_false, Bool.false_eq_true, reduceCtorEq, List.map_cons, List.map_nil, List.all_cons, List.all_nil, List.length_cons, List.length_nil, List.length_map, List.length_append, List.nil_append, List.cons_append, List.set_cons_zero, List.set_cons_succ, List.set_nil, List.drop_zero, List.drop_succ_cons, List.drop_nil, List.take_zero, List.take_succ_cons, List.take_nil, Option.map_some, Option.map_none, Option.isSome_some, Nat.reduceEqDiff, Nat.reduceBEq, Nat.reduceGT, List.all_append, List.all_map, Function.comp_def, decide_eq_true_eq, Bool.and_eq_true, beq_self_eq_true, or_self, and_self, ite_true, ite_false, Nat.le_refl, Bool.not_eq_true, decide_not, Bool.not_eq_true', decide_eq_false_iff_not, Bool.not_eq_false, Bool.or_eq_true, if_true, if_false, ite_self, la_it, la_len, la_sure, la_ltA, la_lt1, la_all1, la_ro, la_take, la_cl, la_tm, la_r, la_sl, rc_len, rc_sure, rc_ltA, rc_lt1, rc_all1, rc_ro, rc_take, rc_sl, la_set, rc_set, zcL_eq, zcR_eq, la_allA, la_len7, all_tt, natInt, u_nthM, hF, c1', c2', c3, c4, tE_len6, rA_len5, plenumlaw26_RepliesBatches_r1_eq]
      rw [← List.map_take, ← List.map_take]
      exact main _ _ (by rw [List.length_take]; omega) (by rw [List.length_take]; omega) htk hrk
    · have c2' : ¬ (70 : Int) < (r.length : Int) := by omega
      simp (config := {maxSteps := 4000000, implicitDefEqProofs := false}) (disch := omega) only [go_sem, ↓reduceIte, Nat.reduceAdd, Nat.reduceSub, Nat.reduceMul, Nat.reduceLeDiff, Nat.reduceLT, Int.reduceEq, Int.reduceNe, Int.reduceLT, Int.reduceLE, Int.reduceAdd, Int.reduceSub, Int.reduceMul, Int.reduceNeg, Nat.zero_add, Nat.add_zero, Nat.mul_one, Int.toNat_natCast, Int.natCast_zero, Int.cast_ofNat_Int, or_false, false_or, or_true, true_or, Int.reduceToNat, Nat.sub_zero, Int.natCast_nonneg, Int.toNat_zero, Bool.true_and, Bool.and_true, Bool.false_and, Bool.and_false, Bool.true_or, Bool.or_true, Bool.false_or, Bool.or_false, Bool.not_true, Bool.not_false, Bool.not_not, true_and, and_true, false_and, and_false, not_true_eq_false, not_false_eq_true, eq_self, decide_true, decide_false, ne_eq, implies_true, forall_const, true_implies, false_implies, Bool.true_eq_false, Bool.false_eq_true, reduceCtorEq, List.map_cons, List.map_nil, List.all_cons, List.all_nil, List.length_cons, List.length_nil, List.length_map, List.length_append, List.nil_append, List.cons_append, List.set_cons_zero, List.set_cons_succ, List.set_nil, List.drop_zero, List.drop_succ_cons, List.drop_nil, List.take_zero, List.take_succ_cons, List.take_nil, Option.map_some, Option.map_none, Option.isSome_some, Nat.reduceEqDiff, Nat.reduceBEq, Nat.reduceGT, List.all_append, List.all_map, Function.comp_def, decide_eq_true_eq, Bool.and_eq_true, beq_self_eq_true, or_self, and_self, ite_true, ite_false, Nat.le_refl, Bool.not_eq_true, decide_not, Bool.not_eq_true', decide_eq_false_iff_not, Bool.not_eq_false, Bool.or_eq_true, if_true, if_false, ite_self, la_it, la_len, la_sure, la_ltA, la_lt1, la_all1, la_ro, la_take, la_cl, la_tm, la_r, la_sl, rc_len, rc_sure, rc_ltA, rc_lt1, rc_all1, rc_ro, rc_take, rc_sl, la_set, rc_set, zcL_eq, zcR_eq, la_allA, la_len7, all_tt, natInt, u_nthM, hF, c1', c2', c3, tE_len6, plenumlaw26_RepliesBatches_r1_eq]
      rw [← List.map_take]
      exact main _ _ (by rw [List.length_take]; omega) (by omega) htk hr
  · have c1' : ¬ (70 : Int) < (b.length : Int) := by omega
    by_cases c2 : 70 < r.length
    · have c2' : (70 : Int) < (r.length : Int) := by omega
      have c4 : (70 : Int) ≤ (r.length : Int) := by omega
      simp (config := {maxSteps := 4000000, implicitDefEqProofs := false}) (disch := omega) only [go_sem, ↓reduceIte, Nat.reduceAdd, Nat.reduceSub, Nat.reduceMul, Nat.reduceLeDiff, Nat.reduceLT, Int.reduceEq, Int.reduceNe, Int.reduceLT, Int.reduceLE, Int.reduceAdd, Int.reduceSub, Int.reduceMul, Int.reduceNeg, Nat.zero_add, Nat.add_zero, Nat.mul_one, Int.toNat_natCast, Int.natCast_zero, Int.cast_ofNat_Int, or_false, false_or, or_true, true_or, Int.reduceToNat, Nat.sub_zero, Int.natCast_nonneg, Int.toNat_zero, Bool.true_and, Bool.and_true, Bool.false_and, Bool.and_false, Bool.true_or, Bool.or_true, Bool.false_or, Bool.or_false, Bool.not_true, Bool.not_false, Bool.not_not, true_and, and_true, false_and, and_false, not_true_eq_false, not_false_eq_true, eq_self, decide_true, decide_false, ne_eq, implies_true, forall_const, true_implies, false_implies, Bool.true_eq_false, Bool.false_eq_true, reduceCtorEq, List.map_cons, List.map_nil, List.all_cons, List.all_nil, List.length_cons, List.length_nil, List.length_map, List.length_append, List.nil_append, List.cons_append, List.set_cons_zero, List.set_cons_succ, List.set_nil, List.drop_zero, List.drop_succ_cons, List.drop_nil, List.take_zero, List.take_succ_cons, List.take_nil, Option.map_some, Option.map_none, Option.isSome_some, Nat.reduceEqDiff, Nat.reduceBEq, Nat.reduceGT, List.all_append, List.all_map, Function.comp_def, decide_eq_true_eq, Bool.and_eq_true, beq_self_eq_true, or_self, and_self, ite_true, ite_false, Nat.le_refl, Bool.not_eq_true, decide_not, Bool.not_eq_true', decide_eq_false_iff_not, Bool.not_eq_false, Bool.or_eq_true, if_true, if_false, ite_self, la_it, la_len, la_sure, la_ltA, la_lt1, la_all1, la_ro, la_take, la_cl, la_tm, la_r, la_sl, rc_len, rc_sure, rc_ltA, rc_lt1, rc_all1, rc_ro, rc_take, rc_sl, la_set, rc_set, zcL_eq, zcR_eq, la_allA, la_len7, all_tt, natInt, u_nthM, hF, c1', c2', c4, rA_len5, plenumlaw26_RepliesBatches_r1_eq]
      rw [← List.map_take]
      exact main _ _ (by omega) (by rw [List.length_take]; omega) ht hrk
    · have c2' : ¬ (70 : Int) < (r.length : Int) := by omega
      simp (config := {maxSteps := 4000000, implicitDefEqProofs := false}) (disch := omega) only [go_sem, ↓reduceIte, Nat.reduceAdd, Nat.reduceSub, Nat.reduceMul, Nat.reduceLeDiff, Nat.reduceLT, Int.reduceEq, Int.reduceNe, Int.reduceLT, Int.reduceLE, Int.reduceAdd, Int.reduceSub, Int.reduceMul, Int.reduceNeg, Nat.zero_add, Nat.add_zero, Nat.mul_one, Int.toNat_natCast, Int.natCast_zero, Int.cast_ofNat_Int, or_false, false_or, or_true, true_or, Int.reduceToNat, Nat.sub_zero, Int.natCast_nonneg, Int.toNat_zero, Bool.true_and, Bool.and_true, Bool.false_and, Bool.and_false, Bool.true_or, Bool.or_true, Bool.false_or, Bool.or_false, Bool.not_true, Bool.not_false, Bool.not_not, true_and, and_true, false_and, and_false, not_true_eq_false, not_false_eq_true, eq_self, decide_true, decide_false, ne_eq, implies_true, forall_const, true_implies, false_implies, Bool.true_eq_false, Bool.false_eq_true, reduceCtorEq, List.map_cons, List.map_nil, List.all_cons, List.all_nil, List.length_cons, List.length_nil, List.length_map, List.length_append, List.nil_append, List.cons_append, List.set_cons_zero, List.set_cons_succ, List.set_nil, List.drop_zero, List.drop_succ_cons, List.drop_nil, List.take_zero, List.take_succ_cons, List.take_nil, Option.map_some, Option.map_none, Option.isSome_some, Nat.reduceEqDiff, Nat.reduceBEq, Nat.reduceGT, List.all_append, List.all_map, Function.comp_def, decide_eq_true_eq, Bool.and_eq_true, beq_self_eq_true, or_self, and_self, ite_true, ite_false, Nat.le_refl, Bool.not_eq_true, decide_not, Bool.not_eq_true', decide_eq_false_iff_not, Bool.not_eq_false, Bool.or_eq_true, if_true, if_false, ite_self, la_it, la_len, la_sure, la_ltA, la_lt1, la_all1, la_ro, la_take, la_cl, la_tm, la_r, la_sl, rc_len, rc_sure, rc_ltA, rc_lt1, rc_all1, rc_ro, rc_take, rc_sl, la_set, rc_set, zcL_eq, zcR_eq, la_allA, la_len7, all_tt, natInt, u_nthM, hF, c1', c2', plenumlaw26_RepliesBatches_r1_eq]
      exact main _ _ (by omega) (by omega) ht hr
end Go.Proofs.Ytchncgdjefbmfaa

namespace Go.Proofs.Ytchncgdjefbmfaa
open Go.RowKit
set_option linter.unusedVariables false
set_option linter.unusedSimpArgs false
set_option maxRecDepth 100000
theorem ofT_txn {n : Nat} {ds : List AV} (h : ofT Try.prog n 57 ds) : ∃ t : Tx, ds = tC t ∧ t.Ok := by
  obtain ⟨m, a1, b1, rfl, h1, a2, b2, rfl, h2, a3, b3, rfl, h3, a4, b4, rfl, h4, a5, b5, rfl, h5, rfl⟩ := ofT_struct Try.underlying57 h
  obtain ⟨c, rfl, _⟩ := ofT_i64 Try.underlying3 h1
  obtain ⟨t, rfl, _⟩ := ofT_i64 Try.underlying3 h2
  obtain ⟨m2, q1, p1, rfl, k1, q2, p2, rfl, k2, rfl⟩ := ofT_struct Try.underlying55 h3
  obtain ⟨_, rd, rfl, _, _⟩ := ofT_slice Try.underlying53 k1
  obtain ⟨_, wr, rfl, _, _⟩ := ofT_slice Try.underlying53 k2
  obtain ⟨s, rfl, _⟩ := ofT_str Try.underlying9 h4
  obtain ⟨g, rfl, _⟩ := ofT_i64 Try.underlying3 h5
  exact ⟨⟨c, t, SL rd, SL wr, s, g⟩, rfl, ⟨rfl, rfl⟩, fun _ => rfl, fun _ => rfl⟩
theorem ofT_txns {n : Nat} {ds : List AV} (h : ofT Try.prog n 47 ds) : ∃ l : List Tx, ds = [SL (l.map tE)] ∧ l.length ≤ maxLen ∧ ∀ x ∈ l, x.Ok := by
  obtain ⟨m, es, rfl, hl, he⟩ := ofT_slice Try.underlying47 h
  obtain ⟨l, rfl, hi⟩ := list_of (f := tE) (Q := Tx.Ok) fun x hx => by
    obtain ⟨q1, q2⟩ := he x hx
    obtain ⟨y, hy, hi⟩ := ofT_txn q1
    exact ⟨y, by rw [cells_agg (q2.trans (by kernel_rfl)), hy]; rfl, hi⟩
  exact ⟨l, rfl, by simpa using hl, hi⟩
theorem ofT_ress {n : Nat} {ds : List AV} (h : ofT Try.prog n 48 ds) : ∃ l : List Rs, ds = [rL l] ∧ l.length ≤ maxLen ∧ ∀ x ∈ l, x.In := by
  obtain ⟨m, es, rfl, hl, he⟩ := ofT_slice Try.underlying48 h
  obtain ⟨l, rfl, hi⟩ := list_of (f := rA) (Q := Rs.In) fun x hx => by
    obtain ⟨q1, q2⟩ := he x hx
    obtain ⟨y, hy, _, hi⟩ := ofT_res q1
    exact ⟨y, by rw [cells_agg (q2.trans (by kernel_rfl)), hy]; rfl, hi⟩
  exact ⟨l, rfl, by simpa using hl, hi⟩
theorem arg_txns {W : World} {v : Value} (h : Arg Try.prog W 47 v) : ∃ l : List Tx, (∀ x ∈ l, x.Ok) ∧ rep (SW W) [] (SL (l.map tE)) v := by
  obtain ⟨n, ds, h1, h2⟩ := h
  obtain ⟨t, rfl, _, ht⟩ := ofT_txns h1
  rw [mk_lone (by kernel_rfl)] at h2
  exact ⟨t, ht, h2⟩
theorem arg_ress {W : World} {v : Value} (h : Arg Try.prog W 48 v) : ∃ l : List Rs, (∀ x ∈ l, x.In) ∧ rep (SW W) [] (rL l) v := by
  obtain ⟨n, ds, h1, h2⟩ := h
  obtain ⟨t, rfl, _, ht⟩ := ofT_ress h1
  rw [mk_lone (by kernel_rfl)] at h2
  exact ⟨t, ht, h2⟩
theorem walk_RepliesBatches (W : World) (v0 : Value) (h0 : Arg Try.prog W 22 v0) (v1 : Value) (h1 : Arg Try.prog W 47 v1) (v2 : Value) (h2 : Arg Try.prog W 48 v2) :
    Calls Try.prog 5 #[v0, v1, v2] W fun e W' => e = .returned (.bool true) ∧ Below W.heap.size W W' := by
  obtain ⟨l, ⟨hl, ht⟩, r0⟩ := arg_lasts h0
  obtain ⟨b, hb, r1⟩ := arg_txns h1
  obtain ⟨r, hr, r2⟩ := arg_ress h2
  exact run_tells (plenumlaw26_RepliesBatches_ok 16000001 [_, _, _] _ _ (batches_s26 _ l b r (by omega) hl (fun x hx => (ht x hx).1) (few_in ht) hb hr)) gok_nil (vs := [v0, v1, v2]) rfl (reps3 r0 r1 r2)
end Go.Proofs.Ytchncgdjefbmfaa
