/-
  Texts laid together, part 6 of 6: laws of a walk over data, contracts of functions, each whole by itself.
-/
import Derived.Test.YthmnhfabkllgpaaDoorMge
import Derived.Test.YthmnhfabkllgpaaDoorMgb
namespace Go.Proofs.YthmnhfabkllgpaaDoor
open Go.RowKit
set_option linter.unusedVariables false
set_option linter.unusedSimpArgs false
set_option maxRecDepth 20000
theorem zcI_set {a b c d e : AV} : ((((zc_api_Item.set 0 a).set 1 b).set 2 c).set 3 d).set 4 e = [a, b, c, d, e] := _root_.id rfl
theorem sameI (x y : Item) : sameKs x.cells y.cells = decide (x = y) := by
  obtain ⟨a1, a2, a3, a4, a5⟩ := x
  obtain ⟨b1, b2, b3, b4, b5⟩ := y
  rw [Bool.eq_iff_iff]
  show (decide (a1 = b1) && (decide (a2 = b2) && (decide (a3 = b3) && (decide (a4 = b4) && (decide (a5 = b5) && true))))) = true ↔ _
  simp
section
variable {R : Type} {isB : Bool} {x y : Item} {K1 : AV → Option R}
theorem u_eqI : binE (some [.s, .i .i64, .i .i64, .s, .i .i64]) isB .eql (.agg [V (.string ⟨x.key.toArray⟩), V (.int .i64 x.kind), V (.int .i64 x.i), V (.string ⟨x.s.toArray⟩), V (.int .i64 x.ver)]) (.agg [V (.string ⟨y.key.toArray⟩), V (.int .i64 y.kind), V (.int .i64 y.i), V (.string ⟨y.s.toArray⟩), V (.int .i64 y.ver)]) K1 = K1 (bA (decide (x = y))) := by
  rw [← sameI]; rfl
theorem u_neI : binE (some [.s, .i .i64, .i .i64, .s, .i .i64]) isB .neq (.agg [V (.string ⟨x.key.toArray⟩), V (.int .i64 x.kind), V (.int .i64 x.i), V (.string ⟨x.s.toArray⟩), V (.int .i64 x.ver)]) (.agg [V (.string ⟨y.key.toArray⟩), V (.int .i64 y.kind), V (.int .i64 y.i), V (.string ⟨y.s.toArray⟩), V (.int .i64 y.ver)]) K1 = K1 (bA (!decide (x = y))) := by
  rw [← sameI]; rfl
theorem u_bIz : buildE (some pl_api_Item) (some zc_api_Item) [] K1 = K1 (.agg [V (.string ⟨Item.zero.key.toArray⟩), V (.int .i64 Item.zero.kind), V (.int .i64 Item.zero.i), V (.string ⟨Item.zero.s.toArray⟩), V (.int .i64 Item.zero.ver)]) := _root_.id rfl
end
theorem allTo_mem {t : Tr} {n : Nat} {x : Item} (h : x ∈ allTo t n) : ∃ i, i < n ∧ x ∈ t.leaf i := by
  simp only [allTo, List.mem_flatMap, List.mem_range] at h
  exact h
theorem weight_app (a b : List Item) : weight (a ++ b) = weight a + weight b := by simp [weight]
theorem weight_all {t : Tr} (h : mayT t = true) : ∀ n, n ≤ 16 → sumTo (fun i => weightP (t.leaf i)) n = weight (allTo t n)
  | 0, _ => rfl
  | n + 1, hn => by
    rw [allTo_succ, weight_app, ← weight_all h n (by omega)]
    show sumTo _ n + weightP (t.leaf n) = _
    rw [weightP, fits_leaf h (by omega : n < 16)]
    rfl
theorem tells_s (m : Nat) (t : Tr) (k : Bytes) (hm : 20000000 < m) (h : t.In) : plenumlaw10_TrunkTells m (tA t) (sA k) = some (bA true, []) := by
  have hf := plenumlaw10_Few_e m t h.len
  have hs := plenumlaw10_short_e m k
  have hok := few_ok h
  have hA := awake_s m
  generalize fewT t 16 = u at hf hok
  generalize k.take 60 = q at hs
  have h1 := trunk_Get_e m u q hok
  have h2 := trunk_May_e m u hok
  have h3 := rmay10_s m u (by omega) hok
  have h4 := trunk_Count_e m u hok
  have h5 := trunk_Weight_e m u hok
  rw [tA_def, tA_def] at hf
  rw [tA_def] at h1 h2 h3 h4 h5
  rw [plenumlaw10_TrunkTells_eq]
  cases hmay : mayT u with
  | false =>
    have e1 : getT u q = none := by simp [getT, hmay]
    have e2 : countT u = 0 := by simp [countT, hmay]
    have e3 : weightT u = 0 := by simp [weightT, hmay]
    rw [e1] at h1
    rw [hmay] at h2 h3
    rw [e2] at h4
    rw [e3] at h5
    simp (config := {maxSteps := 4000000, implicitDefEqProofs := false}) (disch := omega) only [go_sem, ↓reduceIte, Nat.reduceAdd, Nat.reduceSub, Nat.reduceMul, Nat.reduceLeDiff, Nat.reduceLT, Int.reduceEq, Int.reduceNe, Int.reduceLT, Int.reduceLE, Int.reduceAdd, Int.reduceSub, Int.reduceMul, Int.reduceNeg, Nat.zero_add, Nat.add_zero, Nat.mul_one, Int.toNat_natCast, Int.natCast_zero, Int.cast_ofNat_Int, or_false, false_or, or_true, true_or, Int.reduceToNat, Nat.sub_zero, Int.natCast_nonneg, Int.toNat_zero, Bool.true_and, Bool.and_true, Bool.false_and, Bool.and_false, Bool.true_or, Bool.or_true, Bool.false_or, Bool.or_false, Bool.not_true, Bool.not_false, Bool.not_not, true_and, and_true, false_and, and_false, not_true_eq_false, not_false_eq_true, eq_self, decide_true, decide_false, ne_eq, implies_true, forall_const, true_implies, false_implies, Bool.true_eq_false, Bool.false_eq_true, reduceCtorEq, List.map_cons, List.map_nil, List.all_cons, List.all_nil, List.length_cons, List.length_nil, List.length_map, List.length_append, List.nil_append, List.cons_append, List.set_cons_zero, List.set_cons_succ, List.set_nil, List.drop_zero, List.drop_succ_cons, List.drop_nil, List.take_zero, List.take_succ_cons, List.take_nil, Option.map_some, Option.map_none, Option.isSome_some, Nat.reduceEqDiff, Nat.reduceBEq, Nat.reduceGT, List.all_append, List.all_map, Function.comp_def, decide_eq_true_eq, Bool.and_eq_true, beq_self_eq_true, or_self, and_self, ite_true, ite_false, Nat.le_refl, Bool.not_eq_true, decide_not, Bool.not_eq_true', decide_eq_false_iff_not, Bool.not_eq_false, Bool.or_eq_true, if_true, if_false, ite_self, tC_len, tC_sure, tC_ltA, tC_lt1, tC_ro, tC_take, tC_all1, zcT_eq, zcI_len, zC_len, zC_ltA, zC_lt1, zC_sure, zC_ro, zC_take, set_tl, set_tv, sc_tt, sc_zt, sc_tz, sc_zz, add16, tA_def, lA_def, natInt, u_tl, u_tv, u_bT, hf, hs, h1, h2, h3, h4, h5, hA, iA_def, zcI_set, u_bIz, u_eqI, Option.getD_none, Option.isSome_none]
  | true =>
    rw [hmay] at h2 h3
    have h6 := rall_s m u (by omega) hok
    rw [tA_def] at h6
    have h7 := rget_s m u q (by omega) hok hmay
    rw [tA_def] at h7
    have e2 : countT u = (allTo u 16).length := by rw [allTo_len]; simp [countT, hmay]
    have e3 : weightT u = weight (allTo u 16) := by rw [← weight_all hmay 16 (Nat.le_refl _)]; simp [weightT, hmay]
    have hle := allTo_le u hok 16
    have hval : ∀ x ∈ allTo u 16, NumOk x ∧ itemB x = true := by
      intro x hx
      obtain ⟨i, hi, hx⟩ := allTo_mem hx
      exact ⟨((hok i).2.1 x hx).2, (fits_key hmay hi hx).1⟩
    have hwl : weight (allTo u 16) ≤ 16000000000 := by
      rw [← weight_all hmay 16 (Nat.le_refl _)]
      have : ∀ n, sumTo (fun i => weightP (u.leaf i)) n ≤ n * 1000000000 := by
        intro n
        induction n with
        | zero => exact Nat.le_refl _
        | succ n ih => have := (hok n).2.2; show sumTo _ n + weightP (u.leaf n) ≤ _; omega
      exact this 16
    rw [e2] at h4
    rw [e3] at h5
    generalize allTo u 16 = a at h6 h4 h5 hle hval hwl
    clear e2 e3
    generalize hy : (getT u q).getD Item.zero = y at h1 h7
    simp (config := {maxSteps := 4000000, implicitDefEqProofs := false}) (disch := omega) only [go_sem, ↓reduceIte, Nat.reduceAdd, Nat.reduceSub, Nat.reduceMul, Nat.reduceLeDiff, Nat.reduceLT, Int.reduceEq, Int.reduceNe, Int.reduceLT, Int.reduceLE, Int.reduceAdd, Int.reduceSub, Int.reduceMul, Int.reduceNeg, Nat.zero_add, Nat.add_zero, Nat.mul_one, Int.toNat_natCast, Int.natCast_zero, Int.cast_ofNat_Int, or_false, false_or, or_true, true_or, Int.reduceToNat, Nat.sub_zero, Int.natCast_nonneg, Int.toNat_zero, Bool.true_and, Bool.and_true, Bool.false_and, Bool.and_false, Bool.true_or, Bool.or_true, Bool.false_or, Bool.or_false, Bool.not_true, Bool.not_false, Bool.not_not, true_and, and_true, false_and, and_false, not_true_eq_false, not_false_eq_true, eq_self, decide_true, decide_false, ne_eq, implies_true, forall_const, true_implies, false_implies, Bool.true_eq_false, Bool.false_eq_true, reduceCtorEq, List.map_cons, List.map_nil, List.all_cons, List.all_nil, List.length_cons, List.length_nil, List.length_map, List.length_append, List.nil_append, List.cons_append, List.set_cons_zero, List.set_cons_succ, List.set_nil, List.drop_zero, List.drop_succ_cons, List.drop_nil, List.take_zero, List.take_succ_cons, List.take_nil, Option.map_some, Option.map_none, Option.isSome_some, Nat.reduceEqDiff, Nat.reduceBEq, Nat.reduceGT, List.all_append, List.all_map, Function.comp_def, decide_eq_true_eq, Bool.and_eq_true, beq_self_eq_true, or_self, and_self, ite_true, ite_false, Nat.le_refl, Bool.not_eq_true, decide_not, Bool.not_eq_true', decide_eq_false_iff_not, Bool.not_eq_false, Bool.or_eq_true, if_true, if_false, ite_self, tC_len, tC_sure, tC_ltA, tC_lt1, tC_ro, tC_take, tC_all1, zcT_eq, zcI_len, zC_len, zC_ltA, zC_lt1, zC_sure, zC_ro, zC_take, set_tl, set_tv, sc_tt, sc_zt, sc_tz, sc_zz, add16, tA_def, lA_def, natInt, u_tl, u_tv, u_bT, hf, hs, h1, h2, h3, h6, iA_def, zcI_set]
    refine iter_go (ι := {j : Nat // j ≤ a.length}) (fun j => ⟨[⟨1, ty_api_Trunk, 0, tC u⟩, ⟨1, ty_api_Item, 0, [V (.string ⟨y.key.toArray⟩), V (.int .i64 y.kind), V (.int .i64 y.i), V (.string ⟨y.s.toArray⟩), V (.int .i64 y.ver)]⟩], [(1, sA q), (2, OP 0 0), (5, OP 1 0), (6, bA (getT u q).isSome), (7, SL (a.map (flA Item.cells))), (8, nA (weight (a.take j.1))), (9, nA j.1)]⟩) (fun j => a.length - j.1) (fun _ => some (bA true, [])) ?_ ⟨0, Nat.zero_le _⟩ (by dsimp only; omega)
    rintro kx hkx ⟨j, hj⟩ kc hkc
    dsimp only at hkc ⊢
    rw [plenumlaw10_TrunkTells_b1_eq]
    by_cases hlt : j < a.length
    · have hlt' : (j : Int) < (a.length : Int) := by omega
      have step := hkc ⟨j + 1, by omega⟩ (by dsimp only; omega)
      obtain ⟨hn, hi⟩ := hval a[j] (List.getElem_mem hlt)
      have hv : valB a[j].kind a[j].i a[j].s = true := by
        unfold itemB at hi
        simp only [Bool.and_eq_true] at hi
        exact hi.1.1.1.2
      have hE := plenumref07_Encode_e m a[j].kind a[j].i a[j].s ⟨hn.1, hn.2, hv⟩
      have hw := weight_take a j hlt
      have hw2 : weight (a.take (j + 1)) ≤ weight a := by
        have := weight_app (a.take (j + 1)) (a.drop (j + 1))
        rw [List.take_append_drop] at this
        omega
      dsimp only at step
      have hs1 : (weight (a.take (j + 1)) : Int) = (weight (a.take j) : Int) + ((a[j].key.length : Int) + ((encV a[j].kind a[j].i a[j].s).length : Int)) := by omega
      rw [hs1] at step
      simp (config := {maxSteps := 4000000, implicitDefEqProofs := false}) (disch := omega) only [go_sem, ↓reduceIte, Nat.reduceAdd, Nat.reduceSub, Nat.reduceMul, Nat.reduceLeDiff, Nat.reduceLT, Int.reduceEq, Int.reduceNe, Int.reduceLT, Int.reduceLE, Int.reduceAdd, Int.reduceSub, Int.reduceMul, Int.reduceNeg, Nat.zero_add, Nat.add_zero, Nat.mul_one, Int.toNat_natCast, Int.natCast_zero, Int.cast_ofNat_Int, or_false, false_or, or_true, true_or, Int.reduceToNat, Nat.sub_zero, Int.natCast_nonneg, Int.toNat_zero, Bool.true_and, Bool.and_true, Bool.false_and, Bool.and_false, Bool.true_or, Bool.or_true, Bool.false_or, Bool.or_false, Bool.not_true, Bool.not_false, Bool.not_not, true_and, and_true, false_and, and_false, not_true_eq_false, not_false_eq_true, eq_self, decide_true, decide_false, ne_eq, implies_true, forall_const, true_implies, false_implies, Bool.true_eq_false, Bool.false_eq_true, reduceCtorEq, List.map_cons, List.map_nil, List.all_cons, List.all_nil, List.length_cons, List.length_nil, List.length_map, List.length_append, List.nil_append, List.cons_append, List.set_cons_zero, List.set_cons_succ, List.set_nil, List.drop_zero, List.drop_succ_cons, List.drop_nil, List.take_zero, List.take_succ_cons, List.take_nil, Option.map_some, Option.map_none, Option.isSome_some, Nat.reduceEqDiff, Nat.reduceBEq, Nat.reduceGT, List.all_append, List.all_map, Function.comp_def, decide_eq_true_eq, Bool.and_eq_true, beq_self_eq_true, or_self, and_self, ite_true, ite_false, Nat.le_refl, Bool.not_eq_true, decide_not, Bool.not_eq_true', decide_eq_false_iff_not, Bool.not_eq_false, Bool.or_eq_true, if_true, if_false, ite_self, tC_len, tC_sure, tC_ltA, tC_lt1, tC_ro, tC_take, tC_all1, zcT_eq, zcI_len, zC_len, zC_ltA, zC_lt1, zC_sure, zC_ro, zC_take, set_tl, set_tv, sc_tt, sc_zt, sc_tz, sc_zz, add16, tA_def, lA_def, natInt, u_tl, u_tv, hlt', u_nthM, fl_it, w_i64, hE, fl_allA]
      exact step
    · have hlt' : ¬ (j : Int) < (a.length : Int) := by omega
      have hje : j = a.length := by omega
      subst hje
      simp (config := {maxSteps := 4000000, implicitDefEqProofs := false}) (disch := omega) only [go_sem, ↓reduceIte, Nat.reduceAdd, Nat.reduceSub, Nat.reduceMul, Nat.reduceLeDiff, Nat.reduceLT, Int.reduceEq, Int.reduceNe, Int.reduceLT, Int.reduceLE, Int.reduceAdd, Int.reduceSub, Int.reduceMul, Int.reduceNeg, Nat.zero_add, Nat.add_zero, Nat.mul_one, Int.toNat_natCast, Int.natCast_zero, Int.cast_ofNat_Int, or_false, false_or, or_true, true_or, Int.reduceToNat, Nat.sub_zero, Int.natCast_nonneg, Int.toNat_zero, Bool.true_and, Bool.and_true, Bool.false_and, Bool.and_false, Bool.true_or, Bool.or_true, Bool.false_or, Bool.or_false, Bool.not_true, Bool.not_false, Bool.not_not, true_and, and_true, false_and, and_false, not_true_eq_false, not_false_eq_true, eq_self, decide_true, decide_false, ne_eq, implies_true, forall_const, true_implies, false_implies, Bool.true_eq_false, Bool.false_eq_true, reduceCtorEq, List.map_cons, List.map_nil, List.all_cons, List.all_nil, List.length_cons, List.length_nil, List.length_map, List.length_append, List.nil_append, List.cons_append, List.set_cons_zero, List.set_cons_succ, List.set_nil, List.drop_zero, List.drop_succ_cons, List.drop_nil, List.take_zero, List.take_succ_cons, List.take_nil, Option.map_some, Option.map_none, Option.isSome_some, Nat.reduceEqDiff, Nat.reduceBEq, Nat.reduceGT, List.all_append, List.all_map, Function.comp_def, decide_eq_true_eq, Bool.and_eq_true, beq_self_eq_true, or_self, and_self, ite_true, ite_false, Nat.le_refl, Bool.not_eq_true, decide_not, Bool.not_eq_true', decide_eq_false_iff_not, Bool.not_eq_false, Bool.or_eq_true, if_true, if_false, ite_self, tC_len, tC_sure, tC_ltA, tC_lt1, tC_ro, tC_take, tC_all1, zcT_eq, zcI_len, zC_len, zC_ltA, zC_lt1, zC_sure, zC_ro, zC_take, set_tl, set_tv, sc_tt, sc_zt, sc_tz, sc_zz, add16, tA_def, lA_def, natInt, u_tl, u_tv, hlt']
      rw [hkx]
      simp only [u_blkX, ↓reduceIte, u_seqN]
      rw [plenumlaw10_TrunkTells_r1_eq, List.take_length]
      simp (config := {maxSteps := 4000000, implicitDefEqProofs := false}) (disch := omega) only [go_sem, ↓reduceIte, Nat.reduceAdd, Nat.reduceSub, Nat.reduceMul, Nat.reduceLeDiff, Nat.reduceLT, Int.reduceEq, Int.reduceNe, Int.reduceLT, Int.reduceLE, Int.reduceAdd, Int.reduceSub, Int.reduceMul, Int.reduceNeg, Nat.zero_add, Nat.add_zero, Nat.mul_one, Int.toNat_natCast, Int.natCast_zero, Int.cast_ofNat_Int, or_false, false_or, or_true, true_or, Int.reduceToNat, Nat.sub_zero, Int.natCast_nonneg, Int.toNat_zero, Bool.true_and, Bool.and_true, Bool.false_and, Bool.and_false, Bool.true_or, Bool.or_true, Bool.false_or, Bool.or_false, Bool.not_true, Bool.not_false, Bool.not_not, true_and, and_true, false_and, and_false, not_true_eq_false, not_false_eq_true, eq_self, decide_true, decide_false, ne_eq, implies_true, forall_const, true_implies, false_implies, Bool.true_eq_false, Bool.false_eq_true, reduceCtorEq, List.map_cons, List.map_nil, List.all_cons, List.all_nil, List.length_cons, List.length_nil, List.length_map, List.length_append, List.nil_append, List.cons_append, List.set_cons_zero, List.set_cons_succ, List.set_nil, List.drop_zero, List.drop_succ_cons, List.drop_nil, List.take_zero, List.take_succ_cons, List.take_nil, Option.map_some, Option.map_none, Option.isSome_some, Nat.reduceEqDiff, Nat.reduceBEq, Nat.reduceGT, List.all_append, List.all_map, Function.comp_def, decide_eq_true_eq, Bool.and_eq_true, beq_self_eq_true, or_self, and_self, ite_true, ite_false, Nat.le_refl, Bool.not_eq_true, decide_not, Bool.not_eq_true', decide_eq_false_iff_not, Bool.not_eq_false, Bool.or_eq_true, if_true, if_false, ite_self, tC_len, tC_sure, tC_ltA, tC_lt1, tC_ro, tC_take, tC_all1, zcT_eq, zcI_len, zC_len, zC_ltA, zC_lt1, zC_sure, zC_ro, zC_take, set_tl, set_tv, sc_tt, sc_zt, sc_tz, sc_zz, add16, tA_def, lA_def, natInt, u_tl, u_tv, h7, h4, h5, hA, iA_def, zcI_set, u_eqI, fl_allA]
end Go.Proofs.YthmnhfabkllgpaaDoor

namespace Go.Proofs.YthmnhfabkllgpaaDoor
open Go.RowKit
set_option linter.unusedVariables false
set_option linter.unusedSimpArgs false
set_option maxRecDepth 20000
theorem one_one (x : Item) : x.one.one = x.one := by simp [Item.one, List.take_take]
theorem fewL_few (l : List Item) : fewL (fewL l) = fewL l := by
  unfold fewL
  rw [List.take_of_length_le (by simp; omega), List.map_map]
  exact List.map_congr_left fun x _ => one_one x
theorem few_few (t : Tr) : (fewT (fewT t 16) 16).Eq16 (fewT t 16) := fun i hi => by
  simp only [fewT, hi, if_true]
  exact ⟨fewL_few _, trivial⟩
theorem wK_len (l : List Item) (x : Item) : (withK l x).length ≤ l.length + l.length + 1 := by
  unfold withK
  have h1 := List.length_filter_le (fun y : Item => less y.key x.key) l
  have h2 := List.length_filter_le (fun y : Item => less x.key y.key) l
  simp only [List.length_append, List.length_singleton]
  omega
theorem woK_len (l : List Item) (k : Bytes) : (withoutK l k).length ≤ l.length := List.length_filter_le ..
theorem chgT_len {t : Tr} {b : Nat} {v : Int} {r : List Item × Nat} (h : t.Ok) (hr : r.1.length ≤ 3000000) : ∀ i, ((chgT t b v r).1.leaf i).length ≤ 34359738368 := by
  intro i
  unfold chgT
  split
  · show ((t.setL b r.1).leaf i).length ≤ _
    unfold Tr.setL
    dsimp only
    split
    · omega
    · have := h.len i; omega
  · exact Nat.zero_le _
theorem putT_len {t : Tr} (h : t.Ok) (x : Item) : ∀ i, ((putT t x).1.leaf i).length ≤ 34359738368 := by
  unfold putT
  split
  · exact fun _ => Nat.zero_le _
  · split
    · exact fun _ => Nat.zero_le _
    · refine chgT_len h ?_
      have h1 := h.len (bk x.key)
      have h2 := wK_len (t.leaf (bk x.key)) x
      unfold putK
      split
      · exact Nat.zero_le _
      · split
        · exact Nat.zero_le _
        · dsimp only; omega
theorem delT_len {t : Tr} (h : t.Ok) (k : Bytes) (v : Int) : ∀ i, ((delT t k v).1.leaf i).length ≤ 34359738368 := by
  unfold delT
  split
  · exact fun _ => Nat.zero_le _
  · split
    · exact fun _ => Nat.zero_le _
    · split
      · exact fun _ => Nat.zero_le _
      · refine chgT_len h ?_
        have h1 := h.len (bk k)
        have h2 := woK_len (t.leaf (bk k)) k
        unfold delK
        split
        · exact Nat.zero_le _
        · split
          · exact Nat.zero_le _
          · dsimp only; omega
theorem sameT_self (t : Tr) : sameT t t = true := sameT_iff.2 fun i _ => ⟨rfl, rfl⟩
theorem does_s (m : Nat) (t : Tr) (x : Item) (ver : Int) (hm : 20000000 < m) (h : t.In) : plenumlaw10_TrunkDoes m (tA t) (iA x) (nA ver) = some (bA true, []) := by
  have hf := plenumlaw10_Few_e m t h.len
  have hx := plenumlaw10_One_e m x
  have hok := few_ok h
  have hA := awake_s m
  have hff := plenumlaw10_Few_e m (fewT t 16) fun i => Nat.le_trans (hok.len2 i) (by decide)
  rw [tA_eq (few_few t)] at hff
  have hkl : x.one.key.length ≤ maxLen := keyB_max (by simp [Item.one]; omega)
  generalize fewT t 16 = u at hf hok hff
  generalize x.one = q at hx hkl
  have h1 := trunk_Put_e m u q hok
  have h2 := trunk_Delete_e m u q.key ver hok
  have h3 := rmay10_s m u (by omega) hok
  have h4 := rsame_s m u u (by omega) hok.len2 hok.len2
  rw [sameT_self] at h4
  have hz := rnone_s m Tr.zero (by omega) (fun _ => Nat.zero_le _)
  rw [sameT_self] at hz
  have hp := rsame_s m (putT u q).1 (putT u q).1 (by omega) (putT_len hok q) (putT_len hok q)
  have hd := rsame_s m (delT u q.key ver).1 (delT u q.key ver).1 (by omega) (delT_len hok _ _) (delT_len hok _ _)
  rw [sameT_self] at hp hd
  have hM := plenumref09_May_e m q hkl
  rw [tA_def] at h1 h2 h3 h4 hz hp hd hff hf
  rw [tA_def] at hf h1 h2
  rw [iA_def] at hx h1 hM
  rw [iA_def] at hx
  rw [plenumlaw10_TrunkDoes_eq]
  cases hmay : mayT u with
  | false =>
    have e1 : putT u q = (Tr.zero, 1) := by simp [putT, hmay]
    have e2 : delT u q.key ver = (Tr.zero, 1) := by simp [delT, hmay]
    rw [e1] at h1
    rw [e2] at h2
    rw [hmay] at h3
    simp (config := {maxSteps := 4000000, implicitDefEqProofs := false}) (disch := omega) only [go_sem, ↓reduceIte, Nat.reduceAdd, Nat.reduceSub, Nat.reduceMul, Nat.reduceLeDiff, Nat.reduceLT, Int.reduceEq, Int.reduceNe, Int.reduceLT, Int.reduceLE, Int.reduceAdd, Int.reduceSub, Int.reduceMul, Int.reduceNeg, Nat.zero_add, Nat.add_zero, Nat.mul_one, Int.toNat_natCast, Int.natCast_zero, Int.cast_ofNat_Int, or_false, false_or, or_true, true_or, Int.reduceToNat, Nat.sub_zero, Int.natCast_nonneg, Int.toNat_zero, Bool.true_and, Bool.and_true, Bool.false_and, Bool.and_false, Bool.true_or, Bool.or_true, Bool.false_or, Bool.or_false, Bool.not_true, Bool.not_false, Bool.not_not, true_and, and_true, false_and, and_false, not_true_eq_false, not_false_eq_true, eq_self, decide_true, decide_false, ne_eq, implies_true, forall_const, true_implies, false_implies, Bool.true_eq_false, Bool.false_eq_true, reduceCtorEq, List.map_cons, List.map_nil, List.all_cons, List.all_nil, List.length_cons, List.length_nil, List.length_map, List.length_append, List.nil_append, List.cons_append, List.set_cons_zero, List.set_cons_succ, List.set_nil, List.drop_zero, List.drop_succ_cons, List.drop_nil, List.take_zero, List.take_succ_cons, List.take_nil, Option.map_some, Option.map_none, Option.isSome_some, Nat.reduceEqDiff, Nat.reduceBEq, Nat.reduceGT, List.all_append, List.all_map, Function.comp_def, decide_eq_true_eq, Bool.and_eq_true, beq_self_eq_true, or_self, and_self, ite_true, ite_false, Nat.le_refl, Bool.not_eq_true, decide_not, Bool.not_eq_true', decide_eq_false_iff_not, Bool.not_eq_false, Bool.or_eq_true, if_true, if_false, ite_self, tC_len, tC_sure, tC_ltA, tC_lt1, tC_ro, tC_take, tC_all1, zcT_eq, zcI_len, zC_len, zC_ltA, zC_lt1, zC_sure, zC_ro, zC_take, set_tl, set_tv, sc_tt, sc_zt, sc_tz, sc_zz, add16, tA_def, lA_def, natInt, u_tl, u_tv, u_bT, hf, hff, hx, h1, h2, h3, h4, hz, hA, iA_def, zcI_set]
  | true =>
    rw [hmay] at h3
    have hput : (itemB q = true ∧ plenumref10_Put m (.agg (tC u)) (.agg [V (.string ⟨q.key.toArray⟩), V (.int .i64 q.kind), V (.int .i64 q.i), V (.string ⟨q.s.toArray⟩), V (.int .i64 q.ver)]) = some (TU [.agg (tC (putT u q).1), nA (putT u q).2], [])) ∨ (itemB q = false ∧ putT u q = (Tr.zero, 1)) := by
      cases hi : itemB q with
      | true => exact .inl ⟨rfl, rput_s m u q (by omega) hok hmay hi hkl⟩
      | false => exact .inr ⟨rfl, by simp [putT, hi]⟩
    have hdel : (0 ≤ ver ∧ ver ≤ 2147483647 ∧ plenumref10_Delete m (.agg (tC u)) (sA q.key) (nA ver) = some (TU [.agg (tC (delT u q.key ver).1), nA (delT u q.key ver).2], [])) ∨ ((ver < 0 ∨ 2147483647 < ver) ∧ delT u q.key ver = (Tr.zero, 1)) := by
      by_cases h0 : 0 ≤ ver
      · by_cases h9 : ver ≤ 2147483647
        · exact .inl ⟨h0, h9, rdel_s m u q.key ver (by omega) hok hmay h0 h9⟩
        · exact .inr ⟨.inr (by omega), by simp [delT, show 2147483647 < ver by omega]⟩
      · exact .inr ⟨.inl (by omega), by simp [delT, show ver < 0 by omega]⟩
    rcases hput with ⟨hi, hput⟩ | ⟨hi, hput⟩
    · rw [hi] at hM
      simp (config := {maxSteps := 4000000, implicitDefEqProofs := false}) (disch := omega) only [go_sem, ↓reduceIte, Nat.reduceAdd, Nat.reduceSub, Nat.reduceMul, Nat.reduceLeDiff, Nat.reduceLT, Int.reduceEq, Int.reduceNe, Int.reduceLT, Int.reduceLE, Int.reduceAdd, Int.reduceSub, Int.reduceMul, Int.reduceNeg, Nat.zero_add, Nat.add_zero, Nat.mul_one, Int.toNat_natCast, Int.natCast_zero, Int.cast_ofNat_Int, or_false, false_or, or_true, true_or, Int.reduceToNat, Nat.sub_zero, Int.natCast_nonneg, Int.toNat_zero, Bool.true_and, Bool.and_true, Bool.false_and, Bool.and_false, Bool.true_or, Bool.or_true, Bool.false_or, Bool.or_false, Bool.not_true, Bool.not_false, Bool.not_not, true_and, and_true, false_and, and_false, not_true_eq_false, not_false_eq_true, eq_self, decide_true, decide_false, ne_eq, implies_true, forall_const, true_implies, false_implies, Bool.true_eq_false, Bool.false_eq_true, reduceCtorEq, List.map_cons, List.map_nil, List.all_cons, List.all_nil, List.length_cons, List.length_nil, List.length_map, List.length_append, List.nil_append, List.cons_append, List.set_cons_zero, List.set_cons_succ, List.set_nil, List.drop_zero, List.drop_succ_cons, List.drop_nil, List.take_zero, List.take_succ_cons, List.take_nil, Option.map_some, Option.map_none, Option.isSome_some, Nat.reduceEqDiff, Nat.reduceBEq, Nat.reduceGT, List.all_append, List.all_map, Function.comp_def, decide_eq_true_eq, Bool.and_eq_true, beq_self_eq_true, or_self, and_self, ite_true, ite_false, Nat.le_refl, Bool.not_eq_true, decide_not, Bool.not_eq_true', decide_eq_false_iff_not, Bool.not_eq_false, Bool.or_eq_true, if_true, if_false, ite_self, tC_len, tC_sure, tC_ltA, tC_lt1, tC_ro, tC_take, tC_all1, zcT_eq, zcI_len, zC_len, zC_ltA, zC_lt1, zC_sure, zC_ro, zC_take, set_tl, set_tv, sc_tt, sc_zt, sc_tz, sc_zz, add16, tA_def, lA_def, natInt, u_tl, u_tv, u_bT, hf, hff, hx, h1, h2, h3, h4, hM, hput, iA_def, zcI_set]
      rw [plenumlaw10_TrunkDoes_r1_eq]
      rcases hdel with ⟨h0, h9, hdel⟩ | ⟨h0, hdel⟩
      · simp (config := {maxSteps := 4000000, implicitDefEqProofs := false}) (disch := omega) only [go_sem, ↓reduceIte, Nat.reduceAdd, Nat.reduceSub, Nat.reduceMul, Nat.reduceLeDiff, Nat.reduceLT, Int.reduceEq, Int.reduceNe, Int.reduceLT, Int.reduceLE, Int.reduceAdd, Int.reduceSub, Int.reduceMul, Int.reduceNeg, Nat.zero_add, Nat.add_zero, Nat.mul_one, Int.toNat_natCast, Int.natCast_zero, Int.cast_ofNat_Int, or_false, false_or, or_true, true_or, Int.reduceToNat, Nat.sub_zero, Int.natCast_nonneg, Int.toNat_zero, Bool.true_and, Bool.and_true, Bool.false_and, Bool.and_false, Bool.true_or, Bool.or_true, Bool.false_or, Bool.or_false, Bool.not_true, Bool.not_false, Bool.not_not, true_and, and_true, false_and, and_false, not_true_eq_false, not_false_eq_true, eq_self, decide_true, decide_false, ne_eq, implies_true, forall_const, true_implies, false_implies, Bool.true_eq_false, Bool.false_eq_true, reduceCtorEq, List.map_cons, List.map_nil, List.all_cons, List.all_nil, List.length_cons, List.length_nil, List.length_map, List.length_append, List.nil_append, List.cons_append, List.set_cons_zero, List.set_cons_succ, List.set_nil, List.drop_zero, List.drop_succ_cons, List.drop_nil, List.take_zero, List.take_succ_cons, List.take_nil, Option.map_some, Option.map_none, Option.isSome_some, Nat.reduceEqDiff, Nat.reduceBEq, Nat.reduceGT, List.all_append, List.all_map, Function.comp_def, decide_eq_true_eq, Bool.and_eq_true, beq_self_eq_true, or_self, and_self, ite_true, ite_false, Nat.le_refl, Bool.not_eq_true, decide_not, Bool.not_eq_true', decide_eq_false_iff_not, Bool.not_eq_false, Bool.or_eq_true, if_true, if_false, ite_self, tC_len, tC_sure, tC_ltA, tC_lt1, tC_ro, tC_take, tC_all1, zcT_eq, zcI_len, zC_len, zC_ltA, zC_lt1, zC_sure, zC_ro, zC_take, set_tl, set_tv, sc_tt, sc_zt, sc_tz, sc_zz, add16, tA_def, lA_def, natInt, u_tl, u_tv, u_bT, hp, h0, h9, hdel]
        rw [plenumlaw10_TrunkDoes_r2_eq]
        simp (config := {maxSteps := 4000000, implicitDefEqProofs := false}) (disch := omega) only [go_sem, ↓reduceIte, Nat.reduceAdd, Nat.reduceSub, Nat.reduceMul, Nat.reduceLeDiff, Nat.reduceLT, Int.reduceEq, Int.reduceNe, Int.reduceLT, Int.reduceLE, Int.reduceAdd, Int.reduceSub, Int.reduceMul, Int.reduceNeg, Nat.zero_add, Nat.add_zero, Nat.mul_one, Int.toNat_natCast, Int.natCast_zero, Int.cast_ofNat_Int, or_false, false_or, or_true, true_or, Int.reduceToNat, Nat.sub_zero, Int.natCast_nonneg, Int.toNat_zero, Bool.true_and, Bool.and_true, Bool.false_and, Bool.and_false, Bool.true_or, Bool.or_true, Bool.false_or, Bool.or_false, Bool.not_true, Bool.not_false, Bool.not_not, true_and, and_true, false_and, and_false, not_true_eq_false, not_false_eq_true, eq_self, decide_true, decide_false, ne_eq, implies_true, forall_const, true_implies, false_implies, Bool.true_eq_false, Bool.false_eq_true, reduceCtorEq, List.map_cons, List.map_nil, List.all_cons, List.all_nil, List.length_cons, List.length_nil, List.length_map, List.length_append, List.nil_append, List.cons_append, List.set_cons_zero, List.set_cons_succ, List.set_nil, List.drop_zero, List.drop_succ_cons, List.drop_nil, List.take_zero, List.take_succ_cons, List.take_nil, Option.map_some, Option.map_none, Option.isSome_some, Nat.reduceEqDiff, Nat.reduceBEq, Nat.reduceGT, List.all_append, List.all_map, Function.comp_def, decide_eq_true_eq, Bool.and_eq_true, beq_self_eq_true, or_self, and_self, ite_true, ite_false, Nat.le_refl, Bool.not_eq_true, decide_not, Bool.not_eq_true', decide_eq_false_iff_not, Bool.not_eq_false, Bool.or_eq_true, if_true, if_false, ite_self, tC_len, tC_sure, tC_ltA, tC_lt1, tC_ro, tC_take, tC_all1, zcT_eq, zcI_len, zC_len, zC_ltA, zC_lt1, zC_sure, zC_ro, zC_take, set_tl, set_tv, sc_tt, sc_zt, sc_tz, sc_zz, add16, tA_def, lA_def, natInt, u_tl, u_tv, hd, hA]
      · rw [hdel] at hd
        rcases h0 with h0 | h0
        · have h0' : ¬ 0 ≤ ver := by omega
          simp (config := {maxSteps := 4000000, implicitDefEqProofs := false}) (disch := omega) only [go_sem, ↓reduceIte, Nat.reduceAdd, Nat.reduceSub, Nat.reduceMul, Nat.reduceLeDiff, Nat.reduceLT, Int.reduceEq, Int.reduceNe, Int.reduceLT, Int.reduceLE, Int.reduceAdd, Int.reduceSub, Int.reduceMul, Int.reduceNeg, Nat.zero_add, Nat.add_zero, Nat.mul_one, Int.toNat_natCast, Int.natCast_zero, Int.cast_ofNat_Int, or_false, false_or, or_true, true_or, Int.reduceToNat, Nat.sub_zero, Int.natCast_nonneg, Int.toNat_zero, Bool.true_and, Bool.and_true, Bool.false_and, Bool.and_false, Bool.true_or, Bool.or_true, Bool.false_or, Bool.or_false, Bool.not_true, Bool.not_false, Bool.not_not, true_and, and_true, false_and, and_false, not_true_eq_false, not_false_eq_true, eq_self, decide_true, decide_false, ne_eq, implies_true, forall_const, true_implies, false_implies, Bool.true_eq_false, Bool.false_eq_true, reduceCtorEq, List.map_cons, List.map_nil, List.all_cons, List.all_nil, List.length_cons, List.length_nil, List.length_map, List.length_append, List.nil_append, List.cons_append, List.set_cons_zero, List.set_cons_succ, List.set_nil, List.drop_zero, List.drop_succ_cons, List.drop_nil, List.take_zero, List.take_succ_cons, List.take_nil, Option.map_some, Option.map_none, Option.isSome_some, Nat.reduceEqDiff, Nat.reduceBEq, Nat.reduceGT, List.all_append, List.all_map, Function.comp_def, decide_eq_true_eq, Bool.and_eq_true, beq_self_eq_true, or_self, and_self, ite_true, ite_false, Nat.le_refl, Bool.not_eq_true, decide_not, Bool.not_eq_true', decide_eq_false_iff_not, Bool.not_eq_false, Bool.or_eq_true, if_true, if_false, ite_self, tC_len, tC_sure, tC_ltA, tC_lt1, tC_ro, tC_take, tC_all1, zcT_eq, zcI_len, zC_len, zC_ltA, zC_lt1, zC_sure, zC_ro, zC_take, set_tl, set_tv, sc_tt, sc_zt, sc_tz, sc_zz, add16, tA_def, lA_def, natInt, u_tl, u_tv, u_bT, hp, h0', hdel]
          rw [plenumlaw10_TrunkDoes_r2_eq]
          simp (config := {maxSteps := 4000000, implicitDefEqProofs := false}) (disch := omega) only [go_sem, ↓reduceIte, Nat.reduceAdd, Nat.reduceSub, Nat.reduceMul, Nat.reduceLeDiff, Nat.reduceLT, Int.reduceEq, Int.reduceNe, Int.reduceLT, Int.reduceLE, Int.reduceAdd, Int.reduceSub, Int.reduceMul, Int.reduceNeg, Nat.zero_add, Nat.add_zero, Nat.mul_one, Int.toNat_natCast, Int.natCast_zero, Int.cast_ofNat_Int, or_false, false_or, or_true, true_or, Int.reduceToNat, Nat.sub_zero, Int.natCast_nonneg, Int.toNat_zero, Bool.true_and, Bool.and_true, Bool.false_and, Bool.and_false, Bool.true_or, Bool.or_true, Bool.false_or, Bool.or_false, Bool.not_true, Bool.not_false, Bool.not_not, true_and, and_true, false_and, and_false, not_true_eq_false, not_false_eq_true, eq_self, decide_true, decide_false, ne_eq, implies_true, forall_const, true_implies, false_implies, Bool.true_eq_false, Bool.false_eq_true, reduceCtorEq, List.map_cons, List.map_nil, List.all_cons, List.all_nil, List.length_cons, List.length_nil, List.length_map, List.length_append, List.nil_append, List.cons_append, List.set_cons_zero, List.set_cons_succ, List.set_nil, List.drop_zero, List.drop_succ_cons, List.drop_nil, List.take_zero, List.take_succ_cons, List.take_nil, Option.map_some, Option.map_none, Option.isSome_some, Nat.reduceEqDiff, Nat.reduceBEq, Nat.reduceGT, List.all_append, List.all_map, Function.comp_def, decide_eq_true_eq, Bool.and_eq_true, beq_self_eq_true, or_self, and_self, ite_true, ite_false, Nat.le_refl, Bool.not_eq_true, decide_not, Bool.not_eq_true', decide_eq_false_iff_not, Bool.not_eq_false, Bool.or_eq_true, if_true, if_false, ite_self, tC_len, tC_sure, tC_ltA, tC_lt1, tC_ro, tC_take, tC_all1, zcT_eq, zcI_len, zC_len, zC_ltA, zC_lt1, zC_sure, zC_ro, zC_take, set_tl, set_tv, sc_tt, sc_zt, sc_tz, sc_zz, add16, tA_def, lA_def, natInt, u_tl, u_tv, hd, hA]
        · have h0' : 0 ≤ ver := by omega
          have h9' : ¬ ver ≤ 2147483647 := by omega
          simp (config := {maxSteps := 4000000, implicitDefEqProofs := false}) (disch := omega) only [go_sem, ↓reduceIte, Nat.reduceAdd, Nat.reduceSub, Nat.reduceMul, Nat.reduceLeDiff, Nat.reduceLT, Int.reduceEq, Int.reduceNe, Int.reduceLT, Int.reduceLE, Int.reduceAdd, Int.reduceSub, Int.reduceMul, Int.reduceNeg, Nat.zero_add, Nat.add_zero, Nat.mul_one, Int.toNat_natCast, Int.natCast_zero, Int.cast_ofNat_Int, or_false, false_or, or_true, true_or, Int.reduceToNat, Nat.sub_zero, Int.natCast_nonneg, Int.toNat_zero, Bool.true_and, Bool.and_true, Bool.false_and, Bool.and_false, Bool.true_or, Bool.or_true, Bool.false_or, Bool.or_false, Bool.not_true, Bool.not_false, Bool.not_not, true_and, and_true, false_and, and_false, not_true_eq_false, not_false_eq_true, eq_self, decide_true, decide_false, ne_eq, implies_true, forall_const, true_implies, false_implies, Bool.true_eq_false, Bool.false_eq_true, reduceCtorEq, List.map_cons, List.map_nil, List.all_cons, List.all_nil, List.length_cons, List.length_nil, List.length_map, List.length_append, List.nil_append, List.cons_append, List.set_cons_zero, List.set_cons_succ, List.set_nil, List.drop_zero, List.drop_succ_cons, List.drop_nil, List.take_zero, List.take_succ_cons, List.take_nil, Option.map_some, Option.map_none, Option.isSome_some, Nat.reduceEqDiff, Nat.reduceBEq, Nat.reduceGT, List.all_append, List.all_map, Function.comp_def, decide_eq_true_eq, Bool.and_eq_true, beq_self_eq_true, or_self, and_self, ite_true, ite_false, Nat.le_refl, Bool.not_eq_true, decide_not, Bool.not_eq_true', decide_eq_false_iff_not, Bool.not_eq_false, Bool.or_eq_true, if_true, if_false, ite_self, tC_len, tC_sure, tC_ltA, tC_lt1, tC_ro, tC_take, tC_all1, zcT_eq, zcI_len, zC_len, zC_ltA, zC_lt1, zC_sure, zC_ro, zC_take, set_tl, set_tv, sc_tt, sc_zt, sc_tz, sc_zz, add16, tA_def, lA_def, natInt, u_tl, u_tv, u_bT, hp, h0', h9', hdel]
          rw [plenumlaw10_TrunkDoes_r2_eq]
          simp (config := {maxSteps := 4000000, implicitDefEqProofs := false}) (disch := omega) only [go_sem, ↓reduceIte, Nat.reduceAdd, Nat.reduceSub, Nat.reduceMul, Nat.reduceLeDiff, Nat.reduceLT, Int.reduceEq, Int.reduceNe, Int.reduceLT, Int.reduceLE, Int.reduceAdd, Int.reduceSub, Int.reduceMul, Int.reduceNeg, Nat.zero_add, Nat.add_zero, Nat.mul_one, Int.toNat_natCast, Int.natCast_zero, Int.cast_ofNat_Int, or_false, false_or, or_true, true_or, Int.reduceToNat, Nat.sub_zero, Int.natCast_nonneg, Int.toNat_zero, Bool.true_and, Bool.and_true, Bool.false_and, Bool.and_false, Bool.true_or, Bool.or_true, Bool.false_or, Bool.or_false, Bool.not_true, Bool.not_false, Bool.not_not, true_and, and_true, false_and, and_false, not_true_eq_false, not_false_eq_true, eq_self, decide_true, decide_false, ne_eq, implies_true, forall_const, true_implies, false_implies, Bool.true_eq_false, Bool.false_eq_true, reduceCtorEq, List.map_cons, List.map_nil, List.all_cons, List.all_nil, List.length_cons, List.length_nil, List.length_map, List.length_append, List.nil_append, List.cons_append, List.set_cons_zero, List.set_cons_succ, List.set_nil, List.drop_zero, List.drop_succ_cons, List.drop_nil, List.take_zero, List.take_succ_cons, List.take_nil, Option.map_some, Option.map_none, Option.isSome_some, Nat.reduceEqDiff, Nat.reduceBEq, Nat.reduceGT, List.all_append, List.all_map, Function.comp_def, decide_eq_true_eq, Bool.and_eq_true, beq_self_eq_true, or_self, and_self, ite_true, ite_false, Nat.le_refl, Bool.not_eq_true, decide_not, Bool.not_eq_true', decide_eq_false_iff_not, Bool.not_eq_false, Bool.or_eq_true, if_true, if_false, ite_self, tC_len, tC_sure, tC_ltA, tC_lt1, tC_ro, tC_take, tC_all1, zcT_eq, zcI_len, zC_len, zC_ltA, zC_lt1, zC_sure, zC_ro, zC_take, set_tl, set_tv, sc_tt, sc_zt, sc_tz, sc_zz, add16, tA_def, lA_def, natInt, u_tl, u_tv, hd, hA]
    · rw [hi] at hM
      rw [hput] at h1 hp
      simp (config := {maxSteps := 4000000, implicitDefEqProofs := false}) (disch := omega) only [go_sem, ↓reduceIte, Nat.reduceAdd, Nat.reduceSub, Nat.reduceMul, Nat.reduceLeDiff, Nat.reduceLT, Int.reduceEq, Int.reduceNe, Int.reduceLT, Int.reduceLE, Int.reduceAdd, Int.reduceSub, Int.reduceMul, Int.reduceNeg, Nat.zero_add, Nat.add_zero, Nat.mul_one, Int.toNat_natCast, Int.natCast_zero, Int.cast_ofNat_Int, or_false, false_or, or_true, true_or, Int.reduceToNat, Nat.sub_zero, Int.natCast_nonneg, Int.toNat_zero, Bool.true_and, Bool.and_true, Bool.false_and, Bool.and_false, Bool.true_or, Bool.or_true, Bool.false_or, Bool.or_false, Bool.not_true, Bool.not_false, Bool.not_not, true_and, and_true, false_and, and_false, not_true_eq_false, not_false_eq_true, eq_self, decide_true, decide_false, ne_eq, implies_true, forall_const, true_implies, false_implies, Bool.true_eq_false, Bool.false_eq_true, reduceCtorEq, List.map_cons, List.map_nil, List.all_cons, List.all_nil, List.length_cons, List.length_nil, List.length_map, List.length_append, List.nil_append, List.cons_append, List.set_cons_zero, List.set_cons_succ, List.set_nil, List.drop_zero, List.drop_succ_cons, List.drop_nil, List.take_zero, List.take_succ_cons, List.take_nil, Option.map_some, Option.map_none, Option.isSome_some, Nat.reduceEqDiff, Nat.reduceBEq, Nat.reduceGT, List.all_append, List.all_map, Function.comp_def, decide_eq_true_eq, Bool.and_eq_true, beq_self_eq_true, or_self, and_self, ite_true, ite_false, Nat.le_refl, Bool.not_eq_true, decide_not, Bool.not_eq_true', decide_eq_false_iff_not, Bool.not_eq_false, Bool.or_eq_true, if_true, if_false, ite_self, tC_len, tC_sure, tC_ltA, tC_lt1, tC_ro, tC_take, tC_all1, zcT_eq, zcI_len, zC_len, zC_ltA, zC_lt1, zC_sure, zC_ro, zC_take, set_tl, set_tv, sc_tt, sc_zt, sc_tz, sc_zz, add16, tA_def, lA_def, natInt, u_tl, u_tv, u_bT, hf, hff, hx, h1, h2, h3, h4, hM, iA_def, zcI_set]
      rw [plenumlaw10_TrunkDoes_r1_eq]
      rcases hdel with ⟨h0, h9, hdel⟩ | ⟨h0, hdel⟩
      · simp (config := {maxSteps := 4000000, implicitDefEqProofs := false}) (disch := omega) only [go_sem, ↓reduceIte, Nat.reduceAdd, Nat.reduceSub, Nat.reduceMul, Nat.reduceLeDiff, Nat.reduceLT, Int.reduceEq, Int.reduceNe, Int.reduceLT, Int.reduceLE, Int.reduceAdd, Int.reduceSub, Int.reduceMul, Int.reduceNeg, Nat.zero_add, Nat.add_zero, Nat.mul_one, Int.toNat_natCast, Int.natCast_zero, Int.cast_ofNat_Int, or_false, false_or, or_true, true_or, Int.reduceToNat, Nat.sub_zero, Int.natCast_nonneg, Int.toNat_zero, Bool.true_and, Bool.and_true, Bool.false_and, Bool.and_false, Bool.true_or, Bool.or_true, Bool.false_or, Bool.or_false, Bool.not_true, Bool.not_false, Bool.not_not, true_and, and_true, false_and, and_false, not_true_eq_false, not_false_eq_true, eq_self, decide_true, decide_false, ne_eq, implies_true, forall_const, true_implies, false_implies, Bool.true_eq_false, Bool.false_eq_true, reduceCtorEq, List.map_cons, List.map_nil, List.all_cons, List.all_nil, List.length_cons, List.length_nil, List.length_map, List.length_append, List.nil_append, List.cons_append, List.set_cons_zero, List.set_cons_succ, List.set_nil, List.drop_zero, List.drop_succ_cons, List.drop_nil, List.take_zero, List.take_succ_cons, List.take_nil, Option.map_some, Option.map_none, Option.isSome_some, Nat.reduceEqDiff, Nat.reduceBEq, Nat.reduceGT, List.all_append, List.all_map, Function.comp_def, decide_eq_true_eq, Bool.and_eq_true, beq_self_eq_true, or_self, and_self, ite_true, ite_false, Nat.le_refl, Bool.not_eq_true, decide_not, Bool.not_eq_true', decide_eq_false_iff_not, Bool.not_eq_false, Bool.or_eq_true, if_true, if_false, ite_self, tC_len, tC_sure, tC_ltA, tC_lt1, tC_ro, tC_take, tC_all1, zcT_eq, zcI_len, zC_len, zC_ltA, zC_lt1, zC_sure, zC_ro, zC_take, set_tl, set_tv, sc_tt, sc_zt, sc_tz, sc_zz, add16, tA_def, lA_def, natInt, u_tl, u_tv, u_bT, hp, h0, h9, hdel]
        rw [plenumlaw10_TrunkDoes_r2_eq]
        simp (config := {maxSteps := 4000000, implicitDefEqProofs := false}) (disch := omega) only [go_sem, ↓reduceIte, Nat.reduceAdd, Nat.reduceSub, Nat.reduceMul, Nat.reduceLeDiff, Nat.reduceLT, Int.reduceEq, Int.reduceNe, Int.reduceLT, Int.reduceLE, Int.reduceAdd, Int.reduceSub, Int.reduceMul, Int.reduceNeg, Nat.zero_add, Nat.add_zero, Nat.mul_one, Int.toNat_natCast, Int.natCast_zero, Int.cast_ofNat_Int, or_false, false_or, or_true, true_or, Int.reduceToNat, Nat.sub_zero, Int.natCast_nonneg, Int.toNat_zero, Bool.true_and, Bool.and_true, Bool.false_and, Bool.and_false, Bool.true_or, Bool.or_true, Bool.false_or, Bool.or_false, Bool.not_true, Bool.not_false, Bool.not_not, true_and, and_true, false_and, and_false, not_true_eq_false, not_false_eq_true, eq_self, decide_true, decide_false, ne_eq, implies_true, forall_const, true_implies, false_implies, Bool.true_eq_false, Bool.false_eq_true, reduceCtorEq, List.map_cons, List.map_nil, List.all_cons, List.all_nil, List.length_cons, List.length_nil, List.length_map, List.length_append, List.nil_append, List.cons_append, List.set_cons_zero, List.set_cons_succ, List.set_nil, List.drop_zero, List.drop_succ_cons, List.drop_nil, List.take_zero, List.take_succ_cons, List.take_nil, Option.map_some, Option.map_none, Option.isSome_some, Nat.reduceEqDiff, Nat.reduceBEq, Nat.reduceGT, List.all_append, List.all_map, Function.comp_def, decide_eq_true_eq, Bool.and_eq_true, beq_self_eq_true, or_self, and_self, ite_true, ite_false, Nat.le_refl, Bool.not_eq_true, decide_not, Bool.not_eq_true', decide_eq_false_iff_not, Bool.not_eq_false, Bool.or_eq_true, if_true, if_false, ite_self, tC_len, tC_sure, tC_ltA, tC_lt1, tC_ro, tC_take, tC_all1, zcT_eq, zcI_len, zC_len, zC_ltA, zC_lt1, zC_sure, zC_ro, zC_take, set_tl, set_tv, sc_tt, sc_zt, sc_tz, sc_zz, add16, tA_def, lA_def, natInt, u_tl, u_tv, hd, hA]
      · rw [hdel] at hd
        rcases h0 with h0 | h0
        · have h0' : ¬ 0 ≤ ver := by omega
          simp (config := {maxSteps := 4000000, implicitDefEqProofs := false}) (disch := omega) only [go_sem, ↓reduceIte, Nat.reduceAdd, Nat.reduceSub, Nat.reduceMul, Nat.reduceLeDiff, Nat.reduceLT, Int.reduceEq, Int.reduceNe, Int.reduceLT, Int.reduceLE, Int.reduceAdd, Int.reduceSub, Int.reduceMul, Int.reduceNeg, Nat.zero_add, Nat.add_zero, Nat.mul_one, Int.toNat_natCast, Int.natCast_zero, Int.cast_ofNat_Int, or_false, false_or, or_true, true_or, Int.reduceToNat, Nat.sub_zero, Int.natCast_nonneg, Int.toNat_zero, Bool.true_and, Bool.and_true, Bool.false_and, Bool.and_false, Bool.true_or, Bool.or_true, Bool.false_or, Bool.or_false, Bool.not_true, Bool.not_false, Bool.not_not, true_and, and_true, false_and, and_false, not_true_eq_false, not_false_eq_true, eq_self, decide_true, decide_false, ne_eq, implies_true, forall_const, true_implies, false_implies, Bool.true_eq_false, Bool.false_eq_true, reduceCtorEq, List.map_cons, List.map_nil, List.all_cons, List.all_nil, List.length_cons, List.length_nil, List.length_map, List.length_append, List.nil_append, List.cons_append, List.set_cons_zero, List.set_cons_succ, List.set_nil, List.drop_zero, List.drop_succ_cons, List.drop_nil, List.take_zero, List.take_succ_cons, List.take_nil, Option.map_some, Option.map_none, Option.isSome_some, Nat.reduceEqDiff, Nat.reduceBEq, Nat.reduceGT, List.all_append, List.all_map, Function.comp_def, decide_eq_true_eq, Bool.and_eq_true, beq_self_eq_true, or_self, and_self, ite_true, ite_false, Nat.le_refl, Bool.not_eq_true, decide_not, Bool.not_eq_true', decide_eq_false_iff_not, Bool.not_eq_false, Bool.or_eq_true, if_true, if_false, ite_self, tC_len, tC_sure, tC_ltA, tC_lt1, tC_ro, tC_take, tC_all1, zcT_eq, zcI_len, zC_len, zC_ltA, zC_lt1, zC_sure, zC_ro, zC_take, set_tl, set_tv, sc_tt, sc_zt, sc_tz, sc_zz, add16, tA_def, lA_def, natInt, u_tl, u_tv, u_bT, hp, h0', hdel]
          rw [plenumlaw10_TrunkDoes_r2_eq]
          simp (config := {maxSteps := 4000000, implicitDefEqProofs := false}) (disch := omega) only [go_sem, ↓reduceIte, Nat.reduceAdd, Nat.reduceSub, Nat.reduceMul, Nat.reduceLeDiff, Nat.reduceLT, Int.reduceEq, Int.reduceNe, Int.reduceLT, Int.reduceLE, Int.reduceAdd, Int.reduceSub, Int.reduceMul, Int.reduceNeg, Nat.zero_add, Nat.add_zero, Nat.mul_one, Int.toNat_natCast, Int.natCast_zero, Int.cast_ofNat_Int, or_false, false_or, or_true, true_or, Int.reduceToNat, Nat.sub_zero, Int.natCast_nonneg, Int.toNat_zero, Bool.true_and, Bool.and_true, Bool.false_and, Bool.and_false, Bool.true_or, Bool.or_true, Bool.false_or, Bool.or_false, Bool.not_true, Bool.not_false, Bool.not_not, true_and, and_true, false_and, and_false, not_true_eq_false, not_false_eq_true, eq_self, decide_true, decide_false, ne_eq, implies_true, forall_const, true_implies, false_implies, Bool.true_eq_false, Bool.false_eq_true, reduceCtorEq, List.map_cons, List.map_nil, List.all_cons, List.all_nil, List.length_cons, List.length_nil, List.length_map, List.length_append, List.nil_append, List.cons_append, List.set_cons_zero, List.set_cons_succ, List.set_nil, List.drop_zero, List.drop_succ_cons, List.drop_nil, List.take_zero, List.take_succ_cons, List.take_nil, Option.map_some, Option.map_none, Option.isSome_some, Nat.reduceEqDiff, Nat.reduceBEq, Nat.reduceGT, List.all_append, List.all_map, Function.comp_def, decide_eq_true_eq, Bool.and_eq_true, beq_self_eq_true, or_self, and_self, ite_true, ite_false, Nat.le_refl, Bool.not_eq_true, decide_not, Bool.not_eq_true', decide_eq_false_iff_not, Bool.not_eq_false, Bool.or_eq_true, if_true, if_false, ite_self, tC_len, tC_sure, tC_ltA, tC_lt1, tC_ro, tC_take, tC_all1, zcT_eq, zcI_len, zC_len, zC_ltA, zC_lt1, zC_sure, zC_ro, zC_take, set_tl, set_tv, sc_tt, sc_zt, sc_tz, sc_zz, add16, tA_def, lA_def, natInt, u_tl, u_tv, hd, hA]
        · have h0' : 0 ≤ ver := by omega
          have h9' : ¬ ver ≤ 2147483647 := by omega
          simp (config := {maxSteps := 4000000, implicitDefEqProofs := false}) (disch := omega) only [go_sem, ↓reduceIte, Nat.reduceAdd, Nat.reduceSub, Nat.reduceMul, Nat.reduceLeDiff, Nat.reduceLT, Int.reduceEq, Int.reduceNe, Int.reduceLT, Int.reduceLE, Int.reduceAdd, Int.reduceSub, Int.reduceMul, Int.reduceNeg, Nat.zero_add, Nat.add_zero, Nat.mul_one, Int.toNat_natCast, Int.natCast_zero, Int.cast_ofNat_Int, or_false, false_or, or_true, true_or, Int.reduceToNat, Nat.sub_zero, Int.natCast_nonneg, Int.toNat_zero, Bool.true_and, Bool.and_true, Bool.false_and, Bool.and_false, Bool.true_or, Bool.or_true, Bool.false_or, Bool.or_false, Bool.not_true, Bool.not_false, Bool.not_not, true_and, and_true, false_and, and_false, not_true_eq_false, not_false_eq_true, eq_self, decide_true, decide_false, ne_eq, implies_true, forall_const, true_implies, false_implies, Bool.true_eq_false, Bool.false_eq_true, reduceCtorEq, List.map_cons, List.map_nil, List.all_cons, List.all_nil, List.length_cons, List.length_nil, List.length_map, List.length_append, List.nil_append, List.cons_append, List.set_cons_zero, List.set_cons_succ, List.set_nil, List.drop_zero, List.drop_succ_cons, List.drop_nil, List.take_zero, List.take_succ_cons, List.take_nil, Option.map_some, Option.map_none, Option.isSome_some, Nat.reduceEqDiff, Nat.reduceBEq, Nat.reduceGT, List.all_append, List.all_map, Function.comp_def, decide_eq_true_eq, Bool.and_eq_true, beq_self_eq_true, or_self, and_self, ite_true, ite_false, Nat.le_refl, Bool.not_eq_true, decide_not, Bool.not_eq_true', decide_eq_false_iff_not, Bool.not_eq_false, Bool.or_eq_true, if_true, if_false, ite_self, tC_len, tC_sure, tC_ltA, tC_lt1, tC_ro, tC_take, tC_all1, zcT_eq, zcI_len, zC_len, zC_ltA, zC_lt1, zC_sure, zC_ro, zC_take, set_tl, set_tv, sc_tt, sc_zt, sc_tz, sc_zz, add16, tA_def, lA_def, natInt, u_tl, u_tv, u_bT, hp, h0', h9', hdel]
          rw [plenumlaw10_TrunkDoes_r2_eq]
          simp (config := {maxSteps := 4000000, implicitDefEqProofs := false}) (disch := omega) only [go_sem, ↓reduceIte, Nat.reduceAdd, Nat.reduceSub, Nat.reduceMul, Nat.reduceLeDiff, Nat.reduceLT, Int.reduceEq, Int.reduceNe, Int.reduceLT, Int.reduceLE, Int.reduceAdd, Int.reduceSub, Int.reduceMul, Int.reduceNeg, Nat.zero_add, Nat.add_zero, Nat.mul_one, Int.toNat_natCast, Int.natCast_zero, Int.cast_ofNat_Int, or_false, false_or, or_true, true_or, Int.reduceToNat, Nat.sub_zero, Int.natCast_nonneg, Int.toNat_zero, Bool.true_and, Bool.and_true, Bool.false_and, Bool.and_false, Bool.true_or, Bool.or_true, Bool.false_or, Bool.or_false, Bool.not_true, Bool.not_false, Bool.not_not, true_and, and_true, false_and, and_false, not_true_eq_false, not_false_eq_true, eq_self, decide_true, decide_false, ne_eq, implies_true, forall_const, true_implies, false_implies, Bool.true_eq_false, Bool.false_eq_true, reduceCtorEq, List.map_cons, List.map_nil, List.all_cons, List.all_nil, List.length_cons, List.length_nil, List.length_map, List.length_append, List.nil_append, List.cons_append, List.set_cons_zero, List.set_cons_succ, List.set_nil, List.drop_zero, List.drop_succ_cons, List.drop_nil, List.take_zero, List.take_succ_cons, List.take_nil, Option.map_some, Option.map_none, Option.isSome_some, Nat.reduceEqDiff, Nat.reduceBEq, Nat.reduceGT, List.all_append, List.all_map, Function.comp_def, decide_eq_true_eq, Bool.and_eq_true, beq_self_eq_true, or_self, and_self, ite_true, ite_false, Nat.le_refl, Bool.not_eq_true, decide_not, Bool.not_eq_true', decide_eq_false_iff_not, Bool.not_eq_false, Bool.or_eq_true, if_true, if_false, ite_self, tC_len, tC_sure, tC_ltA, tC_lt1, tC_ro, tC_take, tC_all1, zcT_eq, zcI_len, zC_len, zC_ltA, zC_lt1, zC_sure, zC_ro, zC_take, set_tl, set_tv, sc_tt, sc_zt, sc_tz, sc_zz, add16, tA_def, lA_def, natInt, u_tl, u_tv, hd, hA]
end Go.Proofs.YthmnhfabkllgpaaDoor

namespace Go.Proofs.YthmnhfabkllgpaaDoor
open Go.RowKit
set_option linter.unusedVariables false
set_option linter.unusedSimpArgs false
set_option maxRecDepth 100000
theorem gok_sig {W : World} (h : Sig W) : GOk GG (SW W) := by
  intro g d hg j y hy
  simp only [GG, List.mem_singleton, Prod.mk.injEq] at hg
  obtain ⟨rfl, rfl⟩ := hg
  match j with
  | 0 => simp [cellsOf] at hy; subst hy; exact ⟨1, _, h.2.1, rfl, rfl, rfl⟩
  | 1 => simp [cellsOf] at hy; subst hy; exact ⟨1, _, h.2.2, rfl, rfl, rfl⟩
  | j + 2 => simp [cellsOf] at hy
theorem ofT_val {n : Nat} {ds : List AV} (h : ofT Tryd.prog n 28 ds) : ∃ (k i : Int) (s : Bytes), ds = [nA k, nA i, sA s] ∧ (-9223372036854775808 ≤ i ∧ i < 9223372036854775808) ∧ s.length ≤ maxLen := by
  obtain ⟨m, a1, b1, rfl, h1, a2, b2, rfl, h2, a3, b3, rfl, h3, rfl⟩ := ofT_struct Tryd.underlying28 h
  obtain ⟨k, rfl, _⟩ := ofT_i64 Tryd.underlying3 h1
  obtain ⟨i, rfl, hi⟩ := ofT_i64 Tryd.underlying2 h2
  obtain ⟨s, rfl, hs⟩ := ofT_str Tryd.underlying9 h3
  exact ⟨k, i, s, rfl, hi, hs⟩
theorem ofT_item {n : Nat} {ds : List AV} (h : ofT Tryd.prog n 30 ds) : ∃ x : Item, ds = x.cells.map (fun u => V u) ∧ ItemIn x := by
  obtain ⟨m, a1, b1, rfl, h1, a2, b2, rfl, h2, a3, b3, rfl, h3, rfl⟩ := ofT_struct Tryd.underlying30 h
  obtain ⟨k, rfl, hk⟩ := ofT_str Tryd.underlying9 h1
  obtain ⟨kd, i, s, rfl, hi, hs⟩ := ofT_val h2
  obtain ⟨v, rfl, _⟩ := ofT_i64 Tryd.underlying3 h3
  exact ⟨⟨k, kd, i, s, v⟩, rfl, hk, hs, hi⟩
theorem agg_item : aggT Tryd.prog 30 = true := by kernel_rfl
theorem ofT_items {n : Nat} {ds : List AV} (h : ofT Tryd.prog n 22 ds) : ∃ l : List Item, ds = [lA l] ∧ l.length ≤ maxLen ∧ ∀ x ∈ l, ItemIn x := by
  obtain ⟨m, es, rfl, hl, he⟩ := ofT_slice Tryd.underlying22 h
  obtain ⟨l, rfl, hi⟩ := list_of (f := flA Item.cells) (Q := ItemIn) fun x hx => by
    obtain ⟨q1, q2⟩ := he x hx
    obtain ⟨y, hy, hi⟩ := ofT_item q1
    exact ⟨y, by rw [cells_agg (q2.trans agg_item), hy]; rfl, hi⟩
  exact ⟨l, rfl, by simpa using hl, hi⟩
theorem flat_one {α β : Type} {f : β → α} {k : List β} : (k.map fun y => [f y]).flatten = k.map f := by
  induction k with
  | nil => rfl
  | cons x r ih => simp [ih]
theorem map_get {α β : Type} (f : α → β) (l : List α) (d : α) : l.map f = (List.range l.length).map fun i => f (l.getD i d) := by
  refine List.ext_getElem (by simp) fun i h1 h2 => ?_
  simp only [List.length_map] at h1
  simp [List.getElem_map, h1]
theorem ofT_trunk {n : Nat} {ds : List AV} (h : ofT Tryd.prog n 26 ds) : ∃ t : Tr, ds = tC t ∧ t.In := by
  obtain ⟨m, a1, b1, rfl, h1, a2, b2, rfl, h2, rfl⟩ := ofT_struct Tryd.underlying26 h
  obtain ⟨m1, ps, hp, rfl, hq⟩ := ofT_array Tryd.underlying23 h1
  obtain ⟨m2, qs, hp2, rfl, hq2⟩ := ofT_array Tryd.underlying24 h2
  obtain ⟨L, rfl, hL⟩ := list_of (f := fun l : List Item => [lA l]) (Q := fun l => l.length ≤ maxLen ∧ ∀ x ∈ l, ItemIn x) fun x hx => ofT_items (hq x hx)
  obtain ⟨Z, rfl, hZ⟩ := list_of (f := fun z : Int => [nA z]) (Q := fun _ => True) fun x hx => by
    obtain ⟨i, e, _⟩ := ofT_i64 Tryd.underlying3 (hq2 x hx)
    exact ⟨i, e, trivial⟩
  rw [List.length_map] at hp hp2
  refine ⟨⟨fun i => L.getD i [], fun i => Z.getD i 0⟩, ?_, fun i => ?_⟩
  · rw [List.append_nil, flat_one, flat_one, map_get lA L [], map_get nA Z 0, hp, hp2]
    rfl
  · dsimp only
    by_cases hi : i < L.length
    · have e : L.getD i [] = L[i] := by simp [hi]
      have hm := hL L[i] (List.getElem_mem hi)
      rw [e]
      exact ⟨hm.1, fun x hx => (hm.2 x hx).2.2, fun q => by omega⟩
    · have e : L.getD i [] = [] := by simp [List.getD, List.getElem?_eq_none (Nat.le_of_not_lt hi)]
      rw [e]
      exact ⟨Nat.zero_le _, (by intro x hx; cases hx), fun _ => rfl⟩
theorem mk_trunk {ds : List AV} : mkA Tryd.prog 26 ds = .agg ds := by
  unfold mkA
  rw [if_pos (show aggT Tryd.prog 26 = true by kernel_rfl)]
theorem mk_item {ds : List AV} : mkA Tryd.prog 30 ds = .agg ds := by
  unfold mkA
  rw [if_pos agg_item]
theorem mk_items {d : AV} : mkA Tryd.prog 22 [d] = d := by
  unfold mkA
  rw [if_neg (by rw [show aggT Tryd.prog 22 = false by kernel_rfl]; decide)]
  rfl
theorem mk_str {d : AV} : mkA Tryd.prog 9 [d] = d := by
  unfold mkA
  rw [if_neg (by rw [show aggT Tryd.prog 9 = false by kernel_rfl]; decide)]
  rfl
theorem mk_int {d : AV} : mkA Tryd.prog 3 [d] = d := by
  unfold mkA
  rw [if_neg (by rw [show aggT Tryd.prog 3 = false by kernel_rfl]; decide)]
  rfl
theorem arg_trunk {W : World} {v : Value} (h : Arg Tryd.prog W 26 v) : ∃ t : Tr, t.In ∧ rep (SW W) [] (tA t) v := by
  obtain ⟨n, ds, h1, h2⟩ := h
  obtain ⟨t, rfl, ht⟩ := ofT_trunk h1
  rw [mk_trunk] at h2
  exact ⟨t, ht, h2⟩
theorem arg_item {W : World} {v : Value} (h : Arg Tryd.prog W 30 v) : ∃ x : Item, ItemIn x ∧ rep (SW W) [] (iA x) v := by
  obtain ⟨n, ds, h1, h2⟩ := h
  obtain ⟨t, rfl, ht⟩ := ofT_item h1
  rw [mk_item] at h2
  exact ⟨t, ht, h2⟩
theorem arg_items {W : World} {v : Value} (h : Arg Tryd.prog W 22 v) : ∃ l : List Item, (l.length ≤ maxLen ∧ ∀ x ∈ l, ItemIn x) ∧ rep (SW W) [] (lA l) v := by
  obtain ⟨n, ds, h1, h2⟩ := h
  obtain ⟨t, rfl, ht⟩ := ofT_items h1
  rw [mk_items] at h2
  exact ⟨t, ht, h2⟩
theorem arg_str {W : World} {v : Value} (h : Arg Tryd.prog W 9 v) : ∃ s : Bytes, s.length ≤ maxLen ∧ rep (SW W) [] (sA s) v := by
  obtain ⟨n, ds, h1, h2⟩ := h
  obtain ⟨t, rfl, ht⟩ := ofT_str Tryd.underlying9 h1
  rw [mk_str] at h2
  exact ⟨t, ht, h2⟩
theorem arg_int {W : World} {v : Value} (h : Arg Tryd.prog W 3 v) : ∃ i : Int, (-9223372036854775808 ≤ i ∧ i < 9223372036854775808) ∧ rep (SW W) [] (nA i) v := by
  obtain ⟨n, ds, h1, h2⟩ := h
  obtain ⟨t, rfl, ht⟩ := ofT_i64 Tryd.underlying3 h1
  rw [mk_int] at h2
  exact ⟨t, ht, h2⟩
theorem reps2 {S : SS} {d0 d1 : AV} {v0 v1 : Value} (h0 : rep S [] d0 v0) (h1 : rep S [] d1 v1) : ∀ (j : Nat) (d : AV) (v : Value), [d0, d1][j]? = some d → [v0, v1][j]? = some v → rep S [] d v := by
  intro j d v hd hv
  match j with
  | 0 => simp at hd hv; subst hd hv; exact h0
  | 1 => simp at hd hv; subst hd hv; exact h1
  | j + 2 => simp at hd
theorem reps3 {S : SS} {d0 d1 d2 : AV} {v0 v1 v2 : Value} (h0 : rep S [] d0 v0) (h1 : rep S [] d1 v1) (h2 : rep S [] d2 v2) : ∀ (j : Nat) (d : AV) (v : Value), [d0, d1, d2][j]? = some d → [v0, v1, v2][j]? = some v → rep S [] d v := by
  intro j d v hd hv
  match j with
  | 0 => simp at hd hv; subst hd hv; exact h0
  | 1 => simp at hd hv; subst hd hv; exact h1
  | 2 => simp at hd hv; subst hd hv; exact h2
  | j + 3 => simp at hd
theorem walk_TrunkTells (W : World) (hS : Sig W) (v0 : Value) (h0 : Arg Tryd.prog W 26 v0) (v1 : Value) (h1 : Arg Tryd.prog W 9 v1) :
    Calls Tryd.prog 6 #[v0, v1] W fun e W' => e = .returned (.bool true) ∧ Below W.heap.size W W' := by
  obtain ⟨t, ht, r0⟩ := arg_trunk h0
  obtain ⟨k, hk, r1⟩ := arg_str h1
  exact run_tells (plenumlaw10_TrunkTells_ok 20000001 [_, _] _ _ (tells_s _ t k (by omega) ht)) (gok_sig hS) (vs := [v0, v1]) rfl (reps2 r0 r1)
theorem walk_TrunkDoes (W : World) (hS : Sig W) (v0 : Value) (h0 : Arg Tryd.prog W 26 v0) (v1 : Value) (h1 : Arg Tryd.prog W 30 v1) (v2 : Value) (h2 : Arg Tryd.prog W 3 v2) :
    Calls Tryd.prog 3 #[v0, v1, v2] W fun e W' => e = .returned (.bool true) ∧ Below W.heap.size W W' := by
  obtain ⟨t, ht, r0⟩ := arg_trunk h0
  obtain ⟨x, hx, r1⟩ := arg_item h1
  obtain ⟨i, hi, r2⟩ := arg_int h2
  exact run_tells (plenumlaw10_TrunkDoes_ok 20000001 [_, _, _] _ _ (does_s _ t x i (by omega) ht)) (gok_sig hS) (vs := [v0, v1, v2]) rfl (reps3 r0 r1 r2)
end Go.Proofs.YthmnhfabkllgpaaDoor

namespace Go.Proofs.YthmnhfabkllgpaaDoor
open Go.RowKit
set_option linter.unusedVariables false
set_option maxRecDepth 100000
noncomputable def plenumlaw10_TrunkKeeps_c : Code := (Tryd.f4.body).getD .skip
def plenumlaw10_TrunkKeeps_h : Hint := (.two .n (.two .n (.two .n (.join [1, 2, 3] (.two .n (.two (.two .n .n) .n)) (.join [1, 2, 3, 7, 8] .n (.two .n (.join [2, 3, 7, 8] (.two .n (.one (.lp [] [1, 2, 3, 7, 8, 9, 10] [2, 3, 6, 7, 8] (.join [1, 2, 3, 7, 8, 9, 10] (.two .n (.two .n .n)) (.join [1, 2, 3, 7, 8, 9, 10] (.one (.join [1, 2, 3, 7, 8, 9, 10, 11, 12] .n (.join [1, 2, 3, 7, 8, 9, 10, 11, 12, 13, 14] .n (.join [1, 2, 3, 7, 8, 9, 10, 11, 12, 13, 14] (.two .n (.two .n .n)) (.two (.two .n (.two .n .n)) (.join [1, 2, 3, 7, 8, 9, 10, 11, 12, 13, 15, 16] .n (.join [1, 2, 3, 7, 8, 9, 10, 11, 12, 13, 15, 16, 17, 18] .n (.two (.two .n (.two (.two .n .n) .n)) .n)))))))) .n))))) (.two .n (.two .n .n)))))))))
noncomputable def plenumlaw10_TrunkKeeps_env (m : Nat) : Env := [(7, .tell (plenumlaw10_Few_t m)), (18, .tell (plenumlaw10_short_t m)), (19, .tell (plenumlaw10_items_t m)), (20, .tell (trunk_May_t m)), (14, .tell (plenumlaw10_awake_t m)), (21, .tell (trunk_Get_t m)), (9, .tell (trunk_Put_t m)), (10, .tell (trunk_Delete_t m)), (22, .tell (trunk_Unlike_t m))]
noncomputable abbrev plenumlaw10_TrunkKeeps_fin : KO (AV × List AObj) := tellFK Tryd.prog [.tmp 6]
noncomputable def plenumlaw10_TrunkKeeps_r14 (m : Nat) (n0 : Nat) (kc : ASt → RO) (kx : KO (AV × List AObj)) (s : ASt) : RO := joinW Tryd.prog GG (plenumlaw10_TrunkKeeps_env m) m 147 (cdR (cdR (cdL (cdL (cdR (cdL (cdR (cdR (cdR (cdR (cdR (cdR plenumlaw10_TrunkKeeps_c)))))))))))) plenumlaw10_TrunkKeeps_h.r.r.r.r.r.r.l.r.c.c.r.r s (backW n0 [1, 2, 3, 7, 8, 9, 10] [2, 3, 6, 7, 8] kc kx)
noncomputable def plenumlaw10_TrunkKeeps_r13 (m : Nat) (n0 : Nat) (kc : ASt → RO) (kx : KO (AV × List AObj)) (s : ASt) : RO := joinW Tryd.prog GG (plenumlaw10_TrunkKeeps_env m) m 147 (cdR (cdR (cdL (cdL (cdR (cdL (cdR (cdR (cdR (cdR (cdR (cdR plenumlaw10_TrunkKeeps_c)))))))))))) plenumlaw10_TrunkKeeps_h.r.r.r.r.r.r.l.r.c.c.r.r s (backW n0 [1, 2, 3, 7, 8, 9, 10] [2, 3, 6, 7, 8] kc kx)
noncomputable def plenumlaw10_TrunkKeeps_r12 (m : Nat) (n0 : Nat) (kc : ASt → RO) (kx : KO (AV × List AObj)) (s : ASt) : RO := joinW Tryd.prog GG (plenumlaw10_TrunkKeeps_env m) m 147 (cdR (cdR (cdR (cdR (cdR (cdR (cdL (cdL (cdR (cdL (cdL (cdR (cdL (cdR (cdR (cdR (cdR (cdR (cdR plenumlaw10_TrunkKeeps_c))))))))))))))))))) plenumlaw10_TrunkKeeps_h.r.r.r.r.r.r.l.r.c.c.r.l.c.r.r.r.r.r.r s (blockK 1 (seqK (fun s => plenumlaw10_TrunkKeeps_r14 m n0 kc kx ⟨s.H, [(1, gt s.T 1), (2, gt s.T 2), (3, gt s.T 3), (7, gt s.T 7), (8, gt s.T 8), (9, gt s.T 9), (10, gt s.T 10)]⟩) (backW n0 [1, 2, 3, 7, 8, 9, 10] [2, 3, 6, 7, 8] kc kx)))
noncomputable def plenumlaw10_TrunkKeeps_r11 (m : Nat) (n0 : Nat) (kc : ASt → RO) (kx : KO (AV × List AObj)) (s : ASt) : RO := joinW Tryd.prog GG (plenumlaw10_TrunkKeeps_env m) m 147 (cdR (cdR (cdR (cdR (cdR (cdL (cdL (cdR (cdL (cdL (cdR (cdL (cdR (cdR (cdR (cdR (cdR (cdR plenumlaw10_TrunkKeeps_c)))))))))))))))))) plenumlaw10_TrunkKeeps_h.r.r.r.r.r.r.l.r.c.c.r.l.c.r.r.r.r.r s (blockK 1 (seqK (fun s => plenumlaw10_TrunkKeeps_r13 m n0 kc kx ⟨s.H, [(1, gt s.T 1), (2, gt s.T 2), (3, gt s.T 3), (7, gt s.T 7), (8, gt s.T 8), (9, gt s.T 9), (10, gt s.T 10)]⟩) (backW n0 [1, 2, 3, 7, 8, 9, 10] [2, 3, 6, 7, 8] kc kx)))
noncomputable def plenumlaw10_TrunkKeeps_r10 (m : Nat) (n0 : Nat) (kc : ASt → RO) (kx : KO (AV × List AObj)) (s : ASt) : RO := joinW Tryd.prog GG (plenumlaw10_TrunkKeeps_env m) m 147 (cdR (cdR (cdL (cdL (cdR (cdL (cdR (cdR (cdR (cdR (cdR (cdR plenumlaw10_TrunkKeeps_c)))))))))))) plenumlaw10_TrunkKeeps_h.r.r.r.r.r.r.l.r.c.c.r.r s (backW n0 [1, 2, 3, 7, 8, 9, 10] [2, 3, 6, 7, 8] kc kx)
noncomputable def plenumlaw10_TrunkKeeps_r9 (m : Nat) (n0 : Nat) (kc : ASt → RO) (kx : KO (AV × List AObj)) (s : ASt) : RO := joinW Tryd.prog GG (plenumlaw10_TrunkKeeps_env m) m 147 (cdR (cdR (cdL (cdL (cdR (cdL (cdR (cdR (cdR (cdR (cdR (cdR plenumlaw10_TrunkKeeps_c)))))))))))) plenumlaw10_TrunkKeeps_h.r.r.r.r.r.r.l.r.c.c.r.r s (backW n0 [1, 2, 3, 7, 8, 9, 10] [2, 3, 6, 7, 8] kc kx)
noncomputable def plenumlaw10_TrunkKeeps_r8 (m : Nat) (n0 : Nat) (kc : ASt → RO) (kx : KO (AV × List AObj)) (s : ASt) : RO := joinW Tryd.prog GG (plenumlaw10_TrunkKeeps_env m) m 147 (cdR (cdR (cdR (cdL (cdL (cdR (cdL (cdL (cdR (cdL (cdR (cdR (cdR (cdR (cdR (cdR plenumlaw10_TrunkKeeps_c)))))))))))))))) plenumlaw10_TrunkKeeps_h.r.r.r.r.r.r.l.r.c.c.r.l.c.r.r.r s (blockK 1 (seqK (fun s => plenumlaw10_TrunkKeeps_r10 m n0 kc kx ⟨s.H, [(1, gt s.T 1), (2, gt s.T 2), (3, gt s.T 3), (7, gt s.T 7), (8, gt s.T 8), (9, gt s.T 9), (10, gt s.T 10)]⟩) (backW n0 [1, 2, 3, 7, 8, 9, 10] [2, 3, 6, 7, 8] kc kx)))
noncomputable def plenumlaw10_TrunkKeeps_r7 (m : Nat) (n0 : Nat) (kc : ASt → RO) (kx : KO (AV × List AObj)) (s : ASt) : RO := joinW Tryd.prog GG (plenumlaw10_TrunkKeeps_env m) m 147 (cdR (cdR (cdL (cdL (cdR (cdL (cdR (cdR (cdR (cdR (cdR (cdR plenumlaw10_TrunkKeeps_c)))))))))))) plenumlaw10_TrunkKeeps_h.r.r.r.r.r.r.l.r.c.c.r.r s (backW n0 [1, 2, 3, 7, 8, 9, 10] [2, 3, 6, 7, 8] kc kx)
noncomputable def plenumlaw10_TrunkKeeps_r6 (m : Nat) (n0 : Nat) (kc : ASt → RO) (kx : KO (AV × List AObj)) (s : ASt) : RO := joinW Tryd.prog GG (plenumlaw10_TrunkKeeps_env m) m 147 (cdR (cdR (cdL (cdL (cdR (cdL (cdL (cdR (cdL (cdR (cdR (cdR (cdR (cdR (cdR plenumlaw10_TrunkKeeps_c))))))))))))))) plenumlaw10_TrunkKeeps_h.r.r.r.r.r.r.l.r.c.c.r.l.c.r.r s (blockK 1 (seqK (fun s => plenumlaw10_TrunkKeeps_r9 m n0 kc kx ⟨s.H, [(1, gt s.T 1), (2, gt s.T 2), (3, gt s.T 3), (7, gt s.T 7), (8, gt s.T 8), (9, gt s.T 9), (10, gt s.T 10)]⟩) (backW n0 [1, 2, 3, 7, 8, 9, 10] [2, 3, 6, 7, 8] kc kx)))
noncomputable def plenumlaw10_TrunkKeeps_r5 (m : Nat) (n0 : Nat) (kc : ASt → RO) (kx : KO (AV × List AObj)) (s : ASt) : RO := joinW Tryd.prog GG (plenumlaw10_TrunkKeeps_env m) m 147 (cdR (cdL (cdL (cdR (cdL (cdL (cdR (cdL (cdR (cdR (cdR (cdR (cdR (cdR plenumlaw10_TrunkKeeps_c)))))))))))))) plenumlaw10_TrunkKeeps_h.r.r.r.r.r.r.l.r.c.c.r.l.c.r s (blockK 1 (seqK (fun s => plenumlaw10_TrunkKeeps_r7 m n0 kc kx ⟨s.H, [(1, gt s.T 1), (2, gt s.T 2), (3, gt s.T 3), (7, gt s.T 7), (8, gt s.T 8), (9, gt s.T 9), (10, gt s.T 10)]⟩) (backW n0 [1, 2, 3, 7, 8, 9, 10] [2, 3, 6, 7, 8] kc kx)))
noncomputable def plenumlaw10_TrunkKeeps_r4 (m : Nat) (n0 : Nat) (kc : ASt → RO) (kx : KO (AV × List AObj)) (s : ASt) : RO := joinW Tryd.prog GG (plenumlaw10_TrunkKeeps_env m) m 147 (cdR (cdL (cdL (cdR (cdL (cdR (cdR (cdR (cdR (cdR (cdR plenumlaw10_TrunkKeeps_c))))))))))) plenumlaw10_TrunkKeeps_h.r.r.r.r.r.r.l.r.c.c.r s (backW n0 [1, 2, 3, 7, 8, 9, 10] [2, 3, 6, 7, 8] kc kx)
noncomputable def plenumlaw10_TrunkKeeps_r3 (m : Nat) (s : ASt) : RO := joinW Tryd.prog GG (plenumlaw10_TrunkKeeps_env m) m 147 (cdR (cdR (cdR (cdR (cdR (cdR (cdR plenumlaw10_TrunkKeeps_c))))))) plenumlaw10_TrunkKeeps_h.r.r.r.r.r.r.r s (plenumlaw10_TrunkKeeps_fin)
noncomputable def plenumlaw10_TrunkKeeps_b1 (m : Nat) (s : ASt) (kc : ASt → RO) (kx : KO (AV × List AObj)) : RO := bodyW Tryd.prog GG (plenumlaw10_TrunkKeeps_env m) m 147 (cdL (cdL (cdR (cdL (cdR (cdR (cdR (cdR (cdR (cdR plenumlaw10_TrunkKeeps_c)))))))))) plenumlaw10_TrunkKeeps_h.r.r.r.r.r.r.l.r.c.c [1, 2, 3, 7, 8, 9, 10] [2, 3, 6, 7, 8] s kc kx
noncomputable def plenumlaw10_TrunkKeeps_r2 (m : Nat) (s : ASt) : RO := joinW Tryd.prog GG (plenumlaw10_TrunkKeeps_env m) m 147 (cdR (cdR (cdR (cdR (cdR plenumlaw10_TrunkKeeps_c))))) plenumlaw10_TrunkKeeps_h.r.r.r.r.r s (plenumlaw10_TrunkKeeps_fin)
noncomputable def plenumlaw10_TrunkKeeps_r1 (m : Nat) (s : ASt) : RO := joinW Tryd.prog GG (plenumlaw10_TrunkKeeps_env m) m 147 (cdR (cdR (cdR (cdR plenumlaw10_TrunkKeeps_c)))) plenumlaw10_TrunkKeeps_h.r.r.r.r s (plenumlaw10_TrunkKeeps_fin)
noncomputable def plenumlaw10_TrunkKeeps (m : Nat) (t0 t1 t2 : AV) : RO := exec Tryd.prog GG (plenumlaw10_TrunkKeeps_env m) m 147 plenumlaw10_TrunkKeeps_c plenumlaw10_TrunkKeeps_h ⟨[], argsT 0 [t0, t1, t2]⟩ (plenumlaw10_TrunkKeeps_fin)
theorem plenumlaw10_TrunkKeeps_r14_eq (m : Nat) (n0 : Nat) (kc : ASt → RO) (kx : KO (AV × List AObj)) (H : List AObj) (t1 t2 t3 t7 t8 t9 t10 : AV) : plenumlaw10_TrunkKeeps_r14 m n0 kc kx ⟨H, [(1, t1), (2, t2), (3, t3), (7, t7), (8, t8), (9, t9), (10, t10)]⟩ =
  binE none false .add t10 (V (.int .i64 1)) fun t47 =>
  backE n0 H [(1, t1), (2, t2), (3, t3), (7, t7), (8, t8), (9, t9), (10, t47)] kc := by
  refine (joinW_eq Tryd.prog GG (plenumlaw10_TrunkKeeps_env m) m 147 (cdR (cdR (cdL (cdL (cdR (cdL (cdR (cdR (cdR (cdR (cdR (cdR plenumlaw10_TrunkKeeps_c)))))))))))) plenumlaw10_TrunkKeeps_h.r.r.r.r.r.r.l.r.c.c.r.r ⟨H, [(1, t1), (2, t2), (3, t3), (7, t7), (8, t8), (9, t9), (10, t10)]⟩ (backW n0 [1, 2, 3, 7, 8, 9, 10] [2, 3, 6, 7, 8] kc kx)).trans ?_
  kernel_rfl
theorem plenumlaw10_TrunkKeeps_r13_eq (m : Nat) (n0 : Nat) (kc : ASt → RO) (kx : KO (AV × List AObj)) (H : List AObj) (t1 t2 t3 t7 t8 t9 t10 : AV) : plenumlaw10_TrunkKeeps_r13 m n0 kc kx ⟨H, [(1, t1), (2, t2), (3, t3), (7, t7), (8, t8), (9, t9), (10, t10)]⟩ =
  binE none false .add t10 (V (.int .i64 1)) fun t47 =>
  backE n0 H [(1, t1), (2, t2), (3, t3), (7, t7), (8, t8), (9, t9), (10, t47)] kc := by
  refine (joinW_eq Tryd.prog GG (plenumlaw10_TrunkKeeps_env m) m 147 (cdR (cdR (cdL (cdL (cdR (cdL (cdR (cdR (cdR (cdR (cdR (cdR plenumlaw10_TrunkKeeps_c)))))))))))) plenumlaw10_TrunkKeeps_h.r.r.r.r.r.r.l.r.c.c.r.r ⟨H, [(1, t1), (2, t2), (3, t3), (7, t7), (8, t8), (9, t9), (10, t10)]⟩ (backW n0 [1, 2, 3, 7, 8, 9, 10] [2, 3, 6, 7, 8] kc kx)).trans ?_
  kernel_rfl
theorem plenumlaw10_TrunkKeeps_r12_eq (m : Nat) (n0 : Nat) (kc : ASt → RO) (kx : KO (AV × List AObj)) (H : List AObj) (t1 t2 t3 t7 t8 t9 t10 t11 t12 t13 t15 t16 t17 t18 : AV) : plenumlaw10_TrunkKeeps_r12 m n0 kc kx ⟨H, [(1, t1), (2, t2), (3, t3), (7, t7), (8, t8), (9, t9), (10, t10), (11, t11), (12, t12), (13, t13), (15, t15), (16, t16), (17, t17), (18, t18)]⟩ =
  binE none false .neq t16 (V (.int .i64 0)) fun t99 =>
  condE t99 (
   kx .ret ⟨H, [(2, t2), (3, t3), (6, (V (.bool false))), (7, t7), (8, t8)]⟩) (
   lenE false true H t15 fun t102 =>
   binE none false .gtr t102 (V (.int .i64 1)) fun t103 =>
   condE t103 (
   kx .ret ⟨H, [(2, t2), (3, t3), (6, (V (.bool false))), (7, t7), (8, t8)]⟩) (
   loadE 34 H t13 fun t106 =>
   tellE (trunk_May_t m [(ro H t106)]) [(ro H t106)] fun t107 =>
   unE .not t107 fun t108 =>
   condE t108 (
   kx .ret ⟨H, [(2, t2), (3, t3), (6, (V (.bool false))), (7, t7), (8, t8)]⟩) (
   idxSE 7 H t1 t10 fun t114 =>
   fieldE (some (0, 1)) t114 fun t115 =>
   loadE 1 H t115 fun t116 =>
   binE none false .neq t2 t116 fun t117 =>
   condE t117 (
   loadE 7 H t17 fun t119 =>
   loadE 7 H t11 fun t120 =>
   binE (some [.s, .i .i64, .i .i64, .s, .i .i64]) false .neq t119 t120 fun t121 =>
   condE t121 (
   kx .ret ⟨H, [(2, t2), (3, t3), (6, (V (.bool false))), (7, t7), (8, t8)]⟩) (
   binE none true .neq t18 t12 fun t125 =>
   condE t125 (
   kx .ret ⟨H, [(2, t2), (3, t3), (6, (V (.bool false))), (7, t7), (8, t8)]⟩) (
   loadE 34 H t13 fun t129 =>
   storeE 34 H t9 t129 fun H2 =>
   plenumlaw10_TrunkKeeps_r14 m n0 kc kx ⟨H2, [(1, t1), (2, t2), (3, t3), (7, t7), (8, t8), (9, t9), (10, t10)]⟩))) (
   loadE 34 H t13 fun t129 =>
   storeE 34 H t9 t129 fun H2 =>
   plenumlaw10_TrunkKeeps_r14 m n0 kc kx ⟨H2, [(1, t1), (2, t2), (3, t3), (7, t7), (8, t8), (9, t9), (10, t10)]⟩)))) := by
  refine (joinW_eq Tryd.prog GG (plenumlaw10_TrunkKeeps_env m) m 147 (cdR (cdR (cdR (cdR (cdR (cdR (cdL (cdL (cdR (cdL (cdL (cdR (cdL (cdR (cdR (cdR (cdR (cdR (cdR plenumlaw10_TrunkKeeps_c))))))))))))))))))) plenumlaw10_TrunkKeeps_h.r.r.r.r.r.r.l.r.c.c.r.l.c.r.r.r.r.r.r ⟨H, [(1, t1), (2, t2), (3, t3), (7, t7), (8, t8), (9, t9), (10, t10), (11, t11), (12, t12), (13, t13), (15, t15), (16, t16), (17, t17), (18, t18)]⟩ (blockK 1 (seqK (fun s => plenumlaw10_TrunkKeeps_r14 m n0 kc kx ⟨s.H, [(1, gt s.T 1), (2, gt s.T 2), (3, gt s.T 3), (7, gt s.T 7), (8, gt s.T 8), (9, gt s.T 9), (10, gt s.T 10)]⟩) (backW n0 [1, 2, 3, 7, 8, 9, 10] [2, 3, 6, 7, 8] kc kx)))).trans ?_
  kernel_rfl
theorem plenumlaw10_TrunkKeeps_r11_eq (m : Nat) (n0 : Nat) (kc : ASt → RO) (kx : KO (AV × List AObj)) (H : List AObj) (t1 t2 t3 t7 t8 t9 t10 t11 t12 t13 t15 t16 : AV) : plenumlaw10_TrunkKeeps_r11 m n0 kc kx ⟨H, [(1, t1), (2, t2), (3, t3), (7, t7), (8, t8), (9, t9), (10, t10), (11, t11), (12, t12), (13, t13), (15, t15), (16, t16)]⟩ =
  loadE 34 H t13 fun t93 =>
  tellE (trunk_Get_t m [(ro H t93), (ro H t2)]) [(ro H t93), (ro H t2)] fun t95 =>
  extE t95 0 fun t96 =>
  extE t95 1 fun t97 =>
  allocE (some zc_api_Item) ty_api_Item H fun t17 H2 =>
  storeE 7 H2 t17 t96 fun H3 =>
  plenumlaw10_TrunkKeeps_r12 m n0 kc kx ⟨H3, [(1, t1), (2, t2), (3, t3), (7, t7), (8, t8), (9, t9), (10, t10), (11, t11), (12, t12), (13, t13), (15, t15), (16, t16), (17, t17), (18, t97)]⟩ := by
  refine (joinW_eq Tryd.prog GG (plenumlaw10_TrunkKeeps_env m) m 147 (cdR (cdR (cdR (cdR (cdR (cdL (cdL (cdR (cdL (cdL (cdR (cdL (cdR (cdR (cdR (cdR (cdR (cdR plenumlaw10_TrunkKeeps_c)))))))))))))))))) plenumlaw10_TrunkKeeps_h.r.r.r.r.r.r.l.r.c.c.r.l.c.r.r.r.r.r ⟨H, [(1, t1), (2, t2), (3, t3), (7, t7), (8, t8), (9, t9), (10, t10), (11, t11), (12, t12), (13, t13), (15, t15), (16, t16)]⟩ (blockK 1 (seqK (fun s => plenumlaw10_TrunkKeeps_r13 m n0 kc kx ⟨s.H, [(1, gt s.T 1), (2, gt s.T 2), (3, gt s.T 3), (7, gt s.T 7), (8, gt s.T 8), (9, gt s.T 9), (10, gt s.T 10)]⟩) (backW n0 [1, 2, 3, 7, 8, 9, 10] [2, 3, 6, 7, 8] kc kx)))).trans ?_
  kernel_rfl
theorem plenumlaw10_TrunkKeeps_r10_eq (m : Nat) (n0 : Nat) (kc : ASt → RO) (kx : KO (AV × List AObj)) (H : List AObj) (t1 t2 t3 t7 t8 t9 t10 : AV) : plenumlaw10_TrunkKeeps_r10 m n0 kc kx ⟨H, [(1, t1), (2, t2), (3, t3), (7, t7), (8, t8), (9, t9), (10, t10)]⟩ =
  binE none false .add t10 (V (.int .i64 1)) fun t47 =>
  backE n0 H [(1, t1), (2, t2), (3, t3), (7, t7), (8, t8), (9, t9), (10, t47)] kc := by
  refine (joinW_eq Tryd.prog GG (plenumlaw10_TrunkKeeps_env m) m 147 (cdR (cdR (cdL (cdL (cdR (cdL (cdR (cdR (cdR (cdR (cdR (cdR plenumlaw10_TrunkKeeps_c)))))))))))) plenumlaw10_TrunkKeeps_h.r.r.r.r.r.r.l.r.c.c.r.r ⟨H, [(1, t1), (2, t2), (3, t3), (7, t7), (8, t8), (9, t9), (10, t10)]⟩ (backW n0 [1, 2, 3, 7, 8, 9, 10] [2, 3, 6, 7, 8] kc kx)).trans ?_
  kernel_rfl
theorem plenumlaw10_TrunkKeeps_r9_eq (m : Nat) (n0 : Nat) (kc : ASt → RO) (kx : KO (AV × List AObj)) (H : List AObj) (t1 t2 t3 t7 t8 t9 t10 : AV) : plenumlaw10_TrunkKeeps_r9 m n0 kc kx ⟨H, [(1, t1), (2, t2), (3, t3), (7, t7), (8, t8), (9, t9), (10, t10)]⟩ =
  binE none false .add t10 (V (.int .i64 1)) fun t47 =>
  backE n0 H [(1, t1), (2, t2), (3, t3), (7, t7), (8, t8), (9, t9), (10, t47)] kc := by
  refine (joinW_eq Tryd.prog GG (plenumlaw10_TrunkKeeps_env m) m 147 (cdR (cdR (cdL (cdL (cdR (cdL (cdR (cdR (cdR (cdR (cdR (cdR plenumlaw10_TrunkKeeps_c)))))))))))) plenumlaw10_TrunkKeeps_h.r.r.r.r.r.r.l.r.c.c.r.r ⟨H, [(1, t1), (2, t2), (3, t3), (7, t7), (8, t8), (9, t9), (10, t10)]⟩ (backW n0 [1, 2, 3, 7, 8, 9, 10] [2, 3, 6, 7, 8] kc kx)).trans ?_
  kernel_rfl
theorem plenumlaw10_TrunkKeeps_r8_eq (m : Nat) (n0 : Nat) (kc : ASt → RO) (kx : KO (AV × List AObj)) (H : List AObj) (t1 t2 t3 t7 t8 t9 t10 t11 t12 t13 t14 : AV) : plenumlaw10_TrunkKeeps_r8 m n0 kc kx ⟨H, [(1, t1), (2, t2), (3, t3), (7, t7), (8, t8), (9, t9), (10, t10), (11, t11), (12, t12), (13, t13), (14, t14)]⟩ =
  binE none false .neq t14 (V (.int .i64 0)) fun t85 =>
  condE t85 (
   plenumlaw10_TrunkKeeps_r10 m n0 kc kx ⟨H, [(1, t1), (2, t2), (3, t3), (7, t7), (8, t8), (9, t9), (10, t10)]⟩) (
   loadE 34 H t9 fun t87 =>
   loadE 34 H t13 fun t88 =>
   tellE (trunk_Unlike_t m [(ro H t87), (ro H t88)]) [(ro H t87), (ro H t88)] fun t89 =>
   extE t89 0 fun t90 =>
   extE t89 1 fun t91 =>
   plenumlaw10_TrunkKeeps_r11 m n0 kc kx ⟨H, [(1, t1), (2, t2), (3, t3), (7, t7), (8, t8), (9, t9), (10, t10), (11, t11), (12, t12), (13, t13), (15, t90), (16, t91)]⟩) := by
  refine (joinW_eq Tryd.prog GG (plenumlaw10_TrunkKeeps_env m) m 147 (cdR (cdR (cdR (cdL (cdL (cdR (cdL (cdL (cdR (cdL (cdR (cdR (cdR (cdR (cdR (cdR plenumlaw10_TrunkKeeps_c)))))))))))))))) plenumlaw10_TrunkKeeps_h.r.r.r.r.r.r.l.r.c.c.r.l.c.r.r.r ⟨H, [(1, t1), (2, t2), (3, t3), (7, t7), (8, t8), (9, t9), (10, t10), (11, t11), (12, t12), (13, t13), (14, t14)]⟩ (blockK 1 (seqK (fun s => plenumlaw10_TrunkKeeps_r10 m n0 kc kx ⟨s.H, [(1, gt s.T 1), (2, gt s.T 2), (3, gt s.T 3), (7, gt s.T 7), (8, gt s.T 8), (9, gt s.T 9), (10, gt s.T 10)]⟩) (backW n0 [1, 2, 3, 7, 8, 9, 10] [2, 3, 6, 7, 8] kc kx)))).trans ?_
  kernel_rfl
theorem plenumlaw10_TrunkKeeps_r7_eq (m : Nat) (n0 : Nat) (kc : ASt → RO) (kx : KO (AV × List AObj)) (H : List AObj) (t1 t2 t3 t7 t8 t9 t10 : AV) : plenumlaw10_TrunkKeeps_r7 m n0 kc kx ⟨H, [(1, t1), (2, t2), (3, t3), (7, t7), (8, t8), (9, t9), (10, t10)]⟩ =
  binE none false .add t10 (V (.int .i64 1)) fun t47 =>
  backE n0 H [(1, t1), (2, t2), (3, t3), (7, t7), (8, t8), (9, t9), (10, t47)] kc := by
  refine (joinW_eq Tryd.prog GG (plenumlaw10_TrunkKeeps_env m) m 147 (cdR (cdR (cdL (cdL (cdR (cdL (cdR (cdR (cdR (cdR (cdR (cdR plenumlaw10_TrunkKeeps_c)))))))))))) plenumlaw10_TrunkKeeps_h.r.r.r.r.r.r.l.r.c.c.r.r ⟨H, [(1, t1), (2, t2), (3, t3), (7, t7), (8, t8), (9, t9), (10, t10)]⟩ (backW n0 [1, 2, 3, 7, 8, 9, 10] [2, 3, 6, 7, 8] kc kx)).trans ?_
  kernel_rfl
theorem plenumlaw10_TrunkKeeps_r6_eq (m : Nat) (n0 : Nat) (kc : ASt → RO) (kx : KO (AV × List AObj)) (H : List AObj) (t1 t2 t3 t7 t8 t9 t10 t11 t12 t13 t14 : AV) : plenumlaw10_TrunkKeeps_r6 m n0 kc kx ⟨H, [(1, t1), (2, t2), (3, t3), (7, t7), (8, t8), (9, t9), (10, t10), (11, t11), (12, t12), (13, t13), (14, t14)]⟩ =
  idxSE 7 H t1 t10 fun t65 =>
  fieldE (some (4, 1)) t65 fun t66 =>
  loadE 1 H t66 fun t67 =>
  binE none false .rem t67 (V (.int .i64 3)) fun t68 =>
  binE none false .eql t68 (V (.int .i64 0)) fun t69 =>
  condE t69 (
   loadE 34 H t9 fun t71 =>
   idxSE 7 H t1 t10 fun t74 =>
   fieldE (some (0, 1)) t74 fun t75 =>
   loadE 1 H t75 fun t76 =>
   fieldE (some (16, 18)) t9 fun t77 =>
   idxPE 16 1 t77 (V (.int .i64 1)) fun t78 =>
   loadE 1 H t78 fun t79 =>
   binE none false .add t79 (V (.int .i64 1)) fun t80 =>
   tellE (trunk_Delete_t m [(ro H t71), (ro H t76), (ro H t80)]) [(ro H t71), (ro H t76), (ro H t80)] fun t81 =>
   extE t81 0 fun t82 =>
   extE t81 1 fun t83 =>
   storeE 34 H t13 t82 fun H2 =>
   plenumlaw10_TrunkKeeps_r8 m n0 kc kx ⟨H2, [(1, t1), (2, t2), (3, t3), (7, t7), (8, t8), (9, t9), (10, t10), (11, t11), (12, t12), (13, t13), (14, t83)]⟩) (
   plenumlaw10_TrunkKeeps_r8 m n0 kc kx ⟨H, [(1, t1), (2, t2), (3, t3), (7, t7), (8, t8), (9, t9), (10, t10), (11, t11), (12, t12), (13, t13), (14, t14)]⟩) := by
  refine (joinW_eq Tryd.prog GG (plenumlaw10_TrunkKeeps_env m) m 147 (cdR (cdR (cdL (cdL (cdR (cdL (cdL (cdR (cdL (cdR (cdR (cdR (cdR (cdR (cdR plenumlaw10_TrunkKeeps_c))))))))))))))) plenumlaw10_TrunkKeeps_h.r.r.r.r.r.r.l.r.c.c.r.l.c.r.r ⟨H, [(1, t1), (2, t2), (3, t3), (7, t7), (8, t8), (9, t9), (10, t10), (11, t11), (12, t12), (13, t13), (14, t14)]⟩ (blockK 1 (seqK (fun s => plenumlaw10_TrunkKeeps_r9 m n0 kc kx ⟨s.H, [(1, gt s.T 1), (2, gt s.T 2), (3, gt s.T 3), (7, gt s.T 7), (8, gt s.T 8), (9, gt s.T 9), (10, gt s.T 10)]⟩) (backW n0 [1, 2, 3, 7, 8, 9, 10] [2, 3, 6, 7, 8] kc kx)))).trans ?_
  kernel_rfl
theorem plenumlaw10_TrunkKeeps_r5_eq (m : Nat) (n0 : Nat) (kc : ASt → RO) (kx : KO (AV × List AObj)) (H : List AObj) (t1 t2 t3 t7 t8 t9 t10 t11 t12 : AV) : plenumlaw10_TrunkKeeps_r5 m n0 kc kx ⟨H, [(1, t1), (2, t2), (3, t3), (7, t7), (8, t8), (9, t9), (10, t10), (11, t11), (12, t12)]⟩ =
  loadE 34 H t9 fun t55 =>
  idxSE 7 H t1 t10 fun t58 =>
  loadE 7 H t58 fun t59 =>
  tellE (trunk_Put_t m [(ro H t55), (ro H t59)]) [(ro H t55), (ro H t59)] fun t60 =>
  extE t60 0 fun t61 =>
  extE t60 1 fun t62 =>
  allocE (some zc_api_Trunk) ty_api_Trunk H fun t13 H2 =>
  storeE 34 H2 t13 t61 fun H3 =>
  plenumlaw10_TrunkKeeps_r6 m n0 kc kx ⟨H3, [(1, t1), (2, t2), (3, t3), (7, t7), (8, t8), (9, t9), (10, t10), (11, t11), (12, t12), (13, t13), (14, t62)]⟩ := by
  refine (joinW_eq Tryd.prog GG (plenumlaw10_TrunkKeeps_env m) m 147 (cdR (cdL (cdL (cdR (cdL (cdL (cdR (cdL (cdR (cdR (cdR (cdR (cdR (cdR plenumlaw10_TrunkKeeps_c)))))))))))))) plenumlaw10_TrunkKeeps_h.r.r.r.r.r.r.l.r.c.c.r.l.c.r ⟨H, [(1, t1), (2, t2), (3, t3), (7, t7), (8, t8), (9, t9), (10, t10), (11, t11), (12, t12)]⟩ (blockK 1 (seqK (fun s => plenumlaw10_TrunkKeeps_r7 m n0 kc kx ⟨s.H, [(1, gt s.T 1), (2, gt s.T 2), (3, gt s.T 3), (7, gt s.T 7), (8, gt s.T 8), (9, gt s.T 9), (10, gt s.T 10)]⟩) (backW n0 [1, 2, 3, 7, 8, 9, 10] [2, 3, 6, 7, 8] kc kx)))).trans ?_
  kernel_rfl
theorem plenumlaw10_TrunkKeeps_r4_eq (m : Nat) (n0 : Nat) (kc : ASt → RO) (kx : KO (AV × List AObj)) (H : List AObj) (t1 t2 t3 t7 t8 t9 t10 : AV) : plenumlaw10_TrunkKeeps_r4 m n0 kc kx ⟨H, [(1, t1), (2, t2), (3, t3), (7, t7), (8, t8), (9, t9), (10, t10)]⟩ =
  loadE 34 H t9 fun t49 =>
  tellE (trunk_Get_t m [(ro H t49), (ro H t2)]) [(ro H t49), (ro H t2)] fun t51 =>
  extE t51 0 fun t52 =>
  extE t51 1 fun t53 =>
  allocE (some zc_api_Item) ty_api_Item H fun t11 H2 =>
  storeE 7 H2 t11 t52 fun H3 =>
  plenumlaw10_TrunkKeeps_r5 m n0 kc kx ⟨H3, [(1, t1), (2, t2), (3, t3), (7, t7), (8, t8), (9, t9), (10, t10), (11, t11), (12, t53)]⟩ := by
  refine (joinW_eq Tryd.prog GG (plenumlaw10_TrunkKeeps_env m) m 147 (cdR (cdL (cdL (cdR (cdL (cdR (cdR (cdR (cdR (cdR (cdR plenumlaw10_TrunkKeeps_c))))))))))) plenumlaw10_TrunkKeeps_h.r.r.r.r.r.r.l.r.c.c.r ⟨H, [(1, t1), (2, t2), (3, t3), (7, t7), (8, t8), (9, t9), (10, t10)]⟩ (backW n0 [1, 2, 3, 7, 8, 9, 10] [2, 3, 6, 7, 8] kc kx)).trans ?_
  kernel_rfl
theorem plenumlaw10_TrunkKeeps_r3_eq (m : Nat) (H : List AObj) (t2 t3 t7 t8 : AV) : plenumlaw10_TrunkKeeps_r3 m ⟨H, [(2, t2), (3, t3), (7, t7), (8, t8)]⟩ =
  loadE 34 H t3 fun t131 =>
  tellE (trunk_Get_t m [(ro H t131), (ro H t2)]) [(ro H t131), (ro H t2)] fun t133 =>
  extE t133 0 fun t134 =>
  extE t133 1 fun t135 =>
  allocE (some zc_api_Item) ty_api_Item H fun t19 H2 =>
  storeE 7 H2 t19 t134 fun H3 =>
  loadE 7 H3 t19 fun t136 =>
  loadE 7 H3 t7 fun t137 =>
  binE (some [.s, .i .i64, .i .i64, .s, .i .i64]) false .eql t136 t137 fun t138 =>
  condE t138 (
   binE none true .eql t135 t8 fun t142 =>
   condE t142 (
   tellE (plenumlaw10_awake m) [] fun t145 =>
   tellK H3 (ro H3 t145)) (
   tellK H3 (ro H3 (V (.bool false))))) (
   tellK H3 (ro H3 (V (.bool false)))) := by
  refine (joinW_eq Tryd.prog GG (plenumlaw10_TrunkKeeps_env m) m 147 (cdR (cdR (cdR (cdR (cdR (cdR (cdR plenumlaw10_TrunkKeeps_c))))))) plenumlaw10_TrunkKeeps_h.r.r.r.r.r.r.r ⟨H, [(2, t2), (3, t3), (7, t7), (8, t8)]⟩ (plenumlaw10_TrunkKeeps_fin)).trans ?_
  kernel_rfl
theorem plenumlaw10_TrunkKeeps_b1_eq (m : Nat) (H : List AObj) (t1 t2 t3 t7 t8 t9 t10 : AV) (kc : ASt → RO) (kx : KO (AV × List AObj)) : plenumlaw10_TrunkKeeps_b1 m ⟨H, [(1, t1), (2, t2), (3, t3), (7, t7), (8, t8), (9, t9), (10, t10)]⟩ kc kx =
  lenE false true H t1 fun t40 =>
  binE none false .lss t10 t40 fun t41 =>
  condE t41 (
   binE none false .lss t10 (V (.int .i64 12)) fun t44 =>
   condE t44 (
   plenumlaw10_TrunkKeeps_r4 m H.length kc kx ⟨H, [(1, t1), (2, t2), (3, t3), (7, t7), (8, t8), (9, t9), (10, t10)]⟩) (
   kx (.exit 0) ⟨H, [(2, t2), (3, t3), (6, .nil), (7, t7), (8, t8)]⟩)) (
   kx (.exit 0) ⟨H, [(2, t2), (3, t3), (6, .nil), (7, t7), (8, t8)]⟩) := by
  refine (bodyW_eq Tryd.prog GG (plenumlaw10_TrunkKeeps_env m) m 147 (cdL (cdL (cdR (cdL (cdR (cdR (cdR (cdR (cdR (cdR plenumlaw10_TrunkKeeps_c)))))))))) plenumlaw10_TrunkKeeps_h.r.r.r.r.r.r.l.r.c.c [1, 2, 3, 7, 8, 9, 10] [2, 3, 6, 7, 8] ⟨H, [(1, t1), (2, t2), (3, t3), (7, t7), (8, t8), (9, t9), (10, t10)]⟩ kc kx).trans ?_
  kernel_rfl
theorem plenumlaw10_TrunkKeeps_r2_eq (m : Nat) (H : List AObj) (t1 t2 t3 t7 t8 : AV) : plenumlaw10_TrunkKeeps_r2 m ⟨H, [(1, t1), (2, t2), (3, t3), (7, t7), (8, t8)]⟩ =
  loadE 34 H t3 fun t37 =>
  allocE (some zc_api_Trunk) ty_api_Trunk H fun t9 H2 =>
  storeE 34 H2 t9 t37 fun H3 =>
  iterC m (plenumlaw10_TrunkKeeps_b1 m) ⟨H3, [(1, t1), (2, t2), (3, t3), (7, t7), (8, t8), (9, t9), (10, (V (.int .i64 0)))]⟩ (blockK 0 (seqK (fun s => plenumlaw10_TrunkKeeps_r3 m ⟨s.H, [(2, gt s.T 2), (3, gt s.T 3), (7, gt s.T 7), (8, gt s.T 8)]⟩) (plenumlaw10_TrunkKeeps_fin))) := by
  refine (joinW_eq Tryd.prog GG (plenumlaw10_TrunkKeeps_env m) m 147 (cdR (cdR (cdR (cdR (cdR plenumlaw10_TrunkKeeps_c))))) plenumlaw10_TrunkKeeps_h.r.r.r.r.r ⟨H, [(1, t1), (2, t2), (3, t3), (7, t7), (8, t8)]⟩ (plenumlaw10_TrunkKeeps_fin)).trans ?_
  kernel_rfl
theorem plenumlaw10_TrunkKeeps_r1_eq (m : Nat) (H : List AObj) (t1 t2 t3 : AV) : plenumlaw10_TrunkKeeps_r1 m ⟨H, [(1, t1), (2, t2), (3, t3)]⟩ =
  loadE 34 H t3 fun t32 =>
  tellE (trunk_Get_t m [(ro H t32), (ro H t2)]) [(ro H t32), (ro H t2)] fun t34 =>
  extE t34 0 fun t35 =>
  extE t34 1 fun t36 =>
  allocE (some zc_api_Item) ty_api_Item H fun t7 H2 =>
  storeE 7 H2 t7 t35 fun H3 =>
  plenumlaw10_TrunkKeeps_r2 m ⟨H3, [(1, t1), (2, t2), (3, t3), (7, t7), (8, t36)]⟩ := by
  refine (joinW_eq Tryd.prog GG (plenumlaw10_TrunkKeeps_env m) m 147 (cdR (cdR (cdR (cdR plenumlaw10_TrunkKeeps_c)))) plenumlaw10_TrunkKeeps_h.r.r.r.r ⟨H, [(1, t1), (2, t2), (3, t3)]⟩ (plenumlaw10_TrunkKeeps_fin)).trans ?_
  kernel_rfl
theorem plenumlaw10_TrunkKeeps_eq (m : Nat) (t0 t1 t2 : AV) : plenumlaw10_TrunkKeeps m t0 t1 t2 =
  boxE ty_api_Trunk [] t0 fun t3 H1 =>
  loadE 34 H1 t3 fun t21 =>
  tellE (plenumlaw10_Few_t m [(ro H1 t21)]) [(ro H1 t21)] fun t22 =>
  tellE (plenumlaw10_short_t m [(ro H1 t2)]) [(ro H1 t2)] fun t24 =>
  storeE 34 H1 t3 t22 fun H2 =>
  tellE (plenumlaw10_items_t m [(ro H2 t1)]) [(ro H2 t1)] fun t26 =>
  loadE 34 H2 t3 fun t27 =>
  tellE (trunk_May_t m [(ro H2 t27)]) [(ro H2 t27)] fun t28 =>
  unE .not t28 fun t29 =>
  condE t29 (
   tellE (plenumlaw10_awake m) [] fun t30 =>
   tellK H2 (ro H2 t30)) (
   plenumlaw10_TrunkKeeps_r1 m ⟨H2, [(1, t26), (2, t24), (3, t3)]⟩) := by
  refine (tellX Tryd.prog GG (plenumlaw10_TrunkKeeps_env m) m 147 plenumlaw10_TrunkKeeps_c plenumlaw10_TrunkKeeps_h ⟨[], argsT 0 [t0, t1, t2]⟩ [.tmp 6]).trans ?_
  kernel_rfl
noncomputable def plenumlaw10_TrunkKeeps_t (m : Nat) : List AV → RO | [t0, t1, t2] => plenumlaw10_TrunkKeeps m t0 t1 t2 | _ => none
theorem plenumlaw10_TrunkKeeps_ok (m : Nat) : ∀ args X H', plenumlaw10_TrunkKeeps_t m args = some (X, H') → ACp Tryd.prog GG 4 args X := by
  intro args X H' h
  unfold plenumlaw10_TrunkKeeps_t at h
  split at h
  · exact tell_okK MIX (by
    intro f e h
    simp only [plenumlaw10_TrunkKeeps_env, Prod.mk.injEq, List.mem_cons, List.not_mem_nil, or_false] at h
    rcases h with ⟨rfl, rfl⟩ | ⟨rfl, rfl⟩ | ⟨rfl, rfl⟩ | ⟨rfl, rfl⟩ | ⟨rfl, rfl⟩ | ⟨rfl, rfl⟩ | ⟨rfl, rfl⟩ | ⟨rfl, rfl⟩ | ⟨rfl, rfl⟩
    · exact plenumlaw10_Few_ok m
    · exact plenumlaw10_short_ok m
    · exact plenumlaw10_items_ok m
    · exact trunk_May_ok m
    · exact plenumlaw10_awake_ok m
    · exact trunk_Get_ok m
    · exact trunk_Put_ok m
    · exact trunk_Delete_ok m
    · exact trunk_Unlike_ok m) (f := 4) (c := plenumlaw10_TrunkKeeps_c) Tryd.func4 rfl (by kernel_rfl) _ rfl Tryd.ntmps4 (Nat.le_of_ble_eq_true rfl) plenumlaw10_TrunkKeeps_h h
  · cases h
end Go.Proofs.YthmnhfabkllgpaaDoor

namespace Go.Proofs.YthmnhfabkllgpaaDoor
open Go.RowKit
set_option linter.unusedVariables false
set_option linter.unusedSimpArgs false
set_option maxRecDepth 20000
structure TInv (t : Tr) : Prop where
  may : mayT t = true
  num : ∀ i, ∀ x ∈ t.leaf i, NumOk x
  out : ∀ i, 16 ≤ i → t.leaf i = []
theorem key24 {k : Bytes} (h : keyB k = true) : k.length ≤ 24 := by
  unfold keyB patB at h
  simp only [Bool.and_eq_true, decide_eq_true_eq] at h
  exact h.2.1
theorem TInv.ok {t : Tr} (h : TInv t) : t.Ok := by
  intro i
  by_cases hi : i < 16
  · have hl := fits_leaf h.may hi
    have hk : ∀ x ∈ t.leaf i, x.key.length ≤ 24 := fun x hx => key24 (itemB_key (fits_key h.may hi hx).1)
    have h64 := ((leafB_iff _).1 hl).1
    refine ⟨by omega, fun x hx => ⟨Nat.le_trans (hk x hx) (by decide), h.num i x hx⟩, ?_⟩
    have := weight_le hl (h.num i) fun x hx => Nat.le_trans (hk x hx) (by decide)
    unfold weightP
    rw [if_pos hl]; omega
  · rw [h.out i (by omega)]; exact nilOk
theorem few_inv {t : Tr} (h : t.In) (hm : mayT (fewT t 16) = true) : TInv (fewT t 16) := by
  refine ⟨hm, fun i x hx => ((few_ok h i).2.1 x hx).2, fun i hi => ?_⟩
  have : ¬ i < 16 := by omega
  simp only [fewT, this, if_false]
  exact (h i).2.2 hi
theorem filter_one {p : Nat → Bool} {b : Nat} (h : ∀ i, p i = true → i = b) : ∀ n, ((List.range n).filter p).length ≤ 1 ∧ (b ≥ n → (List.range n).filter p = [])
  | 0 => ⟨Nat.zero_le _, fun _ => rfl⟩
  | n + 1 => by
    obtain ⟨h1, h2⟩ := filter_one h n
    rw [List.range_succ, List.filter_append]
    by_cases hp : p n = true
    · have hb := h n hp
      rw [h2 (by omega)]
      simp [hp]
      omega
    · simp [hp]
      refine ⟨h1, fun hb a ha => ?_⟩
      cases hpa : p a with
      | false => rfl
      | true => have := h a hpa; omega
theorem chg_inv {t : Tr} (h : TInv t) {b : Nat} (hb : b < 16) {l : List Item} {v : Int} (hl : leafB l = true) (hv0 : 0 ≤ v) (hv1 : v ≤ 2147483647) (hf : ∀ x ∈ l, bucketK x.key = b ∧ x.ver ≤ v) (hn : ∀ x ∈ l, NumOk x) :
    TInv ((t.setL b l).setV b v) ∧ (unlikeL t ((t.setL b l).setV b v) 16).length ≤ 1 ∧ ∀ k, (bk k = b → getK l k = getK (t.leaf b) k) → getT ((t.setL b l).setV b v) k = getT t k := by
  have hleaf : ∀ i, ((t.setL b l).setV b v).leaf i = if i = b then l else t.leaf i := fun i => rfl
  have hver : ∀ i, ((t.setL b l).setV b v).ver i = if i = b then v else t.ver i := fun i => rfl
  have hm : mayT ((t.setL b l).setV b v) = true := by
    unfold mayT
    rw [List.all_eq_true]
    intro i hi
    have hi := List.mem_range.1 hi
    rw [hleaf, hver]
    by_cases e : i = b
    · subst e
      rw [if_pos rfl, if_pos rfl]
      unfold fitsB
      rw [hl, decide_eq_true hv0, decide_eq_true hv1]
      simp only [Bool.true_and, List.all_eq_true]
      intro x hx
      have := hf x hx
      unfold fitB
      rw [decide_eq_true this.1, decide_eq_true this.2]; rfl
    · rw [if_neg e, if_neg e]
      exact List.all_eq_true.1 h.may i (List.mem_range.2 hi)
  refine ⟨⟨hm, fun i x hx => ?_, fun i hi => ?_⟩, (filter_one (b := b) (fun i hi => ?_) 16).1, fun k hk => ?_⟩
  · rw [hleaf] at hx
    split at hx
    · exact hn x hx
    · exact h.num i x hx
  · rw [hleaf, if_neg (by omega)]; exact h.out i hi
  · rcases Decidable.em (i = b) with e | e
    · exact e
    · unfold unlikeAt at hi
      rw [hleaf, hver, if_neg e, if_neg e] at hi
      simp at hi
  · unfold getT
    rw [hm, h.may]
    cases hkb : keyB k with
    | false => rfl
    | true =>
      simp only [Bool.and_self, if_true]
      rw [hleaf]
      split
      · rename_i e; rw [e, hk e]
      · rfl
theorem put_inv {t : Tr} {x : Item} (h : TInv t) (hx : NumOk x) (he : (putT t x).2 = 0) : TInv (putT t x).1 ∧ (unlikeL t (putT t x).1 16).length ≤ 1 ∧ ∀ k, k ≠ x.key → getT (putT t x).1 k = getT t k := by
  unfold putT at he ⊢
  split at he
  · cases he
  rename_i hi
  rw [if_neg hi]
  split at he
  · cases he
  rename_i hv
  rw [if_neg hv]
  have hib : itemB x = true := by
    cases e : itemB x with
    | true => rfl
    | false => rw [e] at hi; exact absurd rfl hi
  have hk := itemB_key hib
  have hb := bk_lt hk
  have hbe := bucketK_nat hk
  unfold chgT at he ⊢
  split at he
  · rename_i hp
    rw [if_pos hp]
    obtain ⟨e1, e2, _, e4, e5, e6, e7⟩ := put_kept hp
    rw [e1]
    have hv3 : 0 ≤ x.ver ∧ x.ver ≤ 2147483647 := by
      unfold itemB at hib
      simp only [Bool.and_eq_true, decide_eq_true_eq] at hib
      exact ⟨hib.1.2, hib.2⟩
    have hmem : ∀ y ∈ withK (t.leaf (bk x.key)) x, y ∈ t.leaf (bk x.key) ∨ y = x := by
      intro y hy
      rcases mem_withK.1 hy with q | q | q
      · exact .inl q.1
      · exact .inr q
      · exact .inl q.1
    obtain ⟨a1, a2, a3⟩ := chg_inv h hb e4 hv3.1 hv3.2 (fun y hy => by
      rcases hmem y hy with q | q
      · have := fits_key h.may hb q
        exact ⟨this.2.1, by omega⟩
      · subst q; exact ⟨hbe, Int.le_refl _⟩) (fun y hy => by
      rcases hmem y hy with q | q
      · exact h.num _ y q
      · subst q; exact hx)
    exact ⟨a1, a2, fun k hk2 => a3 k fun e => e7 k hk2⟩
  · rename_i hp
    exact absurd he hp
theorem del_inv {t : Tr} {q : Bytes} {v : Int} (h : TInv t) (he : (delT t q v).2 = 0) : TInv (delT t q v).1 ∧ (unlikeL t (delT t q v).1 16).length ≤ 1 ∧ ∀ k, k ≠ q → getT (delT t q v).1 k = getT t k := by
  unfold delT at he ⊢
  split at he
  · cases he
  rename_i hi
  rw [if_neg hi]
  split at he
  · cases he
  rename_i hs
  rw [if_neg hs]
  split at he
  · cases he
  rename_i hv
  rw [if_neg hv]
  simp only [h.may, Bool.not_true, Bool.false_or, Bool.or_eq_true, decide_eq_true_eq, not_or] at hi
  have hk : keyB q = true := getT_key (by cases e : (getT t q).isSome with | true => rfl | false => exact absurd e hs)
  have hb := bk_lt hk
  unfold chgT at he ⊢
  split at he
  · rename_i hp
    rw [if_pos hp]
    obtain ⟨e1, e2, e3, _, _, e7⟩ := del_kept hp
    rw [e1]
    have hmem : ∀ y ∈ withoutK (t.leaf (bk q)) q, y ∈ t.leaf (bk q) := fun y hy => (List.mem_filter.1 hy).1
    obtain ⟨a1, a2, a3⟩ := chg_inv (v := v) h hb e3 (by omega) (by omega) (fun y hy => by
      have := fits_key h.may hb (hmem y hy)
      exact ⟨this.2.1, by omega⟩) (fun y hy => h.num _ y (hmem y hy))
    exact ⟨a1, a2, fun k hk2 => a3 k fun e => e7 k hk2⟩
  · rename_i hp
    exact absurd he hp
theorem unlike_le {t u : Tr} (h : TInv t) (h' : TInv u) (hl : (unlikeL t u 16).length ≤ 1) : unlikeT t u = (unlikeL t u 16, 0) := by
  unfold unlikeT
  rw [h.may, h'.may]; rfl
theorem TInv.ver {t : Tr} (h : TInv t) {i : Nat} (hi : i < 16) : 0 ≤ t.ver i ∧ t.ver i ≤ 2147483647 := by
  have := List.all_eq_true.1 h.may i (List.mem_range.2 hi)
  unfold fitsB at this
  simp only [Bool.and_eq_true, decide_eq_true_eq] at this
  exact ⟨this.1.1.2, this.1.2⟩
abbrev cIt (y : Item) : List AV := [V (.string ⟨y.key.toArray⟩), V (.int .i64 y.kind), V (.int .i64 y.i), V (.string ⟨y.s.toArray⟩), V (.int .i64 y.ver)]
abbrev stK (u : Tr) (y : Item) (a : List Item) (q : Bytes) (b : Bool) (i : Nat) (x : Tr) : ASt :=
  ⟨[⟨1, ty_api_Trunk, 0, tC u⟩, ⟨1, ty_api_Item, 0, cIt y⟩, ⟨1, ty_api_Trunk, 0, tC x⟩], [(1, SL (a.map (flA Item.cells))), (2, sA q), (3, OP 0 0), (7, OP 1 0), (8, bA b), (9, OP 2 0), (10, nA i)]⟩
theorem keeps_r8 (m : Nat) (u x z : Tr) (y w : Item) (a : List Item) (q : Bytes) (b : Bool) (i : Nat) (e : Nat) (hi : i < a.length) (h12 : i < 12) (kc : ASt → RO) (kx : KO (AV × List AObj))
    (hx : TInv x) (hw : w = (getT x q).getD Item.zero) (hz : e = 0 → TInv z ∧ (unlikeL x z 16).length ≤ 1 ∧ ∀ k, k ≠ a[i].key → getT z k = getT x k)
    (hs : ∀ x', TInv x' → kc (stK u y a q b (i + 1) x') = some (bA true, [])) :
    plenumlaw10_TrunkKeeps_r8 m 3 kc kx ⟨[⟨1, ty_api_Trunk, 0, tC u⟩, ⟨1, ty_api_Item, 0, cIt y⟩, ⟨1, ty_api_Trunk, 0, tC x⟩, ⟨1, ty_api_Item, 0, cIt w⟩, ⟨1, ty_api_Trunk, 0, tC z⟩],
      [(1, SL (a.map (flA Item.cells))), (2, sA q), (3, OP 0 0), (7, OP 1 0), (8, bA b), (9, OP 2 0), (10, nA i), (11, OP 3 0), (12, bA (getT x q).isSome), (13, OP 4 0), (14, nA e)]⟩ = some (bA true, []) := by
  have hlt' : (i : Int) < (a.length : Int) := by omega
  rw [plenumlaw10_TrunkKeeps_r8_eq]
  by_cases he : e = 0
  · subst he
    obtain ⟨hz, hul, hg⟩ := hz rfl
    have h1 := trunk_Unlike_e m x z hx.ok hz.ok
    rw [unlike_le hx hz hul] at h1
    have h2 := trunk_Get_e m z q hz.ok
    have h3 := trunk_May_e m z hz.ok
    rw [hz.may] at h3
    rw [tA_def, tA_def] at h1
    rw [tA_def] at h2 h3
    have hul' : ¬ (1 : Int) < ((nLs (unlikeL x z 16)).length : Int) := by
      have e : (nLs (unlikeL x z 16)).length = (unlikeL x z 16).length := by simp [nLs]
      omega
    have step := hs z hz
    by_cases hk : q = a[i].key
    · rw [hk] at h2 step
      simp (config := {maxSteps := 4000000, implicitDefEqProofs := false}) (disch := omega) only [go_sem, ↓reduceIte, Nat.reduceAdd, Nat.reduceSub, Nat.reduceMul, Nat.reduceLeDiff, Nat.reduceLT, Int.reduceEq, Int.reduceNe, Int.reduceLT, Int.reduceLE, Int.reduceAdd, Int.reduceSub, Int.reduceMul, Int.reduceNeg, Nat.zero_add, Nat.add_zero, Nat.mul_one, Int.toNat_natCast, Int.natCast_zero, Int.cast_ofNat_Int, or_false, false_or, or_true, true_or, Int.reduceToNat, Nat.sub_zero, Int.natCast_nonneg, Int.toNat_zero, Bool.true_and, Bool.and_true, Bool.false_and, Bool.and_false, Bool.true_or, Bool.or_true, Bool.false_or, Bool.or_false, Bool.not_true, Bool.not_false, Bool.not_not, true_and, and_true, false_and, and_false, not_true_eq_false, not_false_eq_true, eq_self, decide_true, decide_false, ne_eq, implies_true, forall_const, true_implies, false_implies, Bool.true_eq_false, Bool.false_eq_true, reduceCtorEq, List.map_cons, List.map_nil, List.all_cons, List.all_nil, List.length_cons, List.length_nil, List.length_map, List.length_append, List.nil_append, List.cons_append, List.set_cons_zero, List.set_cons_succ, List.set_nil, List.drop_zero, List.drop_succ_cons, List.drop_nil, List.take_zero, List.take_succ_cons, List.take_nil, Option.map_some, Option.map_none, Option.isSome_some, Nat.reduceEqDiff, Nat.reduceBEq, Nat.reduceGT, List.all_append, List.all_map, Function.comp_def, decide_eq_true_eq, Bool.and_eq_true, beq_self_eq_true, or_self, and_self, ite_true, ite_false, Nat.le_refl, Bool.not_eq_true, decide_not, Bool.not_eq_true', decide_eq_false_iff_not, Bool.not_eq_false, Bool.or_eq_true, if_true, if_false, ite_self, tC_len, tC_sure, tC_ltA, tC_lt1, tC_ro, tC_take, tC_all1, zcT_eq, zcI_len, zC_len, zC_ltA, zC_lt1, zC_sure, zC_ro, zC_take, set_tl, set_tv, sc_tt, sc_zt, sc_tz, sc_zz, add16, tA_def, lA_def, natInt, u_tl, u_tv, w_i64, plenumlaw10_TrunkKeeps_r11_eq, plenumlaw10_TrunkKeeps_r12_eq, plenumlaw10_TrunkKeeps_r14_eq, h1, h2, h3, hul', hlt', iA_def, zcI_set, u_nthM, fl_it, hk]
      exact step
    · have hgq := hg q hk
      rw [hgq, ← hw] at h2
      simp (config := {maxSteps := 4000000, implicitDefEqProofs := false}) (disch := omega) only [go_sem, ↓reduceIte, Nat.reduceAdd, Nat.reduceSub, Nat.reduceMul, Nat.reduceLeDiff, Nat.reduceLT, Int.reduceEq, Int.reduceNe, Int.reduceLT, Int.reduceLE, Int.reduceAdd, Int.reduceSub, Int.reduceMul, Int.reduceNeg, Nat.zero_add, Nat.add_zero, Nat.mul_one, Int.toNat_natCast, Int.natCast_zero, Int.cast_ofNat_Int, or_false, false_or, or_true, true_or, Int.reduceToNat, Nat.sub_zero, Int.natCast_nonneg, Int.toNat_zero, Bool.true_and, Bool.and_true, Bool.false_and, Bool.and_false, Bool.true_or, Bool.or_true, Bool.false_or, Bool.or_false, Bool.not_true, Bool.not_false, Bool.not_not, true_and, and_true, false_and, and_false, not_true_eq_false, not_false_eq_true, eq_self, decide_true, decide_false, ne_eq, implies_true, forall_const, true_implies, false_implies, Bool.true_eq_false, Bool.false_eq_true, reduceCtorEq, List.map_cons, List.map_nil, List.all_cons, List.all_nil, List.length_cons, List.length_nil, List.length_map, List.length_append, List.nil_append, List.cons_append, List.set_cons_zero, List.set_cons_succ, List.set_nil, List.drop_zero, List.drop_succ_cons, List.drop_nil, List.take_zero, List.take_succ_cons, List.take_nil, Option.map_some, Option.map_none, Option.isSome_some, Nat.reduceEqDiff, Nat.reduceBEq, Nat.reduceGT, List.all_append, List.all_map, Function.comp_def, decide_eq_true_eq, Bool.and_eq_true, beq_self_eq_true, or_self, and_self, ite_true, ite_false, Nat.le_refl, Bool.not_eq_true, decide_not, Bool.not_eq_true', decide_eq_false_iff_not, Bool.not_eq_false, Bool.or_eq_true, if_true, if_false, ite_self, tC_len, tC_sure, tC_ltA, tC_lt1, tC_ro, tC_take, tC_all1, zcT_eq, zcI_len, zC_len, zC_ltA, zC_lt1, zC_sure, zC_ro, zC_take, set_tl, set_tv, sc_tt, sc_zt, sc_tz, sc_zz, add16, tA_def, lA_def, natInt, u_tl, u_tv, plenumlaw10_TrunkKeeps_r11_eq, plenumlaw10_TrunkKeeps_r12_eq, plenumlaw10_TrunkKeeps_r14_eq, h1, h2, h3, hul', hlt', iA_def, zcI_set, u_nthM, fl_it, hk, u_neI, w_i64]
      exact step
  · have he' : ¬ (e : Int) = 0 := by omega
    have step := hs x hx
    simp (config := {maxSteps := 4000000, implicitDefEqProofs := false}) (disch := omega) only [go_sem, ↓reduceIte, Nat.reduceAdd, Nat.reduceSub, Nat.reduceMul, Nat.reduceLeDiff, Nat.reduceLT, Int.reduceEq, Int.reduceNe, Int.reduceLT, Int.reduceLE, Int.reduceAdd, Int.reduceSub, Int.reduceMul, Int.reduceNeg, Nat.zero_add, Nat.add_zero, Nat.mul_one, Int.toNat_natCast, Int.natCast_zero, Int.cast_ofNat_Int, or_false, false_or, or_true, true_or, Int.reduceToNat, Nat.sub_zero, Int.natCast_nonneg, Int.toNat_zero, Bool.true_and, Bool.and_true, Bool.false_and, Bool.and_false, Bool.true_or, Bool.or_true, Bool.false_or, Bool.or_false, Bool.not_true, Bool.not_false, Bool.not_not, true_and, and_true, false_and, and_false, not_true_eq_false, not_false_eq_true, eq_self, decide_true, decide_false, ne_eq, implies_true, forall_const, true_implies, false_implies, Bool.true_eq_false, Bool.false_eq_true, reduceCtorEq, List.map_cons, List.map_nil, List.all_cons, List.all_nil, List.length_cons, List.length_nil, List.length_map, List.length_append, List.nil_append, List.cons_append, List.set_cons_zero, List.set_cons_succ, List.set_nil, List.drop_zero, List.drop_succ_cons, List.drop_nil, List.take_zero, List.take_succ_cons, List.take_nil, Option.map_some, Option.map_none, Option.isSome_some, Nat.reduceEqDiff, Nat.reduceBEq, Nat.reduceGT, List.all_append, List.all_map, Function.comp_def, decide_eq_true_eq, Bool.and_eq_true, beq_self_eq_true, or_self, and_self, ite_true, ite_false, Nat.le_refl, Bool.not_eq_true, decide_not, Bool.not_eq_true', decide_eq_false_iff_not, Bool.not_eq_false, Bool.or_eq_true, if_true, if_false, ite_self, tC_len, tC_sure, tC_ltA, tC_lt1, tC_ro, tC_take, tC_all1, zcT_eq, zcI_len, zC_len, zC_ltA, zC_lt1, zC_sure, zC_ro, zC_take, set_tl, set_tv, sc_tt, sc_zt, sc_tz, sc_zz, add16, tA_def, lA_def, natInt, u_tl, u_tv, plenumlaw10_TrunkKeeps_r10_eq, he', hlt', w_i64]
    exact step
theorem keeps_s (m : Nat) (t : Tr) (l : List Item) (k : Bytes) (hm : 20000000 < m) (h : t.In) (hl : l.length ≤ maxLen) (hi : ∀ x ∈ l, NumOk x) : plenumlaw10_TrunkKeeps m (tA t) (lA l) (sA k) = some (bA true, []) := by
  have hf := plenumlaw10_Few_e m t h.len
  have hs := plenumlaw10_short_e m k
  have hit := plenumlaw10_items_e m l hl
  have hok := few_ok h
  have hA := awake_s m
  have hiv := few_inv h
  have hni : ∀ x ∈ fewL l, NumOk x := fun x hx => by
    unfold fewL at hx
    obtain ⟨y, hy, rfl⟩ := List.mem_map.1 hx
    exact hi y (List.mem_of_mem_take hy)
  have hal : (fewL l).length ≤ 20000000 := by unfold fewL; simp [List.length_take]; omega
  generalize fewT t 16 = u at hf hok hiv
  generalize k.take 60 = q at hs
  generalize fewL l = a at hit hni hal
  have h1 := trunk_Get_e m u q hok
  have h2 := trunk_May_e m u hok
  rw [tA_def, tA_def] at hf
  rw [tA_def] at h1 h2
  rw [lA_def, lA_def] at hit
  rw [plenumlaw10_TrunkKeeps_eq]
  cases hmay : mayT u with
  | false =>
    rw [hmay] at h2
    simp (config := {maxSteps := 4000000, implicitDefEqProofs := false}) (disch := omega) only [go_sem, ↓reduceIte, Nat.reduceAdd, Nat.reduceSub, Nat.reduceMul, Nat.reduceLeDiff, Nat.reduceLT, Int.reduceEq, Int.reduceNe, Int.reduceLT, Int.reduceLE, Int.reduceAdd, Int.reduceSub, Int.reduceMul, Int.reduceNeg, Nat.zero_add, Nat.add_zero, Nat.mul_one, Int.toNat_natCast, Int.natCast_zero, Int.cast_ofNat_Int, or_false, false_or, or_true, true_or, Int.reduceToNat, Nat.sub_zero, Int.natCast_nonneg, Int.toNat_zero, Bool.true_and, Bool.and_true, Bool.false_and, Bool.and_false, Bool.true_or, Bool.or_true, Bool.false_or, Bool.or_false, Bool.not_true, Bool.not_false, Bool.not_not, true_and, and_true, false_and, and_false, not_true_eq_false, not_false_eq_true, eq_self, decide_true, decide_false, ne_eq, implies_true, forall_const, true_implies, false_implies, Bool.true_eq_false, Bool.false_eq_true, reduceCtorEq, List.map_cons, List.map_nil, List.all_cons, List.all_nil, List.length_cons, List.length_nil, List.length_map, List.length_append, List.nil_append, List.cons_append, List.set_cons_zero, List.set_cons_succ, List.set_nil, List.drop_zero, List.drop_succ_cons, List.drop_nil, List.take_zero, List.take_succ_cons, List.take_nil, Option.map_some, Option.map_none, Option.isSome_some, Nat.reduceEqDiff, Nat.reduceBEq, Nat.reduceGT, List.all_append, List.all_map, Function.comp_def, decide_eq_true_eq, Bool.and_eq_true, beq_self_eq_true, or_self, and_self, ite_true, ite_false, Nat.le_refl, Bool.not_eq_true, decide_not, Bool.not_eq_true', decide_eq_false_iff_not, Bool.not_eq_false, Bool.or_eq_true, if_true, if_false, ite_self, tC_len, tC_sure, tC_ltA, tC_lt1, tC_ro, tC_take, tC_all1, zcT_eq, zcI_len, zC_len, zC_ltA, zC_lt1, zC_sure, zC_ro, zC_take, set_tl, set_tv, sc_tt, sc_zt, sc_tz, sc_zz, add16, tA_def, lA_def, natInt, u_tl, u_tv, u_bT, hf, hs, hit, h1, h2, hA, iA_def, zcI_set]
  | true =>
    rw [hmay] at h2
    have hu := hiv hmay
    generalize hy : (getT u q).getD Item.zero = y at h1
    simp (config := {maxSteps := 4000000, implicitDefEqProofs := false}) (disch := omega) only [go_sem, ↓reduceIte, Nat.reduceAdd, Nat.reduceSub, Nat.reduceMul, Nat.reduceLeDiff, Nat.reduceLT, Int.reduceEq, Int.reduceNe, Int.reduceLT, Int.reduceLE, Int.reduceAdd, Int.reduceSub, Int.reduceMul, Int.reduceNeg, Nat.zero_add, Nat.add_zero, Nat.mul_one, Int.toNat_natCast, Int.natCast_zero, Int.cast_ofNat_Int, or_false, false_or, or_true, true_or, Int.reduceToNat, Nat.sub_zero, Int.natCast_nonneg, Int.toNat_zero, Bool.true_and, Bool.and_true, Bool.false_and, Bool.and_false, Bool.true_or, Bool.or_true, Bool.false_or, Bool.or_false, Bool.not_true, Bool.not_false, Bool.not_not, true_and, and_true, false_and, and_false, not_true_eq_false, not_false_eq_true, eq_self, decide_true, decide_false, ne_eq, implies_true, forall_const, true_implies, false_implies, Bool.true_eq_false, Bool.false_eq_true, reduceCtorEq, List.map_cons, List.map_nil, List.all_cons, List.all_nil, List.length_cons, List.length_nil, List.length_map, List.length_append, List.nil_append, List.cons_append, List.set_cons_zero, List.set_cons_succ, List.set_nil, List.drop_zero, List.drop_succ_cons, List.drop_nil, List.take_zero, List.take_succ_cons, List.take_nil, Option.map_some, Option.map_none, Option.isSome_some, Nat.reduceEqDiff, Nat.reduceBEq, Nat.reduceGT, List.all_append, List.all_map, Function.comp_def, decide_eq_true_eq, Bool.and_eq_true, beq_self_eq_true, or_self, and_self, ite_true, ite_false, Nat.le_refl, Bool.not_eq_true, decide_not, Bool.not_eq_true', decide_eq_false_iff_not, Bool.not_eq_false, Bool.or_eq_true, if_true, if_false, ite_self, tC_len, tC_sure, tC_ltA, tC_lt1, tC_ro, tC_take, tC_all1, zcT_eq, zcI_len, zC_len, zC_ltA, zC_lt1, zC_sure, zC_ro, zC_take, set_tl, set_tv, sc_tt, sc_zt, sc_tz, sc_zz, add16, tA_def, lA_def, natInt, u_tl, u_tv, plenumlaw10_TrunkKeeps_r1_eq, plenumlaw10_TrunkKeeps_r2_eq, u_bT, hf, hs, hit, h1, h2, hA, iA_def, zcI_set]
    refine iter_go (ι := {p : Nat × Tr // p.1 ≤ a.length ∧ TInv p.2}) (fun j => stK u y a q (getT u q).isSome j.1.1 j.1.2) (fun j => a.length - j.1.1) (fun _ => some (bA true, [])) ?_ ⟨(0, u), Nat.zero_le _, hu⟩ (by dsimp only; omega)
    rintro kx hkx ⟨⟨j, x⟩, hj, hx⟩ kc hkc
    dsimp only at hkc hj hx ⊢
    rw [plenumlaw10_TrunkKeeps_b1_eq]
    by_cases hlt : j < a.length
    · have hlt' : (j : Int) < (a.length : Int) := by omega
      by_cases h12 : j < 12
      · have h12' : (j : Int) < 12 := by omega
        have step : ∀ x', TInv x' → kc (stK u y a q (getT u q).isSome (j + 1) x') = some (bA true, []) := fun x' hx' => hkc ⟨(j + 1, x'), by omega, hx'⟩ (by dsimp only; omega)
        have h3 := trunk_Get_e m x q hx.ok
        have h4 := trunk_Put_e m x a[j] hx.ok
        have h5 := trunk_Delete_e m x a[j].key (x.ver 1 + 1) hx.ok
        have hv := hx.ver (i := 1) (by decide)
        have hn := hni a[j] (List.getElem_mem hlt)
        rw [tA_def] at h3
        rw [tA_def, tA_def, iA_def] at h4
        rw [tA_def, tA_def] at h5
        have hP := keeps_r8 m u x (putT x a[j]).1 y _ a q (getT u q).isSome j (putT x a[j]).2 hlt h12 kc kx hx rfl (fun e => put_inv hx hn e) step
        have hD := keeps_r8 m u x (delT x a[j].key (x.ver 1 + 1)).1 y _ a q (getT u q).isSome j (delT x a[j].key (x.ver 1 + 1)).2 hlt h12 kc kx hx rfl (fun e => del_inv hx e) step
        by_cases h3m : a[j].ver.tmod 3 = 0
        · simp (config := {maxSteps := 4000000, implicitDefEqProofs := false}) (disch := omega) only [go_sem, ↓reduceIte, Nat.reduceAdd, Nat.reduceSub, Nat.reduceMul, Nat.reduceLeDiff, Nat.reduceLT, Int.reduceEq, Int.reduceNe, Int.reduceLT, Int.reduceLE, Int.reduceAdd, Int.reduceSub, Int.reduceMul, Int.reduceNeg, Nat.zero_add, Nat.add_zero, Nat.mul_one, Int.toNat_natCast, Int.natCast_zero, Int.cast_ofNat_Int, or_false, false_or, or_true, true_or, Int.reduceToNat, Nat.sub_zero, Int.natCast_nonneg, Int.toNat_zero, Bool.true_and, Bool.and_true, Bool.false_and, Bool.and_false, Bool.true_or, Bool.or_true, Bool.false_or, Bool.or_false, Bool.not_true, Bool.not_false, Bool.not_not, true_and, and_true, false_and, and_false, not_true_eq_false, not_false_eq_true, eq_self, decide_true, decide_false, ne_eq, implies_true, forall_const, true_implies, false_implies, Bool.true_eq_false, Bool.false_eq_true, reduceCtorEq, List.map_cons, List.map_nil, List.all_cons, List.all_nil, List.length_cons, List.length_nil, List.length_map, List.length_append, List.nil_append, List.cons_append, List.set_cons_zero, List.set_cons_succ, List.set_nil, List.drop_zero, List.drop_succ_cons, List.drop_nil, List.take_zero, List.take_succ_cons, List.take_nil, Option.map_some, Option.map_none, Option.isSome_some, Nat.reduceEqDiff, Nat.reduceBEq, Nat.reduceGT, List.all_append, List.all_map, Function.comp_def, decide_eq_true_eq, Bool.and_eq_true, beq_self_eq_true, or_self, and_self, ite_true, ite_false, Nat.le_refl, Bool.not_eq_true, decide_not, Bool.not_eq_true', decide_eq_false_iff_not, Bool.not_eq_false, Bool.or_eq_true, if_true, if_false, ite_self, tC_len, tC_sure, tC_ltA, tC_lt1, tC_ro, tC_take, tC_all1, zcT_eq, zcI_len, zC_len, zC_ltA, zC_lt1, zC_sure, zC_ro, zC_take, set_tl, set_tv, sc_tt, sc_zt, sc_tz, sc_zz, add16, tA_def, lA_def, natInt, u_tl, u_tv, plenumlaw10_TrunkKeeps_r4_eq, plenumlaw10_TrunkKeeps_r5_eq, plenumlaw10_TrunkKeeps_r6_eq, hlt', h12', h3, h4, h5, iA_def, zcI_set, u_bT, u_nthM, fl_it, w_i64, h3m]
          exact hD
        · simp (config := {maxSteps := 4000000, implicitDefEqProofs := false}) (disch := omega) only [go_sem, ↓reduceIte, Nat.reduceAdd, Nat.reduceSub, Nat.reduceMul, Nat.reduceLeDiff, Nat.reduceLT, Int.reduceEq, Int.reduceNe, Int.reduceLT, Int.reduceLE, Int.reduceAdd, Int.reduceSub, Int.reduceMul, Int.reduceNeg, Nat.zero_add, Nat.add_zero, Nat.mul_one, Int.toNat_natCast, Int.natCast_zero, Int.cast_ofNat_Int, or_false, false_or, or_true, true_or, Int.reduceToNat, Nat.sub_zero, Int.natCast_nonneg, Int.toNat_zero, Bool.true_and, Bool.and_true, Bool.false_and, Bool.and_false, Bool.true_or, Bool.or_true, Bool.false_or, Bool.or_false, Bool.not_true, Bool.not_false, Bool.not_not, true_and, and_true, false_and, and_false, not_true_eq_false, not_false_eq_true, eq_self, decide_true, decide_false, ne_eq, implies_true, forall_const, true_implies, false_implies, Bool.true_eq_false, Bool.false_eq_true, reduceCtorEq, List.map_cons, List.map_nil, List.all_cons, List.all_nil, List.length_cons, List.length_nil, List.length_map, List.length_append, List.nil_append, List.cons_append, List.set_cons_zero, List.set_cons_succ, List.set_nil, List.drop_zero, List.drop_succ_cons, List.drop_nil, List.take_zero, List.take_succ_cons, List.take_nil, Option.map_some, Option.map_none, Option.isSome_some, Nat.reduceEqDiff, Nat.reduceBEq, Nat.reduceGT, List.all_append, List.all_map, Function.comp_def, decide_eq_true_eq, Bool.and_eq_true, beq_self_eq_true, or_self, and_self, ite_true, ite_false, Nat.le_refl, Bool.not_eq_true, decide_not, Bool.not_eq_true', decide_eq_false_iff_not, Bool.not_eq_false, Bool.or_eq_true, if_true, if_false, ite_self, tC_len, tC_sure, tC_ltA, tC_lt1, tC_ro, tC_take, tC_all1, zcT_eq, zcI_len, zC_len, zC_ltA, zC_lt1, zC_sure, zC_ro, zC_take, set_tl, set_tv, sc_tt, sc_zt, sc_tz, sc_zz, add16, tA_def, lA_def, natInt, u_tl, u_tv, plenumlaw10_TrunkKeeps_r4_eq, plenumlaw10_TrunkKeeps_r5_eq, plenumlaw10_TrunkKeeps_r6_eq, hlt', h12', h3, h4, iA_def, zcI_set, u_bT, u_nthM, fl_it, w_i64, h3m]
          exact hP
      · have h12' : ¬ (j : Int) < 12 := by omega
        simp (config := {maxSteps := 4000000, implicitDefEqProofs := false}) (disch := omega) only [go_sem, ↓reduceIte, Nat.reduceAdd, Nat.reduceSub, Nat.reduceMul, Nat.reduceLeDiff, Nat.reduceLT, Int.reduceEq, Int.reduceNe, Int.reduceLT, Int.reduceLE, Int.reduceAdd, Int.reduceSub, Int.reduceMul, Int.reduceNeg, Nat.zero_add, Nat.add_zero, Nat.mul_one, Int.toNat_natCast, Int.natCast_zero, Int.cast_ofNat_Int, or_false, false_or, or_true, true_or, Int.reduceToNat, Nat.sub_zero, Int.natCast_nonneg, Int.toNat_zero, Bool.true_and, Bool.and_true, Bool.false_and, Bool.and_false, Bool.true_or, Bool.or_true, Bool.false_or, Bool.or_false, Bool.not_true, Bool.not_false, Bool.not_not, true_and, and_true, false_and, and_false, not_true_eq_false, not_false_eq_true, eq_self, decide_true, decide_false, ne_eq, implies_true, forall_const, true_implies, false_implies, Bool.true_eq_false, Bool.false_eq_true, reduceCtorEq, List.map_cons, List.map_nil, List.all_cons, List.all_nil, List.length_cons, List.length_nil, List.length_map, List.length_append, List.nil_append, List.cons_append, List.set_cons_zero, List.set_cons_succ, List.set_nil, List.drop_zero, List.drop_succ_cons, List.drop_nil, List.take_zero, List.take_succ_cons, List.take_nil, Option.map_some, Option.map_none, Option.isSome_some, Nat.reduceEqDiff, Nat.reduceBEq, Nat.reduceGT, List.all_append, List.all_map, Function.comp_def, decide_eq_true_eq, Bool.and_eq_true, beq_self_eq_true, or_self, and_self, ite_true, ite_false, Nat.le_refl, Bool.not_eq_true, decide_not, Bool.not_eq_true', decide_eq_false_iff_not, Bool.not_eq_false, Bool.or_eq_true, if_true, if_false, ite_self, tC_len, tC_sure, tC_ltA, tC_lt1, tC_ro, tC_take, tC_all1, zcT_eq, zcI_len, zC_len, zC_ltA, zC_lt1, zC_sure, zC_ro, zC_take, set_tl, set_tv, sc_tt, sc_zt, sc_tz, sc_zz, add16, tA_def, lA_def, natInt, u_tl, u_tv, hlt', h12']
        rw [hkx]
        simp only [u_blkX, ↓reduceIte, u_seqN]
        rw [plenumlaw10_TrunkKeeps_r3_eq]
        simp (config := {maxSteps := 4000000, implicitDefEqProofs := false}) (disch := omega) only [go_sem, ↓reduceIte, Nat.reduceAdd, Nat.reduceSub, Nat.reduceMul, Nat.reduceLeDiff, Nat.reduceLT, Int.reduceEq, Int.reduceNe, Int.reduceLT, Int.reduceLE, Int.reduceAdd, Int.reduceSub, Int.reduceMul, Int.reduceNeg, Nat.zero_add, Nat.add_zero, Nat.mul_one, Int.toNat_natCast, Int.natCast_zero, Int.cast_ofNat_Int, or_false, false_or, or_true, true_or, Int.reduceToNat, Nat.sub_zero, Int.natCast_nonneg, Int.toNat_zero, Bool.true_and, Bool.and_true, Bool.false_and, Bool.and_false, Bool.true_or, Bool.or_true, Bool.false_or, Bool.or_false, Bool.not_true, Bool.not_false, Bool.not_not, true_and, and_true, false_and, and_false, not_true_eq_false, not_false_eq_true, eq_self, decide_true, decide_false, ne_eq, implies_true, forall_const, true_implies, false_implies, Bool.true_eq_false, Bool.false_eq_true, reduceCtorEq, List.map_cons, List.map_nil, List.all_cons, List.all_nil, List.length_cons, List.length_nil, List.length_map, List.length_append, List.nil_append, List.cons_append, List.set_cons_zero, List.set_cons_succ, List.set_nil, List.drop_zero, List.drop_succ_cons, List.drop_nil, List.take_zero, List.take_succ_cons, List.take_nil, Option.map_some, Option.map_none, Option.isSome_some, Nat.reduceEqDiff, Nat.reduceBEq, Nat.reduceGT, List.all_append, List.all_map, Function.comp_def, decide_eq_true_eq, Bool.and_eq_true, beq_self_eq_true, or_self, and_self, ite_true, ite_false, Nat.le_refl, Bool.not_eq_true, decide_not, Bool.not_eq_true', decide_eq_false_iff_not, Bool.not_eq_false, Bool.or_eq_true, if_true, if_false, ite_self, tC_len, tC_sure, tC_ltA, tC_lt1, tC_ro, tC_take, tC_all1, zcT_eq, zcI_len, zC_len, zC_ltA, zC_lt1, zC_sure, zC_ro, zC_take, set_tl, set_tv, sc_tt, sc_zt, sc_tz, sc_zz, add16, tA_def, lA_def, natInt, u_tl, u_tv, h1, hA, iA_def, zcI_set, u_eqI]
    · have hlt' : ¬ (j : Int) < (a.length : Int) := by omega
      simp (config := {maxSteps := 4000000, implicitDefEqProofs := false}) (disch := omega) only [go_sem, ↓reduceIte, Nat.reduceAdd, Nat.reduceSub, Nat.reduceMul, Nat.reduceLeDiff, Nat.reduceLT, Int.reduceEq, Int.reduceNe, Int.reduceLT, Int.reduceLE, Int.reduceAdd, Int.reduceSub, Int.reduceMul, Int.reduceNeg, Nat.zero_add, Nat.add_zero, Nat.mul_one, Int.toNat_natCast, Int.natCast_zero, Int.cast_ofNat_Int, or_false, false_or, or_true, true_or, Int.reduceToNat, Nat.sub_zero, Int.natCast_nonneg, Int.toNat_zero, Bool.true_and, Bool.and_true, Bool.false_and, Bool.and_false, Bool.true_or, Bool.or_true, Bool.false_or, Bool.or_false, Bool.not_true, Bool.not_false, Bool.not_not, true_and, and_true, false_and, and_false, not_true_eq_false, not_false_eq_true, eq_self, decide_true, decide_false, ne_eq, implies_true, forall_const, true_implies, false_implies, Bool.true_eq_false, Bool.false_eq_true, reduceCtorEq, List.map_cons, List.map_nil, List.all_cons, List.all_nil, List.length_cons, List.length_nil, List.length_map, List.length_append, List.nil_append, List.cons_append, List.set_cons_zero, List.set_cons_succ, List.set_nil, List.drop_zero, List.drop_succ_cons, List.drop_nil, List.take_zero, List.take_succ_cons, List.take_nil, Option.map_some, Option.map_none, Option.isSome_some, Nat.reduceEqDiff, Nat.reduceBEq, Nat.reduceGT, List.all_append, List.all_map, Function.comp_def, decide_eq_true_eq, Bool.and_eq_true, beq_self_eq_true, or_self, and_self, ite_true, ite_false, Nat.le_refl, Bool.not_eq_true, decide_not, Bool.not_eq_true', decide_eq_false_iff_not, Bool.not_eq_false, Bool.or_eq_true, if_true, if_false, ite_self, tC_len, tC_sure, tC_ltA, tC_lt1, tC_ro, tC_take, tC_all1, zcT_eq, zcI_len, zC_len, zC_ltA, zC_lt1, zC_sure, zC_ro, zC_take, set_tl, set_tv, sc_tt, sc_zt, sc_tz, sc_zz, add16, tA_def, lA_def, natInt, u_tl, u_tv, hlt']
      rw [hkx]
      simp only [u_blkX, ↓reduceIte, u_seqN]
      rw [plenumlaw10_TrunkKeeps_r3_eq]
      simp (config := {maxSteps := 4000000, implicitDefEqProofs := false}) (disch := omega) only [go_sem, ↓reduceIte, Nat.reduceAdd, Nat.reduceSub, Nat.reduceMul, Nat.reduceLeDiff, Nat.reduceLT, Int.reduceEq, Int.reduceNe, Int.reduceLT, Int.reduceLE, Int.reduceAdd, Int.reduceSub, Int.reduceMul, Int.reduceNeg, Nat.zero_add, Nat.add_zero, Nat.mul_one, Int.toNat_natCast, Int.natCast_zero, Int.cast_ofNat_Int, or_false, false_or, or_true, true_or, Int.reduceToNat, Nat.sub_zero, Int.natCast_nonneg, Int.toNat_zero, Bool.true_and, Bool.and_true, Bool.false_and, Bool.and_false, Bool.true_or, Bool.or_true, Bool.false_or, Bool.or_false, Bool.not_true, Bool.not_false, Bool.not_not, true_and, and_true, false_and, and_false, not_true_eq_false, not_false_eq_true, eq_self, decide_true, decide_false, ne_eq, implies_true, forall_const, true_implies, false_implies, Bool.true_eq_false, Bool.false_eq_true, reduceCtorEq, List.map_cons, List.map_nil, List.all_cons, List.all_nil, List.length_cons, List.length_nil, List.length_map, List.length_append, List.nil_append, List.cons_append, List.set_cons_zero, List.set_cons_succ, List.set_nil, List.drop_zero, List.drop_succ_cons, List.drop_nil, List.take_zero, List.take_succ_cons, List.take_nil, Option.map_some, Option.map_none, Option.isSome_some, Nat.reduceEqDiff, Nat.reduceBEq, Nat.reduceGT, List.all_append, List.all_map, Function.comp_def, decide_eq_true_eq, Bool.and_eq_true, beq_self_eq_true, or_self, and_self, ite_true, ite_false, Nat.le_refl, Bool.not_eq_true, decide_not, Bool.not_eq_true', decide_eq_false_iff_not, Bool.not_eq_false, Bool.or_eq_true, if_true, if_false, ite_self, tC_len, tC_sure, tC_ltA, tC_lt1, tC_ro, tC_take, tC_all1, zcT_eq, zcI_len, zC_len, zC_ltA, zC_lt1, zC_sure, zC_ro, zC_take, set_tl, set_tv, sc_tt, sc_zt, sc_tz, sc_zz, add16, tA_def, lA_def, natInt, u_tl, u_tv, h1, hA, iA_def, zcI_set, u_eqI]
end Go.Proofs.YthmnhfabkllgpaaDoor

namespace Go.Proofs.YthmnhfabkllgpaaDoor
open Go.RowKit
set_option linter.unusedVariables false
set_option linter.unusedSimpArgs false
set_option maxRecDepth 100000
theorem walk_TrunkKeeps (W : World) (hS : Sig W) (v0 : Value) (h0 : Arg Tryd.prog W 26 v0) (v1 : Value) (h1 : Arg Tryd.prog W 22 v1) (v2 : Value) (h2 : Arg Tryd.prog W 9 v2) :
    Calls Tryd.prog 4 #[v0, v1, v2] W fun e W' => e = .returned (.bool true) ∧ Below W.heap.size W W' := by
  obtain ⟨t, ht, r0⟩ := arg_trunk h0
  obtain ⟨l, ⟨hl, hi⟩, r1⟩ := arg_items h1
  obtain ⟨k, hk, r2⟩ := arg_str h2
  exact run_tells (plenumlaw10_TrunkKeeps_ok 20000001 [_, _, _] _ _ (keeps_s _ t l k (by omega) ht hl fun x hx => (hi x hx).2.2)) (gok_sig hS) (vs := [v0, v1, v2]) rfl (reps3 r0 r1 r2)
end Go.Proofs.YthmnhfabkllgpaaDoor
