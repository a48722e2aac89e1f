/-
  Texts laid together, part 6 of 6: laws of a walk over data, contracts of functions, each whole by itself.
-/
import Derived.Test.YtopifabnobplcaaDoorMge
import Derived.Test.YtopifabnobplcaaDoorMgd
namespace Go.Proofs.YtopifabnobplcaaDoor
open Go.RowKit
set_option linter.unusedVariables false
set_option linter.unusedSimpArgs false
set_option maxRecDepth 20000
theorem sameS_refl (s : St) : sameS s s = true := by
  have : sameT s.t s.t = true := sameT_iff.2 fun i hi => ⟨rfl, rfl⟩
  unfold sameS
  simp [this]
theorem from_lo {l : List Sn} {q : Int} {i : Nat} (hi : i < l.length) (h : i < fromL l q) : l[i].seq < q := by
  have := List.not_of_lt_findIdx h
  simp at this
  omega
theorem from_hi {l : List Sn} {q : Int} (h : fromL l q < l.length) : q ≤ l[fromL l q].seq := by
  have := List.findIdx_getElem (p := fun x : Sn => decide (q ≤ x.seq)) (xs := l) (w := h)
  exact of_decide_eq_true this
theorem at_rat {l : List Sn} {q : Int} (hi : isL l = true) : (ratL l q = -1 ∧ atL l q = (St.zero, 6)) ∨ ∃ (i : Nat) (h : i < l.length), ratL l q = i ∧ atL l q = (l[i].s, 0) := by
  have hinc := isL_inc hi
  have hfl := fromL_le l q
  have h1 := fun (i : Nat) (hi : i < l.length) (h : i < fromL l q) => from_lo hi h
  have h2 := fun (h : fromL l q < l.length) => from_hi h
  unfold atL
  rw [if_pos hi]
  generalize fromL l q = p at hfl h1 h2 ⊢
  rcases Nat.lt_or_ge p l.length with hlt | hge
  · rw [List.getElem?_eq_getElem hlt]
    dsimp only
    by_cases hq : l[p].seq = q
    · right
      refine ⟨p, hlt, ?_, by rw [if_pos hq]⟩
      unfold ratL
      rw [List.findIdx?_eq_some_iff_getElem.2 ⟨hlt, by simp [hq], fun j hj => by
        have := h1 j (by omega) hj
        have : l[j].seq ≠ q := by omega
        simp [this]⟩]
    · left
      refine ⟨?_, by rw [if_neg hq]⟩
      unfold ratL
      rw [List.findIdx?_eq_none_iff.2 (fun x hx => by
        obtain ⟨i, hi', rfl⟩ := List.getElem_of_mem hx
        have : l[i].seq ≠ q := by
          rcases Nat.lt_trichotomy i p with e | e | e
          · have := h1 i hi' e; omega
          · subst e; exact hq
          · have := hinc p i hi' e; have := h2 hlt; omega
        simp [this])]
  · rw [List.getElem?_eq_none hge]
    left
    refine ⟨?_, rfl⟩
    unfold ratL
    rw [List.findIdx?_eq_none_iff.2 (fun x hx => by
      obtain ⟨i, hi', rfl⟩ := List.getElem_of_mem hx
      have := h1 i hi' (by omega)
      have : l[i].seq ≠ q := by omega
      simp [this])]
def lastI (l : List Sn) (q : Int) : Nat → Int
  | 0 => -1
  | n + 1 => match l[n]? with
    | none => lastI l q n
    | some x => if x.seq ≤ q then n else lastI l q n
theorem last_I (l : List Sn) (q : Int) : ∀ n, (lastI l q n = -1 ∧ lastG l q n = (0, St.zero, 6)) ∨ ∃ (i : Nat) (h : i < l.length), lastI l q n = i ∧ lastG l q n = (l[i].seq, l[i].s, 0)
  | 0 => .inl ⟨rfl, rfl⟩
  | n + 1 => by
    unfold lastI lastG
    rcases Nat.lt_or_ge n l.length with hlt | hge
    · rw [List.getElem?_eq_getElem hlt]
      dsimp only
      by_cases hq : l[n].seq ≤ q
      · rw [if_pos hq, if_pos hq]
        exact .inr ⟨n, hlt, rfl, rfl⟩
      · rw [if_neg hq, if_neg hq]
        exact last_I l q n
    · rw [List.getElem?_eq_none hge]
      exact last_I l q n
theorem lastI_step {l : List Sn} {q : Int} {n : Nat} (h : n < l.length) : lastI l q (n + 1) = if l[n].seq ≤ q then (n : Int) else lastI l q n := by
  show (match l[n]? with | none => lastI l q n | some x => if x.seq ≤ q then (n : Int) else lastI l q n) = _
  rw [List.getElem?_eq_getElem h]
theorem finds3_s (m : Nat) (l : List Sn) (q : Int) (a : St) (hm : 16000000 < m) (h8 : l.length ≤ 8) (h : ∀ x ∈ l, x.s.t.Ok) : plenumlaw14_SnapFinds_r3 m ⟨[⟨1, ty_api_Store, 0, stC a⟩, ⟨1, ty_api_Store, 0, stC (lastG l q l.length).2.1⟩, ⟨1, ty_api_Store, 0, zS⟩], [(0, SL (l.map snE)), (1, nA q), (7, nA (lastG l q l.length).1), (8, OP 1 0), (9, nA (lastG l q l.length).2.2), (10, OP 2 0)]⟩ = some (bA true, []) := by
  have hA := awake14_s m hm
  have hG := last_I l q l.length
  generalize hR : lastG l q l.length = R at hG
  obtain ⟨r1, r2, r3⟩ := R
  dsimp only
  rw [plenumlaw14_SnapFinds_r3_eq]
  refine iter_go (ι := {k : Nat // k ≤ l.length}) (fun k => ⟨[⟨1, ty_api_Store, 0, stC a⟩, ⟨1, ty_api_Store, 0, stC r2⟩, ⟨1, ty_api_Store, 0, zS⟩], [(0, SL (l.map snE)), (1, nA q), (7, nA r1), (8, OP 1 0), (9, nA r3), (10, OP 2 0), (12, nA (lastI l q k.1)), (13, nA k.1)]⟩) (fun k => l.length - k.1) (fun _ => some (bA true, [])) ?_ ⟨0, Nat.zero_le _⟩ (by dsimp only; omega)
  rintro kx hkx ⟨k, hk⟩ kc hkc
  dsimp only at hkc ⊢
  rw [plenumlaw14_SnapFinds_b1_eq]
  by_cases hlt : k < l.length
  · have hlt' : (k : Int) < (l.length : Int) := by omega
    have step := hkc ⟨k + 1, by omega⟩ (by dsimp only; omega)
    dsimp only at step
    rw [lastI_step hlt] at step
    by_cases hq : l[k].seq ≤ q
    · rw [if_pos hq] at step
      simp (config := {maxSteps := 4000000, implicitDefEqProofs := false}) (disch := omega) only [go_sem, ↓reduceIte, Nat.reduceAdd, Nat.reduceSub, Nat.reduceMul, Nat.reduceLeDiff, Nat.reduceLT, Int.reduceEq, Int.reduceNe, Int.reduceLT, Int.reduceLE, Int.reduceAdd, Int.reduceSub, Int.reduceMul, Int.reduceNeg, Nat.zero_add, Nat.add_zero, Nat.mul_one, Int.toNat_natCast, Int.natCast_zero, Int.cast_ofNat_Int, or_false, false_or, or_true, true_or, Int.reduceToNat, Nat.sub_zero, Int.natCast_nonneg, Int.toNat_zero, Bool.true_and, Bool.and_true, Bool.false_and, Bool.and_false, Bool.true_or, Bool.or_true, Bool.false_or, Bool.or_false, Bool.not_true, Bool.not_false, Bool.not_not, true_and, and_true, false_and, and_false, not_true_eq_false, not_false_eq_true, eq_self, decide_true, decide_false, ne_eq, implies_true, forall_const, true_implies, false_implies, Bool.true_eq_false, Bool.false_eq_true, reduceCtorEq, List.map_cons, List.map_nil, List.all_cons, List.all_nil, List.length_cons, List.length_nil, List.length_map, List.length_append, List.nil_append, List.cons_append, List.set_cons_zero, List.set_cons_succ, List.set_nil, List.drop_zero, List.drop_succ_cons, List.drop_nil, List.take_zero, List.take_succ_cons, List.take_nil, Option.map_some, Option.map_none, Option.isSome_some, Nat.reduceEqDiff, Nat.reduceBEq, Nat.reduceGT, List.all_append, List.all_map, Function.comp_def, decide_eq_true_eq, Bool.and_eq_true, beq_self_eq_true, or_self, and_self, ite_true, ite_false, Nat.le_refl, Bool.not_eq_true, decide_not, Bool.not_eq_true', decide_eq_false_iff_not, Bool.not_eq_false, Bool.or_eq_true, if_true, if_false, ite_self, hlt', natInt, u_nthM, sn_it, stC_len, hq, w_i64, sn_allA, st_ltA, st_lt1, all_tt, zS_lt1, zS_ltA, plenumlaw14_SnapFinds_r5_eq]
      exact step
    · rw [if_neg hq] at step
      simp (config := {maxSteps := 4000000, implicitDefEqProofs := false}) (disch := omega) only [go_sem, ↓reduceIte, Nat.reduceAdd, Nat.reduceSub, Nat.reduceMul, Nat.reduceLeDiff, Nat.reduceLT, Int.reduceEq, Int.reduceNe, Int.reduceLT, Int.reduceLE, Int.reduceAdd, Int.reduceSub, Int.reduceMul, Int.reduceNeg, Nat.zero_add, Nat.add_zero, Nat.mul_one, Int.toNat_natCast, Int.natCast_zero, Int.cast_ofNat_Int, or_false, false_or, or_true, true_or, Int.reduceToNat, Nat.sub_zero, Int.natCast_nonneg, Int.toNat_zero, Bool.true_and, Bool.and_true, Bool.false_and, Bool.and_false, Bool.true_or, Bool.or_true, Bool.false_or, Bool.or_false, Bool.not_true, Bool.not_false, Bool.not_not, true_and, and_true, false_and, and_false, not_true_eq_false, not_false_eq_true, eq_self, decide_true, decide_false, ne_eq, implies_true, forall_const, true_implies, false_implies, Bool.true_eq_false, Bool.false_eq_true, reduceCtorEq, List.map_cons, List.map_nil, List.all_cons, List.all_nil, List.length_cons, List.length_nil, List.length_map, List.length_append, List.nil_append, List.cons_append, List.set_cons_zero, List.set_cons_succ, List.set_nil, List.drop_zero, List.drop_succ_cons, List.drop_nil, List.take_zero, List.take_succ_cons, List.take_nil, Option.map_some, Option.map_none, Option.isSome_some, Nat.reduceEqDiff, Nat.reduceBEq, Nat.reduceGT, List.all_append, List.all_map, Function.comp_def, decide_eq_true_eq, Bool.and_eq_true, beq_self_eq_true, or_self, and_self, ite_true, ite_false, Nat.le_refl, Bool.not_eq_true, decide_not, Bool.not_eq_true', decide_eq_false_iff_not, Bool.not_eq_false, Bool.or_eq_true, if_true, if_false, ite_self, hlt', natInt, u_nthM, sn_it, stC_len, hq, w_i64, sn_allA, st_ltA, st_lt1, all_tt, zS_lt1, zS_ltA, plenumlaw14_SnapFinds_r5_eq]
      exact step
  · have hlt' : ¬ (k : Int) < (l.length : Int) := by omega
    have : k = l.length := by omega
    subst this
    rcases hG with ⟨e1, e2⟩ | ⟨i, hi, e1, e2⟩
    · injection e2 with e2 e3
      injection e3 with e3 e4
      subst e2 e3 e4
      have hS := rsameS_s m St.zero St.zero (by omega) (fun i => Nat.zero_le _) (fun i => Nat.zero_le _)
      rw [sameS_refl, stA_def] at hS
      rw [e1]
      simp (config := {maxSteps := 4000000, implicitDefEqProofs := false}) (disch := omega) only [go_sem, ↓reduceIte, Nat.reduceAdd, Nat.reduceSub, Nat.reduceMul, Nat.reduceLeDiff, Nat.reduceLT, Int.reduceEq, Int.reduceNe, Int.reduceLT, Int.reduceLE, Int.reduceAdd, Int.reduceSub, Int.reduceMul, Int.reduceNeg, Nat.zero_add, Nat.add_zero, Nat.mul_one, Int.toNat_natCast, Int.natCast_zero, Int.cast_ofNat_Int, or_false, false_or, or_true, true_or, Int.reduceToNat, Nat.sub_zero, Int.natCast_nonneg, Int.toNat_zero, Bool.true_and, Bool.and_true, Bool.false_and, Bool.and_false, Bool.true_or, Bool.or_true, Bool.false_or, Bool.or_false, Bool.not_true, Bool.not_false, Bool.not_not, true_and, and_true, false_and, and_false, not_true_eq_false, not_false_eq_true, eq_self, decide_true, decide_false, ne_eq, implies_true, forall_const, true_implies, false_implies, Bool.true_eq_false, Bool.false_eq_true, reduceCtorEq, List.map_cons, List.map_nil, List.all_cons, List.all_nil, List.length_cons, List.length_nil, List.length_map, List.length_append, List.nil_append, List.cons_append, List.set_cons_zero, List.set_cons_succ, List.set_nil, List.drop_zero, List.drop_succ_cons, List.drop_nil, List.take_zero, List.take_succ_cons, List.take_nil, Option.map_some, Option.map_none, Option.isSome_some, Nat.reduceEqDiff, Nat.reduceBEq, Nat.reduceGT, List.all_append, List.all_map, Function.comp_def, decide_eq_true_eq, Bool.and_eq_true, beq_self_eq_true, or_self, and_self, ite_true, ite_false, Nat.le_refl, Bool.not_eq_true, decide_not, Bool.not_eq_true', decide_eq_false_iff_not, Bool.not_eq_false, Bool.or_eq_true, if_true, if_false, ite_self, hkx, hlt', hA, hS, stC_len, st_ltA, st_sure, st_take35, st_lt1, st_all1, st_ro, zS_len, zS_sure, zS_ltA, zS_lt1, zS_all1, zS_ro, zS_take, plenumlaw14_SnapFinds_r5_eq, plenumlaw14_SnapFinds_r4_eq, plenumlaw14_SnapFinds_r3_eq, plenumlaw14_SnapFinds_r2_eq, plenumlaw14_SnapFinds_r1_eq]
    · injection e2 with e2 e3
      injection e3 with e3 e4
      subst e2 e3 e4
      have hx := h _ (List.getElem_mem hi)
      have hS := rsameS_s m l[i].s l[i].s (by omega) (fun j => Nat.le_trans (hx j).1 (by omega)) (fun j => Nat.le_trans (hx j).1 (by omega))
      rw [sameS_refl, stA_def] at hS
      rw [e1]
      have hi0 : ¬ (i : Int) < 0 := by omega
      have hi' : (i : Int) < (l.length : Int) := by omega
      simp (config := {maxSteps := 4000000, implicitDefEqProofs := false}) (disch := omega) only [go_sem, ↓reduceIte, Nat.reduceAdd, Nat.reduceSub, Nat.reduceMul, Nat.reduceLeDiff, Nat.reduceLT, Int.reduceEq, Int.reduceNe, Int.reduceLT, Int.reduceLE, Int.reduceAdd, Int.reduceSub, Int.reduceMul, Int.reduceNeg, Nat.zero_add, Nat.add_zero, Nat.mul_one, Int.toNat_natCast, Int.natCast_zero, Int.cast_ofNat_Int, or_false, false_or, or_true, true_or, Int.reduceToNat, Nat.sub_zero, Int.natCast_nonneg, Int.toNat_zero, Bool.true_and, Bool.and_true, Bool.false_and, Bool.and_false, Bool.true_or, Bool.or_true, Bool.false_or, Bool.or_false, Bool.not_true, Bool.not_false, Bool.not_not, true_and, and_true, false_and, and_false, not_true_eq_false, not_false_eq_true, eq_self, decide_true, decide_false, ne_eq, implies_true, forall_const, true_implies, false_implies, Bool.true_eq_false, Bool.false_eq_true, reduceCtorEq, List.map_cons, List.map_nil, List.all_cons, List.all_nil, List.length_cons, List.length_nil, List.length_map, List.length_append, List.nil_append, List.cons_append, List.set_cons_zero, List.set_cons_succ, List.set_nil, List.drop_zero, List.drop_succ_cons, List.drop_nil, List.take_zero, List.take_succ_cons, List.take_nil, Option.map_some, Option.map_none, Option.isSome_some, Nat.reduceEqDiff, Nat.reduceBEq, Nat.reduceGT, List.all_append, List.all_map, Function.comp_def, decide_eq_true_eq, Bool.and_eq_true, beq_self_eq_true, or_self, and_self, ite_true, ite_false, Nat.le_refl, Bool.not_eq_true, decide_not, Bool.not_eq_true', decide_eq_false_iff_not, Bool.not_eq_false, Bool.or_eq_true, if_true, if_false, ite_self, hkx, hlt', hA, hS, hi0, hi', natInt, u_nthM, sn_it, stC_len, st_ltA, st_sure, st_take35, st_lt1, st_all1, st_ro, zS_len, zS_sure, zS_ltA, zS_lt1, zS_all1, zS_ro, zS_take, plenumlaw14_SnapFinds_r5_eq, plenumlaw14_SnapFinds_r4_eq, plenumlaw14_SnapFinds_r3_eq, plenumlaw14_SnapFinds_r2_eq, plenumlaw14_SnapFinds_r1_eq]
theorem Tr.Ok.len' {t : Tr} (h : t.Ok) (i : Nat) : (t.leaf i).length ≤ 34359738368 := Nat.le_trans (h i).1 (by omega)
theorem finds_s (m : Nat) (l : List Sn) (q : Int) (hm : 16000000 < m) (hl : l.length ≤ maxLen) (h : ∀ x ∈ l, ∀ i, (x.s.t.leaf i).length ≤ maxLen) (hok : ∀ x ∈ fewS l, x.s.t.Ok) : plenumlaw14_SnapFinds m (lS l) (nA q) = some (bA true, []) := by
  have hF := few14_s m l (by omega) hl h
  have h1 := at_s m (fewS l) q hm hok
  have h2 := last_s m (fewS l) q hm hok
  have h3 := ris_s m (fewS l) hm hok
  have hA := awake14_s m hm
  have hS0 := rsameS_s m St.zero St.zero (by omega) (fun i => Nat.zero_le _) (fun i => Nat.zero_le _)
  have h9 : (fewS l).length ≤ 10 := by unfold fewS; rw [List.length_map, List.length_take]; omega
  generalize fewS l = f at hF h1 h2 h3 hok h9
  rw [sameS_refl, stA_def] at hS0
  rw [lS_def, lS_def] at hF
  rw [lS_def] at h1 h2 h3 ⊢
  rw [plenumlaw14_SnapFinds_eq]
  cases hi : isL f with
  | false =>
    have e1 : atL f q = (St.zero, 1) := by unfold atL; rw [hi]; rfl
    have e2 : lastL f q = (0, St.zero, 1) := by unfold lastL; rw [hi]; rfl
    rw [e1, stA_def] at h1
    rw [e2, stA_def] at h2
    rw [hi] at h3
    simp (config := {maxSteps := 4000000, implicitDefEqProofs := false}) (disch := omega) only [go_sem, ↓reduceIte, Nat.reduceAdd, Nat.reduceSub, Nat.reduceMul, Nat.reduceLeDiff, Nat.reduceLT, Int.reduceEq, Int.reduceNe, Int.reduceLT, Int.reduceLE, Int.reduceAdd, Int.reduceSub, Int.reduceMul, Int.reduceNeg, Nat.zero_add, Nat.add_zero, Nat.mul_one, Int.toNat_natCast, Int.natCast_zero, Int.cast_ofNat_Int, or_false, false_or, or_true, true_or, Int.reduceToNat, Nat.sub_zero, Int.natCast_nonneg, Int.toNat_zero, Bool.true_and, Bool.and_true, Bool.false_and, Bool.and_false, Bool.true_or, Bool.or_true, Bool.false_or, Bool.or_false, Bool.not_true, Bool.not_false, Bool.not_not, true_and, and_true, false_and, and_false, not_true_eq_false, not_false_eq_true, eq_self, decide_true, decide_false, ne_eq, implies_true, forall_const, true_implies, false_implies, Bool.true_eq_false, Bool.false_eq_true, reduceCtorEq, List.map_cons, List.map_nil, List.all_cons, List.all_nil, List.length_cons, List.length_nil, List.length_map, List.length_append, List.nil_append, List.cons_append, List.set_cons_zero, List.set_cons_succ, List.set_nil, List.drop_zero, List.drop_succ_cons, List.drop_nil, List.take_zero, List.take_succ_cons, List.take_nil, Option.map_some, Option.map_none, Option.isSome_some, Nat.reduceEqDiff, Nat.reduceBEq, Nat.reduceGT, List.all_append, List.all_map, Function.comp_def, decide_eq_true_eq, Bool.and_eq_true, beq_self_eq_true, or_self, and_self, ite_true, ite_false, Nat.le_refl, Bool.not_eq_true, decide_not, Bool.not_eq_true', decide_eq_false_iff_not, Bool.not_eq_false, Bool.or_eq_true, if_true, if_false, ite_self, hF, h1, h2, h3, hA, hS0, zcS_eq, u_bS0, ss_zs, ss_zz, stC_len, sn_it, sn_allA, st_ltA, st_sure, st_take35, st_lt1, st_all1, st_ro, zS_len, zS_sure, zS_ltA, zS_lt1, zS_all1, zS_ro, zS_take]
  | true =>
    rw [hi] at h3
    have h8 := isL_len hi
    have hat := rat14_s m f q (by omega) (by omega)
    rw [lS_def] at hat
    have e2 : lastL f q = lastG f q f.length := by unfold lastL; rw [hi]; rfl
    rw [e2, stA_def] at h2
    rw [stA_def] at h1
    have h3' := fun a => finds3_s m f q a hm h8 hok
    generalize lastG f q f.length = G at h2 h3'
    obtain ⟨g1, g2, g3⟩ := G
    dsimp only at h2 h3'
    rcases at_rat (q := q) hi with ⟨r1, r2⟩ | ⟨i, hlt, r1, r2⟩
    · rw [r1] at hat
      rw [r2] at h1
      have h3' := h3' St.zero
      simp (config := {maxSteps := 4000000, implicitDefEqProofs := false}) (disch := omega) only [go_sem, ↓reduceIte, Nat.reduceAdd, Nat.reduceSub, Nat.reduceMul, Nat.reduceLeDiff, Nat.reduceLT, Int.reduceEq, Int.reduceNe, Int.reduceLT, Int.reduceLE, Int.reduceAdd, Int.reduceSub, Int.reduceMul, Int.reduceNeg, Nat.zero_add, Nat.add_zero, Nat.mul_one, Int.toNat_natCast, Int.natCast_zero, Int.cast_ofNat_Int, or_false, false_or, or_true, true_or, Int.reduceToNat, Nat.sub_zero, Int.natCast_nonneg, Int.toNat_zero, Bool.true_and, Bool.and_true, Bool.false_and, Bool.and_false, Bool.true_or, Bool.or_true, Bool.false_or, Bool.or_false, Bool.not_true, Bool.not_false, Bool.not_not, true_and, and_true, false_and, and_false, not_true_eq_false, not_false_eq_true, eq_self, decide_true, decide_false, ne_eq, implies_true, forall_const, true_implies, false_implies, Bool.true_eq_false, Bool.false_eq_true, reduceCtorEq, List.map_cons, List.map_nil, List.all_cons, List.all_nil, List.length_cons, List.length_nil, List.length_map, List.length_append, List.nil_append, List.cons_append, List.set_cons_zero, List.set_cons_succ, List.set_nil, List.drop_zero, List.drop_succ_cons, List.drop_nil, List.take_zero, List.take_succ_cons, List.take_nil, Option.map_some, Option.map_none, Option.isSome_some, Nat.reduceEqDiff, Nat.reduceBEq, Nat.reduceGT, List.all_append, List.all_map, Function.comp_def, decide_eq_true_eq, Bool.and_eq_true, beq_self_eq_true, or_self, and_self, ite_true, ite_false, Nat.le_refl, Bool.not_eq_true, decide_not, Bool.not_eq_true', decide_eq_false_iff_not, Bool.not_eq_false, Bool.or_eq_true, if_true, if_false, ite_self, hF, h1, h2, h3, hat, hS0, zcS_eq, u_bS0, ss_zs, ss_zz, stC_len, sn_it, sn_allA, st_ltA, st_sure, st_take35, st_lt1, st_all1, st_ro, zS_len, zS_sure, zS_ltA, zS_lt1, zS_all1, zS_ro, zS_take, plenumlaw14_SnapFinds_r1_eq, plenumlaw14_SnapFinds_r2_eq]
      exact h3'
    · rw [r1] at hat
      rw [r2] at h1
      have hx := hok _ (List.getElem_mem hlt)
      have hS := rsameS_s m f[i].s f[i].s (by omega) hx.len' hx.len'
      rw [sameS_refl, stA_def] at hS
      have h3' := h3' f[i].s
      have hi0 : ¬ (i : Int) < 0 := by omega
      have hi' : (i : Int) < (f.length : Int) := by omega
      simp (config := {maxSteps := 4000000, implicitDefEqProofs := false}) (disch := omega) only [go_sem, ↓reduceIte, Nat.reduceAdd, Nat.reduceSub, Nat.reduceMul, Nat.reduceLeDiff, Nat.reduceLT, Int.reduceEq, Int.reduceNe, Int.reduceLT, Int.reduceLE, Int.reduceAdd, Int.reduceSub, Int.reduceMul, Int.reduceNeg, Nat.zero_add, Nat.add_zero, Nat.mul_one, Int.toNat_natCast, Int.natCast_zero, Int.cast_ofNat_Int, or_false, false_or, or_true, true_or, Int.reduceToNat, Nat.sub_zero, Int.natCast_nonneg, Int.toNat_zero, Bool.true_and, Bool.and_true, Bool.false_and, Bool.and_false, Bool.true_or, Bool.or_true, Bool.false_or, Bool.or_false, Bool.not_true, Bool.not_false, Bool.not_not, true_and, and_true, false_and, and_false, not_true_eq_false, not_false_eq_true, eq_self, decide_true, decide_false, ne_eq, implies_true, forall_const, true_implies, false_implies, Bool.true_eq_false, Bool.false_eq_true, reduceCtorEq, List.map_cons, List.map_nil, List.all_cons, List.all_nil, List.length_cons, List.length_nil, List.length_map, List.length_append, List.nil_append, List.cons_append, List.set_cons_zero, List.set_cons_succ, List.set_nil, List.drop_zero, List.drop_succ_cons, List.drop_nil, List.take_zero, List.take_succ_cons, List.take_nil, Option.map_some, Option.map_none, Option.isSome_some, Nat.reduceEqDiff, Nat.reduceBEq, Nat.reduceGT, List.all_append, List.all_map, Function.comp_def, decide_eq_true_eq, Bool.and_eq_true, beq_self_eq_true, or_self, and_self, ite_true, ite_false, Nat.le_refl, Bool.not_eq_true, decide_not, Bool.not_eq_true', decide_eq_false_iff_not, Bool.not_eq_false, Bool.or_eq_true, if_true, if_false, ite_self, hF, h1, h2, h3, hat, hS, hi0, hi', natInt, u_nthM, zcS_eq, u_bS0, ss_zs, ss_zz, stC_len, sn_it, sn_allA, st_ltA, st_sure, st_take35, st_lt1, st_all1, st_ro, zS_len, zS_sure, zS_ltA, zS_lt1, zS_all1, zS_ro, zS_take, plenumlaw14_SnapFinds_r1_eq, plenumlaw14_SnapFinds_r2_eq]
      exact h3'
end Go.Proofs.YtopifabnobplcaaDoor

namespace Go.Proofs.YtopifabnobplcaaDoor
open Go.RowKit
set_option linter.unusedVariables false
set_option linter.unusedSimpArgs false
set_option maxRecDepth 100000
theorem walk_SnapFinds (W : World) (hS : Sig W) (v0 : Value) (h0 : Arg Tryd.prog W 22 v0) (v1 : Value) (h1 : Arg Tryd.prog W 3 v1) :
    Calls Tryd.prog 5 #[v0, v1] W fun e W' => e = .returned (.bool true) ∧ Below W.heap.size W W' := by
  obtain ⟨l, ⟨hl, ht⟩, r0⟩ := arg_snaps h0
  obtain ⟨q, _, r1⟩ := arg_int h1
  exact run_tells (plenumlaw14_SnapFinds_ok 16000001 [_, _] _ _ (finds_s _ l q (by omega) hl (fun x hx => (ht x hx).len) (fewS_ok ht))) (gok_sig hS) (vs := [v0, v1]) rfl (reps2 r0 r1)
end Go.Proofs.YtopifabnobplcaaDoor

namespace Go.Proofs.YtopifabnobplcaaDoor
open Go.RowKit
set_option linter.unusedVariables false
set_option maxRecDepth 100000
noncomputable def plenumlaw14_SnapKeeps_c : Code := (Tryd.f4.body).getD .skip
def plenumlaw14_SnapKeeps_h : Hint := (.two .n (.two .n (.two .n (.two .n (.two .n (.two .n .n))))))
noncomputable def plenumlaw14_SnapKeeps_env (m : Nat) : Env := [(8, .tell (plenumlaw14_Few_t m)), (12, .tell (plenumlaw13_Few_t m)), (13, .tell (snap_Keep_t m)), (14, .tell (plenumref14_Keep_t m)), (15, .tell (plenumref14_Same_t m)), (11, .tell (plenumlaw14_awake_t m))]
noncomputable abbrev plenumlaw14_SnapKeeps_fin : KO (AV × List AObj) := tellFK Tryd.prog [.tmp 6]
noncomputable def plenumlaw14_SnapKeeps (m : Nat) (t0 t1 t2 : AV) : RO := exec Tryd.prog GG (plenumlaw14_SnapKeeps_env m) m 67 plenumlaw14_SnapKeeps_c plenumlaw14_SnapKeeps_h ⟨[], argsT 0 [t0, t1, t2]⟩ (plenumlaw14_SnapKeeps_fin)
theorem plenumlaw14_SnapKeeps_eq (m : Nat) (t0 t1 t2 : AV) : plenumlaw14_SnapKeeps m t0 t1 t2 =
  boxE ty_api_Store [] t2 fun t5 H1 =>
  tellE (plenumlaw14_Few m (ro H1 t0)) [(ro H1 t0)] fun t13 =>
  loadE 37 H1 t5 fun t14 =>
  tellE (plenumlaw13_Few m (ro H1 t14)) [(ro H1 t14)] fun t15 =>
  storeE 37 H1 t5 t15 fun H2 =>
  buildSE (some (ty_api_Snap, 36)) 0 [] fun t16 =>
  appE (some (ty_api_Snap, 36)) H2 t16 t13 fun t18 H3 =>
  buildE (some pl_api_Snap) (some zc_api_Snap) [(0, (V (.int .i64 (-7))))] fun t19 =>
  buildSE (some (ty_api_Snap, 36)) 1 [(0, t19)] fun t20 =>
  appE (some (ty_api_Snap, 36)) H3 t18 t20 fun t21 H4 =>
  lenE false true H4 t13 fun t25 =>
  sliceE false (some (ty_api_Snap, 38)) H4 t21 none (some t25) fun t26 =>
  loadE 37 H4 t5 fun t28 =>
  tellE (snap_Keep m (ro H4 t26) (ro H4 t1) (ro H4 t28)) [(ro H4 t26), (ro H4 t1), (ro H4 t28)] fun t29 =>
  extE t29 0 fun t30 =>
  extE t29 1 fun t31 =>
  loadE 37 H4 t5 fun t35 =>
  tellE (plenumref14_Keep m (ro H4 t13) (ro H4 t1) (ro H4 t35)) [(ro H4 t13), (ro H4 t1), (ro H4 t35)] fun t36 =>
  extE t36 0 fun t37 =>
  extE t36 1 fun t38 =>
  tellE (plenumref14_Same m (ro H4 t30) (ro H4 t37)) [(ro H4 t30), (ro H4 t37)] fun t41 =>
  condE t41 (
   binE none false false .eql t31 t38 fun t45 =>
   condE t45 (
   lenE false true H4 t13 fun t50 =>
   sliceE false (some (ty_api_Snap, 38)) H4 t21 none (some t50) fun t51 =>
   tellE (plenumref14_Same m (ro H4 t51) (ro H4 t13)) [(ro H4 t51), (ro H4 t13)] fun t53 =>
   condE t53 (
   lenE false true H4 t13 fun t58 =>
   idxSE 38 H4 t21 t58 fun t59 =>
   fieldE (some (0, 1)) t59 fun t60 =>
   loadE 1 H4 t60 fun t61 =>
   binE none false false .eql t61 (V (.int .i64 (-7))) fun t62 =>
   condE t62 (
   tellE (plenumlaw14_awake m) [] fun t65 =>
   tellK H4 (ro H4 t65)) (
   tellK H4 (ro H4 (V (.bool false))))) (
   tellK H4 (ro H4 (V (.bool false))))) (
   tellK H4 (ro H4 (V (.bool false))))) (
   tellK H4 (ro H4 (V (.bool false)))) := by
  refine (tellX Tryd.prog GG (plenumlaw14_SnapKeeps_env m) m 67 plenumlaw14_SnapKeeps_c plenumlaw14_SnapKeeps_h ⟨[], argsT 0 [t0, t1, t2]⟩ [.tmp 6]).trans ?_
  kernel_rfl
noncomputable def plenumlaw14_SnapKeeps_t (m : Nat) : List AV → RO | [t0, t1, t2] => plenumlaw14_SnapKeeps m t0 t1 t2 | _ => none
theorem plenumlaw14_SnapKeeps_ok (m : Nat) : ∀ args X H', plenumlaw14_SnapKeeps_t m args = some (X, H') → ACp Tryd.prog GG 4 args X := by
  intro args X H' h
  unfold plenumlaw14_SnapKeeps_t at h
  split at h
  · exact tell_okK MIX (by
    intro f e h
    simp only [plenumlaw14_SnapKeeps_env, Prod.mk.injEq, List.mem_cons, List.not_mem_nil, or_false] at h
    rcases h with ⟨rfl, rfl⟩ | ⟨rfl, rfl⟩ | ⟨rfl, rfl⟩ | ⟨rfl, rfl⟩ | ⟨rfl, rfl⟩ | ⟨rfl, rfl⟩
    · exact plenumlaw14_Few_ok m
    · exact plenumlaw13_Few_ok m
    · exact snap_Keep_ok m
    · exact plenumref14_Keep_ok m
    · exact plenumref14_Same_ok m
    · exact plenumlaw14_awake_ok m) (f := 4) (c := plenumlaw14_SnapKeeps_c) Tryd.func4 rfl (by kernel_rfl) _ rfl Tryd.ntmps4 (Nat.le_of_ble_eq_true rfl) plenumlaw14_SnapKeeps_h h
  · cases h
end Go.Proofs.YtopifabnobplcaaDoor

namespace Go.Proofs.YtopifabnobplcaaDoor
open Go.RowKit
set_option linter.unusedVariables false
set_option linter.unusedSimpArgs false
set_option maxRecDepth 20000
def eqSn (x y : Sn) : Bool := decide (x.seq = y.seq) && sameS x.s y.s
def sameL : List Sn → List Sn → Bool
  | [], [] => true
  | x :: a, y :: b => eqSn x y && sameL a b
  | _, _ => false
theorem sameL_refl : ∀ l : List Sn, sameL l l = true
  | [] => rfl
  | x :: r => by simp [sameL, eqSn, sameS_refl, sameL_refl r]
theorem sameL_len : ∀ {a b : List Sn}, a.length ≠ b.length → sameL a b = false
  | [], [], h => absurd rfl h
  | [], y :: b, _ => rfl
  | x :: a, [], _ => rfl
  | x :: a, y :: b, h => by
    simp only [List.length_cons] at h
    simp [sameL, sameL_len (a := a) (b := b) (by omega)]
theorem sameL_drop {a b : List Sn} {k : Nat} (ha : k < a.length) (hb : k < b.length) : sameL (a.drop k) (b.drop k) = (eqSn a[k] b[k] && sameL (a.drop (k + 1)) (b.drop (k + 1))) := by
  rw [List.drop_eq_getElem_cons ha, List.drop_eq_getElem_cons hb]
  rfl
theorem rsame14_s (m : Nat) (a b : List Sn) (hm : 100 < m) (hl : a.length ≤ 64) (ha : ∀ x ∈ a, x.s.t.Ok) (hb : ∀ x ∈ b, x.s.t.Ok) : plenumref14_Same m (lS a) (lS b) = some (bA (sameL a b), []) := by
  rw [plenumref14_Same_eq, lS_def, lS_def]
  by_cases hlen : a.length = b.length
  · have hlen' : (a.length : Int) = (b.length : Int) := by omega
    simp (config := {maxSteps := 4000000, implicitDefEqProofs := false}) (disch := omega) only [go_sem, ↓reduceIte, Nat.reduceAdd, Nat.reduceSub, Nat.reduceMul, Nat.reduceLeDiff, Nat.reduceLT, Int.reduceEq, Int.reduceNe, Int.reduceLT, Int.reduceLE, Int.reduceAdd, Int.reduceSub, Int.reduceMul, Int.reduceNeg, Nat.zero_add, Nat.add_zero, Nat.mul_one, Int.toNat_natCast, Int.natCast_zero, Int.cast_ofNat_Int, or_false, false_or, or_true, true_or, Int.reduceToNat, Nat.sub_zero, Int.natCast_nonneg, Int.toNat_zero, Bool.true_and, Bool.and_true, Bool.false_and, Bool.and_false, Bool.true_or, Bool.or_true, Bool.false_or, Bool.or_false, Bool.not_true, Bool.not_false, Bool.not_not, true_and, and_true, false_and, and_false, not_true_eq_false, not_false_eq_true, eq_self, decide_true, decide_false, ne_eq, implies_true, forall_const, true_implies, false_implies, Bool.true_eq_false, Bool.false_eq_true, reduceCtorEq, List.map_cons, List.map_nil, List.all_cons, List.all_nil, List.length_cons, List.length_nil, List.length_map, List.length_append, List.nil_append, List.cons_append, List.set_cons_zero, List.set_cons_succ, List.set_nil, List.drop_zero, List.drop_succ_cons, List.drop_nil, List.take_zero, List.take_succ_cons, List.take_nil, Option.map_some, Option.map_none, Option.isSome_some, Nat.reduceEqDiff, Nat.reduceBEq, Nat.reduceGT, List.all_append, List.all_map, Function.comp_def, decide_eq_true_eq, Bool.and_eq_true, beq_self_eq_true, or_self, and_self, ite_true, ite_false, Nat.le_refl, Bool.not_eq_true, decide_not, Bool.not_eq_true', decide_eq_false_iff_not, Bool.not_eq_false, Bool.or_eq_true, if_true, if_false, ite_self, hlen, hlen']
    generalize hR : sameL a b = R
    refine iter_go (ι := {k : Nat // k ≤ a.length ∧ sameL (a.drop k) (b.drop k) = R}) (fun k => ⟨[], [(0, SL (a.map snE)), (1, SL (b.map snE)), (5, nA k.1)]⟩) (fun k => a.length - k.1) (fun _ => some (bA R, [])) ?_ ⟨0, Nat.zero_le _, hR⟩ (by dsimp only; omega)
    rintro kx hkx ⟨k, hk, hinv⟩ kc hkc
    dsimp only at hkc ⊢
    rw [plenumref14_Same_b1_eq]
    by_cases hlt : k < a.length
    · have hltb : k < b.length := by omega
      have hlt' : (k : Int) < (a.length : Int) := by omega
      have hltb' : (k : Int) < (b.length : Int) := by omega
      rw [sameL_drop hlt hltb] at hinv
      have hx := ha _ (List.getElem_mem hlt)
      have hy := hb _ (List.getElem_mem hltb)
      have hS := rsameS_s m a[k].s b[k].s (by omega) hx.len' hy.len'
      rw [stA_def, stA_def] at hS
      by_cases hq : a[k].seq = b[k].seq
      · cases hs : sameS a[k].s b[k].s with
        | false =>
          rw [hs] at hS
          have : R = false := by rw [← hinv, eqSn, hs]; simp
          rw [this]
          simp (config := {maxSteps := 4000000, implicitDefEqProofs := false}) (disch := omega) only [go_sem, ↓reduceIte, Nat.reduceAdd, Nat.reduceSub, Nat.reduceMul, Nat.reduceLeDiff, Nat.reduceLT, Int.reduceEq, Int.reduceNe, Int.reduceLT, Int.reduceLE, Int.reduceAdd, Int.reduceSub, Int.reduceMul, Int.reduceNeg, Nat.zero_add, Nat.add_zero, Nat.mul_one, Int.toNat_natCast, Int.natCast_zero, Int.cast_ofNat_Int, or_false, false_or, or_true, true_or, Int.reduceToNat, Nat.sub_zero, Int.natCast_nonneg, Int.toNat_zero, Bool.true_and, Bool.and_true, Bool.false_and, Bool.and_false, Bool.true_or, Bool.or_true, Bool.false_or, Bool.or_false, Bool.not_true, Bool.not_false, Bool.not_not, true_and, and_true, false_and, and_false, not_true_eq_false, not_false_eq_true, eq_self, decide_true, decide_false, ne_eq, implies_true, forall_const, true_implies, false_implies, Bool.true_eq_false, Bool.false_eq_true, reduceCtorEq, List.map_cons, List.map_nil, List.all_cons, List.all_nil, List.length_cons, List.length_nil, List.length_map, List.length_append, List.nil_append, List.cons_append, List.set_cons_zero, List.set_cons_succ, List.set_nil, List.drop_zero, List.drop_succ_cons, List.drop_nil, List.take_zero, List.take_succ_cons, List.take_nil, Option.map_some, Option.map_none, Option.isSome_some, Nat.reduceEqDiff, Nat.reduceBEq, Nat.reduceGT, List.all_append, List.all_map, Function.comp_def, decide_eq_true_eq, Bool.and_eq_true, beq_self_eq_true, or_self, and_self, ite_true, ite_false, Nat.le_refl, Bool.not_eq_true, decide_not, Bool.not_eq_true', decide_eq_false_iff_not, Bool.not_eq_false, Bool.or_eq_true, if_true, if_false, ite_self, hkx, hlt', hltb', natInt, u_nthM, sn_it, stC_len, hq, hS, st_take35, st_ltA, st_sure, st_lt1, st_ro]
        | true =>
          rw [hs] at hS
          have step := hkc ⟨k + 1, by omega, by rw [← hinv, eqSn, hs]; simp [hq]⟩ (by dsimp only; omega)
          simp (config := {maxSteps := 4000000, implicitDefEqProofs := false}) (disch := omega) only [go_sem, ↓reduceIte, Nat.reduceAdd, Nat.reduceSub, Nat.reduceMul, Nat.reduceLeDiff, Nat.reduceLT, Int.reduceEq, Int.reduceNe, Int.reduceLT, Int.reduceLE, Int.reduceAdd, Int.reduceSub, Int.reduceMul, Int.reduceNeg, Nat.zero_add, Nat.add_zero, Nat.mul_one, Int.toNat_natCast, Int.natCast_zero, Int.cast_ofNat_Int, or_false, false_or, or_true, true_or, Int.reduceToNat, Nat.sub_zero, Int.natCast_nonneg, Int.toNat_zero, Bool.true_and, Bool.and_true, Bool.false_and, Bool.and_false, Bool.true_or, Bool.or_true, Bool.false_or, Bool.or_false, Bool.not_true, Bool.not_false, Bool.not_not, true_and, and_true, false_and, and_false, not_true_eq_false, not_false_eq_true, eq_self, decide_true, decide_false, ne_eq, implies_true, forall_const, true_implies, false_implies, Bool.true_eq_false, Bool.false_eq_true, reduceCtorEq, List.map_cons, List.map_nil, List.all_cons, List.all_nil, List.length_cons, List.length_nil, List.length_map, List.length_append, List.nil_append, List.cons_append, List.set_cons_zero, List.set_cons_succ, List.set_nil, List.drop_zero, List.drop_succ_cons, List.drop_nil, List.take_zero, List.take_succ_cons, List.take_nil, Option.map_some, Option.map_none, Option.isSome_some, Nat.reduceEqDiff, Nat.reduceBEq, Nat.reduceGT, List.all_append, List.all_map, Function.comp_def, decide_eq_true_eq, Bool.and_eq_true, beq_self_eq_true, or_self, and_self, ite_true, ite_false, Nat.le_refl, Bool.not_eq_true, decide_not, Bool.not_eq_true', decide_eq_false_iff_not, Bool.not_eq_false, Bool.or_eq_true, if_true, if_false, ite_self, hkx, hlt', hltb', natInt, u_nthM, sn_it, stC_len, hq, hS, st_take35, st_ltA, st_sure, st_lt1, st_ro, w_i64, sn_allA, all_tt]
          exact step
      · have : R = false := by rw [← hinv, eqSn]; simp [hq]
        rw [this]
        simp (config := {maxSteps := 4000000, implicitDefEqProofs := false}) (disch := omega) only [go_sem, ↓reduceIte, Nat.reduceAdd, Nat.reduceSub, Nat.reduceMul, Nat.reduceLeDiff, Nat.reduceLT, Int.reduceEq, Int.reduceNe, Int.reduceLT, Int.reduceLE, Int.reduceAdd, Int.reduceSub, Int.reduceMul, Int.reduceNeg, Nat.zero_add, Nat.add_zero, Nat.mul_one, Int.toNat_natCast, Int.natCast_zero, Int.cast_ofNat_Int, or_false, false_or, or_true, true_or, Int.reduceToNat, Nat.sub_zero, Int.natCast_nonneg, Int.toNat_zero, Bool.true_and, Bool.and_true, Bool.false_and, Bool.and_false, Bool.true_or, Bool.or_true, Bool.false_or, Bool.or_false, Bool.not_true, Bool.not_false, Bool.not_not, true_and, and_true, false_and, and_false, not_true_eq_false, not_false_eq_true, eq_self, decide_true, decide_false, ne_eq, implies_true, forall_const, true_implies, false_implies, Bool.true_eq_false, Bool.false_eq_true, reduceCtorEq, List.map_cons, List.map_nil, List.all_cons, List.all_nil, List.length_cons, List.length_nil, List.length_map, List.length_append, List.nil_append, List.cons_append, List.set_cons_zero, List.set_cons_succ, List.set_nil, List.drop_zero, List.drop_succ_cons, List.drop_nil, List.take_zero, List.take_succ_cons, List.take_nil, Option.map_some, Option.map_none, Option.isSome_some, Nat.reduceEqDiff, Nat.reduceBEq, Nat.reduceGT, List.all_append, List.all_map, Function.comp_def, decide_eq_true_eq, Bool.and_eq_true, beq_self_eq_true, or_self, and_self, ite_true, ite_false, Nat.le_refl, Bool.not_eq_true, decide_not, Bool.not_eq_true', decide_eq_false_iff_not, Bool.not_eq_false, Bool.or_eq_true, if_true, if_false, ite_self, hkx, hlt', hltb', natInt, u_nthM, sn_it, stC_len, hq]
    · have hlt' : ¬ (k : Int) < (a.length : Int) := by omega
      have : R = true := by
        rw [← hinv, List.drop_of_length_le (by omega), List.drop_of_length_le (by omega)]
        rfl
      rw [this]
      simp (config := {maxSteps := 4000000, implicitDefEqProofs := false}) (disch := omega) only [go_sem, ↓reduceIte, Nat.reduceAdd, Nat.reduceSub, Nat.reduceMul, Nat.reduceLeDiff, Nat.reduceLT, Int.reduceEq, Int.reduceNe, Int.reduceLT, Int.reduceLE, Int.reduceAdd, Int.reduceSub, Int.reduceMul, Int.reduceNeg, Nat.zero_add, Nat.add_zero, Nat.mul_one, Int.toNat_natCast, Int.natCast_zero, Int.cast_ofNat_Int, or_false, false_or, or_true, true_or, Int.reduceToNat, Nat.sub_zero, Int.natCast_nonneg, Int.toNat_zero, Bool.true_and, Bool.and_true, Bool.false_and, Bool.and_false, Bool.true_or, Bool.or_true, Bool.false_or, Bool.or_false, Bool.not_true, Bool.not_false, Bool.not_not, true_and, and_true, false_and, and_false, not_true_eq_false, not_false_eq_true, eq_self, decide_true, decide_false, ne_eq, implies_true, forall_const, true_implies, false_implies, Bool.true_eq_false, Bool.false_eq_true, reduceCtorEq, List.map_cons, List.map_nil, List.all_cons, List.all_nil, List.length_cons, List.length_nil, List.length_map, List.length_append, List.nil_append, List.cons_append, List.set_cons_zero, List.set_cons_succ, List.set_nil, List.drop_zero, List.drop_succ_cons, List.drop_nil, List.take_zero, List.take_succ_cons, List.take_nil, Option.map_some, Option.map_none, Option.isSome_some, Nat.reduceEqDiff, Nat.reduceBEq, Nat.reduceGT, List.all_append, List.all_map, Function.comp_def, decide_eq_true_eq, Bool.and_eq_true, beq_self_eq_true, or_self, and_self, ite_true, ite_false, Nat.le_refl, Bool.not_eq_true, decide_not, Bool.not_eq_true', decide_eq_false_iff_not, Bool.not_eq_false, Bool.or_eq_true, if_true, if_false, ite_self, hkx, hlt', plenumref14_Same_r1_eq]
  · have hlen' : ¬ (a.length : Int) = (b.length : Int) := by omega
    rw [sameL_len hlen]
    simp (config := {maxSteps := 4000000, implicitDefEqProofs := false}) (disch := omega) only [go_sem, ↓reduceIte, Nat.reduceAdd, Nat.reduceSub, Nat.reduceMul, Nat.reduceLeDiff, Nat.reduceLT, Int.reduceEq, Int.reduceNe, Int.reduceLT, Int.reduceLE, Int.reduceAdd, Int.reduceSub, Int.reduceMul, Int.reduceNeg, Nat.zero_add, Nat.add_zero, Nat.mul_one, Int.toNat_natCast, Int.natCast_zero, Int.cast_ofNat_Int, or_false, false_or, or_true, true_or, Int.reduceToNat, Nat.sub_zero, Int.natCast_nonneg, Int.toNat_zero, Bool.true_and, Bool.and_true, Bool.false_and, Bool.and_false, Bool.true_or, Bool.or_true, Bool.false_or, Bool.or_false, Bool.not_true, Bool.not_false, Bool.not_not, true_and, and_true, false_and, and_false, not_true_eq_false, not_false_eq_true, eq_self, decide_true, decide_false, ne_eq, implies_true, forall_const, true_implies, false_implies, Bool.true_eq_false, Bool.false_eq_true, reduceCtorEq, List.map_cons, List.map_nil, List.all_cons, List.all_nil, List.length_cons, List.length_nil, List.length_map, List.length_append, List.nil_append, List.cons_append, List.set_cons_zero, List.set_cons_succ, List.set_nil, List.drop_zero, List.drop_succ_cons, List.drop_nil, List.take_zero, List.take_succ_cons, List.take_nil, Option.map_some, Option.map_none, Option.isSome_some, Nat.reduceEqDiff, Nat.reduceBEq, Nat.reduceGT, List.all_append, List.all_map, Function.comp_def, decide_eq_true_eq, Bool.and_eq_true, beq_self_eq_true, or_self, and_self, ite_true, ite_false, Nat.le_refl, Bool.not_eq_true, decide_not, Bool.not_eq_true', decide_eq_false_iff_not, Bool.not_eq_false, Bool.or_eq_true, if_true, if_false, ite_self, hlen, hlen']
end Go.Proofs.YtopifabnobplcaaDoor

namespace Go.Proofs.YtopifabnobplcaaDoor
open Go.RowKit
set_option linter.unusedVariables false
set_option linter.unusedSimpArgs false
set_option maxRecDepth 20000
def kpS (l : List Sn) (k : Nat) : List Sn := if l.length < 8 then l.take k else (l.take k).drop 1
def kp (l : List Sn) : Nat → List Sn
  | 0 => []
  | k + 1 => match l[k]? with
    | none => kp l k
    | some x => if 0 < k ∨ l.length < 8 then kp l k ++ [x] else kp l k
theorem kp_succ {l : List Sn} {k : Nat} (h : k < l.length) : kp l (k + 1) = if 0 < k ∨ l.length < 8 then kp l k ++ [l[k]] else kp l k := by
  show (match l[k]? with | none => _ | some x => _) = _
  rw [List.getElem?_eq_getElem h]
theorem kp_len (l : List Sn) : ∀ k, (kp l k).length ≤ k
  | 0 => Nat.le_refl _
  | k + 1 => by
    have := kp_len l k
    unfold kp
    split
    · omega
    · split
      · rw [List.length_append, List.length_singleton]; omega
      · omega
theorem kpS_succ {l : List Sn} {k : Nat} (h : k < l.length) : kpS l (k + 1) = if 0 < k ∨ l.length < 8 then kpS l k ++ [l[k]] else kpS l k := by
  unfold kpS
  rw [List.take_succ_eq_append_getElem h]
  by_cases h8 : l.length < 8
  · simp [h8]
  · rw [if_neg h8, if_neg h8]
    by_cases h0 : 0 < k
    · rw [if_pos (.inl h0), List.drop_append_of_le_length (by rw [List.length_take]; omega)]
    · have : k = 0 := by omega
      subst this
      rw [if_neg (by omega)]
      simp
theorem kp_S {l : List Sn} : ∀ k, k ≤ l.length → kp l k = kpS l k
  | 0, _ => by unfold kp kpS; simp
  | k + 1, h => by rw [kp_succ (by omega), kpS_succ (by omega), kp_S k (by omega)]
theorem kp_out {l : List Sn} {q : Int} {s : St} (h8 : l.length ≤ 8) : kp l l.length ++ [(⟨q, s⟩ : Sn)] = out1 l q s := by
  rw [kp_S _ (Nat.le_refl _)]
  unfold kpS out1
  rw [List.take_length]
  by_cases h : l.length < 8
  · rw [if_pos h, if_neg (by omega)]
  · rw [if_neg h, if_pos (by omega), List.drop_append_of_le_length (by omega)]
theorem rkeep2_s (m : Nat) (l : List Sn) (q : Int) (s : St) (hm : 16000000 < m) (h8 : l.length ≤ 8) (h : ∀ x ∈ l, x.s.t.Ok) (hs : s.t.Ok) : plenumref14_Keep_r2 m ⟨[⟨1, ty_api_Store, 0, stC s⟩, ⟨2, ty_api_Snap, 36, (kp l l.length).map snE⟩], [(1, nA q), (5, OP 0 0), (9, OW 1 (kp l l.length).length)]⟩ = some (TU [lS (keep2 l q s).1, nA (keep2 l q s).2], []) := by
  have hK := rcheck_s m (out1 l q s) hm (by
    intro x hx
    have hx : x ∈ l ++ [(⟨q, s⟩ : Sn)] := by
      unfold out1 at hx
      split at hx
      · exact List.mem_of_mem_drop hx
      · exact hx
    rcases List.mem_append.1 hx with e | e
    · exact h x e
    · rw [List.mem_singleton.1 e]; exact hs)
  have hlen : (kp l l.length).length ≤ 8 := Nat.le_trans (kp_len l _) h8
  have hmap : (kp l l.length).map snE ++ [.agg (nA q :: stC s)] = (out1 l q s).map snE := by rw [← kp_out h8, List.map_append]; rfl
  have hl1 : (kp l l.length).length + 1 ≤ 34359738368 := by omega
  have hol : (kp l l.length).length + 1 = (out1 l q s).length := by rw [← kp_out (q := q) (s := s) h8, List.length_append]; rfl
  rw [lS_def] at hK ⊢
  rw [plenumref14_Keep_r2_eq]
  unfold keep2
  generalize hR : chkL (out1 l q s) = R at hK ⊢
  obtain ⟨e, a⟩ := R
  simp (config := {maxSteps := 4000000, implicitDefEqProofs := false}) (disch := omega) only [go_sem, ↓reduceIte, Nat.reduceAdd, Nat.reduceSub, Nat.reduceMul, Nat.reduceLeDiff, Nat.reduceLT, Int.reduceEq, Int.reduceNe, Int.reduceLT, Int.reduceLE, Int.reduceAdd, Int.reduceSub, Int.reduceMul, Int.reduceNeg, Nat.zero_add, Nat.add_zero, Nat.mul_one, Int.toNat_natCast, Int.natCast_zero, Int.cast_ofNat_Int, or_false, false_or, or_true, true_or, Int.reduceToNat, Nat.sub_zero, Int.natCast_nonneg, Int.toNat_zero, Bool.true_and, Bool.and_true, Bool.false_and, Bool.and_false, Bool.true_or, Bool.or_true, Bool.false_or, Bool.or_false, Bool.not_true, Bool.not_false, Bool.not_not, true_and, and_true, false_and, and_false, not_true_eq_false, not_false_eq_true, eq_self, decide_true, decide_false, ne_eq, implies_true, forall_const, true_implies, false_implies, Bool.true_eq_false, Bool.false_eq_true, reduceCtorEq, List.map_cons, List.map_nil, List.all_cons, List.all_nil, List.length_cons, List.length_nil, List.length_map, List.length_append, List.nil_append, List.cons_append, List.set_cons_zero, List.set_cons_succ, List.set_nil, List.drop_zero, List.drop_succ_cons, List.drop_nil, List.take_zero, List.take_succ_cons, List.take_nil, Option.map_some, Option.map_none, Option.isSome_some, Nat.reduceEqDiff, Nat.reduceBEq, Nat.reduceGT, List.all_append, List.all_map, Function.comp_def, decide_eq_true_eq, Bool.and_eq_true, beq_self_eq_true, or_self, and_self, ite_true, ite_false, Nat.le_refl, Bool.not_eq_true, decide_not, Bool.not_eq_true', decide_eq_false_iff_not, Bool.not_eq_false, Bool.or_eq_true, if_true, if_false, ite_self, tC_len, tC_sure, tC_ltA, tC_lt1, tC_ro, tC_take, tC_all1, zC_len, zC_ltA, zC_lt1, zC_sure, zC_ro, zC_take, set_tl, set_tv, sc_tt, sc_zt, sc_tz, sc_zz, add16, tA_def, lA_def, natInt, u_tl, u_tv, sn_allA, sn_it, st_take35, st_ltA, st_sure, st_lt1, st_sl, st_all1, st_ro, stC_len, all_tt, u_bSn, hl1]
  rw [hmap]
  by_cases he : e = 0
  · simp (config := {maxSteps := 4000000, implicitDefEqProofs := false}) (disch := omega) only [go_sem, ↓reduceIte, Nat.reduceAdd, Nat.reduceSub, Nat.reduceMul, Nat.reduceLeDiff, Nat.reduceLT, Int.reduceEq, Int.reduceNe, Int.reduceLT, Int.reduceLE, Int.reduceAdd, Int.reduceSub, Int.reduceMul, Int.reduceNeg, Nat.zero_add, Nat.add_zero, Nat.mul_one, Int.toNat_natCast, Int.natCast_zero, Int.cast_ofNat_Int, or_false, false_or, or_true, true_or, Int.reduceToNat, Nat.sub_zero, Int.natCast_nonneg, Int.toNat_zero, Bool.true_and, Bool.and_true, Bool.false_and, Bool.and_false, Bool.true_or, Bool.or_true, Bool.false_or, Bool.or_false, Bool.not_true, Bool.not_false, Bool.not_not, true_and, and_true, false_and, and_false, not_true_eq_false, not_false_eq_true, eq_self, decide_true, decide_false, ne_eq, implies_true, forall_const, true_implies, false_implies, Bool.true_eq_false, Bool.false_eq_true, reduceCtorEq, List.map_cons, List.map_nil, List.all_cons, List.all_nil, List.length_cons, List.length_nil, List.length_map, List.length_append, List.nil_append, List.cons_append, List.set_cons_zero, List.set_cons_succ, List.set_nil, List.drop_zero, List.drop_succ_cons, List.drop_nil, List.take_zero, List.take_succ_cons, List.take_nil, Option.map_some, Option.map_none, Option.isSome_some, Nat.reduceEqDiff, Nat.reduceBEq, Nat.reduceGT, List.all_append, List.all_map, Function.comp_def, decide_eq_true_eq, Bool.and_eq_true, beq_self_eq_true, or_self, and_self, ite_true, ite_false, Nat.le_refl, Bool.not_eq_true, decide_not, Bool.not_eq_true', decide_eq_false_iff_not, Bool.not_eq_false, Bool.or_eq_true, if_true, if_false, ite_self, hK, he, sn_allA, sn_it, st_ltA]
  · simp (config := {maxSteps := 4000000, implicitDefEqProofs := false}) (disch := omega) only [go_sem, ↓reduceIte, Nat.reduceAdd, Nat.reduceSub, Nat.reduceMul, Nat.reduceLeDiff, Nat.reduceLT, Int.reduceEq, Int.reduceNe, Int.reduceLT, Int.reduceLE, Int.reduceAdd, Int.reduceSub, Int.reduceMul, Int.reduceNeg, Nat.zero_add, Nat.add_zero, Nat.mul_one, Int.toNat_natCast, Int.natCast_zero, Int.cast_ofNat_Int, or_false, false_or, or_true, true_or, Int.reduceToNat, Nat.sub_zero, Int.natCast_nonneg, Int.toNat_zero, Bool.true_and, Bool.and_true, Bool.false_and, Bool.and_false, Bool.true_or, Bool.or_true, Bool.false_or, Bool.or_false, Bool.not_true, Bool.not_false, Bool.not_not, true_and, and_true, false_and, and_false, not_true_eq_false, not_false_eq_true, eq_self, decide_true, decide_false, ne_eq, implies_true, forall_const, true_implies, false_implies, Bool.true_eq_false, Bool.false_eq_true, reduceCtorEq, List.map_cons, List.map_nil, List.all_cons, List.all_nil, List.length_cons, List.length_nil, List.length_map, List.length_append, List.nil_append, List.cons_append, List.set_cons_zero, List.set_cons_succ, List.set_nil, List.drop_zero, List.drop_succ_cons, List.drop_nil, List.take_zero, List.take_succ_cons, List.take_nil, Option.map_some, Option.map_none, Option.isSome_some, Nat.reduceEqDiff, Nat.reduceBEq, Nat.reduceGT, List.all_append, List.all_map, Function.comp_def, decide_eq_true_eq, Bool.and_eq_true, beq_self_eq_true, or_self, and_self, ite_true, ite_false, Nat.le_refl, Bool.not_eq_true, decide_not, Bool.not_eq_true', decide_eq_false_iff_not, Bool.not_eq_false, Bool.or_eq_true, if_true, if_false, ite_self, hK, he, sn_allA, sn_it, st_ltA]
theorem rkeep1_s (m : Nat) (l : List Sn) (q : Int) (s : St) (hm : 16000000 < m) (h8 : l.length ≤ 8) (h : ∀ x ∈ l, x.s.t.Ok) (hs : s.t.Ok) : plenumref14_Keep_r1 m ⟨[⟨1, ty_api_Store, 0, stC s⟩], [(0, SL (l.map snE)), (1, nA q), (5, OP 0 0)]⟩ = some (TU [lS (keep2 l q s).1, nA (keep2 l q s).2], []) := by
  have h2 := rkeep2_s m l q s hm h8 h hs
  rw [plenumref14_Keep_r1_eq]
  simp (config := {maxSteps := 4000000, implicitDefEqProofs := false}) (disch := omega) only [go_sem, ↓reduceIte, Nat.reduceAdd, Nat.reduceSub, Nat.reduceMul, Nat.reduceLeDiff, Nat.reduceLT, Int.reduceEq, Int.reduceNe, Int.reduceLT, Int.reduceLE, Int.reduceAdd, Int.reduceSub, Int.reduceMul, Int.reduceNeg, Nat.zero_add, Nat.add_zero, Nat.mul_one, Int.toNat_natCast, Int.natCast_zero, Int.cast_ofNat_Int, or_false, false_or, or_true, true_or, Int.reduceToNat, Nat.sub_zero, Int.natCast_nonneg, Int.toNat_zero, Bool.true_and, Bool.and_true, Bool.false_and, Bool.and_false, Bool.true_or, Bool.or_true, Bool.false_or, Bool.or_false, Bool.not_true, Bool.not_false, Bool.not_not, true_and, and_true, false_and, and_false, not_true_eq_false, not_false_eq_true, eq_self, decide_true, decide_false, ne_eq, implies_true, forall_const, true_implies, false_implies, Bool.true_eq_false, Bool.false_eq_true, reduceCtorEq, List.map_cons, List.map_nil, List.all_cons, List.all_nil, List.length_cons, List.length_nil, List.length_map, List.length_append, List.nil_append, List.cons_append, List.set_cons_zero, List.set_cons_succ, List.set_nil, List.drop_zero, List.drop_succ_cons, List.drop_nil, List.take_zero, List.take_succ_cons, List.take_nil, Option.map_some, Option.map_none, Option.isSome_some, Nat.reduceEqDiff, Nat.reduceBEq, Nat.reduceGT, List.all_append, List.all_map, Function.comp_def, decide_eq_true_eq, Bool.and_eq_true, beq_self_eq_true, or_self, and_self, ite_true, ite_false, Nat.le_refl, Bool.not_eq_true, decide_not, Bool.not_eq_true', decide_eq_false_iff_not, Bool.not_eq_false, Bool.or_eq_true, if_true, if_false, ite_self, h8]
  refine iter_go (ι := {k : Nat // k ≤ l.length}) (fun k => ⟨[⟨1, ty_api_Store, 0, stC s⟩, ⟨2, ty_api_Snap, 36, (kp l k.1).map snE⟩], [(0, SL (l.map snE)), (1, nA q), (5, OP 0 0), (9, OW 1 (kp l k.1).length), (10, nA k.1)]⟩) (fun k => l.length - k.1) (fun _ => some (TU [lS (keep2 l q s).1, nA (keep2 l q s).2], [])) ?_ ⟨0, Nat.zero_le _⟩ (by dsimp only; omega)
  rintro kx hkx ⟨k, hk⟩ kc hkc
  dsimp only at hkc ⊢
  rw [plenumref14_Keep_b2_eq]
  by_cases hlt : k < l.length
  · have hlt' : (k : Int) < (l.length : Int) := by omega
    have step := hkc ⟨k + 1, by omega⟩ (by dsimp only; omega)
    dsimp only at step
    have hg := kp_len l k
    have hg1 : (kp l k).length + 1 ≤ 34359738368 := by omega
    rw [kp_succ hlt] at step
    by_cases h0 : 0 < k
    · have h0' : (0 : Int) < (k : Int) := by omega
      rw [if_pos (.inl h0), List.map_append, List.length_append] at step
      simp (config := {maxSteps := 4000000, implicitDefEqProofs := false}) (disch := omega) only [go_sem, ↓reduceIte, Nat.reduceAdd, Nat.reduceSub, Nat.reduceMul, Nat.reduceLeDiff, Nat.reduceLT, Int.reduceEq, Int.reduceNe, Int.reduceLT, Int.reduceLE, Int.reduceAdd, Int.reduceSub, Int.reduceMul, Int.reduceNeg, Nat.zero_add, Nat.add_zero, Nat.mul_one, Int.toNat_natCast, Int.natCast_zero, Int.cast_ofNat_Int, or_false, false_or, or_true, true_or, Int.reduceToNat, Nat.sub_zero, Int.natCast_nonneg, Int.toNat_zero, Bool.true_and, Bool.and_true, Bool.false_and, Bool.and_false, Bool.true_or, Bool.or_true, Bool.false_or, Bool.or_false, Bool.not_true, Bool.not_false, Bool.not_not, true_and, and_true, false_and, and_false, not_true_eq_false, not_false_eq_true, eq_self, decide_true, decide_false, ne_eq, implies_true, forall_const, true_implies, false_implies, Bool.true_eq_false, Bool.false_eq_true, reduceCtorEq, List.map_cons, List.map_nil, List.all_cons, List.all_nil, List.length_cons, List.length_nil, List.length_map, List.length_append, List.nil_append, List.cons_append, List.set_cons_zero, List.set_cons_succ, List.set_nil, List.drop_zero, List.drop_succ_cons, List.drop_nil, List.take_zero, List.take_succ_cons, List.take_nil, Option.map_some, Option.map_none, Option.isSome_some, Nat.reduceEqDiff, Nat.reduceBEq, Nat.reduceGT, List.all_append, List.all_map, Function.comp_def, decide_eq_true_eq, Bool.and_eq_true, beq_self_eq_true, or_self, and_self, ite_true, ite_false, Nat.le_refl, Bool.not_eq_true, decide_not, Bool.not_eq_true', decide_eq_false_iff_not, Bool.not_eq_false, Bool.or_eq_true, if_true, if_false, ite_self, hlt', h0', natInt, u_nthM, sn_it, stC_len, w_i64, hg1, sn_take, st_ltA, st_sure, st_lt1, st_sl, st_take35, all_tt, plenumref14_Keep_r3_eq, plenumref14_Keep_r4_eq]
      exact step
    · have h0' : ¬ (0 : Int) < (k : Int) := by omega
      by_cases hz : l.length < 8
      · have hz' : (l.length : Int) < 8 := by omega
        rw [if_pos (.inr hz), List.map_append, List.length_append] at step
        simp (config := {maxSteps := 4000000, implicitDefEqProofs := false}) (disch := omega) only [go_sem, ↓reduceIte, Nat.reduceAdd, Nat.reduceSub, Nat.reduceMul, Nat.reduceLeDiff, Nat.reduceLT, Int.reduceEq, Int.reduceNe, Int.reduceLT, Int.reduceLE, Int.reduceAdd, Int.reduceSub, Int.reduceMul, Int.reduceNeg, Nat.zero_add, Nat.add_zero, Nat.mul_one, Int.toNat_natCast, Int.natCast_zero, Int.cast_ofNat_Int, or_false, false_or, or_true, true_or, Int.reduceToNat, Nat.sub_zero, Int.natCast_nonneg, Int.toNat_zero, Bool.true_and, Bool.and_true, Bool.false_and, Bool.and_false, Bool.true_or, Bool.or_true, Bool.false_or, Bool.or_false, Bool.not_true, Bool.not_false, Bool.not_not, true_and, and_true, false_and, and_false, not_true_eq_false, not_false_eq_true, eq_self, decide_true, decide_false, ne_eq, implies_true, forall_const, true_implies, false_implies, Bool.true_eq_false, Bool.false_eq_true, reduceCtorEq, List.map_cons, List.map_nil, List.all_cons, List.all_nil, List.length_cons, List.length_nil, List.length_map, List.length_append, List.nil_append, List.cons_append, List.set_cons_zero, List.set_cons_succ, List.set_nil, List.drop_zero, List.drop_succ_cons, List.drop_nil, List.take_zero, List.take_succ_cons, List.take_nil, Option.map_some, Option.map_none, Option.isSome_some, Nat.reduceEqDiff, Nat.reduceBEq, Nat.reduceGT, List.all_append, List.all_map, Function.comp_def, decide_eq_true_eq, Bool.and_eq_true, beq_self_eq_true, or_self, and_self, ite_true, ite_false, Nat.le_refl, Bool.not_eq_true, decide_not, Bool.not_eq_true', decide_eq_false_iff_not, Bool.not_eq_false, Bool.or_eq_true, if_true, if_false, ite_self, hlt', h0', hz', natInt, u_nthM, sn_it, stC_len, w_i64, hg1, sn_take, st_ltA, st_sure, st_lt1, st_sl, st_take35, all_tt, plenumref14_Keep_r3_eq, plenumref14_Keep_r4_eq]
        exact step
      · have hz' : ¬ (l.length : Int) < 8 := by omega
        rw [if_neg (by omega)] at step
        simp (config := {maxSteps := 4000000, implicitDefEqProofs := false}) (disch := omega) only [go_sem, ↓reduceIte, Nat.reduceAdd, Nat.reduceSub, Nat.reduceMul, Nat.reduceLeDiff, Nat.reduceLT, Int.reduceEq, Int.reduceNe, Int.reduceLT, Int.reduceLE, Int.reduceAdd, Int.reduceSub, Int.reduceMul, Int.reduceNeg, Nat.zero_add, Nat.add_zero, Nat.mul_one, Int.toNat_natCast, Int.natCast_zero, Int.cast_ofNat_Int, or_false, false_or, or_true, true_or, Int.reduceToNat, Nat.sub_zero, Int.natCast_nonneg, Int.toNat_zero, Bool.true_and, Bool.and_true, Bool.false_and, Bool.and_false, Bool.true_or, Bool.or_true, Bool.false_or, Bool.or_false, Bool.not_true, Bool.not_false, Bool.not_not, true_and, and_true, false_and, and_false, not_true_eq_false, not_false_eq_true, eq_self, decide_true, decide_false, ne_eq, implies_true, forall_const, true_implies, false_implies, Bool.true_eq_false, Bool.false_eq_true, reduceCtorEq, List.map_cons, List.map_nil, List.all_cons, List.all_nil, List.length_cons, List.length_nil, List.length_map, List.length_append, List.nil_append, List.cons_append, List.set_cons_zero, List.set_cons_succ, List.set_nil, List.drop_zero, List.drop_succ_cons, List.drop_nil, List.take_zero, List.take_succ_cons, List.take_nil, Option.map_some, Option.map_none, Option.isSome_some, Nat.reduceEqDiff, Nat.reduceBEq, Nat.reduceGT, List.all_append, List.all_map, Function.comp_def, decide_eq_true_eq, Bool.and_eq_true, beq_self_eq_true, or_self, and_self, ite_true, ite_false, Nat.le_refl, Bool.not_eq_true, decide_not, Bool.not_eq_true', decide_eq_false_iff_not, Bool.not_eq_false, Bool.or_eq_true, if_true, if_false, ite_self, hlt', h0', hz', natInt, u_nthM, sn_it, stC_len, w_i64, hg1, sn_take, st_ltA, st_sure, st_lt1, st_sl, st_take35, all_tt, plenumref14_Keep_r3_eq, plenumref14_Keep_r4_eq]
        exact step
  · have hlt' : ¬ (k : Int) < (l.length : Int) := by omega
    have : k = l.length := by omega
    subst this
    simp (config := {maxSteps := 4000000, implicitDefEqProofs := false}) (disch := omega) only [go_sem, ↓reduceIte, Nat.reduceAdd, Nat.reduceSub, Nat.reduceMul, Nat.reduceLeDiff, Nat.reduceLT, Int.reduceEq, Int.reduceNe, Int.reduceLT, Int.reduceLE, Int.reduceAdd, Int.reduceSub, Int.reduceMul, Int.reduceNeg, Nat.zero_add, Nat.add_zero, Nat.mul_one, Int.toNat_natCast, Int.natCast_zero, Int.cast_ofNat_Int, or_false, false_or, or_true, true_or, Int.reduceToNat, Nat.sub_zero, Int.natCast_nonneg, Int.toNat_zero, Bool.true_and, Bool.and_true, Bool.false_and, Bool.and_false, Bool.true_or, Bool.or_true, Bool.false_or, Bool.or_false, Bool.not_true, Bool.not_false, Bool.not_not, true_and, and_true, false_and, and_false, not_true_eq_false, not_false_eq_true, eq_self, decide_true, decide_false, ne_eq, implies_true, forall_const, true_implies, false_implies, Bool.true_eq_false, Bool.false_eq_true, reduceCtorEq, List.map_cons, List.map_nil, List.all_cons, List.all_nil, List.length_cons, List.length_nil, List.length_map, List.length_append, List.nil_append, List.cons_append, List.set_cons_zero, List.set_cons_succ, List.set_nil, List.drop_zero, List.drop_succ_cons, List.drop_nil, List.take_zero, List.take_succ_cons, List.take_nil, Option.map_some, Option.map_none, Option.isSome_some, Nat.reduceEqDiff, Nat.reduceBEq, Nat.reduceGT, List.all_append, List.all_map, Function.comp_def, decide_eq_true_eq, Bool.and_eq_true, beq_self_eq_true, or_self, and_self, ite_true, ite_false, Nat.le_refl, Bool.not_eq_true, decide_not, Bool.not_eq_true', decide_eq_false_iff_not, Bool.not_eq_false, Bool.or_eq_true, if_true, if_false, ite_self, hkx, hlt', h2]
theorem keepL_old {l : List Sn} {q : Int} {s : St} {k : Nat} (hi : isL l = true) (hk : k < l.length) (h : q ≤ l[k].seq) : keepL l q s = ([], 18) := by
  have hl1 : l.length - 1 < l.length := by omega
  unfold keepL
  rw [if_pos hi, List.getElem?_eq_getElem hl1]
  dsimp only
  rw [if_pos]
  rcases Nat.lt_or_ge k (l.length - 1) with e | e
  · have := isL_inc hi k (l.length - 1) hl1 e; omega
  · have : k = l.length - 1 := by omega
    subst this; exact h
theorem keepL_new {l : List Sn} {q : Int} {s : St} (hi : isL l = true) (h : ∀ x ∈ l, x.seq < q) : keepL l q s = keep2 l q s := by
  unfold keepL
  rw [if_pos hi]
  by_cases h0 : l.length = 0
  · rw [List.getElem?_eq_none (by omega)]
  · have hl1 : l.length - 1 < l.length := by omega
    rw [List.getElem?_eq_getElem hl1]
    dsimp only
    have := h _ (List.getElem_mem hl1)
    rw [if_neg (by omega)]
theorem rkeep_s (m : Nat) (l : List Sn) (q : Int) (s : St) (hm : 16000000 < m) (h : ∀ x ∈ l, x.s.t.Ok) (hs : s.t.Ok) : plenumref14_Keep m (lS l) (nA q) (stA s) = some (TU [lS (keepL l q s).1, nA (keepL l q s).2], []) := by
  have hI := ris_s m l hm h
  rw [lS_def] at hI
  rw [plenumref14_Keep_eq, lS_def, stA_def]
  cases hi : isL l with
  | false =>
    rw [hi] at hI
    have : keepL l q s = ([], 1) := by unfold keepL; rw [hi]; rfl
    rw [this, lS_def]
    simp (config := {maxSteps := 4000000, implicitDefEqProofs := false}) (disch := omega) only [go_sem, ↓reduceIte, Nat.reduceAdd, Nat.reduceSub, Nat.reduceMul, Nat.reduceLeDiff, Nat.reduceLT, Int.reduceEq, Int.reduceNe, Int.reduceLT, Int.reduceLE, Int.reduceAdd, Int.reduceSub, Int.reduceMul, Int.reduceNeg, Nat.zero_add, Nat.add_zero, Nat.mul_one, Int.toNat_natCast, Int.natCast_zero, Int.cast_ofNat_Int, or_false, false_or, or_true, true_or, Int.reduceToNat, Nat.sub_zero, Int.natCast_nonneg, Int.toNat_zero, Bool.true_and, Bool.and_true, Bool.false_and, Bool.and_false, Bool.true_or, Bool.or_true, Bool.false_or, Bool.or_false, Bool.not_true, Bool.not_false, Bool.not_not, true_and, and_true, false_and, and_false, not_true_eq_false, not_false_eq_true, eq_self, decide_true, decide_false, ne_eq, implies_true, forall_const, true_implies, false_implies, Bool.true_eq_false, Bool.false_eq_true, reduceCtorEq, List.map_cons, List.map_nil, List.all_cons, List.all_nil, List.length_cons, List.length_nil, List.length_map, List.length_append, List.nil_append, List.cons_append, List.set_cons_zero, List.set_cons_succ, List.set_nil, List.drop_zero, List.drop_succ_cons, List.drop_nil, List.take_zero, List.take_succ_cons, List.take_nil, Option.map_some, Option.map_none, Option.isSome_some, Nat.reduceEqDiff, Nat.reduceBEq, Nat.reduceGT, List.all_append, List.all_map, Function.comp_def, decide_eq_true_eq, Bool.and_eq_true, beq_self_eq_true, or_self, and_self, ite_true, ite_false, Nat.le_refl, Bool.not_eq_true, decide_not, Bool.not_eq_true', decide_eq_false_iff_not, Bool.not_eq_false, Bool.or_eq_true, if_true, if_false, ite_self, hI, sn_it, sn_allA, st_ltA, st_sure, stC_len]
  | true =>
    rw [hi] at hI
    have h8 := isL_len hi
    have h1 := rkeep1_s m l q s hm h8 h hs
    simp (config := {maxSteps := 4000000, implicitDefEqProofs := false}) (disch := omega) only [go_sem, ↓reduceIte, Nat.reduceAdd, Nat.reduceSub, Nat.reduceMul, Nat.reduceLeDiff, Nat.reduceLT, Int.reduceEq, Int.reduceNe, Int.reduceLT, Int.reduceLE, Int.reduceAdd, Int.reduceSub, Int.reduceMul, Int.reduceNeg, Nat.zero_add, Nat.add_zero, Nat.mul_one, Int.toNat_natCast, Int.natCast_zero, Int.cast_ofNat_Int, or_false, false_or, or_true, true_or, Int.reduceToNat, Nat.sub_zero, Int.natCast_nonneg, Int.toNat_zero, Bool.true_and, Bool.and_true, Bool.false_and, Bool.and_false, Bool.true_or, Bool.or_true, Bool.false_or, Bool.or_false, Bool.not_true, Bool.not_false, Bool.not_not, true_and, and_true, false_and, and_false, not_true_eq_false, not_false_eq_true, eq_self, decide_true, decide_false, ne_eq, implies_true, forall_const, true_implies, false_implies, Bool.true_eq_false, Bool.false_eq_true, reduceCtorEq, List.map_cons, List.map_nil, List.all_cons, List.all_nil, List.length_cons, List.length_nil, List.length_map, List.length_append, List.nil_append, List.cons_append, List.set_cons_zero, List.set_cons_succ, List.set_nil, List.drop_zero, List.drop_succ_cons, List.drop_nil, List.take_zero, List.take_succ_cons, List.take_nil, Option.map_some, Option.map_none, Option.isSome_some, Nat.reduceEqDiff, Nat.reduceBEq, Nat.reduceGT, List.all_append, List.all_map, Function.comp_def, decide_eq_true_eq, Bool.and_eq_true, beq_self_eq_true, or_self, and_self, ite_true, ite_false, Nat.le_refl, Bool.not_eq_true, decide_not, Bool.not_eq_true', decide_eq_false_iff_not, Bool.not_eq_false, Bool.or_eq_true, if_true, if_false, ite_self, hI, sn_it, sn_allA, st_ltA, st_sure, stC_len]
    refine iter_go (ι := {k : Nat // k ≤ l.length ∧ ∀ x ∈ l.take k, x.seq < q}) (fun k => ⟨[⟨1, ty_api_Store, 0, stC s⟩], [(0, SL (l.map snE)), (1, nA q), (5, OP 0 0), (8, nA k.1)]⟩) (fun k => l.length - k.1) (fun _ => some (TU [lS (keepL l q s).1, nA (keepL l q s).2], [])) ?_ ⟨0, Nat.zero_le _, by simp⟩ (by dsimp only; omega)
    rintro kx hkx ⟨k, hk, hall⟩ kc hkc
    dsimp only at hkc ⊢
    rw [plenumref14_Keep_b1_eq]
    by_cases hlt : k < l.length
    · have hlt' : (k : Int) < (l.length : Int) := by omega
      by_cases hq : q ≤ l[k].seq
      · rw [keepL_old hi hlt hq, lS_def]
        simp (config := {maxSteps := 4000000, implicitDefEqProofs := false}) (disch := omega) only [go_sem, ↓reduceIte, Nat.reduceAdd, Nat.reduceSub, Nat.reduceMul, Nat.reduceLeDiff, Nat.reduceLT, Int.reduceEq, Int.reduceNe, Int.reduceLT, Int.reduceLE, Int.reduceAdd, Int.reduceSub, Int.reduceMul, Int.reduceNeg, Nat.zero_add, Nat.add_zero, Nat.mul_one, Int.toNat_natCast, Int.natCast_zero, Int.cast_ofNat_Int, or_false, false_or, or_true, true_or, Int.reduceToNat, Nat.sub_zero, Int.natCast_nonneg, Int.toNat_zero, Bool.true_and, Bool.and_true, Bool.false_and, Bool.and_false, Bool.true_or, Bool.or_true, Bool.false_or, Bool.or_false, Bool.not_true, Bool.not_false, Bool.not_not, true_and, and_true, false_and, and_false, not_true_eq_false, not_false_eq_true, eq_self, decide_true, decide_false, ne_eq, implies_true, forall_const, true_implies, false_implies, Bool.true_eq_false, Bool.false_eq_true, reduceCtorEq, List.map_cons, List.map_nil, List.all_cons, List.all_nil, List.length_cons, List.length_nil, List.length_map, List.length_append, List.nil_append, List.cons_append, List.set_cons_zero, List.set_cons_succ, List.set_nil, List.drop_zero, List.drop_succ_cons, List.drop_nil, List.take_zero, List.take_succ_cons, List.take_nil, Option.map_some, Option.map_none, Option.isSome_some, Nat.reduceEqDiff, Nat.reduceBEq, Nat.reduceGT, List.all_append, List.all_map, Function.comp_def, decide_eq_true_eq, Bool.and_eq_true, beq_self_eq_true, or_self, and_self, ite_true, ite_false, Nat.le_refl, Bool.not_eq_true, decide_not, Bool.not_eq_true', decide_eq_false_iff_not, Bool.not_eq_false, Bool.or_eq_true, if_true, if_false, ite_self, hkx, hlt', natInt, u_nthM, sn_it, stC_len, st_ltA, hq]
      · have step := hkc ⟨k + 1, by omega, fun x hx => by
          rw [List.take_succ_eq_append_getElem hlt] at hx
          rcases List.mem_append.1 hx with e | e
          · exact hall x e
          · rw [List.mem_singleton.1 e]; omega⟩ (by dsimp only; omega)
        simp (config := {maxSteps := 4000000, implicitDefEqProofs := false}) (disch := omega) only [go_sem, ↓reduceIte, Nat.reduceAdd, Nat.reduceSub, Nat.reduceMul, Nat.reduceLeDiff, Nat.reduceLT, Int.reduceEq, Int.reduceNe, Int.reduceLT, Int.reduceLE, Int.reduceAdd, Int.reduceSub, Int.reduceMul, Int.reduceNeg, Nat.zero_add, Nat.add_zero, Nat.mul_one, Int.toNat_natCast, Int.natCast_zero, Int.cast_ofNat_Int, or_false, false_or, or_true, true_or, Int.reduceToNat, Nat.sub_zero, Int.natCast_nonneg, Int.toNat_zero, Bool.true_and, Bool.and_true, Bool.false_and, Bool.and_false, Bool.true_or, Bool.or_true, Bool.false_or, Bool.or_false, Bool.not_true, Bool.not_false, Bool.not_not, true_and, and_true, false_and, and_false, not_true_eq_false, not_false_eq_true, eq_self, decide_true, decide_false, ne_eq, implies_true, forall_const, true_implies, false_implies, Bool.true_eq_false, Bool.false_eq_true, reduceCtorEq, List.map_cons, List.map_nil, List.all_cons, List.all_nil, List.length_cons, List.length_nil, List.length_map, List.length_append, List.nil_append, List.cons_append, List.set_cons_zero, List.set_cons_succ, List.set_nil, List.drop_zero, List.drop_succ_cons, List.drop_nil, List.take_zero, List.take_succ_cons, List.take_nil, Option.map_some, Option.map_none, Option.isSome_some, Nat.reduceEqDiff, Nat.reduceBEq, Nat.reduceGT, List.all_append, List.all_map, Function.comp_def, decide_eq_true_eq, Bool.and_eq_true, beq_self_eq_true, or_self, and_self, ite_true, ite_false, Nat.le_refl, Bool.not_eq_true, decide_not, Bool.not_eq_true', decide_eq_false_iff_not, Bool.not_eq_false, Bool.or_eq_true, if_true, if_false, ite_self, hlt', natInt, u_nthM, sn_it, stC_len, hq, w_i64, sn_allA, st_ltA, st_lt1, all_tt]
        exact step
    · have hlt' : ¬ (k : Int) < (l.length : Int) := by omega
      have : k = l.length := by omega
      subst this
      rw [List.take_length] at hall
      rw [keepL_new hi hall]
      simp (config := {maxSteps := 4000000, implicitDefEqProofs := false}) (disch := omega) only [go_sem, ↓reduceIte, Nat.reduceAdd, Nat.reduceSub, Nat.reduceMul, Nat.reduceLeDiff, Nat.reduceLT, Int.reduceEq, Int.reduceNe, Int.reduceLT, Int.reduceLE, Int.reduceAdd, Int.reduceSub, Int.reduceMul, Int.reduceNeg, Nat.zero_add, Nat.add_zero, Nat.mul_one, Int.toNat_natCast, Int.natCast_zero, Int.cast_ofNat_Int, or_false, false_or, or_true, true_or, Int.reduceToNat, Nat.sub_zero, Int.natCast_nonneg, Int.toNat_zero, Bool.true_and, Bool.and_true, Bool.false_and, Bool.and_false, Bool.true_or, Bool.or_true, Bool.false_or, Bool.or_false, Bool.not_true, Bool.not_false, Bool.not_not, true_and, and_true, false_and, and_false, not_true_eq_false, not_false_eq_true, eq_self, decide_true, decide_false, ne_eq, implies_true, forall_const, true_implies, false_implies, Bool.true_eq_false, Bool.false_eq_true, reduceCtorEq, List.map_cons, List.map_nil, List.all_cons, List.all_nil, List.length_cons, List.length_nil, List.length_map, List.length_append, List.nil_append, List.cons_append, List.set_cons_zero, List.set_cons_succ, List.set_nil, List.drop_zero, List.drop_succ_cons, List.drop_nil, List.take_zero, List.take_succ_cons, List.take_nil, Option.map_some, Option.map_none, Option.isSome_some, Nat.reduceEqDiff, Nat.reduceBEq, Nat.reduceGT, List.all_append, List.all_map, Function.comp_def, decide_eq_true_eq, Bool.and_eq_true, beq_self_eq_true, or_self, and_self, ite_true, ite_false, Nat.le_refl, Bool.not_eq_true, decide_not, Bool.not_eq_true', decide_eq_false_iff_not, Bool.not_eq_false, Bool.or_eq_true, if_true, if_false, ite_self, hkx, hlt', h1]
end Go.Proofs.YtopifabnobplcaaDoor

namespace Go.Proofs.YtopifabnobplcaaDoor
open Go.RowKit
set_option linter.unusedVariables false
set_option linter.unusedSimpArgs false
set_option maxRecDepth 20000
theorem u_b7 {R : Type} {K1 : AV → Option R} : buildE (some pl_api_Snap) (some zc_api_Snap) [(0, V (.int .i64 (-7)))] K1 = K1 (.agg (nA (-7) :: zS)) := _root_.id rfl
theorem u_bs0 {R : Type} {t : TypeId} {z : Nat} {K1 : AV → Option R} : buildSE (some (t, z)) 0 [] K1 = K1 ZV := by
  simp [buildSE, whenE]
  rfl
theorem zS_sl {n : Nat} : (zS.all fun y => sure y && lt1 n y) = true := _root_.id rfl
theorem out1_ok {l : List Sn} {q : Int} {s : St} (h : ∀ x ∈ l, x.s.t.Ok) (hs : s.t.Ok) : ∀ x ∈ out1 l q s, x.s.t.Ok := by
  intro x hx
  have hx : x ∈ l ++ [(⟨q, s⟩ : Sn)] := by
    unfold out1 at hx
    split at hx
    · exact List.mem_of_mem_drop hx
    · exact hx
  rcases List.mem_append.1 hx with e | e
  · exact h x e
  · rw [List.mem_singleton.1 e]; exact hs
theorem out1_len (l : List Sn) (q : Int) (s : St) : (out1 l q s).length ≤ l.length + 1 := by
  unfold out1
  split
  · rw [List.length_drop, List.length_append]; simp
  · rw [List.length_append]; simp
theorem keepL_ok {l : List Sn} {q : Int} {s : St} (h : ∀ x ∈ l, x.s.t.Ok) (hs : s.t.Ok) : (∀ x ∈ (keepL l q s).1, x.s.t.Ok) ∧ (keepL l q s).1.length ≤ l.length + 1 := by
  have h0 : (∀ x ∈ ([] : List Sn), x.s.t.Ok) ∧ ([] : List Sn).length ≤ l.length + 1 := ⟨fun x hx => absurd hx List.not_mem_nil, Nat.zero_le _⟩
  have h2 : (∀ x ∈ (keep2 l q s).1, x.s.t.Ok) ∧ (keep2 l q s).1.length ≤ l.length + 1 := by
    unfold keep2
    split
    · exact ⟨out1_ok h hs, out1_len l q s⟩
    · exact h0
  unfold keepL
  split
  · split
    · exact h2
    · split
      · exact h0
      · exact h2
  · exact h0
theorem keeps14_s (m : Nat) (l : List Sn) (q : Int) (s : St) (hm : 16000000 < m) (hl : l.length ≤ maxLen) (h : ∀ x ∈ l, ∀ i, (x.s.t.leaf i).length ≤ maxLen) (hok : ∀ x ∈ fewS l, x.s.t.Ok) (hs : ∀ i, (s.t.leaf i).length ≤ maxLen) (hsk : (fewT s.t 16).Ok) : plenumlaw14_SnapKeeps m (lS l) (nA q) (stA s) = some (bA true, []) := by
  have hF := few14_s m l (by omega) hl h
  have hG := few13_s m s hs
  have h9 : (fewS l).length ≤ 10 := by unfold fewS; rw [List.length_map, List.length_take]; omega
  generalize fewS l = f at hF hok h9
  generalize hu : ({ s with t := fewT s.t 16 } : St) = u at hG
  have huk : u.t.Ok := by rw [← hu]; exact hsk
  have h1 := keep_s m f q u hm hok huk
  have h2 := rkeep_s m f q u hm hok huk
  obtain ⟨k1, k2⟩ := keepL_ok (q := q) hok huk
  generalize keepL f q u = R at h1 h2 k1 k2
  obtain ⟨r1, r2⟩ := R
  dsimp only at h1 h2 k1 k2
  have h3 := rsame14_s m r1 r1 (by omega) (by omega) k1 k1
  have h4 := rsame14_s m f f (by omega) (by omega) hok hok
  have hA := awake14_s m hm
  rw [sameL_refl, lS_def] at h3 h4
  rw [stA_def, stA_def] at hG
  rw [lS_def, lS_def] at hF
  rw [lS_def, stA_def, lS_def] at h1 h2
  have hfl : f.length + 1 ≤ 34359738368 := by omega
  have hfl0 : f.length ≤ 34359738368 := by omega
  have hfl' : f.length ≤ 34359738367 := by omega
  have hle : (f.length : Int) ≤ ((f.length + 1 : Nat) : Int) := by omega
  have hlt : (f.length : Int) < ((f.length + 1 : Nat) : Int) := by omega
  have htk : List.take f.length (f.map snE ++ [.agg (nA (-7) :: zS)]) = f.map snE := List.take_left' (by rw [List.length_map])
  have hnt : ∀ {R : Type} {K1 : AV → Option R}, nthE (f.map snE ++ [.agg (nA (-7) :: zS)]) f.length K1 = K1 (.agg (nA (-7) :: zS)) := by
    intro R K1
    unfold nthE
    rw [List.getElem?_append_right (by rw [List.length_map]; exact Nat.le_refl _), List.length_map, Nat.sub_self]
    rfl
  rw [plenumlaw14_SnapKeeps_eq, lS_def, stA_def]
  simp (config := {maxSteps := 4000000, implicitDefEqProofs := false}) (disch := omega) only [go_sem, ↓reduceIte, Nat.reduceAdd, Nat.reduceSub, Nat.reduceMul, Nat.reduceLeDiff, Nat.reduceLT, Int.reduceEq, Int.reduceNe, Int.reduceLT, Int.reduceLE, Int.reduceAdd, Int.reduceSub, Int.reduceMul, Int.reduceNeg, Nat.zero_add, Nat.add_zero, Nat.mul_one, Int.toNat_natCast, Int.natCast_zero, Int.cast_ofNat_Int, or_false, false_or, or_true, true_or, Int.reduceToNat, Nat.sub_zero, Int.natCast_nonneg, Int.toNat_zero, Bool.true_and, Bool.and_true, Bool.false_and, Bool.and_false, Bool.true_or, Bool.or_true, Bool.false_or, Bool.or_false, Bool.not_true, Bool.not_false, Bool.not_not, true_and, and_true, false_and, and_false, not_true_eq_false, not_false_eq_true, eq_self, decide_true, decide_false, ne_eq, implies_true, forall_const, true_implies, false_implies, Bool.true_eq_false, Bool.false_eq_true, reduceCtorEq, List.map_cons, List.map_nil, List.all_cons, List.all_nil, List.length_cons, List.length_nil, List.length_map, List.length_append, List.nil_append, List.cons_append, List.set_cons_zero, List.set_cons_succ, List.set_nil, List.drop_zero, List.drop_succ_cons, List.drop_nil, List.take_zero, List.take_succ_cons, List.take_nil, Option.map_some, Option.map_none, Option.isSome_some, Nat.reduceEqDiff, Nat.reduceBEq, Nat.reduceGT, List.all_append, List.all_map, Function.comp_def, decide_eq_true_eq, Bool.and_eq_true, beq_self_eq_true, or_self, and_self, ite_true, ite_false, Nat.le_refl, Bool.not_eq_true, decide_not, Bool.not_eq_true', decide_eq_false_iff_not, Bool.not_eq_false, Bool.or_eq_true, if_true, if_false, ite_self, hF, hG, sn_it, sn_allA, sn_len5, stC_len, st_ltA, st_sure, st_lt1, st_sl, st_take35, st_all1, st_ro, all_tt, ss_set, zS_lt1, zS_sure, zS_ltA, zS_len, zS_all1, u_b7, u_bs0, zS_sl, hfl, hfl0, hfl', hle, hlt, htk, hnt, natInt, h1, h2, h3, h4, hA]
end Go.Proofs.YtopifabnobplcaaDoor

namespace Go.Proofs.YtopifabnobplcaaDoor
open Go.RowKit
set_option linter.unusedVariables false
set_option linter.unusedSimpArgs false
set_option maxRecDepth 100000
theorem walk_SnapKeeps (W : World) (hS : Sig W) (v0 : Value) (h0 : Arg Tryd.prog W 22 v0) (v1 : Value) (h1 : Arg Tryd.prog W 3 v1) (v2 : Value) (h2 : Arg Tryd.prog W 37 v2) :
    Calls Tryd.prog 4 #[v0, v1, v2] W fun e W' => e = .returned (.bool true) ∧ Below W.heap.size W W' := by
  obtain ⟨l, ⟨hl, ht⟩, r0⟩ := arg_snaps h0
  obtain ⟨q, _, r1⟩ := arg_int h1
  obtain ⟨s, hs, r2⟩ := arg_store h2
  exact run_tells (plenumlaw14_SnapKeeps_ok 16000001 [_, _, _] _ _ (keeps14_s _ l q s (by omega) hl (fun x hx => (ht x hx).len) (fewS_ok ht) hs.len (few_ok hs))) (gok_sig hS) (vs := [v0, v1, v2]) rfl (reps3 r0 r1 r2)
end Go.Proofs.YtopifabnobplcaaDoor

namespace Go.Proofs.YtopifabnobplcaaDoor
open Go.RowKit
set_option linter.unusedVariables false
set_option maxRecDepth 100000
noncomputable def plenumlaw14_SnapStays_c : Code := (Tryd.f6.body).getD .skip
def plenumlaw14_SnapStays_h : Hint := (.two .n (.two .n (.two .n (.two (.two .n (.two (.two .n .n) .n)) (.two .n (.join [0, 7] (.join [0, 7, 47] .n (.two (.two .n .n) .n)) (.join [] (.two .n (.one (.lp [] [0, 7, 11] [6] (.two (.two .n (.two .n .n)) (.join [0, 7, 11] (.one (.two .n (.join [0, 7, 11, 12, 13, 14] .n (.join [0, 7, 11, 92] .n (.two (.two .n .n) .n))))) .n))))) (.two .n .n))))))))
noncomputable def plenumlaw14_SnapStays_env (m : Nat) : Env := [(8, .tell (plenumlaw14_Few_t m)), (12, .tell (plenumlaw13_Few_t m)), (13, .tell (snap_Keep_t m)), (11, .tell (plenumlaw14_awake_t m)), (16, .tell (snap_At_t m)), (19, .tell (plenumref13_Same_t m))]
noncomputable abbrev plenumlaw14_SnapStays_fin : KO (AV × List AObj) := tellFK Tryd.prog [.tmp 6]
noncomputable def plenumlaw14_SnapStays_r7 (m : Nat) (n0 : Nat) (kc : ASt → RO) (kx : KO (AV × List AObj)) (s : ASt) : RO := joinW Tryd.prog GG (plenumlaw14_SnapStays_env m) m 94 (cdR (cdR (cdL (cdL (cdR (cdL (cdR (cdR (cdR (cdR (cdR (cdR plenumlaw14_SnapStays_c)))))))))))) plenumlaw14_SnapStays_h.r.r.r.r.r.r.l.r.c.c.r.r s (backW n0 [0, 7, 11] [6] kc kx)
noncomputable def plenumlaw14_SnapStays_r6 (m : Nat) (n0 : Nat) (kc : ASt → RO) (kx : KO (AV × List AObj)) (s : ASt) : RO := joinW Tryd.prog GG (plenumlaw14_SnapStays_env m) m 94 (cdR (cdR (cdL (cdL (cdR (cdL (cdR (cdR (cdR (cdR (cdR (cdR plenumlaw14_SnapStays_c)))))))))))) plenumlaw14_SnapStays_h.r.r.r.r.r.r.l.r.c.c.r.r s (backW n0 [0, 7, 11] [6] kc kx)
noncomputable def plenumlaw14_SnapStays_r5 (m : Nat) (n0 : Nat) (kc : ASt → RO) (kx : KO (AV × List AObj)) (s : ASt) : RO := joinW Tryd.prog GG (plenumlaw14_SnapStays_env m) m 94 (cdR (cdR (cdR (cdL (cdL (cdR (cdL (cdL (cdR (cdL (cdR (cdR (cdR (cdR (cdR (cdR plenumlaw14_SnapStays_c)))))))))))))))) plenumlaw14_SnapStays_h.r.r.r.r.r.r.l.r.c.c.r.l.c.r.r.r s (blockX 1 (seqX (fun s => plenumlaw14_SnapStays_r7 m n0 kc kx ⟨s.H, [(0, gt s.T 0), (7, gt s.T 7), (11, gt s.T 11)]⟩) (backW n0 [0, 7, 11] [6] kc kx)))
noncomputable def plenumlaw14_SnapStays_r4 (m : Nat) (n0 : Nat) (kc : ASt → RO) (kx : KO (AV × List AObj)) (s : ASt) : RO := joinW Tryd.prog GG (plenumlaw14_SnapStays_env m) m 94 (cdR (cdR (cdL (cdL (cdR (cdL (cdL (cdR (cdL (cdR (cdR (cdR (cdR (cdR (cdR plenumlaw14_SnapStays_c))))))))))))))) plenumlaw14_SnapStays_h.r.r.r.r.r.r.l.r.c.c.r.l.c.r.r s (blockX 1 (seqX (fun s => plenumlaw14_SnapStays_r6 m n0 kc kx ⟨s.H, [(0, gt s.T 0), (7, gt s.T 7), (11, gt s.T 11)]⟩) (backW n0 [0, 7, 11] [6] kc kx)))
noncomputable def plenumlaw14_SnapStays_r3 (m : Nat) (s : ASt) : RO := joinW Tryd.prog GG (plenumlaw14_SnapStays_env m) m 94 (cdR (cdR (cdR (cdR (cdR (cdR (cdR plenumlaw14_SnapStays_c))))))) plenumlaw14_SnapStays_h.r.r.r.r.r.r.r s (plenumlaw14_SnapStays_fin)
noncomputable def plenumlaw14_SnapStays_b1 (m : Nat) (s : ASt) (kc : ASt → RO) (kx : KO (AV × List AObj)) : RO := bodyW Tryd.prog GG (plenumlaw14_SnapStays_env m) m 94 (cdL (cdL (cdR (cdL (cdR (cdR (cdR (cdR (cdR (cdR plenumlaw14_SnapStays_c)))))))))) plenumlaw14_SnapStays_h.r.r.r.r.r.r.l.r.c.c [0, 7, 11] [6] s kc kx
noncomputable def plenumlaw14_SnapStays_r2 (m : Nat) (s : ASt) : RO := joinW Tryd.prog GG (plenumlaw14_SnapStays_env m) m 94 (cdR (cdR (cdR (cdR (cdR (cdR plenumlaw14_SnapStays_c)))))) plenumlaw14_SnapStays_h.r.r.r.r.r.r s (plenumlaw14_SnapStays_fin)
noncomputable def plenumlaw14_SnapStays_r1 (m : Nat) (s : ASt) : RO := joinW Tryd.prog GG (plenumlaw14_SnapStays_env m) m 94 (cdR (cdL (cdR (cdR (cdR (cdR (cdR plenumlaw14_SnapStays_c))))))) plenumlaw14_SnapStays_h.r.r.r.r.r.l.r s (seqX (fun s => plenumlaw14_SnapStays_r2 m ⟨s.H, [(0, gt s.T 0), (7, gt s.T 7)]⟩) (plenumlaw14_SnapStays_fin))
noncomputable def plenumlaw14_SnapStays (m : Nat) (t0 t1 t2 : AV) : RO := exec Tryd.prog GG (plenumlaw14_SnapStays_env m) m 94 plenumlaw14_SnapStays_c plenumlaw14_SnapStays_h ⟨[], argsT 0 [t0, t1, t2]⟩ (plenumlaw14_SnapStays_fin)
theorem plenumlaw14_SnapStays_r7_eq (m : Nat) (n0 : Nat) (kc : ASt → RO) (kx : KO (AV × List AObj)) (H : List AObj) (t0 t7 t11 : AV) : plenumlaw14_SnapStays_r7 m n0 kc kx ⟨H, [(0, t0), (7, t7), (11, t11)]⟩ =
  binE none false false .add t11 (V (.int .i64 1)) fun t53 =>
  backE n0 H [(0, t0), (7, t7), (11, t53)] kc := by
  refine (joinW_eq Tryd.prog GG (plenumlaw14_SnapStays_env m) m 94 (cdR (cdR (cdL (cdL (cdR (cdL (cdR (cdR (cdR (cdR (cdR (cdR plenumlaw14_SnapStays_c)))))))))))) plenumlaw14_SnapStays_h.r.r.r.r.r.r.l.r.c.c.r.r ⟨H, [(0, t0), (7, t7), (11, t11)]⟩ (backW n0 [0, 7, 11] [6] kc kx)).trans ?_
  kernel_rfl
theorem plenumlaw14_SnapStays_r6_eq (m : Nat) (n0 : Nat) (kc : ASt → RO) (kx : KO (AV × List AObj)) (H : List AObj) (t0 t7 t11 : AV) : plenumlaw14_SnapStays_r6 m n0 kc kx ⟨H, [(0, t0), (7, t7), (11, t11)]⟩ =
  binE none false false .add t11 (V (.int .i64 1)) fun t53 =>
  backE n0 H [(0, t0), (7, t7), (11, t53)] kc := by
  refine (joinW_eq Tryd.prog GG (plenumlaw14_SnapStays_env m) m 94 (cdR (cdR (cdL (cdL (cdR (cdL (cdR (cdR (cdR (cdR (cdR (cdR plenumlaw14_SnapStays_c)))))))))))) plenumlaw14_SnapStays_h.r.r.r.r.r.r.l.r.c.c.r.r ⟨H, [(0, t0), (7, t7), (11, t11)]⟩ (backW n0 [0, 7, 11] [6] kc kx)).trans ?_
  kernel_rfl
theorem plenumlaw14_SnapStays_r5_eq (m : Nat) (n0 : Nat) (kc : ASt → RO) (kx : KO (AV × List AObj)) (H : List AObj) (t0 t7 t11 t92 : AV) : plenumlaw14_SnapStays_r5 m n0 kc kx ⟨H, [(0, t0), (7, t7), (11, t11), (92, t92)]⟩ =
  condE t92 (
   kx .ret ⟨H, [(6, (V (.bool false)))]⟩) (
   plenumlaw14_SnapStays_r7 m n0 kc kx ⟨H, [(0, t0), (7, t7), (11, t11)]⟩) := by
  refine (joinW_eq Tryd.prog GG (plenumlaw14_SnapStays_env m) m 94 (cdR (cdR (cdR (cdL (cdL (cdR (cdL (cdL (cdR (cdL (cdR (cdR (cdR (cdR (cdR (cdR plenumlaw14_SnapStays_c)))))))))))))))) plenumlaw14_SnapStays_h.r.r.r.r.r.r.l.r.c.c.r.l.c.r.r.r ⟨H, [(0, t0), (7, t7), (11, t11), (92, t92)]⟩ (blockX 1 (seqX (fun s => plenumlaw14_SnapStays_r7 m n0 kc kx ⟨s.H, [(0, gt s.T 0), (7, gt s.T 7), (11, gt s.T 11)]⟩) (backW n0 [0, 7, 11] [6] kc kx)))).trans ?_
  kernel_rfl
theorem plenumlaw14_SnapStays_r4_eq (m : Nat) (n0 : Nat) (kc : ASt → RO) (kx : KO (AV × List AObj)) (H : List AObj) (t0 t7 t11 t12 t13 t14 : AV) : plenumlaw14_SnapStays_r4 m n0 kc kx ⟨H, [(0, t0), (7, t7), (11, t11), (12, t12), (13, t13), (14, t14)]⟩ =
  binE none false false .eql t13 (V (.int .i64 6)) fun t73 =>
  binE none true false .neq t14 t73 fun t74 =>
  condE t74 (
   plenumlaw14_SnapStays_r5 m n0 kc kx ⟨H, [(0, t0), (7, t7), (11, t11), (92, (V (.bool true)))]⟩) (
   unE .not t14 fun t77 =>
   condE t77 (
   binE none false false .neq t13 (V (.int .i64 0)) fun t80 =>
   condE t80 (
   plenumlaw14_SnapStays_r5 m n0 kc kx ⟨H, [(0, t0), (7, t7), (11, t11), (92, (V (.bool true)))]⟩) (
   loadE 37 H t12 fun t82 =>
   idxSE 38 H t0 t11 fun t85 =>
   fieldE (some (1, 37)) t85 fun t86 =>
   loadE 37 H t86 fun t87 =>
   tellE (plenumref13_Same m (ro H t82) (ro H t87)) [(ro H t82), (ro H t87)] fun t88 =>
   unE .not t88 fun t89 =>
   plenumlaw14_SnapStays_r5 m n0 kc kx ⟨H, [(0, t0), (7, t7), (11, t11), (92, t89)]⟩)) (
   plenumlaw14_SnapStays_r5 m n0 kc kx ⟨H, [(0, t0), (7, t7), (11, t11), (92, (V (.bool false)))]⟩)) := by
  refine (joinW_eq Tryd.prog GG (plenumlaw14_SnapStays_env m) m 94 (cdR (cdR (cdL (cdL (cdR (cdL (cdL (cdR (cdL (cdR (cdR (cdR (cdR (cdR (cdR plenumlaw14_SnapStays_c))))))))))))))) plenumlaw14_SnapStays_h.r.r.r.r.r.r.l.r.c.c.r.l.c.r.r ⟨H, [(0, t0), (7, t7), (11, t11), (12, t12), (13, t13), (14, t14)]⟩ (blockX 1 (seqX (fun s => plenumlaw14_SnapStays_r6 m n0 kc kx ⟨s.H, [(0, gt s.T 0), (7, gt s.T 7), (11, gt s.T 11)]⟩) (backW n0 [0, 7, 11] [6] kc kx)))).trans ?_
  kernel_rfl
theorem plenumlaw14_SnapStays_r3_eq (m : Nat) (H : List AObj) : plenumlaw14_SnapStays_r3 m ⟨H, []⟩ =
  tellE (plenumlaw14_awake m) [] fun t93 =>
  tellK H (ro H t93) := by
  refine (joinW_eq Tryd.prog GG (plenumlaw14_SnapStays_env m) m 94 (cdR (cdR (cdR (cdR (cdR (cdR (cdR plenumlaw14_SnapStays_c))))))) plenumlaw14_SnapStays_h.r.r.r.r.r.r.r ⟨H, []⟩ (plenumlaw14_SnapStays_fin)).trans ?_
  kernel_rfl
theorem plenumlaw14_SnapStays_b1_eq (m : Nat) (H : List AObj) (t0 t7 t11 : AV) (kc : ASt → RO) (kx : KO (AV × List AObj)) : plenumlaw14_SnapStays_b1 m ⟨H, [(0, t0), (7, t7), (11, t11)]⟩ kc kx =
  lenE false true H t0 fun t50 =>
  binE none false false .lss t11 t50 fun t51 =>
  condE t51 (
   idxSE 38 H t0 t11 fun t58 =>
   fieldE (some (0, 1)) t58 fun t59 =>
   loadE 1 H t59 fun t60 =>
   tellE (snap_At m (ro H t7) (ro H t60)) [(ro H t7), (ro H t60)] fun t61 =>
   extE t61 0 fun t62 =>
   extE t61 1 fun t63 =>
   allocE (some zc_api_Store) ty_api_Store H fun t12 H2 =>
   storeE 37 H2 t12 t62 fun H3 =>
   binE none false false .eql t11 (V (.int .i64 0)) fun t65 =>
   condE t65 (
    lenE false true H3 t0 fun t68 =>
    binE none false false .eql t68 (V (.int .i64 8)) fun t69 =>
    plenumlaw14_SnapStays_r4 m H.length kc kx ⟨H3, [(0, t0), (7, t7), (11, t11), (12, t12), (13, t63), (14, t69)]⟩) (
    plenumlaw14_SnapStays_r4 m H.length kc kx ⟨H3, [(0, t0), (7, t7), (11, t11), (12, t12), (13, t63), (14, (V (.bool false)))]⟩)) (
   kx (.exit 0) ⟨H, [(6, .nil)]⟩) := by
  refine (bodyW_eq Tryd.prog GG (plenumlaw14_SnapStays_env m) m 94 (cdL (cdL (cdR (cdL (cdR (cdR (cdR (cdR (cdR (cdR plenumlaw14_SnapStays_c)))))))))) plenumlaw14_SnapStays_h.r.r.r.r.r.r.l.r.c.c [0, 7, 11] [6] ⟨H, [(0, t0), (7, t7), (11, t11)]⟩ kc kx).trans ?_
  kernel_rfl
theorem plenumlaw14_SnapStays_r2_eq (m : Nat) (H : List AObj) (t0 t7 : AV) : plenumlaw14_SnapStays_r2 m ⟨H, [(0, t0), (7, t7)]⟩ =
  iterC m (plenumlaw14_SnapStays_b1 m) ⟨H, [(0, t0), (7, t7), (11, (V (.int .i64 0)))]⟩ (blockX 0 (seqX (fun s => plenumlaw14_SnapStays_r3 m ⟨s.H, []⟩) (plenumlaw14_SnapStays_fin))) := by
  refine (joinW_eq Tryd.prog GG (plenumlaw14_SnapStays_env m) m 94 (cdR (cdR (cdR (cdR (cdR (cdR plenumlaw14_SnapStays_c)))))) plenumlaw14_SnapStays_h.r.r.r.r.r.r ⟨H, [(0, t0), (7, t7)]⟩ (plenumlaw14_SnapStays_fin)).trans ?_
  kernel_rfl
theorem plenumlaw14_SnapStays_r1_eq (m : Nat) (H : List AObj) (t0 t7 t47 : AV) : plenumlaw14_SnapStays_r1 m ⟨H, [(0, t0), (7, t7), (47, t47)]⟩ =
  condE t47 (
   tellK H (ro H (V (.bool false)))) (
   plenumlaw14_SnapStays_r2 m ⟨H, [(0, t0), (7, t7)]⟩) := by
  refine (joinW_eq Tryd.prog GG (plenumlaw14_SnapStays_env m) m 94 (cdR (cdL (cdR (cdR (cdR (cdR (cdR plenumlaw14_SnapStays_c))))))) plenumlaw14_SnapStays_h.r.r.r.r.r.l.r ⟨H, [(0, t0), (7, t7), (47, t47)]⟩ (seqX (fun s => plenumlaw14_SnapStays_r2 m ⟨s.H, [(0, gt s.T 0), (7, gt s.T 7)]⟩) (plenumlaw14_SnapStays_fin))).trans ?_
  kernel_rfl
theorem plenumlaw14_SnapStays_eq (m : Nat) (t0 t1 t2 : AV) : plenumlaw14_SnapStays m t0 t1 t2 =
  boxE ty_api_Store [] t2 fun t5 H1 =>
  tellE (plenumlaw14_Few m (ro H1 t0)) [(ro H1 t0)] fun t16 =>
  loadE 37 H1 t5 fun t17 =>
  tellE (plenumlaw13_Few m (ro H1 t17)) [(ro H1 t17)] fun t18 =>
  storeE 37 H1 t5 t18 fun H2 =>
  loadE 37 H2 t5 fun t22 =>
  tellE (snap_Keep m (ro H2 t16) (ro H2 t1) (ro H2 t22)) [(ro H2 t16), (ro H2 t1), (ro H2 t22)] fun t23 =>
  extE t23 0 fun t24 =>
  extE t23 1 fun t25 =>
  binE none false false .neq t25 (V (.int .i64 0)) fun t27 =>
  condE t27 (
   lenE false true H2 t24 fun t29 =>
   binE none false false .eql t29 (V (.int .i64 0)) fun t30 =>
   condE t30 (
    tellE (plenumlaw14_awake m) [] fun t32 =>
    tellK H2 (ro H2 t32)) (
    tellK H2 (ro H2 (V (.bool false))))) (
   tellE (snap_At m (ro H2 t24) (ro H2 t1)) [(ro H2 t24), (ro H2 t1)] fun t37 =>
   extE t37 0 fun t38 =>
   extE t37 1 fun t39 =>
   allocE (some zc_api_Store) ty_api_Store H2 fun t9 H3 =>
   storeE 37 H3 t9 t38 fun H4 =>
   binE none false false .neq t39 (V (.int .i64 0)) fun t41 =>
   condE t41 (
    plenumlaw14_SnapStays_r1 m ⟨H4, [(0, t16), (7, t24), (47, (V (.bool true)))]⟩) (
    loadE 37 H4 t9 fun t43 =>
    loadE 37 H4 t5 fun t44 =>
    tellE (plenumref13_Same m (ro H4 t43) (ro H4 t44)) [(ro H4 t43), (ro H4 t44)] fun t45 =>
    unE .not t45 fun t46 =>
    plenumlaw14_SnapStays_r1 m ⟨H4, [(0, t16), (7, t24), (47, t46)]⟩)) := by
  refine (tellX Tryd.prog GG (plenumlaw14_SnapStays_env m) m 94 plenumlaw14_SnapStays_c plenumlaw14_SnapStays_h ⟨[], argsT 0 [t0, t1, t2]⟩ [.tmp 6]).trans ?_
  kernel_rfl
noncomputable def plenumlaw14_SnapStays_t (m : Nat) : List AV → RO | [t0, t1, t2] => plenumlaw14_SnapStays m t0 t1 t2 | _ => none
theorem plenumlaw14_SnapStays_ok (m : Nat) : ∀ args X H', plenumlaw14_SnapStays_t m args = some (X, H') → ACp Tryd.prog GG 6 args X := by
  intro args X H' h
  unfold plenumlaw14_SnapStays_t at h
  split at h
  · exact tell_okK MIX (by
    intro f e h
    simp only [plenumlaw14_SnapStays_env, Prod.mk.injEq, List.mem_cons, List.not_mem_nil, or_false] at h
    rcases h with ⟨rfl, rfl⟩ | ⟨rfl, rfl⟩ | ⟨rfl, rfl⟩ | ⟨rfl, rfl⟩ | ⟨rfl, rfl⟩ | ⟨rfl, rfl⟩
    · exact plenumlaw14_Few_ok m
    · exact plenumlaw13_Few_ok m
    · exact snap_Keep_ok m
    · exact plenumlaw14_awake_ok m
    · exact snap_At_ok m
    · exact plenumref13_Same_ok m) (f := 6) (c := plenumlaw14_SnapStays_c) Tryd.func6 rfl (by kernel_rfl) _ rfl Tryd.ntmps6 (Nat.le_of_ble_eq_true rfl) plenumlaw14_SnapStays_h h
  · cases h
end Go.Proofs.YtopifabnobplcaaDoor

namespace Go.Proofs.YtopifabnobplcaaDoor
open Go.RowKit
set_option linter.unusedVariables false
set_option linter.unusedSimpArgs false
set_option maxRecDepth 20000
theorem keepL_cases (l : List Sn) (q : Int) (s : St) : (∃ e, e ≠ 0 ∧ keepL l q s = ([], e)) ∨ (isL l = true ∧ keepL l q s = (out1 l q s, 0) ∧ isL (out1 l q s) = true) := by
  have h2 : (∃ e, e ≠ 0 ∧ keep2 l q s = ([], e)) ∨ (keep2 l q s = (out1 l q s, 0) ∧ isL (out1 l q s) = true) := by
    unfold keep2
    split
    · rename_i h; exact .inr ⟨rfl, by unfold isL; rw [h]; rfl⟩
    · rename_i h; exact .inl ⟨_, h, rfl⟩
  unfold keepL
  cases hi : isL l with
  | false => exact .inl ⟨1, by omega, rfl⟩
  | true =>
    rw [if_pos rfl]
    split
    · rcases h2 with h | ⟨h, g⟩
      · exact .inl h
      · exact .inr ⟨rfl, h, g⟩
    · split
      · exact .inl ⟨18, by omega, rfl⟩
      · rcases h2 with h | ⟨h, g⟩
        · exact .inl h
        · exact .inr ⟨rfl, h, g⟩
theorem at_there {o : List Sn} {q : Int} {s : St} (hi : isL o = true) (h : (⟨q, s⟩ : Sn) ∈ o) : atL o q = (s, 0) := by
  obtain ⟨j, hj, e⟩ := List.getElem_of_mem h
  have hinc := isL_inc hi
  have hf : fromL o q = j := fromL_at (Nat.le_of_lt hj) (fun i h => by have := hinc i j hj h; rw [e] at this; exact this) (fun h => by rw [e]; exact Int.le_refl _)
  unfold atL
  rw [if_pos hi, hf, List.getElem?_eq_getElem hj, e]
  dsimp only
  rw [if_pos rfl]
theorem at_gone {o : List Sn} {q : Int} (hi : isL o = true) (h : ∀ h : 0 < o.length, q < o[0].seq) : atL o q = (St.zero, 6) := by
  have hf : fromL o q = 0 := fromL_at (Nat.zero_le _) (fun i h => by omega) (fun g => by have := h g; omega)
  unfold atL
  rw [if_pos hi, hf]
  cases o with
  | nil => rfl
  | cons x r =>
    have := h (by simp)
    simp only [List.getElem_cons_zero] at this
    simp only [List.getElem?_cons_zero]
    rw [if_neg (by omega)]
theorem out1_new (l : List Sn) (q : Int) (s : St) : (⟨q, s⟩ : Sn) ∈ out1 l q s ∨ False := by
  left
  unfold out1
  split
  · rename_i h
    rw [List.drop_append_of_le_length (by omega)]
    exact List.mem_append_right _ (List.mem_singleton.2 rfl)
  · exact List.mem_append_right _ (List.mem_singleton.2 rfl)
theorem out1_old (l : List Sn) (q : Int) (s : St) (h8 : l.length ≤ 8) (k : Nat) (hk : k < l.length) (hg : ¬ (k = 0 ∧ l.length = 8)) : l[k] ∈ out1 l q s := by
  unfold out1
  split
  · rename_i h
    rw [List.drop_append_of_le_length (by omega)]
    exact List.mem_append_left _ (List.mem_drop_iff_getElem.2 ⟨k - 1, by omega, by congr 1; omega⟩)
  · exact List.mem_append_left _ (List.getElem_mem hk)
theorem out1_head (l : List Sn) (q : Int) (s : St) (h8 : l.length = 8) (hinc : Inc l) (h : 0 < (out1 l q s).length) : (l[0]'(by omega)).seq < (out1 l q s)[0].seq := by
  have : out1 l q s = l.drop 1 ++ [⟨q, s⟩] := by
    unfold out1
    rw [if_pos (by omega), List.drop_append_of_le_length (by omega)]
  simp only [this]
  rw [List.getElem_append_left (by rw [List.length_drop]; omega), List.getElem_drop]
  exact hinc 0 1 (by omega) (by omega)
theorem stays2_s (m : Nat) (l o : List Sn) (q : Int) (s y : St) (hm : 16000000 < m) (hok : ∀ x ∈ l, x.s.t.Ok) (ho : o = out1 l q s) (hI : isL l = true) (hO : isL o = true) (hoo : ∀ x ∈ o, x.s.t.Ok) : plenumlaw14_SnapStays_r2 m ⟨[⟨1, ty_api_Store, 0, stC s⟩, ⟨1, ty_api_Store, 0, stC y⟩], [(0, SL (l.map snE)), (7, SL (o.map snE))]⟩ = some (bA true, []) := by
  have hA := awake14_s m hm
  have h8 := isL_len hI
  rw [plenumlaw14_SnapStays_r2_eq]
  refine iter_go (ι := {k : Nat // k ≤ l.length}) (fun k => ⟨[⟨1, ty_api_Store, 0, stC s⟩, ⟨1, ty_api_Store, 0, stC y⟩], [(0, SL (l.map snE)), (7, SL (o.map snE)), (11, nA k.1)]⟩) (fun k => l.length - k.1) (fun _ => some (bA true, [])) ?_ ⟨0, Nat.zero_le _⟩ (by dsimp only; omega)
  rintro kx hkx ⟨k, hk⟩ kc hkc
  dsimp only at hkc ⊢
  rw [plenumlaw14_SnapStays_b1_eq]
  by_cases hlt : k < l.length
  · have hlt' : (k : Int) < (l.length : Int) := by omega
    have step := hkc ⟨k + 1, by omega⟩ (by dsimp only; omega)
    dsimp only at step
    have hx := hok _ (List.getElem_mem hlt)
    have hat := at_s m o l[k].seq hm hoo
    rw [lS_def, stA_def] at hat
    by_cases hg : k = 0 ∧ l.length = 8
    · obtain ⟨rfl, hl8⟩ := hg
      have e : atL o l[0].seq = (St.zero, 6) := at_gone hO (fun h => by subst ho; exact out1_head l q s hl8 (isL_inc hI) h)
      rw [e] at hat
      have hl8' : (l.length : Int) = 8 := by omega
      have hlt0 : (0 : Int) < (l.length : Int) := by omega
      simp (config := {maxSteps := 4000000, implicitDefEqProofs := false}) (disch := omega) only [go_sem, ↓reduceIte, Nat.reduceAdd, Nat.reduceSub, Nat.reduceMul, Nat.reduceLeDiff, Nat.reduceLT, Int.reduceEq, Int.reduceNe, Int.reduceLT, Int.reduceLE, Int.reduceAdd, Int.reduceSub, Int.reduceMul, Int.reduceNeg, Nat.zero_add, Nat.add_zero, Nat.mul_one, Int.toNat_natCast, Int.natCast_zero, Int.cast_ofNat_Int, or_false, false_or, or_true, true_or, Int.reduceToNat, Nat.sub_zero, Int.natCast_nonneg, Int.toNat_zero, Bool.true_and, Bool.and_true, Bool.false_and, Bool.and_false, Bool.true_or, Bool.or_true, Bool.false_or, Bool.or_false, Bool.not_true, Bool.not_false, Bool.not_not, true_and, and_true, false_and, and_false, not_true_eq_false, not_false_eq_true, eq_self, decide_true, decide_false, ne_eq, implies_true, forall_const, true_implies, false_implies, Bool.true_eq_false, Bool.false_eq_true, reduceCtorEq, List.map_cons, List.map_nil, List.all_cons, List.all_nil, List.length_cons, List.length_nil, List.length_map, List.length_append, List.nil_append, List.cons_append, List.set_cons_zero, List.set_cons_succ, List.set_nil, List.drop_zero, List.drop_succ_cons, List.drop_nil, List.take_zero, List.take_succ_cons, List.take_nil, Option.map_some, Option.map_none, Option.isSome_some, Nat.reduceEqDiff, Nat.reduceBEq, Nat.reduceGT, List.all_append, List.all_map, Function.comp_def, decide_eq_true_eq, Bool.and_eq_true, beq_self_eq_true, or_self, and_self, ite_true, ite_false, Nat.le_refl, Bool.not_eq_true, decide_not, Bool.not_eq_true', decide_eq_false_iff_not, Bool.not_eq_false, Bool.or_eq_true, if_true, if_false, ite_self, hlt', natInt, u_nthM, sn_it, stC_len, w_i64, sn_allA, st_ltA, st_sure, st_lt1, st_all1, st_ro, st_take35, all_tt, zS_len, zS_sure, zS_lt1, zS_ltA, zS_all1, zcS_eq, ss_zs, ss_zz, hat, plenumlaw14_SnapStays_r4_eq, plenumlaw14_SnapStays_r5_eq, plenumlaw14_SnapStays_r6_eq, plenumlaw14_SnapStays_r7_eq, hl8', hlt0]
      exact step
    · have e : atL o l[k].seq = (l[k].s, 0) := at_there hO (by subst ho; exact out1_old l q s h8 k hlt hg)
      rw [e] at hat
      have hS := rsameS_s m l[k].s l[k].s (by omega) hx.len' hx.len'
      rw [sameS_refl, stA_def] at hS
      by_cases h0 : k = 0
      · have hl8' : ¬ (l.length : Int) = 8 := by omega
        subst h0
        have hlt0 : (0 : Int) < (l.length : Int) := by omega
        simp (config := {maxSteps := 4000000, implicitDefEqProofs := false}) (disch := omega) only [go_sem, ↓reduceIte, Nat.reduceAdd, Nat.reduceSub, Nat.reduceMul, Nat.reduceLeDiff, Nat.reduceLT, Int.reduceEq, Int.reduceNe, Int.reduceLT, Int.reduceLE, Int.reduceAdd, Int.reduceSub, Int.reduceMul, Int.reduceNeg, Nat.zero_add, Nat.add_zero, Nat.mul_one, Int.toNat_natCast, Int.natCast_zero, Int.cast_ofNat_Int, or_false, false_or, or_true, true_or, Int.reduceToNat, Nat.sub_zero, Int.natCast_nonneg, Int.toNat_zero, Bool.true_and, Bool.and_true, Bool.false_and, Bool.and_false, Bool.true_or, Bool.or_true, Bool.false_or, Bool.or_false, Bool.not_true, Bool.not_false, Bool.not_not, true_and, and_true, false_and, and_false, not_true_eq_false, not_false_eq_true, eq_self, decide_true, decide_false, ne_eq, implies_true, forall_const, true_implies, false_implies, Bool.true_eq_false, Bool.false_eq_true, reduceCtorEq, List.map_cons, List.map_nil, List.all_cons, List.all_nil, List.length_cons, List.length_nil, List.length_map, List.length_append, List.nil_append, List.cons_append, List.set_cons_zero, List.set_cons_succ, List.set_nil, List.drop_zero, List.drop_succ_cons, List.drop_nil, List.take_zero, List.take_succ_cons, List.take_nil, Option.map_some, Option.map_none, Option.isSome_some, Nat.reduceEqDiff, Nat.reduceBEq, Nat.reduceGT, List.all_append, List.all_map, Function.comp_def, decide_eq_true_eq, Bool.and_eq_true, beq_self_eq_true, or_self, and_self, ite_true, ite_false, Nat.le_refl, Bool.not_eq_true, decide_not, Bool.not_eq_true', decide_eq_false_iff_not, Bool.not_eq_false, Bool.or_eq_true, if_true, if_false, ite_self, hlt', natInt, u_nthM, sn_it, stC_len, w_i64, sn_allA, st_ltA, st_sure, st_lt1, st_all1, st_ro, st_take35, all_tt, zS_len, zS_sure, zS_lt1, zS_ltA, zS_all1, zcS_eq, ss_zs, ss_zz, hat, plenumlaw14_SnapStays_r4_eq, plenumlaw14_SnapStays_r5_eq, plenumlaw14_SnapStays_r6_eq, plenumlaw14_SnapStays_r7_eq, hl8', hlt0, hS]
        exact step
      · have h0' : ¬ (k : Int) = 0 := by omega
        simp (config := {maxSteps := 4000000, implicitDefEqProofs := false}) (disch := omega) only [go_sem, ↓reduceIte, Nat.reduceAdd, Nat.reduceSub, Nat.reduceMul, Nat.reduceLeDiff, Nat.reduceLT, Int.reduceEq, Int.reduceNe, Int.reduceLT, Int.reduceLE, Int.reduceAdd, Int.reduceSub, Int.reduceMul, Int.reduceNeg, Nat.zero_add, Nat.add_zero, Nat.mul_one, Int.toNat_natCast, Int.natCast_zero, Int.cast_ofNat_Int, or_false, false_or, or_true, true_or, Int.reduceToNat, Nat.sub_zero, Int.natCast_nonneg, Int.toNat_zero, Bool.true_and, Bool.and_true, Bool.false_and, Bool.and_false, Bool.true_or, Bool.or_true, Bool.false_or, Bool.or_false, Bool.not_true, Bool.not_false, Bool.not_not, true_and, and_true, false_and, and_false, not_true_eq_false, not_false_eq_true, eq_self, decide_true, decide_false, ne_eq, implies_true, forall_const, true_implies, false_implies, Bool.true_eq_false, Bool.false_eq_true, reduceCtorEq, List.map_cons, List.map_nil, List.all_cons, List.all_nil, List.length_cons, List.length_nil, List.length_map, List.length_append, List.nil_append, List.cons_append, List.set_cons_zero, List.set_cons_succ, List.set_nil, List.drop_zero, List.drop_succ_cons, List.drop_nil, List.take_zero, List.take_succ_cons, List.take_nil, Option.map_some, Option.map_none, Option.isSome_some, Nat.reduceEqDiff, Nat.reduceBEq, Nat.reduceGT, List.all_append, List.all_map, Function.comp_def, decide_eq_true_eq, Bool.and_eq_true, beq_self_eq_true, or_self, and_self, ite_true, ite_false, Nat.le_refl, Bool.not_eq_true, decide_not, Bool.not_eq_true', decide_eq_false_iff_not, Bool.not_eq_false, Bool.or_eq_true, if_true, if_false, ite_self, hlt', natInt, u_nthM, sn_it, stC_len, w_i64, sn_allA, st_ltA, st_sure, st_lt1, st_all1, st_ro, st_take35, all_tt, zS_len, zS_sure, zS_lt1, zS_ltA, zS_all1, zcS_eq, ss_zs, ss_zz, hat, plenumlaw14_SnapStays_r4_eq, plenumlaw14_SnapStays_r5_eq, plenumlaw14_SnapStays_r6_eq, plenumlaw14_SnapStays_r7_eq, h0', hS]
        exact step
  · have hlt' : ¬ (k : Int) < (l.length : Int) := by omega
    have : k = l.length := by omega
    subst this
    simp (config := {maxSteps := 4000000, implicitDefEqProofs := false}) (disch := omega) only [go_sem, ↓reduceIte, Nat.reduceAdd, Nat.reduceSub, Nat.reduceMul, Nat.reduceLeDiff, Nat.reduceLT, Int.reduceEq, Int.reduceNe, Int.reduceLT, Int.reduceLE, Int.reduceAdd, Int.reduceSub, Int.reduceMul, Int.reduceNeg, Nat.zero_add, Nat.add_zero, Nat.mul_one, Int.toNat_natCast, Int.natCast_zero, Int.cast_ofNat_Int, or_false, false_or, or_true, true_or, Int.reduceToNat, Nat.sub_zero, Int.natCast_nonneg, Int.toNat_zero, Bool.true_and, Bool.and_true, Bool.false_and, Bool.and_false, Bool.true_or, Bool.or_true, Bool.false_or, Bool.or_false, Bool.not_true, Bool.not_false, Bool.not_not, true_and, and_true, false_and, and_false, not_true_eq_false, not_false_eq_true, eq_self, decide_true, decide_false, ne_eq, implies_true, forall_const, true_implies, false_implies, Bool.true_eq_false, Bool.false_eq_true, reduceCtorEq, List.map_cons, List.map_nil, List.all_cons, List.all_nil, List.length_cons, List.length_nil, List.length_map, List.length_append, List.nil_append, List.cons_append, List.set_cons_zero, List.set_cons_succ, List.set_nil, List.drop_zero, List.drop_succ_cons, List.drop_nil, List.take_zero, List.take_succ_cons, List.take_nil, Option.map_some, Option.map_none, Option.isSome_some, Nat.reduceEqDiff, Nat.reduceBEq, Nat.reduceGT, List.all_append, List.all_map, Function.comp_def, decide_eq_true_eq, Bool.and_eq_true, beq_self_eq_true, or_self, and_self, ite_true, ite_false, Nat.le_refl, Bool.not_eq_true, decide_not, Bool.not_eq_true', decide_eq_false_iff_not, Bool.not_eq_false, Bool.or_eq_true, if_true, if_false, ite_self, hkx, hlt', hA, plenumlaw14_SnapStays_r7_eq, plenumlaw14_SnapStays_r6_eq, plenumlaw14_SnapStays_r5_eq, plenumlaw14_SnapStays_r4_eq, plenumlaw14_SnapStays_r3_eq, plenumlaw14_SnapStays_r2_eq, plenumlaw14_SnapStays_r1_eq]
theorem stays_s (m : Nat) (l : List Sn) (q : Int) (s : St) (hm : 16000000 < m) (hl : l.length ≤ maxLen) (h : ∀ x ∈ l, ∀ i, (x.s.t.leaf i).length ≤ maxLen) (hok : ∀ x ∈ fewS l, x.s.t.Ok) (hs : ∀ i, (s.t.leaf i).length ≤ maxLen) (hsk : (fewT s.t 16).Ok) : plenumlaw14_SnapStays m (lS l) (nA q) (stA s) = some (bA true, []) := by
  have hF := few14_s m l (by omega) hl h
  have hG := few13_s m s hs
  have h9 : (fewS l).length ≤ 10 := by unfold fewS; rw [List.length_map, List.length_take]; omega
  generalize fewS l = f at hF hok h9
  generalize hu : ({ s with t := fewT s.t 16 } : St) = u at hG
  have huk : u.t.Ok := by rw [← hu]; exact hsk
  have h1 := keep_s m f q u hm hok huk
  obtain ⟨k1, k2⟩ := keepL_ok (q := q) hok huk
  have hA := awake14_s m hm
  rw [stA_def, stA_def] at hG
  rw [lS_def, lS_def] at hF
  rw [lS_def, stA_def, lS_def] at h1
  rw [plenumlaw14_SnapStays_eq, lS_def, stA_def]
  rcases keepL_cases f q u with ⟨e, he, hk⟩ | ⟨hI, hk, hO⟩
  · rw [hk] at h1
    dsimp only at h1
    simp only [List.map_nil] at h1
    simp (config := {maxSteps := 4000000, implicitDefEqProofs := false}) (disch := omega) only [go_sem, ↓reduceIte, Nat.reduceAdd, Nat.reduceSub, Nat.reduceMul, Nat.reduceLeDiff, Nat.reduceLT, Int.reduceEq, Int.reduceNe, Int.reduceLT, Int.reduceLE, Int.reduceAdd, Int.reduceSub, Int.reduceMul, Int.reduceNeg, Nat.zero_add, Nat.add_zero, Nat.mul_one, Int.toNat_natCast, Int.natCast_zero, Int.cast_ofNat_Int, or_false, false_or, or_true, true_or, Int.reduceToNat, Nat.sub_zero, Int.natCast_nonneg, Int.toNat_zero, Bool.true_and, Bool.and_true, Bool.false_and, Bool.and_false, Bool.true_or, Bool.or_true, Bool.false_or, Bool.or_false, Bool.not_true, Bool.not_false, Bool.not_not, true_and, and_true, false_and, and_false, not_true_eq_false, not_false_eq_true, eq_self, decide_true, decide_false, ne_eq, implies_true, forall_const, true_implies, false_implies, Bool.true_eq_false, Bool.false_eq_true, reduceCtorEq, List.map_cons, List.map_nil, List.all_cons, List.all_nil, List.length_cons, List.length_nil, List.length_map, List.length_append, List.nil_append, List.cons_append, List.set_cons_zero, List.set_cons_succ, List.set_nil, List.drop_zero, List.drop_succ_cons, List.drop_nil, List.take_zero, List.take_succ_cons, List.take_nil, Option.map_some, Option.map_none, Option.isSome_some, Nat.reduceEqDiff, Nat.reduceBEq, Nat.reduceGT, List.all_append, List.all_map, Function.comp_def, decide_eq_true_eq, Bool.and_eq_true, beq_self_eq_true, or_self, and_self, ite_true, ite_false, Nat.le_refl, Bool.not_eq_true, decide_not, Bool.not_eq_true', decide_eq_false_iff_not, Bool.not_eq_false, Bool.or_eq_true, if_true, if_false, ite_self, hF, hG, sn_it, sn_allA, stC_len, st_ltA, st_sure, st_lt1, st_sl, st_take35, st_all1, st_ro, all_tt, ss_set, h1, he, hA]
  · rw [hk] at h1 k1
    dsimp only at h1 k1
    have h2 := at_s m (out1 f q u) q hm k1
    have hn := out1_new f q u
    rw [at_there hO (by simpa using hn), lS_def, stA_def] at h2
    have hS := rsameS_s m u u (by omega) huk.len' huk.len'
    rw [sameS_refl, stA_def] at hS
    have hr := stays2_s m f (out1 f q u) q u u hm hok rfl hI hO k1
    generalize out1 f q u = o at h1 h2 hr
    simp (config := {maxSteps := 4000000, implicitDefEqProofs := false}) (disch := omega) only [go_sem, ↓reduceIte, Nat.reduceAdd, Nat.reduceSub, Nat.reduceMul, Nat.reduceLeDiff, Nat.reduceLT, Int.reduceEq, Int.reduceNe, Int.reduceLT, Int.reduceLE, Int.reduceAdd, Int.reduceSub, Int.reduceMul, Int.reduceNeg, Nat.zero_add, Nat.add_zero, Nat.mul_one, Int.toNat_natCast, Int.natCast_zero, Int.cast_ofNat_Int, or_false, false_or, or_true, true_or, Int.reduceToNat, Nat.sub_zero, Int.natCast_nonneg, Int.toNat_zero, Bool.true_and, Bool.and_true, Bool.false_and, Bool.and_false, Bool.true_or, Bool.or_true, Bool.false_or, Bool.or_false, Bool.not_true, Bool.not_false, Bool.not_not, true_and, and_true, false_and, and_false, not_true_eq_false, not_false_eq_true, eq_self, decide_true, decide_false, ne_eq, implies_true, forall_const, true_implies, false_implies, Bool.true_eq_false, Bool.false_eq_true, reduceCtorEq, List.map_cons, List.map_nil, List.all_cons, List.all_nil, List.length_cons, List.length_nil, List.length_map, List.length_append, List.nil_append, List.cons_append, List.set_cons_zero, List.set_cons_succ, List.set_nil, List.drop_zero, List.drop_succ_cons, List.drop_nil, List.take_zero, List.take_succ_cons, List.take_nil, Option.map_some, Option.map_none, Option.isSome_some, Nat.reduceEqDiff, Nat.reduceBEq, Nat.reduceGT, List.all_append, List.all_map, Function.comp_def, decide_eq_true_eq, Bool.and_eq_true, beq_self_eq_true, or_self, and_self, ite_true, ite_false, Nat.le_refl, Bool.not_eq_true, decide_not, Bool.not_eq_true', decide_eq_false_iff_not, Bool.not_eq_false, Bool.or_eq_true, if_true, if_false, ite_self, hF, hG, sn_it, sn_allA, stC_len, st_ltA, st_sure, st_lt1, st_sl, st_take35, st_all1, st_ro, all_tt, ss_set, ss_zs, zcS_eq, zS_len, zS_sure, zS_ltA, zS_lt1, zS_all1, h1, h2, hS, plenumlaw14_SnapStays_r1_eq]
    exact hr
end Go.Proofs.YtopifabnobplcaaDoor

namespace Go.Proofs.YtopifabnobplcaaDoor
open Go.RowKit
set_option linter.unusedVariables false
set_option linter.unusedSimpArgs false
set_option maxRecDepth 100000
theorem walk_SnapStays (W : World) (hS : Sig W) (v0 : Value) (h0 : Arg Tryd.prog W 22 v0) (v1 : Value) (h1 : Arg Tryd.prog W 3 v1) (v2 : Value) (h2 : Arg Tryd.prog W 37 v2) :
    Calls Tryd.prog 6 #[v0, v1, v2] W fun e W' => e = .returned (.bool true) ∧ Below W.heap.size W W' := by
  obtain ⟨l, ⟨hl, ht⟩, r0⟩ := arg_snaps h0
  obtain ⟨q, _, r1⟩ := arg_int h1
  obtain ⟨s, hs, r2⟩ := arg_store h2
  exact run_tells (plenumlaw14_SnapStays_ok 16000001 [_, _, _] _ _ (stays_s _ l q s (by omega) hl (fun x hx => (ht x hx).len) (fewS_ok ht) hs.len (few_ok hs))) (gok_sig hS) (vs := [v0, v1, v2]) rfl (reps3 r0 r1 r2)
end Go.Proofs.YtopifabnobplcaaDoor
