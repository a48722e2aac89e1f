/-
  Texts laid together, part 5 of 5: laws of a walk over data, contracts of functions, each whole by itself.
-/
import Derived.Test.YtchncgdjefbmfaaMgd
namespace Go.Proofs.Ytchncgdjefbmfaa
open Go.RowKit
set_option linter.unusedVariables false
set_option linter.unusedSimpArgs false
set_option maxRecDepth 20000
theorem zero_rB : rB Rs.zero = true := by kernel_rfl
theorem fr_map {b : List Tx} : ∀ (d : List Tx) (cur : List La) (i : Nat), d = b.drop i → (frG cur i d).1 = (frG cur i d).2.map (fun j => b.getD j Tx.zero) ∧ (∀ j ∈ (frG cur i d).2, j < b.length) ∧ (frG cur i d).2.length ≤ d.length
  | [], cur, i, h => ⟨rfl, (fun j hj => by cases hj), Nat.le_refl _⟩
  | t :: r, cur, i, h => by
    have hi : i < b.length := by
      rcases Nat.lt_or_ge i b.length with q | q
      · exact q
      · rw [List.drop_of_length_le q] at h; cases h
    rw [List.drop_eq_getElem_cons hi] at h
    injection h with h1 h2
    unfold frG
    by_cases hq : (noteA cur t.cl t.tm Rs.zero).2 = 0
    · obtain ⟨q1, q2, q3⟩ := fr_map r (noteA cur t.cl t.tm Rs.zero).1 (i + 1) h2
      rw [if_pos hq]
      refine ⟨?_, fun j hj => ?_, by simp; omega⟩
      · dsimp only
        rw [List.map_cons, ← q1, h1]
        simp [hi]
      · rcases List.mem_cons.1 hj with rfl | hj
        · exact hi
        · exact q2 j hj
    · obtain ⟨q1, q2, q3⟩ := fr_map r cur (i + 1) h2
      rw [if_neg hq]
      exact ⟨q1, q2, by simp; omega⟩
theorem fresh_map {l : List La} {b : List Tx} : (freshA l b).1 = (freshA l b).2.map (fun j => b.getD j Tx.zero) ∧ (∀ j ∈ (freshA l b).2, j < b.length) ∧ (freshA l b).2.length ≤ b.length := by
  unfold freshA
  split
  · exact fr_map b l 0 (by simp)
  · exact ⟨rfl, (fun j hj => by cases hj), Nat.zero_le _⟩
theorem tE_len6 {l : List Tx} : (l.all fun x => decide ((cellsOf (tE x)).length = 6)) = true := List.all_eq_true.2 fun _ _ => rfl
end Go.Proofs.Ytchncgdjefbmfaa

namespace Go.Proofs.Ytchncgdjefbmfaa
open Go.RowKit
set_option linter.unusedVariables false
set_option linter.unusedSimpArgs false
set_option maxRecDepth 100000
theorem ofT_txn {n : Nat} {ds : List AV} (h : ofT Try.prog n 57 ds) : ∃ t : Tx, ds = tC t ∧ t.Ok := by
  obtain ⟨m, a1, b1, rfl, h1, a2, b2, rfl, h2, a3, b3, rfl, h3, a4, b4, rfl, h4, a5, b5, rfl, h5, rfl⟩ := ofT_struct Try.underlying57 h
  obtain ⟨c, rfl, _⟩ := ofT_i64 Try.underlying3 h1
  obtain ⟨t, rfl, _⟩ := ofT_i64 Try.underlying3 h2
  obtain ⟨m2, q1, p1, rfl, k1, q2, p2, rfl, k2, rfl⟩ := ofT_struct Try.underlying55 h3
  obtain ⟨_, rd, rfl, _, _⟩ := ofT_slice Try.underlying53 k1
  obtain ⟨_, wr, rfl, _, _⟩ := ofT_slice Try.underlying53 k2
  obtain ⟨s, rfl, _⟩ := ofT_str Try.underlying9 h4
  obtain ⟨g, rfl, _⟩ := ofT_i64 Try.underlying3 h5
  exact ⟨⟨c, t, SL rd, SL wr, s, g⟩, rfl, ⟨rfl, rfl⟩, fun _ => rfl, fun _ => rfl⟩
theorem ofT_txns {n : Nat} {ds : List AV} (h : ofT Try.prog n 47 ds) : ∃ l : List Tx, ds = [SL (l.map tE)] ∧ l.length ≤ maxLen ∧ ∀ x ∈ l, x.Ok := by
  obtain ⟨m, es, rfl, hl, he⟩ := ofT_slice Try.underlying47 h
  obtain ⟨l, rfl, hi⟩ := list_of (f := tE) (Q := Tx.Ok) fun x hx => by
    obtain ⟨q1, q2⟩ := he x hx
    obtain ⟨y, hy, hi⟩ := ofT_txn q1
    exact ⟨y, by rw [cells_agg (q2.trans (by kernel_rfl)), hy]; rfl, hi⟩
  exact ⟨l, rfl, by simpa using hl, hi⟩
theorem arg_txns {W : World} {v : Value} (h : Arg Try.prog W 47 v) : ∃ l : List Tx, (∀ x ∈ l, x.Ok) ∧ rep (SW W) [] (SL (l.map tE)) v := by
  obtain ⟨n, ds, h1, h2⟩ := h
  obtain ⟨t, rfl, _, ht⟩ := ofT_txns h1
  rw [mk_lone (by kernel_rfl)] at h2
  exact ⟨t, ht, h2⟩
end Go.Proofs.Ytchncgdjefbmfaa

namespace Go.Proofs.Ytchncgdjefbmfaa
open Go.RowKit
set_option linter.unusedVariables false
set_option linter.unusedSimpArgs false
set_option maxRecDepth 20000
def frT : List La → List Tx → List La
  | l, [] => l
  | l, t :: r => if (noteA l t.cl t.tm Rs.zero).2 = 0 then frT (noteA l t.cl t.tm Rs.zero).1 r else frT l r
theorem frT_less : ∀ {b : List Tx} {l : List La} {c t : Int}, (askA (frT l b) c t).2 = 6 → (askA l c t).2 = 6
  | [], l, c, t, h => h
  | u :: r, l, c, t, h => by
    unfold frT at h
    by_cases hq : (noteA l u.cl u.tm Rs.zero).2 = 0
    · rw [if_pos hq] at h
      exact ((note_new hq).1 (frT_less h)).1
    · rw [if_neg hq] at h
      exact frT_less h
theorem frT_none : ∀ {b : List Tx} {l : List La} (t : Tx), t ∈ b → ¬ (askA (frT l b) t.cl t.tm).2 = 6
  | [], l, t, h => by cases h
  | u :: r, l, t, h => by
    unfold frT
    by_cases hq : (noteA l u.cl u.tm Rs.zero).2 = 0
    · rw [if_pos hq]
      rcases List.mem_cons.1 h with rfl | h
      · intro q
        have := ((note_new hq).1 (frT_less q)).2 rfl
        omega
      · exact frT_none t h
    · rw [if_neg hq]
      rcases List.mem_cons.1 h with rfl | h
      · exact fun q => hq (note_zero.2 ⟨frT_less q, zero_rB⟩)
      · exact frT_none t h
theorem fr_none : ∀ {b : List Tx} {l : List La} (k : Nat), (∀ t ∈ b, ¬ (askA l t.cl t.tm).2 = 6) → frG l k b = ([], [])
  | [], l, k, h => rfl
  | u :: r, l, k, h => by
    unfold frG
    rw [if_neg fun q => h u (List.mem_cons_self ..) (note_zero.1 q).1]
    exact fr_none (k + 1) fun t ht => h t (List.mem_cons_of_mem _ ht)
theorem once_all : ∀ (b : List Tx) (cur cur' : List La) (vs : List Rs) (k : Nat), isL cur' = true → Alike cur cur' → vs.length = (frG cur k b).1.length → (∀ v ∈ vs, rB v = true) →
    (allG cur' (frG cur k b).1 vs).2 = 0 ∧ Alike (frT cur b) (allG cur' (frG cur k b).1 vs).1 ∧ isL (allG cur' (frG cur k b).1 vs).1 = true
  | [], cur, cur', vs, k, hi, ha, hl, hv => by
    have : vs = [] := List.length_eq_zero_iff.1 hl
    subst this
    exact ⟨rfl, ha, hi⟩
  | t :: b, cur, cur', vs, k, hi, ha, hl, hv => by
    unfold frG frT
    unfold frG at hl
    by_cases hq : (noteA cur t.cl t.tm Rs.zero).2 = 0
    · rw [if_pos hq] at hl ⊢
      rw [if_pos hq]
      dsimp only at hl ⊢
      cases vs with
      | nil => simp at hl
      | cons v vs =>
        have hq2 : (noteA cur' t.cl t.tm v).2 = 0 := note_zero.2 ⟨(ha _ _).1 (note_zero.1 hq).1, hv v (List.mem_cons_self ..)⟩
        unfold allG
        rw [if_pos hq2]
        exact once_all b _ _ vs (k + 1) (note_isL hq2) (ha.note hq hq2) (by simpa using hl) fun x hx => hv x (List.mem_cons_of_mem _ hx)
    · rw [if_neg hq] at hl ⊢
      rw [if_neg hq]
      exact once_all b cur cur' vs (k + 1) hi ha hl hv
theorem all_keep : ∀ (t : List Tx) (cur : List La) (vs : List Rs) (c tm : Int), (allG cur t vs).2 = 0 → (∀ u ∈ t, u.cl ≠ c) → askA (allG cur t vs).1 c tm = askA cur c tm
  | [], cur, vs, c, tm, h, hu => by unfold allG; rfl
  | u :: t, cur, [], c, tm, h, hu => by unfold allG; rfl
  | u :: t, cur, v :: vs, c, tm, h, hu => by
    unfold allG at h ⊢
    by_cases hq : (noteA cur u.cl u.tm v).2 = 0
    · rw [if_pos hq] at h ⊢
      rw [all_keep t _ vs c tm h fun x hx => hu x (List.mem_cons_of_mem _ hx), ask_other hq fun e => hu u (List.mem_cons_self ..) e.symm]
    · rw [if_neg hq] at h
      exact absurd h hq
theorem all_last : ∀ (t : List Tx) (cur : List La) (vs : List Rs) (j : Nat) (hj : j < t.length) (hl : t.length = vs.length), (allG cur t vs).2 = 0 → (∀ (k : Nat) (hk : k < t.length), j < k → t[k].cl ≠ t[j].cl) → askA (allG cur t vs).1 t[j].cl t[j].tm = (vs[j]'(by omega), 0)
  | [], cur, vs, j, hj, hl, h, hu => by simp at hj
  | u :: t, cur, [], j, hj, hl, h, hu => by simp at hl
  | u :: t, cur, v :: vs, j, hj, hl, h, hu => by
    unfold allG at h ⊢
    by_cases hq : (noteA cur u.cl u.tm v).2 = 0
    · rw [if_pos hq] at h ⊢
      cases j with
      | zero =>
        rw [all_keep t _ vs _ _ h fun x hx => ?_]
        · exact ask_told hq
        · obtain ⟨k, hk, rfl⟩ := List.getElem_of_mem hx
          have := hu (k + 1) (by simp; omega) (by omega)
          exact this
      | succ j =>
        simp only [List.getElem_cons_succ]
        refine all_last t _ vs j (by simpa using hj) (by simpa using hl) h fun k hk hjk => ?_
        have := hu (k + 1) (by simp; omega) (by omega)
        exact this
    · rw [if_neg hq] at h
      exact absurd h hq
theorem all_in : ∀ (t : List Tx) (cur : List La) (vs : List Rs), (∀ x ∈ cur, x.r.In) → (∀ v ∈ vs, v.In) → (allG cur t vs).2 = 0 → ∀ x ∈ (allG cur t vs).1, x.r.In
  | [], cur, vs, h, hv, _ => by unfold allG; exact h
  | u :: t, cur, [], h, hv, _ => by unfold allG; exact h
  | u :: t, cur, v :: vs, h, hv, h0 => by
    unfold allG at h0 ⊢
    by_cases hq : (noteA cur u.cl u.tm v).2 = 0
    · rw [if_pos hq] at h0 ⊢
      exact all_in t _ vs (note_in hq h (hv v (List.mem_cons_self ..))) (fun x hx => hv x (List.mem_cons_of_mem _ hx)) h0
    · rw [if_neg hq] at h0
      exact absurd h0 hq
def verR (i : Nat) : Rs := ⟨0, 0, 0, [], i⟩
def verL (n : Nat) : List Rs := (List.range n).map verR
theorem verL_len (n : Nat) : (verL n).length = n := by simp [verL]
theorem verL_get {n i : Nat} (h : i < (verL n).length) : (verL n)[i] = verR i := by simp [verL]
theorem verL_succ (n : Nat) : (verL (n + 1)).map rA = (verL n).map rA ++ [rA (verR n)] := by simp [verL, List.range_succ]
theorem verR_in {i : Nat} : (verR i).In := ⟨by show (-9223372036854775808 : Int) ≤ 0; omega, by show (0 : Int) < 9223372036854775808; omega⟩
theorem verR_rB {i : Nat} (h : i ≤ 2147483647) : rB (verR i) = true := by
  have h0 : valB 0 0 [] = true := by kernel_rfl
  show resB 0 0 0 [] (i : Int) = true
  unfold resB
  rw [h0]
  simp; omega
theorem verL_in {n : Nat} : ∀ v ∈ verL n, v.In := by
  intro v hv
  obtain ⟨i, _, rfl⟩ := List.mem_map.1 hv
  exact verR_in
theorem verL_rB {n : Nat} (h : n ≤ 1000) : ∀ v ∈ verL n, rB v = true := by
  intro v hv
  obtain ⟨i, hi, rfl⟩ := List.mem_map.1 hv
  have := List.mem_range.1 hi
  exact verR_rB (by omega)
theorem rc_bV {R : Type} {K1 : AV → Option R} {i : Nat} : buildE (some pl_api_Result) (some (rC Rs.zero)) [(2, nA (i : Int))] K1 = K1 (.agg (rC (verR i))) := _root_.id rfl
structure Once (f : List La) (b : List Tx) (x : List La) : Prop where
  none : freshA x b = ([], [])
  last : ∀ (j : Nat) (hj : j < (freshA f b).1.length), (∀ (k : Nat) (hk : k < (freshA f b).1.length), j < k → (freshA f b).1[k].cl ≠ (freshA f b).1[j].cl) → askA x (freshA f b).1[j].cl (freshA f b).1[j].tm = (verR j, 0)
  len : x.length ≤ 256
  inn : ∀ y ∈ x, y.r.In
theorem once {f : List La} {b : List Tx} (hi : isL f = true) (hb : b.length ≤ 70) (h : ∀ x ∈ f, x.r.In) : ∃ x, allA f (freshA f b).1 (verL (freshA f b).1.length) = (x, 0) ∧ Once f b x := by
  have e0 : (freshA f b).1 = (frG f 0 b).1 := by unfold freshA; rw [if_pos hi]
  obtain ⟨m1, _, m3⟩ := fresh_map (l := f) (b := b)
  have hlen : (freshA f b).1.length ≤ 70 := by rw [m1, List.length_map]; omega
  obtain ⟨q1, q2, q3⟩ := once_all b f f (verL (freshA f b).1.length) 0 hi (fun _ _ => Iff.rfl) (by rw [verL_len, e0]) (verL_rB (by omega))
  rw [← e0] at q1 q2 q3
  have e1 : allA f (freshA f b).1 (verL (freshA f b).1.length) = allG f (freshA f b).1 (verL (freshA f b).1.length) := by
    unfold allA
    rw [if_pos ⟨hi, (verL_len _).symm⟩]
  rw [e1]
  refine ⟨_, Prod.ext rfl q1, ?_, ?_, isL_len q3, all_in _ _ _ h verL_in q1⟩
  · refine (show freshA _ b = frG _ 0 b from if_pos q3).trans ?_
    exact fr_none 0 fun t ht q => frT_none t ht ((q2 _ _).2 q)
  · intro j hj hu
    have := all_last (freshA f b).1 f (verL (freshA f b).1.length) j hj (verL_len _).symm q1 hu
    rw [this, verL_get]
theorem ver_ltA {n k : Nat} : ((verL n).map rA).all (ltA k) = true := by rw [List.all_map]; exact List.all_eq_true.2 fun _ _ => rfl
theorem ver_ltA' {n k : Nat} : ((verL n).all fun x => ltA k (rA x)) = true := List.all_eq_true.2 fun _ _ => rfl
theorem once_s26 (m : Nat) (l : List La) (b : List Tx) (hm : 2000 < m) (hl : l.length ≤ maxLen) (hs : ∀ x ∈ l, x.r.s.length ≤ maxLen) (h : ∀ x ∈ fewL l, x.r.In) (ht : ∀ t ∈ b, t.Ok) : plenumlaw26_RepliesOnce m (lL l) (SL (b.map tE)) = some (bA true, []) := by
  have hF := few_s m l (by omega) hl hs
  have h9 : (fewL l).length ≤ 260 := by unfold fewL; rw [List.length_map, List.length_take]; omega
  generalize fewL l = f at hF h h9
  have hA := awake26_s m (by omega)
  have main : ∀ (b : List Tx), b.length ≤ 70 → (∀ t ∈ b, t.Ok) → plenumlaw26_RepliesOnce_r1 m ⟨[], [(0, SL (f.map laE)), (1, SL (b.map tE))]⟩ = some (bA true, []) := by
    intro b hb ht
    have h1 := fresh_s m f b (by omega) (by omega) (by omega) (by omega) (by omega) h ht
    obtain ⟨e1, e2, e3⟩ := fresh_map (l := f) (b := b)
    have hI := ris_s m f (by omega) (by omega)
    have htk : ∀ t ∈ (freshA f b).1, t.Ok := by
      intro t q
      rw [e1] at q
      obtain ⟨j, hj, rfl⟩ := List.mem_map.1 q
      have := e2 j hj
      rw [List.getD_eq_getElem?_getD, List.getElem?_eq_getElem this]
      exact ht _ (List.getElem_mem this)
    have hO := fun hi => once (f := f) (b := b) hi hb h
    have e4 : (freshA f b).1.length ≤ 70 := by rw [e1, List.length_map]; omega
    have hz : isL f = false → freshA f b = ([], []) := fun q => by unfold freshA; rw [q]; rfl
    have h3 := all_s m f (freshA f b).1 (verL (freshA f b).1.length) (by omega) (by omega) (by omega) (by omega) (by omega) h htk verL_in
    have hOn : ∀ x, Once f b x → ∀ (j : Nat) (hj : j < (freshA f b).1.length), (∀ (k : Nat) (hk : k < (freshA f b).1.length), j < k → (freshA f b).1[k].cl ≠ (freshA f b).1[j].cl) → askA x (freshA f b).1[j].cl (freshA f b).1[j].tm = (verR j, 0) := fun x q => q.last
    generalize freshA f b = F at h1 e1 e2 e3 e4 htk hO hz h3 hOn
    obtain ⟨F1, F2⟩ := F
    dsimp only at h1 e1 e2 e3 e4 htk hO hz h3 hOn
    rw [lL_def] at h1 hI
    rw [lL_def, rL_def] at h3
    rw [plenumlaw26_RepliesOnce_r1_eq]
    simp (config := {maxSteps := 4000000, implicitDefEqProofs := false}) (disch := omega) only [go_sem, ↓reduceIte, Nat.reduceAdd, Nat.reduceSub, Nat.reduceMul, Nat.reduceLeDiff, Nat.reduceLT, Int.reduceEq, Int.reduceNe, Int.reduceLT, Int.reduceLE, Int.reduceAdd, Int.reduceSub, Int.reduceMul, Int.reduceNeg, Nat.zero_add, Nat.add_zero, Nat.mul_one, Int.toNat_natCast, Int.natCast_zero, Int.cast_ofNat_Int, or_false, false_or, or_true, true_or, Int.reduceToNat, Nat.sub_zero, Int.natCast_nonneg, Int.toNat_zero, Bool.true_and, Bool.and_true, Bool.false_and, Bool.and_false, Bool.true_or, Bool.or_true, Bool.false_or, Bool.or_false, Bool.not_true, Bool.not_false, Bool.not_not, true_and, and_true, false_and, and_false, not_true_eq_false, not_false_eq_true, eq_self, decide_true, decide_false, ne_eq, implies_true, forall_const, true_implies, false_implies, Bool.true_eq_false, Bool.false_eq_true, reduceCtorEq, List.map_cons, List.map_nil, List.all_cons, List.all_nil, List.length_cons, List.length_nil, List.length_map, List.length_append, List.nil_append, List.cons_append, List.set_cons_zero, List.set_cons_succ, List.set_nil, List.drop_zero, List.drop_succ_cons, List.drop_nil, List.take_zero, List.take_succ_cons, List.take_nil, Option.map_some, Option.map_none, Option.isSome_some, Nat.reduceEqDiff, Nat.reduceBEq, Nat.reduceGT, List.all_append, List.all_map, Function.comp_def, decide_eq_true_eq, Bool.and_eq_true, beq_self_eq_true, or_self, and_self, ite_true, ite_false, Nat.le_refl, Bool.not_eq_true, decide_not, Bool.not_eq_true', decide_eq_false_iff_not, Bool.not_eq_false, Bool.or_eq_true, if_true, if_false, ite_self, la_it, la_len, la_sure, la_ltA, la_lt1, la_all1, la_ro, la_take, la_cl, la_tm, la_r, la_sl, rc_len, rc_sure, rc_ltA, rc_lt1, rc_all1, rc_ro, rc_take, rc_sl, la_set, rc_set, zcL_eq, zcR_eq, la_allA, la_len7, all_tt, natInt, u_nthM, h1]
    refine iter_go (ι := {k : Nat // k ≤ F1.length}) (fun k => ⟨[⟨2, ty_api_Result, 5, (verL k.1).map rA⟩], [(0, SL (f.map laE)), (1, SL (b.map tE)), (5, SL (F1.map tE)), (7, OW 0 k.1), (8, nA k.1)]⟩) (fun k => F1.length - k.1) (fun _ => some (bA true, [])) ?_ ⟨0, Nat.zero_le _⟩ (by dsimp only; omega)
    rintro kx hkx ⟨k, hk⟩ kc hkc
    dsimp only at hkc ⊢
    rw [plenumlaw26_RepliesOnce_b1_eq]
    by_cases hlt : k < F1.length
    · have hlt' : (k : Int) < (F1.length : Int) := by omega
      have hkl : k + 1 ≤ 34359738368 := by omega
      have step := hkc ⟨k + 1, by omega⟩ (by dsimp only; omega)
      dsimp only at step
      rw [verL_succ, rA_def] at step
      simp (config := {maxSteps := 4000000, implicitDefEqProofs := false}) (disch := omega) only [go_sem, ↓reduceIte, Nat.reduceAdd, Nat.reduceSub, Nat.reduceMul, Nat.reduceLeDiff, Nat.reduceLT, Int.reduceEq, Int.reduceNe, Int.reduceLT, Int.reduceLE, Int.reduceAdd, Int.reduceSub, Int.reduceMul, Int.reduceNeg, Nat.zero_add, Nat.add_zero, Nat.mul_one, Int.toNat_natCast, Int.natCast_zero, Int.cast_ofNat_Int, or_false, false_or, or_true, true_or, Int.reduceToNat, Nat.sub_zero, Int.natCast_nonneg, Int.toNat_zero, Bool.true_and, Bool.and_true, Bool.false_and, Bool.and_false, Bool.true_or, Bool.or_true, Bool.false_or, Bool.or_false, Bool.not_true, Bool.not_false, Bool.not_not, true_and, and_true, false_and, and_false, not_true_eq_false, not_false_eq_true, eq_self, decide_true, decide_false, ne_eq, implies_true, forall_const, true_implies, false_implies, Bool.true_eq_false, Bool.false_eq_true, reduceCtorEq, List.map_cons, List.map_nil, List.all_cons, List.all_nil, List.length_cons, List.length_nil, List.length_map, List.length_append, List.nil_append, List.cons_append, List.set_cons_zero, List.set_cons_succ, List.set_nil, List.drop_zero, List.drop_succ_cons, List.drop_nil, List.take_zero, List.take_succ_cons, List.take_nil, Option.map_some, Option.map_none, Option.isSome_some, Nat.reduceEqDiff, Nat.reduceBEq, Nat.reduceGT, List.all_append, List.all_map, Function.comp_def, decide_eq_true_eq, Bool.and_eq_true, beq_self_eq_true, or_self, and_self, ite_true, ite_false, Nat.le_refl, Bool.not_eq_true, decide_not, Bool.not_eq_true', decide_eq_false_iff_not, Bool.not_eq_false, Bool.or_eq_true, if_true, if_false, ite_self, la_it, la_len, la_sure, la_ltA, la_lt1, la_all1, la_ro, la_take, la_cl, la_tm, la_r, la_sl, rc_len, rc_sure, rc_ltA, rc_lt1, rc_all1, rc_ro, rc_take, rc_sl, la_set, rc_set, zcL_eq, zcR_eq, la_allA, la_len7, all_tt, natInt, u_nthM, hlt', hkl, rc_bV, rL_sl, ver_ltA, ver_ltA', verL_len, w_i64]
      exact step
    have hlt' : ¬ (k : Int) < (F1.length : Int) := by omega
    obtain rfl : k = F1.length := by omega
    cases hi : isL f with
    | false =>
      rw [hi] at hI
      have hz1 := hz hi
      injection hz1 with z1 z2
      subst z1 z2
      have hall : allA f [] (verL 0) = ([], 1) := by unfold allA; rw [hi]; rfl
      rw [List.length_nil, hall] at h3
      rw [lL_def] at h3
      simp only [List.map_nil] at h3
      simp (config := {maxSteps := 4000000, implicitDefEqProofs := false}) (disch := omega) only [go_sem, ↓reduceIte, Nat.reduceAdd, Nat.reduceSub, Nat.reduceMul, Nat.reduceLeDiff, Nat.reduceLT, Int.reduceEq, Int.reduceNe, Int.reduceLT, Int.reduceLE, Int.reduceAdd, Int.reduceSub, Int.reduceMul, Int.reduceNeg, Nat.zero_add, Nat.add_zero, Nat.mul_one, Int.toNat_natCast, Int.natCast_zero, Int.cast_ofNat_Int, or_false, false_or, or_true, true_or, Int.reduceToNat, Nat.sub_zero, Int.natCast_nonneg, Int.toNat_zero, Bool.true_and, Bool.and_true, Bool.false_and, Bool.and_false, Bool.true_or, Bool.or_true, Bool.false_or, Bool.or_false, Bool.not_true, Bool.not_false, Bool.not_not, true_and, and_true, false_and, and_false, not_true_eq_false, not_false_eq_true, eq_self, decide_true, decide_false, ne_eq, implies_true, forall_const, true_implies, false_implies, Bool.true_eq_false, Bool.false_eq_true, reduceCtorEq, List.map_cons, List.map_nil, List.all_cons, List.all_nil, List.length_cons, List.length_nil, List.length_map, List.length_append, List.nil_append, List.cons_append, List.set_cons_zero, List.set_cons_succ, List.set_nil, List.drop_zero, List.drop_succ_cons, List.drop_nil, List.take_zero, List.take_succ_cons, List.take_nil, Option.map_some, Option.map_none, Option.isSome_some, Nat.reduceEqDiff, Nat.reduceBEq, Nat.reduceGT, List.all_append, List.all_map, Function.comp_def, decide_eq_true_eq, Bool.and_eq_true, beq_self_eq_true, or_self, and_self, ite_true, ite_false, Nat.le_refl, Bool.not_eq_true, decide_not, Bool.not_eq_true', decide_eq_false_iff_not, Bool.not_eq_false, Bool.or_eq_true, if_true, if_false, ite_self, la_it, la_len, la_sure, la_ltA, la_lt1, la_all1, la_ro, la_take, la_cl, la_tm, la_r, la_sl, rc_len, rc_sure, rc_ltA, rc_lt1, rc_all1, rc_ro, rc_take, rc_sl, la_set, rc_set, zcL_eq, zcR_eq, la_allA, la_len7, all_tt, natInt, u_nthM, hlt', hkx, hI, h3, hA, rL_sl, ver_ltA, ver_ltA', verL_len, plenumlaw26_RepliesOnce_r11_eq, plenumlaw26_RepliesOnce_r10_eq, plenumlaw26_RepliesOnce_r9_eq, plenumlaw26_RepliesOnce_r8_eq, plenumlaw26_RepliesOnce_r7_eq, plenumlaw26_RepliesOnce_r6_eq, plenumlaw26_RepliesOnce_r5_eq, plenumlaw26_RepliesOnce_r4_eq, plenumlaw26_RepliesOnce_r3_eq, plenumlaw26_RepliesOnce_r2_eq, plenumlaw26_RepliesOnce_r1_eq]
    | true =>
      rw [hi] at hI
      obtain ⟨x, hx, hOx⟩ := hO hi
      rw [hx, lL_def] at h3
      have h4 := fresh_s m x b (by omega) (by have := hOx.len; omega) (by omega) (by have := hOx.len; omega) (by omega) hOx.inn ht
      rw [hOx.none, lL_def] at h4
      simp (config := {maxSteps := 4000000, implicitDefEqProofs := false}) (disch := omega) only [go_sem, ↓reduceIte, Nat.reduceAdd, Nat.reduceSub, Nat.reduceMul, Nat.reduceLeDiff, Nat.reduceLT, Int.reduceEq, Int.reduceNe, Int.reduceLT, Int.reduceLE, Int.reduceAdd, Int.reduceSub, Int.reduceMul, Int.reduceNeg, Nat.zero_add, Nat.add_zero, Nat.mul_one, Int.toNat_natCast, Int.natCast_zero, Int.cast_ofNat_Int, or_false, false_or, or_true, true_or, Int.reduceToNat, Nat.sub_zero, Int.natCast_nonneg, Int.toNat_zero, Bool.true_and, Bool.and_true, Bool.false_and, Bool.and_false, Bool.true_or, Bool.or_true, Bool.false_or, Bool.or_false, Bool.not_true, Bool.not_false, Bool.not_not, true_and, and_true, false_and, and_false, not_true_eq_false, not_false_eq_true, eq_self, decide_true, decide_false, ne_eq, implies_true, forall_const, true_implies, false_implies, Bool.true_eq_false, Bool.false_eq_true, reduceCtorEq, List.map_cons, List.map_nil, List.all_cons, List.all_nil, List.length_cons, List.length_nil, List.length_map, List.length_append, List.nil_append, List.cons_append, List.set_cons_zero, List.set_cons_succ, List.set_nil, List.drop_zero, List.drop_succ_cons, List.drop_nil, List.take_zero, List.take_succ_cons, List.take_nil, Option.map_some, Option.map_none, Option.isSome_some, Nat.reduceEqDiff, Nat.reduceBEq, Nat.reduceGT, List.all_append, List.all_map, Function.comp_def, decide_eq_true_eq, Bool.and_eq_true, beq_self_eq_true, or_self, and_self, ite_true, ite_false, Nat.le_refl, Bool.not_eq_true, decide_not, Bool.not_eq_true', decide_eq_false_iff_not, Bool.not_eq_false, Bool.or_eq_true, if_true, if_false, ite_self, la_it, la_len, la_sure, la_ltA, la_lt1, la_all1, la_ro, la_take, la_cl, la_tm, la_r, la_sl, rc_len, rc_sure, rc_ltA, rc_lt1, rc_all1, rc_ro, rc_take, rc_sl, la_set, rc_set, zcL_eq, zcR_eq, la_allA, la_len7, all_tt, natInt, u_nthM, hlt', hkx, hI, h3, h4, hA, rL_sl, ver_ltA, ver_ltA', verL_len, plenumlaw26_RepliesOnce_r2_eq, plenumlaw26_RepliesOnce_r3_eq, plenumlaw26_RepliesOnce_r4_eq]
      have hL := hOn x hOx
      clear h1 h3 hz hO hlt' hkc
      refine iter_go (ι := {k : Nat // k ≤ F1.length}) (fun k => ⟨[⟨2, ty_api_Result, 5, (verL F1.length).map rA⟩], [(5, SL (F1.map tE)), (7, OW 0 F1.length), (9, SL (x.map laE)), (13, nA k.1)]⟩) (fun k => F1.length - k.1) (fun _ => some (bA true, [])) ?_ ⟨0, Nat.zero_le _⟩ (by dsimp only; omega)
      rintro kx hkx ⟨i, hi0⟩ kc hkc
      dsimp only at hkc ⊢
      rw [plenumlaw26_RepliesOnce_b2_eq]
      by_cases hlt : i < F1.length
      · have hlt' : (i : Int) < (F1.length : Int) := by omega
        simp (config := {maxSteps := 4000000, implicitDefEqProofs := false}) (disch := omega) only [go_sem, ↓reduceIte, Nat.reduceAdd, Nat.reduceSub, Nat.reduceMul, Nat.reduceLeDiff, Nat.reduceLT, Int.reduceEq, Int.reduceNe, Int.reduceLT, Int.reduceLE, Int.reduceAdd, Int.reduceSub, Int.reduceMul, Int.reduceNeg, Nat.zero_add, Nat.add_zero, Nat.mul_one, Int.toNat_natCast, Int.natCast_zero, Int.cast_ofNat_Int, or_false, false_or, or_true, true_or, Int.reduceToNat, Nat.sub_zero, Int.natCast_nonneg, Int.toNat_zero, Bool.true_and, Bool.and_true, Bool.false_and, Bool.and_false, Bool.true_or, Bool.or_true, Bool.false_or, Bool.or_false, Bool.not_true, Bool.not_false, Bool.not_not, true_and, and_true, false_and, and_false, not_true_eq_false, not_false_eq_true, eq_self, decide_true, decide_false, ne_eq, implies_true, forall_const, true_implies, false_implies, Bool.true_eq_false, Bool.false_eq_true, reduceCtorEq, List.map_cons, List.map_nil, List.all_cons, List.all_nil, List.length_cons, List.length_nil, List.length_map, List.length_append, List.nil_append, List.cons_append, List.set_cons_zero, List.set_cons_succ, List.set_nil, List.drop_zero, List.drop_succ_cons, List.drop_nil, List.take_zero, List.take_succ_cons, List.take_nil, Option.map_some, Option.map_none, Option.isSome_some, Nat.reduceEqDiff, Nat.reduceBEq, Nat.reduceGT, List.all_append, List.all_map, Function.comp_def, decide_eq_true_eq, Bool.and_eq_true, beq_self_eq_true, or_self, and_self, ite_true, ite_false, Nat.le_refl, Bool.not_eq_true, decide_not, Bool.not_eq_true', decide_eq_false_iff_not, Bool.not_eq_false, Bool.or_eq_true, if_true, if_false, ite_self, la_it, la_len, la_sure, la_ltA, la_lt1, la_all1, la_ro, la_take, la_cl, la_tm, la_r, la_sl, rc_len, rc_sure, rc_ltA, rc_lt1, rc_all1, rc_ro, rc_take, rc_sl, la_set, rc_set, zcL_eq, zcR_eq, la_allA, la_len7, all_tt, natInt, u_nthM, hlt']
        refine iter_go (ι := {p : Nat × Nat // i ≤ p.2 ∧ p.2 ≤ F1.length ∧ ∃ h : p.1 < F1.length, F1[p.1].cl = F1[i].cl ∧ i ≤ p.1 ∧ ∀ (q : Nat) (hq : q < F1.length), p.1 < q → q < p.2 → F1[q].cl ≠ F1[i].cl}) (fun p => ⟨[⟨2, ty_api_Result, 5, (verL F1.length).map rA⟩], [(5, SL (F1.map tE)), (7, OW 0 F1.length), (9, SL (x.map laE)), (13, nA i), (14, nA p.1.1), (15, nA p.1.2)]⟩) (fun p => F1.length - p.1.2) (fun _ => some (bA true, [])) ?_ ⟨(i, i), Nat.le_refl _, hi0, hlt, rfl, Nat.le_refl _, fun q hq h1 h2 => by omega⟩ (by dsimp only; omega)
        rintro kx2 hkx2 ⟨⟨la, k⟩, hik, hkl, hla, hc, hila, hno⟩ kc2 hkc2
        dsimp only at hkc2 hik hkl hla hc hila hno ⊢
        rw [plenumlaw26_RepliesOnce_b3_eq]
        by_cases hk : k < F1.length
        · have hk' : (k : Int) < (F1.length : Int) := by omega
          by_cases hcl : F1[k].cl = F1[i].cl
          · have step := hkc2 ⟨(k, k + 1), by dsimp only; omega, by dsimp only; omega, hk, hcl, hik, fun q hq h1 h2 => by omega⟩ (by dsimp only; omega)
            dsimp only at step
            simp (config := {maxSteps := 4000000, implicitDefEqProofs := false}) (disch := omega) only [go_sem, ↓reduceIte, Nat.reduceAdd, Nat.reduceSub, Nat.reduceMul, Nat.reduceLeDiff, Nat.reduceLT, Int.reduceEq, Int.reduceNe, Int.reduceLT, Int.reduceLE, Int.reduceAdd, Int.reduceSub, Int.reduceMul, Int.reduceNeg, Nat.zero_add, Nat.add_zero, Nat.mul_one, Int.toNat_natCast, Int.natCast_zero, Int.cast_ofNat_Int, or_false, false_or, or_true, true_or, Int.reduceToNat, Nat.sub_zero, Int.natCast_nonneg, Int.toNat_zero, Bool.true_and, Bool.and_true, Bool.false_and, Bool.and_false, Bool.true_or, Bool.or_true, Bool.false_or, Bool.or_false, Bool.not_true, Bool.not_false, Bool.not_not, true_and, and_true, false_and, and_false, not_true_eq_false, not_false_eq_true, eq_self, decide_true, decide_false, ne_eq, implies_true, forall_const, true_implies, false_implies, Bool.true_eq_false, Bool.false_eq_true, reduceCtorEq, List.map_cons, List.map_nil, List.all_cons, List.all_nil, List.length_cons, List.length_nil, List.length_map, List.length_append, List.nil_append, List.cons_append, List.set_cons_zero, List.set_cons_succ, List.set_nil, List.drop_zero, List.drop_succ_cons, List.drop_nil, List.take_zero, List.take_succ_cons, List.take_nil, Option.map_some, Option.map_none, Option.isSome_some, Nat.reduceEqDiff, Nat.reduceBEq, Nat.reduceGT, List.all_append, List.all_map, Function.comp_def, decide_eq_true_eq, Bool.and_eq_true, beq_self_eq_true, or_self, and_self, ite_true, ite_false, Nat.le_refl, Bool.not_eq_true, decide_not, Bool.not_eq_true', decide_eq_false_iff_not, Bool.not_eq_false, Bool.or_eq_true, if_true, if_false, ite_self, la_it, la_len, la_sure, la_ltA, la_lt1, la_all1, la_ro, la_take, la_cl, la_tm, la_r, la_sl, rc_len, rc_sure, rc_ltA, rc_lt1, rc_all1, rc_ro, rc_take, rc_sl, la_set, rc_set, zcL_eq, zcR_eq, la_allA, la_len7, all_tt, natInt, u_nthM, hlt', hk', hcl, te_it, tc_len, tc_cl, tc_tm, w_i64, plenumlaw26_RepliesOnce_r8_eq, rL_sl, ver_ltA, ver_ltA', verL_len]
            exact step
          · have step := hkc2 ⟨(la, k + 1), by dsimp only; omega, by dsimp only; omega, hla, hc, hila, fun q hq h1 h2 => by
              rcases Nat.lt_or_ge q k with e | e
              · exact hno q hq h1 e
              · have : q = k := by omega
                subst this; exact hcl⟩ (by dsimp only; omega)
            dsimp only at step
            simp (config := {maxSteps := 4000000, implicitDefEqProofs := false}) (disch := omega) only [go_sem, ↓reduceIte, Nat.reduceAdd, Nat.reduceSub, Nat.reduceMul, Nat.reduceLeDiff, Nat.reduceLT, Int.reduceEq, Int.reduceNe, Int.reduceLT, Int.reduceLE, Int.reduceAdd, Int.reduceSub, Int.reduceMul, Int.reduceNeg, Nat.zero_add, Nat.add_zero, Nat.mul_one, Int.toNat_natCast, Int.natCast_zero, Int.cast_ofNat_Int, or_false, false_or, or_true, true_or, Int.reduceToNat, Nat.sub_zero, Int.natCast_nonneg, Int.toNat_zero, Bool.true_and, Bool.and_true, Bool.false_and, Bool.and_false, Bool.true_or, Bool.or_true, Bool.false_or, Bool.or_false, Bool.not_true, Bool.not_false, Bool.not_not, true_and, and_true, false_and, and_false, not_true_eq_false, not_false_eq_true, eq_self, decide_true, decide_false, ne_eq, implies_true, forall_const, true_implies, false_implies, Bool.true_eq_false, Bool.false_eq_true, reduceCtorEq, List.map_cons, List.map_nil, List.all_cons, List.all_nil, List.length_cons, List.length_nil, List.length_map, List.length_append, List.nil_append, List.cons_append, List.set_cons_zero, List.set_cons_succ, List.set_nil, List.drop_zero, List.drop_succ_cons, List.drop_nil, List.take_zero, List.take_succ_cons, List.take_nil, Option.map_some, Option.map_none, Option.isSome_some, Nat.reduceEqDiff, Nat.reduceBEq, Nat.reduceGT, List.all_append, List.all_map, Function.comp_def, decide_eq_true_eq, Bool.and_eq_true, beq_self_eq_true, or_self, and_self, ite_true, ite_false, Nat.le_refl, Bool.not_eq_true, decide_not, Bool.not_eq_true', decide_eq_false_iff_not, Bool.not_eq_false, Bool.or_eq_true, if_true, if_false, ite_self, la_it, la_len, la_sure, la_ltA, la_lt1, la_all1, la_ro, la_take, la_cl, la_tm, la_r, la_sl, rc_len, rc_sure, rc_ltA, rc_lt1, rc_all1, rc_ro, rc_take, rc_sl, la_set, rc_set, zcL_eq, zcR_eq, la_allA, la_len7, all_tt, natInt, u_nthM, hlt', hk', hcl, te_it, tc_len, tc_cl, tc_tm, w_i64, plenumlaw26_RepliesOnce_r8_eq, rL_sl, ver_ltA, ver_ltA', verL_len]
            exact step
        · have hk' : ¬ (k : Int) < (F1.length : Int) := by omega
          have hla' : (la : Int) < (F1.length : Int) := by omega
          have hQ := hL la hla fun q hq h1 => by rw [hc]; exact hno q hq h1 (by omega)
          have hAs := ask_s m x F1[la].cl F1[la].tm (by omega) (by have := hOx.len; omega) (by have := hOx.len; omega) hOx.inn
          rw [hQ, hc, lL_def, rA_def] at hAs
          have step := hkc ⟨i + 1, by omega⟩ (by dsimp only; omega)
          dsimp only at step
          have hg : ∀ {R : Type} {K1 : AV → Option R}, nthE ((verL F1.length).map rA) la K1 = K1 (.agg (rC (verR la))) := by
            intro R K1
            unfold nthE
            rw [List.getElem?_map, List.getElem?_eq_getElem (by rw [verL_len]; exact hla), verL_get]
            rfl
          simp (config := {maxSteps := 4000000, implicitDefEqProofs := false}) (disch := omega) only [go_sem, ↓reduceIte, Nat.reduceAdd, Nat.reduceSub, Nat.reduceMul, Nat.reduceLeDiff, Nat.reduceLT, Int.reduceEq, Int.reduceNe, Int.reduceLT, Int.reduceLE, Int.reduceAdd, Int.reduceSub, Int.reduceMul, Int.reduceNeg, Nat.zero_add, Nat.add_zero, Nat.mul_one, Int.toNat_natCast, Int.natCast_zero, Int.cast_ofNat_Int, or_false, false_or, or_true, true_or, Int.reduceToNat, Nat.sub_zero, Int.natCast_nonneg, Int.toNat_zero, Bool.true_and, Bool.and_true, Bool.false_and, Bool.and_false, Bool.true_or, Bool.or_true, Bool.false_or, Bool.or_false, Bool.not_true, Bool.not_false, Bool.not_not, true_and, and_true, false_and, and_false, not_true_eq_false, not_false_eq_true, eq_self, decide_true, decide_false, ne_eq, implies_true, forall_const, true_implies, false_implies, Bool.true_eq_false, Bool.false_eq_true, reduceCtorEq, List.map_cons, List.map_nil, List.all_cons, List.all_nil, List.length_cons, List.length_nil, List.length_map, List.length_append, List.nil_append, List.cons_append, List.set_cons_zero, List.set_cons_succ, List.set_nil, List.drop_zero, List.drop_succ_cons, List.drop_nil, List.take_zero, List.take_succ_cons, List.take_nil, Option.map_some, Option.map_none, Option.isSome_some, Nat.reduceEqDiff, Nat.reduceBEq, Nat.reduceGT, List.all_append, List.all_map, Function.comp_def, decide_eq_true_eq, Bool.and_eq_true, beq_self_eq_true, or_self, and_self, ite_true, ite_false, Nat.le_refl, Bool.not_eq_true, decide_not, Bool.not_eq_true', decide_eq_false_iff_not, Bool.not_eq_false, Bool.or_eq_true, if_true, if_false, ite_self, la_it, la_len, la_sure, la_ltA, la_lt1, la_all1, la_ro, la_take, la_cl, la_tm, la_r, la_sl, rc_len, rc_sure, rc_ltA, rc_lt1, rc_all1, rc_ro, rc_take, rc_sl, la_set, rc_set, zcL_eq, zcR_eq, la_allA, la_len7, all_tt, natInt, u_nthM, hkx2, hlt', hk', hla', hAs, hg, te_it, tc_len, tc_cl, tc_tm, rA_def, u_neRs, w_i64, plenumlaw26_RepliesOnce_r6_eq, plenumlaw26_RepliesOnce_r9_eq, plenumlaw26_RepliesOnce_r11_eq, rL_sl, ver_ltA, ver_ltA', verL_len]
          exact step
      · have hlt' : ¬ (i : Int) < (F1.length : Int) := by omega
        simp (config := {maxSteps := 4000000, implicitDefEqProofs := false}) (disch := omega) only [go_sem, ↓reduceIte, Nat.reduceAdd, Nat.reduceSub, Nat.reduceMul, Nat.reduceLeDiff, Nat.reduceLT, Int.reduceEq, Int.reduceNe, Int.reduceLT, Int.reduceLE, Int.reduceAdd, Int.reduceSub, Int.reduceMul, Int.reduceNeg, Nat.zero_add, Nat.add_zero, Nat.mul_one, Int.toNat_natCast, Int.natCast_zero, Int.cast_ofNat_Int, or_false, false_or, or_true, true_or, Int.reduceToNat, Nat.sub_zero, Int.natCast_nonneg, Int.toNat_zero, Bool.true_and, Bool.and_true, Bool.false_and, Bool.and_false, Bool.true_or, Bool.or_true, Bool.false_or, Bool.or_false, Bool.not_true, Bool.not_false, Bool.not_not, true_and, and_true, false_and, and_false, not_true_eq_false, not_false_eq_true, eq_self, decide_true, decide_false, ne_eq, implies_true, forall_const, true_implies, false_implies, Bool.true_eq_false, Bool.false_eq_true, reduceCtorEq, List.map_cons, List.map_nil, List.all_cons, List.all_nil, List.length_cons, List.length_nil, List.length_map, List.length_append, List.nil_append, List.cons_append, List.set_cons_zero, List.set_cons_succ, List.set_nil, List.drop_zero, List.drop_succ_cons, List.drop_nil, List.take_zero, List.take_succ_cons, List.take_nil, Option.map_some, Option.map_none, Option.isSome_some, Nat.reduceEqDiff, Nat.reduceBEq, Nat.reduceGT, List.all_append, List.all_map, Function.comp_def, decide_eq_true_eq, Bool.and_eq_true, beq_self_eq_true, or_self, and_self, ite_true, ite_false, Nat.le_refl, Bool.not_eq_true, decide_not, Bool.not_eq_true', decide_eq_false_iff_not, Bool.not_eq_false, Bool.or_eq_true, if_true, if_false, ite_self, la_it, la_len, la_sure, la_ltA, la_lt1, la_all1, la_ro, la_take, la_cl, la_tm, la_r, la_sl, rc_len, rc_sure, rc_ltA, rc_lt1, rc_all1, rc_ro, rc_take, rc_sl, la_set, rc_set, zcL_eq, zcR_eq, la_allA, la_len7, all_tt, natInt, u_nthM, hlt', hkx, hA, plenumlaw26_RepliesOnce_r11_eq, plenumlaw26_RepliesOnce_r10_eq, plenumlaw26_RepliesOnce_r9_eq, plenumlaw26_RepliesOnce_r8_eq, plenumlaw26_RepliesOnce_r7_eq, plenumlaw26_RepliesOnce_r6_eq, plenumlaw26_RepliesOnce_r5_eq, plenumlaw26_RepliesOnce_r4_eq, plenumlaw26_RepliesOnce_r3_eq, plenumlaw26_RepliesOnce_r2_eq, plenumlaw26_RepliesOnce_r1_eq]
  rw [plenumlaw26_RepliesOnce_eq, lL_def]
  rw [lL_def, lL_def] at hF
  have htk : ∀ t ∈ b.take 70, t.Ok := fun t q => ht t (List.mem_of_mem_take q)
  by_cases c1 : 70 < b.length
  · have c1' : (70 : Int) < (b.length : Int) := by omega
    have c3 : (70 : Int) ≤ (b.length : Int) := by omega
    simp (config := {maxSteps := 4000000, implicitDefEqProofs := false}) (disch := omega) only [go_sem, ↓reduceIte, Nat.reduceAdd, Nat.reduceSub, Nat.reduceMul, Nat.reduceLeDiff, Nat.reduceLT, Int.reduceEq, Int.reduceNe, Int.reduceLT, Int.reduceLE, Int.reduceAdd, Int.reduceSub, Int.reduceMul, Int.reduceNeg, Nat.zero_add, Nat.add_zero, Nat.mul_one, Int.toNat_natCast, Int.natCast_zero, Int.cast_ofNat_Int, or_false, false_or, or_true, true_or, Int.reduceToNat, Nat.sub_zero, Int.natCast_nonneg, Int.toNat_zero, Bool.true_and, Bool.and_true, Bool.false_and, Bool.and_false, Bool.true_or, Bool.or_true, Bool.false_or, Bool.or_false, Bool.not_true, Bool.not_false, Bool.not_not, true_and, and_true, false_and, and_false, not_true_eq_false, not_false_eq_true, eq_self, decide_true, decide_false, ne_eq, implies_true, forall_const, true_implies, false_implies, Bool.true_eq_false, Bool.false_eq_true, reduceCtorEq, List.map_cons, List.map_nil, List.all_cons, List.all_nil, List.length_cons, List.length_nil, List.length_map, List.length_append, List.nil_append, List.cons_append, List.set_cons_zero, List.set_cons_succ, List.set_nil, List.drop_zero, List.drop_succ_cons, List.drop_nil, List.take_zero, List.take_succ_cons, List.take_nil, Option.map_some, Option.map_none, Option.isSome_some, Nat.reduceEqDiff, Nat.reduceBEq, Nat.reduceGT, List.all_append, List.all_map, Function.comp_def, decide_eq_true_eq, Bool.and_eq_true, beq_self_eq_true, or_self, and_self, ite_true, ite_false, Nat.le_refl, Bool.not_eq_true, decide_not, Bool.not_eq_true', decide_eq_false_iff_not, Bool.not_eq_false, Bool.or_eq_true, if_true, if_false, ite_self, la_it, la_len, la_sure, la_ltA, la_lt1, la_all1, la_ro, la_take, la_cl, la_tm, la_r, la_sl, rc_len, rc_sure, rc_ltA, rc_lt1, rc_all1, rc_ro, rc_take, rc_sl, la_set, rc_set, zcL_eq, zcR_eq, la_allA, la_len7, all_tt, natInt, u_nthM, hF, c1', c3, tE_len6]
    rw [← List.map_take]
    exact main _ (by rw [List.length_take]; omega) htk
  · have c1' : ¬ (70 : Int) < (b.length : Int) := by omega
    simp (config := {maxSteps := 4000000, implicitDefEqProofs := false}) (disch := omega) only [go_sem, ↓reduceIte, Nat.reduceAdd, Nat.reduceSub, Nat.reduceMul, Nat.reduceLeDiff, Nat.reduceLT, Int.reduceEq, Int.reduceNe, Int.reduceLT, Int.reduceLE, Int.reduceAdd, Int.reduceSub, Int.reduceMul, Int.reduceNeg, Nat.zero_add, Nat.add_zero, Nat.mul_one, Int.toNat_natCast, Int.natCast_zero, Int.cast_ofNat_Int, or_false, false_or, or_true, true_or, Int.reduceToNat, Nat.sub_zero, Int.natCast_nonneg, Int.toNat_zero, Bool.true_and, Bool.and_true, Bool.false_and, Bool.and_false, Bool.true_or, Bool.or_true, Bool.false_or, Bool.or_false, Bool.not_true, Bool.not_false, Bool.not_not, true_and, and_true, false_and, and_false, not_true_eq_false, not_false_eq_true, eq_self, decide_true, decide_false, ne_eq, implies_true, forall_const, true_implies, false_implies, Bool.true_eq_false, Bool.false_eq_true, reduceCtorEq, List.map_cons, List.map_nil, List.all_cons, List.all_nil, List.length_cons, List.length_nil, List.length_map, List.length_append, List.nil_append, List.cons_append, List.set_cons_zero, List.set_cons_succ, List.set_nil, List.drop_zero, List.drop_succ_cons, List.drop_nil, List.take_zero, List.take_succ_cons, List.take_nil, Option.map_some, Option.map_none, Option.isSome_some, Nat.reduceEqDiff, Nat.reduceBEq, Nat.reduceGT, List.all_append, List.all_map, Function.comp_def, decide_eq_true_eq, Bool.and_eq_true, beq_self_eq_true, or_self, and_self, ite_true, ite_false, Nat.le_refl, Bool.not_eq_true, decide_not, Bool.not_eq_true', decide_eq_false_iff_not, Bool.not_eq_false, Bool.or_eq_true, if_true, if_false, ite_self, la_it, la_len, la_sure, la_ltA, la_lt1, la_all1, la_ro, la_take, la_cl, la_tm, la_r, la_sl, rc_len, rc_sure, rc_ltA, rc_lt1, rc_all1, rc_ro, rc_take, rc_sl, la_set, rc_set, zcL_eq, zcR_eq, la_allA, la_len7, all_tt, natInt, u_nthM, hF, c1']
    exact main _ (by omega) ht
end Go.Proofs.Ytchncgdjefbmfaa

namespace Go.Proofs.Ytchncgdjefbmfaa
open Go.RowKit
set_option linter.unusedVariables false
set_option linter.unusedSimpArgs false
set_option maxRecDepth 100000
theorem walk_RepliesOnce (W : World) (v0 : Value) (h0 : Arg Try.prog W 22 v0) (v1 : Value) (h1 : Arg Try.prog W 47 v1) :
    Calls Try.prog 6 #[v0, v1] W fun e W' => e = .returned (.bool true) ∧ Below W.heap.size W W' := by
  obtain ⟨l, ⟨hl, ht⟩, r0⟩ := arg_lasts h0
  obtain ⟨b, hb, r1⟩ := arg_txns h1
  exact run_tells (plenumlaw26_RepliesOnce_ok 16000001 [_, _] _ _ (once_s26 _ l b (by omega) hl (fun x hx => (ht x hx).1) (few_in ht) hb)) gok_nil (vs := [v0, v1]) rfl (reps2 r0 r1)
end Go.Proofs.Ytchncgdjefbmfaa
