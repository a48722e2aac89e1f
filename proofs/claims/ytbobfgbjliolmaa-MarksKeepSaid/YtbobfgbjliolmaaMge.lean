/-
  Texts laid together, part 5 of 5: laws of a walk over data, contracts of functions, each whole by itself.
-/
import Derived.Test.YtbobfgbjliolmaaMgd
namespace Go.Proofs.Ytbobfgbjliolmaa
open Go.RowKit
set_option linter.unusedVariables false
set_option linter.unusedSimpArgs false
set_option maxRecDepth 20000
theorem filter_one {P : Nat → Bool} {i : Nat} : ∀ {L : List Nat}, L.Nodup → i ∈ L → P i = false → (L.filter fun j => P j || decide (j = i)).length = (L.filter P).length + 1
  | [], _, h, _ => by cases h
  | a :: r, hn, h, hp => by
    obtain ⟨h1, h2⟩ := List.nodup_cons.1 hn
    by_cases e : a = i
    · subst e
      have hr : (r.filter fun j => P j || decide (j = a)) = r.filter P := List.filter_congr fun j hj => by
        have : j ≠ a := fun q => h1 (q ▸ hj)
        simp [this]
      rw [List.filter_cons_of_pos (by simp), List.filter_cons_of_neg (by simp [hp]), hr, List.length_cons]
    · have hi : i ∈ r := by
        rcases List.mem_cons.1 h with q | q
        · exact absurd q.symm e
        · exact q
      have := filter_one h2 hi hp
      by_cases hpa : P a = true
      · rw [List.filter_cons_of_pos (by simp [hpa]), List.filter_cons_of_pos hpa, List.length_cons, List.length_cons, this]
      · rw [List.filter_cons_of_neg (by simp [hpa, e]), List.filter_cons_of_neg hpa, this]
theorem cnt_or {w : Nat} {n : Int} {i : Int} (h0 : 0 ≤ i) (hn : i < n) (h64 : i < 64) (hb : w.testBit i.toNat = false) : cntS ((w ||| qb i) &&& allN n) = cntS (w &&& allN n) + 1 := by
  have e1 : cntS ((w ||| qb i) &&& allN n) = ((List.range 64).filter fun j => ((w &&& allN n).testBit j) || decide (j = i.toNat)).length := by
    unfold cntS setL
    congr 1
    refine List.filter_congr fun j hj => ?_
    have hj := List.mem_range.1 hj
    rw [Nat.testBit_and, Nat.testBit_and, bitw hj, allN_bit hj]
    by_cases q : j = i.toNat
    · have q1 : i = (j : Int) := by omega
      have q2 : (j : Int) < n := by omega
      rw [decide_eq_true q1, decide_eq_true q2, decide_eq_true q]; simp
    · have q1 : ¬ i = (j : Int) := by omega
      rw [decide_eq_false q1, decide_eq_false q]; simp
  rw [e1]
  exact filter_one List.nodup_range (List.mem_range.2 (by omega)) (by rw [Nat.testBit_and, hb]; rfl)
def mtB (x y : Mk) : Bool := decide (y.sq = x.sq) && decide (y.tm = x.tm)
theorem set_cnt {x : Mk} {n : Int} : ∀ (l : List Mk) (w : Nat), (∀ y ∈ l, mtB x y = true → (0 ≤ y.fr ∧ y.fr < n ∧ y.fr < 64) ∧ w.testBit y.fr.toNat = false) → l.Pairwise (fun a b => mtB x a = true → mtB x b = true → a.fr ≠ b.fr) →
    cntS (setM l x w &&& allN n) = cntS (w &&& allN n) + (l.filter (mtB x)).length
  | [], w, _, _ => rfl
  | y :: r, w, h, hp => by
    obtain ⟨h1, h2⟩ := List.pairwise_cons.1 hp
    unfold setM
    by_cases q : y.sq = x.sq ∧ y.tm = x.tm
    · have hm : mtB x y = true := by unfold mtB; simp [q.1, q.2]
      obtain ⟨⟨a1, a2, a3⟩, a4⟩ := h y (List.mem_cons_self ..) hm
      rw [if_pos q, set_cnt r (w ||| qb y.fr) (fun z hz hzm => ?_) h2, cnt_or a1 a2 a3 a4, List.filter_cons_of_pos hm, List.length_cons]
      · omega
      · obtain ⟨⟨b1, b2, b3⟩, b4⟩ := h z (List.mem_cons_of_mem _ hz) hzm
        refine ⟨⟨b1, b2, b3⟩, ?_⟩
        rw [bitw (by omega), b4]
        have := h1 z hz hm hzm
        have : ¬ y.fr = ((z.fr.toNat : Nat) : Int) := by omega
        rw [decide_eq_false this]; rfl
    · have hm : mtB x y = false := by
        unfold mtB
        cases hz : decide (y.sq = x.sq) <;> cases hz2 : decide (y.tm = x.tm) <;> simp_all
      rw [if_neg q, set_cnt r w (fun z hz => h z (List.mem_cons_of_mem _ hz)) h2, List.filter_cons_of_neg (by simp [hm])]
def Keep (n : Int) (s : Ms) : Prop := mayS s = true ∧ ∀ y ∈ s.l, y.fr < n
theorem keep_len {n : Int} {s : Ms} (hn : okN n = true) (h : Keep n s) : (s.l.length : Int) ≤ 4 * n := by
  obtain ⟨⟨⟨c1, c2, c3⟩, hok, hpw⟩, hf⟩ := (⟨mayS_iff.1 h.1, h.2⟩ : _ ∧ _)
  let code : Mk → Int := fun y => ((y.sq - s.low) / 4 - 1) * n + y.fr
  have hb : ∀ y ∈ s.l, 0 ≤ code y ∧ code y < 4 * n := by
    intro y hy
    have q1 := hok y hy
    have q2 := hf y hy
    unfold okM dueB inB at q1
    simp only [Bool.and_eq_true, decide_eq_true_eq] at q1
    show 0 ≤ ((y.sq - s.low) / 4 - 1) * n + y.fr ∧ ((y.sq - s.low) / 4 - 1) * n + y.fr < 4 * n
    rcases okN_iff.1 hn with rfl | rfl | rfl | rfl | rfl <;> omega
  have hm : s.l.Pairwise (fun a b => code a < code b) := by
    refine hpw.imp_of_mem fun {a b} ha hbm hab => ?_
    have p1 := hok a ha
    have p2 := hf a ha
    have q1 := hok b hbm
    have q2 := hf b hbm
    unfold okM dueB inB at p1 q1
    unfold aheadB at hab
    simp only [Bool.and_eq_true, Bool.or_eq_true, decide_eq_true_eq] at p1 q1 hab
    show ((a.sq - s.low) / 4 - 1) * n + a.fr < ((b.sq - s.low) / 4 - 1) * n + b.fr
    rcases okN_iff.1 hn with rfl | rfl | rfl | rfl | rfl <;> omega
  have hge : ∀ (i : Nat) (hi : i < s.l.length), (i : Int) ≤ code s.l[i] := by
    intro i
    induction i with
    | zero => intro hi; exact (hb _ (List.getElem_mem hi)).1
    | succ i ih =>
      intro hi
      have h1 := ih (by omega)
      have h2 := List.pairwise_iff_getElem.1 hm i (i + 1) (by omega) hi (by omega)
      omega
  rcases Nat.eq_zero_or_pos s.l.length with q | q
  · rw [q]
    rcases okN_iff.1 hn with rfl | rfl | rfl | rfl | rfl <;> simp
  · have h1 := hge (s.l.length - 1) (by omega)
    have h2 := (hb _ (List.getElem_mem (show s.l.length - 1 < s.l.length by omega))).2
    omega
theorem later_keep {n : Int} {s : Ms} {x : Mk} (h : Keep n s) (hin : inB s.low x.sq = true) (hd : dueB x.sq = true) (ht : numB x.tm = true) : Keep n ⟨x.sq, x.tm, laterL s.l x.sq⟩ := by
  obtain ⟨⟨c1, c2, c3⟩, hok, hpw⟩ := mayS_iff.1 h.1
  have hi := hin
  have hdd := hd
  unfold inB at hi
  unfold dueB at hdd
  simp only [Bool.and_eq_true, decide_eq_true_eq] at hi hdd
  refine ⟨mayS_iff.2 ⟨⟨?_, hdd.2, ht⟩, fun y hy => ?_, hpw.sublist List.filter_sublist⟩, fun y hy => h.2 y (List.mem_filter.1 hy).1⟩
  · unfold numB; simp; omega
  · obtain ⟨h1, h2⟩ := List.mem_filter.1 hy
    have h3 := hok y h1
    have h2 : x.sq < y.sq := of_decide_eq_true h2
    unfold okM inB at h3 ⊢
    simp only [Bool.and_eq_true, decide_eq_true_eq] at h3 ⊢
    refine ⟨h3.1, h3.2.1, h3.2.2.1, ⟨h2, by omega, h3.2.2.2.1.2.2⟩, h3.2.2.2.2⟩
theorem not_there {s : Ms} {x : Mk} (hm : mayS s = true) (hf : foundB s.l x = false) : ∀ y ∈ s.l, ¬ (y.sq = x.sq ∧ y.fr = x.fr) := by
  rintro y hy ⟨h1, h2⟩
  obtain ⟨k, hk, rfl⟩ := List.getElem_of_mem hy
  have hs := may_srt hm
  have hp : posN s.l x = k := by
    refine pos_at (Nat.le_of_lt hk) (fun i h hi => ?_) fun h => ?_
    · have := hs i k hk hi
      unfold aheadB at this ⊢
      rw [h1, h2] at this
      exact this
    · unfold aheadB
      rw [h1, h2]
      simp
  unfold foundB at hf
  rw [hp, List.getElem?_eq_getElem hk] at hf
  dsimp only at hf
  unfold ordI at hf
  rw [if_pos h1] at hf
  simp at hf
  omega
theorem ins_keep {n : Int} {s : Ms} {x : Mk} (h : Keep n s) (hn : okN n = true) (h0 : 0 ≤ x.fr) (hx : x.fr < n) (hin : inB s.low x.sq = true) (hd : dueB x.sq = true) (ht : numB x.tm = true) (hf : foundB s.l x = false) : Keep n ⟨s.low, s.root, s.l.take (posN s.l x) ++ x :: s.l.drop (posN s.l x)⟩ := by
  obtain ⟨⟨c1, c2, c3⟩, hok, hpw⟩ := mayS_iff.1 h.1
  have hnt := not_there h.1 hf
  have hn64 := okN_le hn
  have hsplit : s.l = s.l.take (posN s.l x) ++ s.l.drop (posN s.l x) := (List.take_append_drop _ _).symm
  have hlo : ∀ y ∈ s.l.take (posN s.l x), aheadB y x = true := by
    intro y hy
    obtain ⟨i, hi, rfl⟩ := List.getElem_of_mem hy
    rw [List.length_take] at hi
    rw [List.getElem_take]
    have := List.not_of_lt_findIdx (show i < posN s.l x by omega)
    simpa using this
  have hhi : ∀ y ∈ s.l.drop (posN s.l x), aheadB x y = true := by
    intro y hy
    have hys : y ∈ s.l := List.mem_of_mem_drop hy
    have hna : aheadB y x = false := by
      obtain ⟨i, hi, rfl⟩ := List.getElem_of_mem hy
      rw [List.length_drop] at hi
      rw [List.getElem_drop]
      have hpl : posN s.l x < s.l.length := by omega
      have h1 : aheadB s.l[posN s.l x] x = false := by
        have h1 : (!aheadB s.l[posN s.l x] x) = true := List.findIdx_getElem (w := hpl)
        rw [Bool.not_eq_true'] at h1
        exact h1
      rcases Nat.eq_zero_or_pos i with q | q
      · subst q; exact h1
      · cases hz : aheadB s.l[posN s.l x + i] x with
        | false => rfl
        | true =>
          rw [ahead_tr (may_srt h.1 (posN s.l x) (posN s.l x + i) (by omega) (by omega)) hz] at h1
          cases h1
    have := hnt y hys
    unfold aheadB at hna ⊢
    simp only [Bool.or_eq_false_iff, Bool.and_eq_false_iff, decide_eq_false_iff_not] at hna
    simp only [Bool.or_eq_true, Bool.and_eq_true, decide_eq_true_eq]
    omega
  have hmem : ∀ y, y ∈ s.l.take (posN s.l x) ++ x :: s.l.drop (posN s.l x) → y = x ∨ y ∈ s.l := by
    intro y hy
    rcases List.mem_append.1 hy with q | q
    · exact .inr (List.mem_of_mem_take q)
    · rcases List.mem_cons.1 q with q | q
      · exact .inl q
      · exact .inr (List.mem_of_mem_drop q)
  refine ⟨mayS_iff.2 ⟨⟨c1, c2, c3⟩, fun y hy => ?_, ?_⟩, fun y hy => ?_⟩
  · rcases hmem y hy with rfl | q
    · unfold okM
      simp only [Bool.and_eq_true, decide_eq_true_eq]
      exact ⟨h0, by omega, hd, hin, ht⟩
    · exact hok y q
  · dsimp only
    have hpw2 := hpw
    rw [hsplit] at hpw2
    obtain ⟨p1, p2, p3⟩ := List.pairwise_append.1 hpw2
    refine List.pairwise_append.2 ⟨p1, List.pairwise_cons.2 ⟨hhi, p2⟩, fun a ha b hb => ?_⟩
    rcases List.mem_cons.1 hb with rfl | hb
    · exact hlo a ha
    · exact p3 a ha b hb
  · rcases hmem y hy with rfl | q
    · exact hx
    · exact h.2 y q
def sameC (l : List Mk) (x : Mk) : Nat := (l.filter fun y => mtB x y && !decide (y.fr = x.fr)).length
theorem stab_cnt {n : Int} {s : Ms} {x : Mk} (h : Keep n s) (hn : okN n = true) (h0 : 0 ≤ x.fr) (hx : x.fr < n) (hin : inB s.low x.sq = true) (hd : dueB x.sq = true) (ht : numB x.tm = true) (hf : foundB s.l x = false) :
    stabB (s.l.take (posN s.l x) ++ x :: s.l.drop (posN s.l x)) x n = decide (2 * (fN n : Int) + 1 ≤ (sameC s.l x : Int) + 1) := by
  have hk := ins_keep h hn h0 hx hin hd ht hf
  obtain ⟨_, hok, hpw⟩ := mayS_iff.1 hk.1
  dsimp only at hok hpw
  have hn64 := okN_le hn
  have hc := set_cnt (x := x) (n := n) (s.l.take (posN s.l x) ++ x :: s.l.drop (posN s.l x)) 0 (fun y hy _ => by
    have q1 := hok y hy
    have q2 := hk.2 y hy
    unfold okM at q1
    simp only [Bool.and_eq_true, decide_eq_true_eq] at q1
    exact ⟨⟨q1.1, q2, q1.2.1⟩, by simp⟩) (hpw.imp fun {a b} hab ha hb => by
    unfold mtB at ha hb
    unfold aheadB at hab
    simp only [Bool.and_eq_true, Bool.or_eq_true, decide_eq_true_eq] at ha hb hab
    omega)
  have hz : cntS (0 &&& allN n) = 0 := by rw [Nat.zero_and]; decide +kernel
  have hmx : mtB x x = true := by unfold mtB; simp
  have hlen : ((s.l.take (posN s.l x) ++ x :: s.l.drop (posN s.l x)).filter (mtB x)).length = sameC s.l x + 1 := by
    have e : sameC s.l x = (s.l.filter (mtB x)).length := by
      unfold sameC
      congr 1
      refine List.filter_congr fun y hy => ?_
      have := not_there h.1 hf y hy
      cases hm : mtB x y with
      | false => rfl
      | true =>
        have hq : y.sq = x.sq := by unfold mtB at hm; simp at hm; exact hm.1
        have : ¬ y.fr = x.fr := fun q => this ⟨hq, q⟩
        simp [this]
    rw [e, List.filter_append, List.length_append, List.filter_cons_of_pos hmx, List.length_cons]
    conv => rhs; rw [← List.take_append_drop (posN s.l x) s.l, List.filter_append, List.length_append]
    omega
  unfold stabB
  rw [hn, hc, hz, hlen, Bool.true_and]
  congr 1
  simp
theorem keep_step {n : Int} {s : Ms} {x : Mk} (h : Keep n s) (he : (sayF s x n).2.2 = 0) :
    okN n = true ∧ Keep n (sayF s x n).1 ∧ (sayF s x n).2.1 = decide (2 * (fN n : Int) + 1 ≤ (sameC s.l x : Int) + 1) ∧ s.low ≤ (sayF s x n).1.low ∧ (sayF s x n).2.1 = decide (s.low < (sayF s x n).1.low) := by
  unfold sayF at he ⊢
  split at he
  case isFalse => simp at he
  rename_i hc
  obtain ⟨h1, h2, h3, h4, h5, h6⟩ := hc
  rw [if_pos ⟨h1, h2, h3, h4, h5, h6⟩]
  split at he
  case isFalse => simp at he
  rename_i hin
  rw [if_pos hin]
  split at he
  · exfalso
    have no : ∀ (p : Prop) [Decidable p], (if p then (16 : Int) else 23) ≠ 0 := fun p _ => by split <;> decide
    exact no _ he
  rename_i hf
  rw [if_neg hf]
  have hf : foundB s.l x = false := eq_false_of_ne_true hf
  have hk := ins_keep h h2 h3 h4 hin h6 h5 hf
  have hs := stab_cnt h h2 h3 h4 hin h6 h5 hf
  have hlow : s.low < x.sq := by unfold inB at hin; simp at hin; exact hin.1
  by_cases hst : stabB (s.l.take (posN s.l x) ++ x :: s.l.drop (posN s.l x)) x n = true
  · rw [if_pos hst]
    rw [hst] at hs
    have hkl := later_keep (x := x) hk hin h6 h5
    exact ⟨h2, hkl, hs, by dsimp only; omega, by simp [hlow]⟩
  · rw [if_neg hst]
    have hst : stabB (s.l.take (posN s.l x) ++ x :: s.l.drop (posN s.l x)) x n = false := eq_false_of_ne_true hst
    rw [hst] at hs
    exact ⟨h2, hk, hs, by dsimp only; omega, by simp⟩
theorem keep_zero {n : Int} : Keep n MZ := ⟨by kernel_rfl, fun y hy => by cases hy⟩
theorem keep_in {n : Int} {s : Ms} (h : Keep n s) : s.In := fun y hy => by
  have := ok_sm ((mayS_iff.1 h.1).2.1 y hy)
  have := this.2.2
  omega
theorem fN_ok {n : Int} (h : okN n = true) : n = 3 * (fN n : Int) + 1 := by
  unfold fN; rw [h]
  rcases okN_iff.1 h with rfl | rfl | rfl | rfl | rfl <;> decide
theorem rfaults_s (m : Nat) (n : Int) (hm : 6 < m) : plenumref05_Faults m (nA n) = some (nA (fN n), []) := by
  rw [plenumref05_Faults_eq]
  refine iter_ind (ι := {k : Nat // 1 ≤ k ∧ k ≤ 6 ∧ ∀ j : Nat, 1 ≤ j → j < k → ¬ n = 3 * (j : Int) + 1}) (fun k => ⟨[], [(0, nA n), (3, nA k.1)]⟩) (fun k => 6 - k.1) (fun _ => some (nA (fN n), [])) ?_ ⟨1, by omega, by omega, fun j h1 h2 => by omega⟩ (by dsimp only; omega)
  rintro ⟨k, hk1, hk, hall⟩ kc hkc
  dsimp only at hkc ⊢
  rw [plenumref05_Faults_b1_eq]
  by_cases hlt : k ≤ 5
  · have hlt' : (k : Int) ≤ 5 := by omega
    by_cases he : n = 3 * (k : Int) + 1
    · have hf : (fN n : Int) = k := by
        have ho : okN n = true := okN_iff.2 (by omega)
        have := fN_ok ho
        omega
      simp (config := {maxSteps := 4000000, implicitDefEqProofs := false}) (disch := omega) only [go_sem, ↓reduceIte, Nat.reduceAdd, Nat.reduceSub, Nat.reduceMul, Nat.reduceLeDiff, Nat.reduceLT, Int.reduceEq, Int.reduceNe, Int.reduceLT, Int.reduceLE, Int.reduceAdd, Int.reduceSub, Int.reduceMul, Int.reduceNeg, Nat.zero_add, Nat.add_zero, Nat.mul_one, Int.toNat_natCast, Int.natCast_zero, Int.cast_ofNat_Int, or_false, false_or, or_true, true_or, Int.reduceToNat, Nat.sub_zero, Int.natCast_nonneg, Int.toNat_zero, Bool.true_and, Bool.and_true, Bool.false_and, Bool.and_false, Bool.true_or, Bool.or_true, Bool.false_or, Bool.or_false, Bool.not_true, Bool.not_false, Bool.not_not, true_and, and_true, false_and, and_false, not_true_eq_false, not_false_eq_true, eq_self, decide_true, decide_false, ne_eq, implies_true, forall_const, true_implies, false_implies, Bool.true_eq_false, Bool.false_eq_true, reduceCtorEq, List.map_cons, List.map_nil, List.all_cons, List.all_nil, List.length_cons, List.length_nil, List.length_map, List.length_append, List.nil_append, List.cons_append, List.set_cons_zero, List.set_cons_succ, List.set_nil, List.drop_zero, List.drop_succ_cons, List.drop_nil, List.take_zero, List.take_succ_cons, List.take_nil, Option.map_some, Option.map_none, Option.isSome_some, Nat.reduceEqDiff, Nat.reduceBEq, Nat.reduceGT, List.all_append, List.all_map, Function.comp_def, decide_eq_true_eq, Bool.and_eq_true, beq_self_eq_true, or_self, and_self, ite_true, ite_false, Nat.le_refl, Bool.not_eq_true, decide_not, Bool.not_eq_true', decide_eq_false_iff_not, Bool.not_eq_false, Bool.or_eq_true, if_true, if_false, ite_self, hlt', w_i64, he]
      rw [← he, hf]
    · have hs := hkc ⟨k + 1, by omega, by omega, fun j h1 h2 => by
        by_cases e : j = k
        · subst e; exact he
        · exact hall j h1 (by omega)⟩ (by dsimp only; omega)
      simp (config := {maxSteps := 4000000, implicitDefEqProofs := false}) (disch := omega) only [go_sem, ↓reduceIte, Nat.reduceAdd, Nat.reduceSub, Nat.reduceMul, Nat.reduceLeDiff, Nat.reduceLT, Int.reduceEq, Int.reduceNe, Int.reduceLT, Int.reduceLE, Int.reduceAdd, Int.reduceSub, Int.reduceMul, Int.reduceNeg, Nat.zero_add, Nat.add_zero, Nat.mul_one, Int.toNat_natCast, Int.natCast_zero, Int.cast_ofNat_Int, or_false, false_or, or_true, true_or, Int.reduceToNat, Nat.sub_zero, Int.natCast_nonneg, Int.toNat_zero, Bool.true_and, Bool.and_true, Bool.false_and, Bool.and_false, Bool.true_or, Bool.or_true, Bool.false_or, Bool.or_false, Bool.not_true, Bool.not_false, Bool.not_not, true_and, and_true, false_and, and_false, not_true_eq_false, not_false_eq_true, eq_self, decide_true, decide_false, ne_eq, implies_true, forall_const, true_implies, false_implies, Bool.true_eq_false, Bool.false_eq_true, reduceCtorEq, List.map_cons, List.map_nil, List.all_cons, List.all_nil, List.length_cons, List.length_nil, List.length_map, List.length_append, List.nil_append, List.cons_append, List.set_cons_zero, List.set_cons_succ, List.set_nil, List.drop_zero, List.drop_succ_cons, List.drop_nil, List.take_zero, List.take_succ_cons, List.take_nil, Option.map_some, Option.map_none, Option.isSome_some, Nat.reduceEqDiff, Nat.reduceBEq, Nat.reduceGT, List.all_append, List.all_map, Function.comp_def, decide_eq_true_eq, Bool.and_eq_true, beq_self_eq_true, or_self, and_self, ite_true, ite_false, Nat.le_refl, Bool.not_eq_true, decide_not, Bool.not_eq_true', decide_eq_false_iff_not, Bool.not_eq_false, Bool.or_eq_true, if_true, if_false, ite_self, hlt', w_i64, he]
      exact hs
  · have hlt' : ¬ (k : Int) ≤ 5 := by omega
    have hf : fN n = 0 := by
      unfold fN
      rw [if_neg]
      intro ho
      have h1 := hall 1 (by omega) (by omega)
      have h2 := hall 2 (by omega) (by omega)
      have h3 := hall 3 (by omega) (by omega)
      have h4 := hall 4 (by omega) (by omega)
      have h5 := hall 5 (by omega) (by omega)
      rcases okN_iff.1 ho with q | q | q | q | q <;> omega
    simp (config := {maxSteps := 4000000, implicitDefEqProofs := false}) only [go_sem, ↓reduceIte, Nat.reduceAdd, Nat.reduceSub, Nat.reduceMul, Nat.reduceLeDiff, Nat.reduceLT, Int.reduceEq, Int.reduceNe, Int.reduceLT, Int.reduceLE, Int.reduceAdd, Int.reduceSub, Int.reduceMul, Int.reduceNeg, Nat.zero_add, Nat.add_zero, Nat.mul_one, Int.toNat_natCast, Int.natCast_zero, Int.cast_ofNat_Int, or_false, false_or, or_true, true_or, Int.reduceToNat, Nat.sub_zero, Int.natCast_nonneg, Int.toNat_zero, Bool.true_and, Bool.and_true, Bool.false_and, Bool.and_false, Bool.true_or, Bool.or_true, Bool.false_or, Bool.or_false, Bool.not_true, Bool.not_false, Bool.not_not, true_and, and_true, false_and, and_false, not_true_eq_false, not_false_eq_true, eq_self, decide_true, decide_false, ne_eq, implies_true, forall_const, true_implies, false_implies, Bool.true_eq_false, Bool.false_eq_true, reduceCtorEq, List.map_cons, List.map_nil, List.all_cons, List.all_nil, List.length_cons, List.length_nil, List.length_map, List.length_append, List.nil_append, List.cons_append, List.set_cons_zero, List.set_cons_succ, List.set_nil, List.drop_zero, List.drop_succ_cons, List.drop_nil, List.take_zero, List.take_succ_cons, List.take_nil, Option.map_some, Option.map_none, Option.isSome_some, Nat.reduceEqDiff, Nat.reduceBEq, Nat.reduceGT, List.all_append, List.all_map, Function.comp_def, decide_eq_true_eq, Bool.and_eq_true, beq_self_eq_true, or_self, and_self, ite_true, ite_false, Nat.le_refl, Bool.not_eq_true, decide_not, Bool.not_eq_true', decide_eq_false_iff_not, Bool.not_eq_false, Bool.or_eq_true, if_true, if_false, ite_self, hlt']
    rw [plenumref05_Faults_r1_eq, hf]
    simp (config := {maxSteps := 4000000, implicitDefEqProofs := false}) only [go_sem, ↓reduceIte, Nat.reduceAdd, Nat.reduceSub, Nat.reduceMul, Nat.reduceLeDiff, Nat.reduceLT, Int.reduceEq, Int.reduceNe, Int.reduceLT, Int.reduceLE, Int.reduceAdd, Int.reduceSub, Int.reduceMul, Int.reduceNeg, Nat.zero_add, Nat.add_zero, Nat.mul_one, Int.toNat_natCast, Int.natCast_zero, Int.cast_ofNat_Int, or_false, false_or, or_true, true_or, Int.reduceToNat, Nat.sub_zero, Int.natCast_nonneg, Int.toNat_zero, Bool.true_and, Bool.and_true, Bool.false_and, Bool.and_false, Bool.true_or, Bool.or_true, Bool.false_or, Bool.or_false, Bool.not_true, Bool.not_false, Bool.not_not, true_and, and_true, false_and, and_false, not_true_eq_false, not_false_eq_true, eq_self, decide_true, decide_false, ne_eq, implies_true, forall_const, true_implies, false_implies, Bool.true_eq_false, Bool.false_eq_true, reduceCtorEq, List.map_cons, List.map_nil, List.all_cons, List.all_nil, List.length_cons, List.length_nil, List.length_map, List.length_append, List.nil_append, List.cons_append, List.set_cons_zero, List.set_cons_succ, List.set_nil, List.drop_zero, List.drop_succ_cons, List.drop_nil, List.take_zero, List.take_succ_cons, List.take_nil, Option.map_some, Option.map_none, Option.isSome_some, Nat.reduceEqDiff, Nat.reduceBEq, Nat.reduceGT, List.all_append, List.all_map, Function.comp_def, decide_eq_true_eq, Bool.and_eq_true, beq_self_eq_true, or_self, and_self, ite_true, ite_false, Nat.le_refl, Bool.not_eq_true, decide_not, Bool.not_eq_true', decide_eq_false_iff_not, Bool.not_eq_false, Bool.or_eq_true, if_true, if_false, ite_self]
theorem zs_low {R : Type} {K1 : AV → Option R} : nthE zc_api_Marks 0 K1 = K1 (nA MZ.low) := _root_.id rfl
theorem zs_l {R : Type} {K1 : AV → Option R} : nthE zc_api_Marks 2 K1 = K1 (V (.slice none 0 0)) := _root_.id rfl
theorem keep_round (m : Nat) (n : Int) (l : List Mk) (k : Nat) (s : Ms) (c : List AV) (hm : 2000 < m) (hkl : k < l.length) (hk : k < 150) (hq : ∀ x ∈ l, x.sq < 9223372036854775808) (hK : Keep n s) (hsl : (s.l.length : Int) ≤ 64) (hc : c = MC s ∨ (c = zc_api_Marks ∧ s = MZ))
    (kx : KO (AV × List AObj)) (kc : ASt → RO) (hno : kc ⟨[⟨1, ty_api_Marks, 0, c⟩], [(0, nA n), (1, SL (l.map mE)), (5, OP 0 0), (6, nA (fN n)), (7, nA (k + 1 : Nat))]⟩ = some (bA true, []))
    (hyes : ∀ t : Ms, Keep n t → (t.l.length : Int) ≤ 64 → kc ⟨[⟨1, ty_api_Marks, 0, MC t⟩], [(0, nA n), (1, SL (l.map mE)), (5, OP 0 0), (6, nA (fN n)), (7, nA (k + 1 : Nat))]⟩ = some (bA true, [])) :
    plenumlaw30_MarksKeep_r3 m 1 kc kx ⟨[⟨1, ty_api_Marks, 0, c⟩], [(0, nA n), (1, SL (l.map mE)), (5, OP 0 0), (6, nA (fN n)), (7, nA k)]⟩ = some (bA true, []) := by
  have hkl' : (k : Int) < (l.length : Int) := by omega
  have hS := say_s m s l[k] n (by omega) (by omega) (keep_in hK) (hq _ (List.getElem_mem hkl))
  have hst := fun (e : (sayF s l[k] n).2.2 = 0) => keep_step hK e
  rw [ME_it, mE_it, ME_it] at hS
  generalize hF : sayF s l[k] n = F at hS hst
  obtain ⟨x', st, e⟩ := F
  dsimp only at hS hst
  generalize hx : l[k] = x at hS hst
  by_cases he : e = 0
  case neg =>
    rcases hc with rfl | ⟨rfl, rfl⟩
    · rw [plenumlaw30_MarksKeep_r3_eq]
      simp (config := {maxSteps := 4000000, implicitDefEqProofs := false}) (disch := omega) only [go_sem, ↓reduceIte, Nat.reduceAdd, Nat.reduceSub, Nat.reduceMul, Nat.reduceLeDiff, Nat.reduceLT, Int.reduceEq, Int.reduceNe, Int.reduceLT, Int.reduceLE, Int.reduceAdd, Int.reduceSub, Int.reduceMul, Int.reduceNeg, Nat.zero_add, Nat.add_zero, Nat.mul_one, Int.toNat_natCast, Int.natCast_zero, Int.cast_ofNat_Int, or_false, false_or, or_true, true_or, Int.reduceToNat, Nat.sub_zero, Int.natCast_nonneg, Int.toNat_zero, Bool.true_and, Bool.and_true, Bool.false_and, Bool.and_false, Bool.true_or, Bool.or_true, Bool.false_or, Bool.or_false, Bool.not_true, Bool.not_false, Bool.not_not, true_and, and_true, false_and, and_false, not_true_eq_false, not_false_eq_true, eq_self, decide_true, decide_false, ne_eq, implies_true, forall_const, true_implies, false_implies, Bool.true_eq_false, Bool.false_eq_true, reduceCtorEq, List.map_cons, List.map_nil, List.all_cons, List.all_nil, List.length_cons, List.length_nil, List.length_map, List.length_append, List.nil_append, List.cons_append, List.set_cons_zero, List.set_cons_succ, List.set_nil, List.drop_zero, List.drop_succ_cons, List.drop_nil, List.take_zero, List.take_succ_cons, List.take_nil, Option.map_some, Option.map_none, Option.isSome_some, Nat.reduceEqDiff, Nat.reduceBEq, Nat.reduceGT, List.all_append, List.all_map, Function.comp_def, decide_eq_true_eq, Bool.and_eq_true, beq_self_eq_true, or_self, and_self, ite_true, ite_false, Nat.le_refl, Bool.not_eq_true, decide_not, Bool.not_eq_true', decide_eq_false_iff_not, Bool.not_eq_false, Bool.or_eq_true, if_true, if_false, ite_self, mE_it, mc_len, mc_sure, mc_ltA, mc_lt1, mc_all1, mc_ro, mc_take, mc_sl, mc_set, mc_fr, mc_sq, mc_tm, zcM_eq, ms_len, ms_sure, ms_ltA, ms_lt1, ms_all1, ms_ro, ms_take, ms_set, ms_low, ms_root, ms_l, zs_len, zs_sure, zs_ltA, zs_ro, zs_set, zs_set2, zs_take, zs_b, me_ltA, me_len3, natInt, u_nthM, all_tt, zs_lt, zs_all1, hkl', hx, hS, he, w_i64, plenumlaw30_MarksKeep_r4_eq]
      exact hno
    · rw [plenumlaw30_MarksKeep_r3_eq]
      simp (config := {maxSteps := 4000000, implicitDefEqProofs := false}) (disch := omega) only [go_sem, ↓reduceIte, Nat.reduceAdd, Nat.reduceSub, Nat.reduceMul, Nat.reduceLeDiff, Nat.reduceLT, Int.reduceEq, Int.reduceNe, Int.reduceLT, Int.reduceLE, Int.reduceAdd, Int.reduceSub, Int.reduceMul, Int.reduceNeg, Nat.zero_add, Nat.add_zero, Nat.mul_one, Int.toNat_natCast, Int.natCast_zero, Int.cast_ofNat_Int, or_false, false_or, or_true, true_or, Int.reduceToNat, Nat.sub_zero, Int.natCast_nonneg, Int.toNat_zero, Bool.true_and, Bool.and_true, Bool.false_and, Bool.and_false, Bool.true_or, Bool.or_true, Bool.false_or, Bool.or_false, Bool.not_true, Bool.not_false, Bool.not_not, true_and, and_true, false_and, and_false, not_true_eq_false, not_false_eq_true, eq_self, decide_true, decide_false, ne_eq, implies_true, forall_const, true_implies, false_implies, Bool.true_eq_false, Bool.false_eq_true, reduceCtorEq, List.map_cons, List.map_nil, List.all_cons, List.all_nil, List.length_cons, List.length_nil, List.length_map, List.length_append, List.nil_append, List.cons_append, List.set_cons_zero, List.set_cons_succ, List.set_nil, List.drop_zero, List.drop_succ_cons, List.drop_nil, List.take_zero, List.take_succ_cons, List.take_nil, Option.map_some, Option.map_none, Option.isSome_some, Nat.reduceEqDiff, Nat.reduceBEq, Nat.reduceGT, List.all_append, List.all_map, Function.comp_def, decide_eq_true_eq, Bool.and_eq_true, beq_self_eq_true, or_self, and_self, ite_true, ite_false, Nat.le_refl, Bool.not_eq_true, decide_not, Bool.not_eq_true', decide_eq_false_iff_not, Bool.not_eq_false, Bool.or_eq_true, if_true, if_false, ite_self, mE_it, mc_len, mc_sure, mc_ltA, mc_lt1, mc_all1, mc_ro, mc_take, mc_sl, mc_set, mc_fr, mc_sq, mc_tm, zcM_eq, ms_len, ms_sure, ms_ltA, ms_lt1, ms_all1, ms_ro, ms_take, ms_set, ms_low, ms_root, ms_l, zs_len, zs_sure, zs_ltA, zs_ro, zs_set, zs_set2, zs_take, zs_b, me_ltA, me_len3, natInt, u_nthM, all_tt, zs_lt, zs_all1, hkl', hx, hS, he, w_i64, plenumlaw30_MarksKeep_r4_eq]
      exact hno
  subst he
  obtain ⟨h1, h2, h3, h4, h5⟩ := hst rfl
  have hlen := keep_len h1 h2
  have hn64 := okN_le h1
  have hn0 : 4 ≤ n := by have := okN_iff.1 h1; omega
  have hfo := fN_ok h1
  have hf0 : ¬ (fN n : Int) = 0 := by omega
  have hn16 : n ≤ 16 := by have := okN_iff.1 h1; omega
  have hM := may_s m x' (by omega) (by omega) (by omega) (keep_in h2)
  rw [h2.1, ME_it] at hM
  have fin : ∀ c', (c' = MC s ∨ (c' = zc_api_Marks ∧ s = MZ)) → plenumlaw30_MarksKeep_r5 m 1 kc kx ⟨[⟨1, ty_api_Marks, 0, c'⟩, ⟨1, ty_api_Marks, 0, MC x'⟩], [(0, nA n), (1, SL (l.map mE)), (5, OP 0 0), (6, nA (fN n)), (7, nA k), (8, OP 1 0), (9, bA st), (11, nA (sameC s.l x))]⟩ = some (bA true, []) := by
    intro c' hc'
    have hyy := hyes x' h2 (by omega)
    have hsc : (sameC s.l x : Int) ≤ 64 := by
      have : sameC s.l x ≤ s.l.length := List.length_filter_le ..
      omega
    have h4' : ¬ x'.low < s.low := by omega
    have hl4 : ¬ 4 * n < (x'.l.length : Int) := by omega
    rcases hc' with rfl | ⟨rfl, rfl⟩
    · cases st with
      | true =>
        have g1 : 2 * (fN n : Int) + 1 ≤ (sameC s.l x : Int) + 1 := of_decide_eq_true h3.symm
        have g2 : s.low < x'.low := of_decide_eq_true h5.symm
        rw [plenumlaw30_MarksKeep_r5_eq]
        simp (config := {maxSteps := 4000000, implicitDefEqProofs := false}) (disch := omega) only [go_sem, ↓reduceIte, Nat.reduceAdd, Nat.reduceSub, Nat.reduceMul, Nat.reduceLeDiff, Nat.reduceLT, Int.reduceEq, Int.reduceNe, Int.reduceLT, Int.reduceLE, Int.reduceAdd, Int.reduceSub, Int.reduceMul, Int.reduceNeg, Nat.zero_add, Nat.add_zero, Nat.mul_one, Int.toNat_natCast, Int.natCast_zero, Int.cast_ofNat_Int, or_false, false_or, or_true, true_or, Int.reduceToNat, Nat.sub_zero, Int.natCast_nonneg, Int.toNat_zero, Bool.true_and, Bool.and_true, Bool.false_and, Bool.and_false, Bool.true_or, Bool.or_true, Bool.false_or, Bool.or_false, Bool.not_true, Bool.not_false, Bool.not_not, true_and, and_true, false_and, and_false, not_true_eq_false, not_false_eq_true, eq_self, decide_true, decide_false, ne_eq, implies_true, forall_const, true_implies, false_implies, Bool.true_eq_false, Bool.false_eq_true, reduceCtorEq, List.map_cons, List.map_nil, List.all_cons, List.all_nil, List.length_cons, List.length_nil, List.length_map, List.length_append, List.nil_append, List.cons_append, List.set_cons_zero, List.set_cons_succ, List.set_nil, List.drop_zero, List.drop_succ_cons, List.drop_nil, List.take_zero, List.take_succ_cons, List.take_nil, Option.map_some, Option.map_none, Option.isSome_some, Nat.reduceEqDiff, Nat.reduceBEq, Nat.reduceGT, List.all_append, List.all_map, Function.comp_def, decide_eq_true_eq, Bool.and_eq_true, beq_self_eq_true, or_self, and_self, ite_true, ite_false, Nat.le_refl, Bool.not_eq_true, decide_not, Bool.not_eq_true', decide_eq_false_iff_not, Bool.not_eq_false, Bool.or_eq_true, if_true, if_false, ite_self, mE_it, mc_len, mc_sure, mc_ltA, mc_lt1, mc_all1, mc_ro, mc_take, mc_sl, mc_set, mc_fr, mc_sq, mc_tm, zcM_eq, ms_len, ms_sure, ms_ltA, ms_lt1, ms_all1, ms_ro, ms_take, ms_set, ms_low, ms_root, ms_l, zs_len, zs_sure, zs_ltA, zs_ro, zs_set, zs_set2, zs_take, zs_b, me_ltA, me_len3, natInt, u_nthM, all_tt, zs_lt, zs_all1, zs_low, hf0, g1, g2, h4', hl4, hM, w_i64, plenumlaw30_MarksKeep_r7_eq, plenumlaw30_MarksKeep_r8_eq, plenumlaw30_MarksKeep_r10_eq, plenumlaw30_MarksKeep_r12_eq]
        exact hyy
      | false =>
        have g1 : ¬ 2 * (fN n : Int) + 1 ≤ (sameC s.l x : Int) + 1 := of_decide_eq_false h3.symm
        have g2 : ¬ s.low < x'.low := of_decide_eq_false h5.symm
        rw [plenumlaw30_MarksKeep_r5_eq]
        simp (config := {maxSteps := 4000000, implicitDefEqProofs := false}) (disch := omega) only [go_sem, ↓reduceIte, Nat.reduceAdd, Nat.reduceSub, Nat.reduceMul, Nat.reduceLeDiff, Nat.reduceLT, Int.reduceEq, Int.reduceNe, Int.reduceLT, Int.reduceLE, Int.reduceAdd, Int.reduceSub, Int.reduceMul, Int.reduceNeg, Nat.zero_add, Nat.add_zero, Nat.mul_one, Int.toNat_natCast, Int.natCast_zero, Int.cast_ofNat_Int, or_false, false_or, or_true, true_or, Int.reduceToNat, Nat.sub_zero, Int.natCast_nonneg, Int.toNat_zero, Bool.true_and, Bool.and_true, Bool.false_and, Bool.and_false, Bool.true_or, Bool.or_true, Bool.false_or, Bool.or_false, Bool.not_true, Bool.not_false, Bool.not_not, true_and, and_true, false_and, and_false, not_true_eq_false, not_false_eq_true, eq_self, decide_true, decide_false, ne_eq, implies_true, forall_const, true_implies, false_implies, Bool.true_eq_false, Bool.false_eq_true, reduceCtorEq, List.map_cons, List.map_nil, List.all_cons, List.all_nil, List.length_cons, List.length_nil, List.length_map, List.length_append, List.nil_append, List.cons_append, List.set_cons_zero, List.set_cons_succ, List.set_nil, List.drop_zero, List.drop_succ_cons, List.drop_nil, List.take_zero, List.take_succ_cons, List.take_nil, Option.map_some, Option.map_none, Option.isSome_some, Nat.reduceEqDiff, Nat.reduceBEq, Nat.reduceGT, List.all_append, List.all_map, Function.comp_def, decide_eq_true_eq, Bool.and_eq_true, beq_self_eq_true, or_self, and_self, ite_true, ite_false, Nat.le_refl, Bool.not_eq_true, decide_not, Bool.not_eq_true', decide_eq_false_iff_not, Bool.not_eq_false, Bool.or_eq_true, if_true, if_false, ite_self, mE_it, mc_len, mc_sure, mc_ltA, mc_lt1, mc_all1, mc_ro, mc_take, mc_sl, mc_set, mc_fr, mc_sq, mc_tm, zcM_eq, ms_len, ms_sure, ms_ltA, ms_lt1, ms_all1, ms_ro, ms_take, ms_set, ms_low, ms_root, ms_l, zs_len, zs_sure, zs_ltA, zs_ro, zs_set, zs_set2, zs_take, zs_b, me_ltA, me_len3, natInt, u_nthM, all_tt, zs_lt, zs_all1, zs_low, hf0, g1, g2, h4', hl4, hM, w_i64, plenumlaw30_MarksKeep_r7_eq, plenumlaw30_MarksKeep_r8_eq, plenumlaw30_MarksKeep_r10_eq, plenumlaw30_MarksKeep_r12_eq]
        exact hyy
    · cases st with
      | true =>
        have g1 : 2 * (fN n : Int) + 1 ≤ (sameC MZ.l x : Int) + 1 := of_decide_eq_true h3.symm
        have g2 : MZ.low < x'.low := of_decide_eq_true h5.symm
        rw [plenumlaw30_MarksKeep_r5_eq]
        simp (config := {maxSteps := 4000000, implicitDefEqProofs := false}) (disch := omega) only [go_sem, ↓reduceIte, Nat.reduceAdd, Nat.reduceSub, Nat.reduceMul, Nat.reduceLeDiff, Nat.reduceLT, Int.reduceEq, Int.reduceNe, Int.reduceLT, Int.reduceLE, Int.reduceAdd, Int.reduceSub, Int.reduceMul, Int.reduceNeg, Nat.zero_add, Nat.add_zero, Nat.mul_one, Int.toNat_natCast, Int.natCast_zero, Int.cast_ofNat_Int, or_false, false_or, or_true, true_or, Int.reduceToNat, Nat.sub_zero, Int.natCast_nonneg, Int.toNat_zero, Bool.true_and, Bool.and_true, Bool.false_and, Bool.and_false, Bool.true_or, Bool.or_true, Bool.false_or, Bool.or_false, Bool.not_true, Bool.not_false, Bool.not_not, true_and, and_true, false_and, and_false, not_true_eq_false, not_false_eq_true, eq_self, decide_true, decide_false, ne_eq, implies_true, forall_const, true_implies, false_implies, Bool.true_eq_false, Bool.false_eq_true, reduceCtorEq, List.map_cons, List.map_nil, List.all_cons, List.all_nil, List.length_cons, List.length_nil, List.length_map, List.length_append, List.nil_append, List.cons_append, List.set_cons_zero, List.set_cons_succ, List.set_nil, List.drop_zero, List.drop_succ_cons, List.drop_nil, List.take_zero, List.take_succ_cons, List.take_nil, Option.map_some, Option.map_none, Option.isSome_some, Nat.reduceEqDiff, Nat.reduceBEq, Nat.reduceGT, List.all_append, List.all_map, Function.comp_def, decide_eq_true_eq, Bool.and_eq_true, beq_self_eq_true, or_self, and_self, ite_true, ite_false, Nat.le_refl, Bool.not_eq_true, decide_not, Bool.not_eq_true', decide_eq_false_iff_not, Bool.not_eq_false, Bool.or_eq_true, if_true, if_false, ite_self, mE_it, mc_len, mc_sure, mc_ltA, mc_lt1, mc_all1, mc_ro, mc_take, mc_sl, mc_set, mc_fr, mc_sq, mc_tm, zcM_eq, ms_len, ms_sure, ms_ltA, ms_lt1, ms_all1, ms_ro, ms_take, ms_set, ms_low, ms_root, ms_l, zs_len, zs_sure, zs_ltA, zs_ro, zs_set, zs_set2, zs_take, zs_b, me_ltA, me_len3, natInt, u_nthM, all_tt, zs_lt, zs_all1, zs_low, hf0, g1, g2, h4', hl4, hM, w_i64, plenumlaw30_MarksKeep_r7_eq, plenumlaw30_MarksKeep_r8_eq, plenumlaw30_MarksKeep_r10_eq, plenumlaw30_MarksKeep_r12_eq]
        exact hyy
      | false =>
        have g1 : ¬ 2 * (fN n : Int) + 1 ≤ (sameC MZ.l x : Int) + 1 := of_decide_eq_false h3.symm
        have g2 : ¬ MZ.low < x'.low := of_decide_eq_false h5.symm
        rw [plenumlaw30_MarksKeep_r5_eq]
        simp (config := {maxSteps := 4000000, implicitDefEqProofs := false}) (disch := omega) only [go_sem, ↓reduceIte, Nat.reduceAdd, Nat.reduceSub, Nat.reduceMul, Nat.reduceLeDiff, Nat.reduceLT, Int.reduceEq, Int.reduceNe, Int.reduceLT, Int.reduceLE, Int.reduceAdd, Int.reduceSub, Int.reduceMul, Int.reduceNeg, Nat.zero_add, Nat.add_zero, Nat.mul_one, Int.toNat_natCast, Int.natCast_zero, Int.cast_ofNat_Int, or_false, false_or, or_true, true_or, Int.reduceToNat, Nat.sub_zero, Int.natCast_nonneg, Int.toNat_zero, Bool.true_and, Bool.and_true, Bool.false_and, Bool.and_false, Bool.true_or, Bool.or_true, Bool.false_or, Bool.or_false, Bool.not_true, Bool.not_false, Bool.not_not, true_and, and_true, false_and, and_false, not_true_eq_false, not_false_eq_true, eq_self, decide_true, decide_false, ne_eq, implies_true, forall_const, true_implies, false_implies, Bool.true_eq_false, Bool.false_eq_true, reduceCtorEq, List.map_cons, List.map_nil, List.all_cons, List.all_nil, List.length_cons, List.length_nil, List.length_map, List.length_append, List.nil_append, List.cons_append, List.set_cons_zero, List.set_cons_succ, List.set_nil, List.drop_zero, List.drop_succ_cons, List.drop_nil, List.take_zero, List.take_succ_cons, List.take_nil, Option.map_some, Option.map_none, Option.isSome_some, Nat.reduceEqDiff, Nat.reduceBEq, Nat.reduceGT, List.all_append, List.all_map, Function.comp_def, decide_eq_true_eq, Bool.and_eq_true, beq_self_eq_true, or_self, and_self, ite_true, ite_false, Nat.le_refl, Bool.not_eq_true, decide_not, Bool.not_eq_true', decide_eq_false_iff_not, Bool.not_eq_false, Bool.or_eq_true, if_true, if_false, ite_self, mE_it, mc_len, mc_sure, mc_ltA, mc_lt1, mc_all1, mc_ro, mc_take, mc_sl, mc_set, mc_fr, mc_sq, mc_tm, zcM_eq, ms_len, ms_sure, ms_ltA, ms_lt1, ms_all1, ms_ro, ms_take, ms_set, ms_low, ms_root, ms_l, zs_len, zs_sure, zs_ltA, zs_ro, zs_set, zs_set2, zs_take, zs_b, me_ltA, me_len3, natInt, u_nthM, all_tt, zs_lt, zs_all1, zs_low, hf0, g1, g2, h4', hl4, hM, w_i64, plenumlaw30_MarksKeep_r7_eq, plenumlaw30_MarksKeep_r8_eq, plenumlaw30_MarksKeep_r10_eq, plenumlaw30_MarksKeep_r12_eq]
        exact hyy
  rcases hc with rfl | ⟨rfl, rfl⟩
  · have fin := fin _ (.inl rfl)
    rw [plenumlaw30_MarksKeep_r3_eq]
    simp (config := {maxSteps := 4000000, implicitDefEqProofs := false}) (disch := omega) only [go_sem, ↓reduceIte, Nat.reduceAdd, Nat.reduceSub, Nat.reduceMul, Nat.reduceLeDiff, Nat.reduceLT, Int.reduceEq, Int.reduceNe, Int.reduceLT, Int.reduceLE, Int.reduceAdd, Int.reduceSub, Int.reduceMul, Int.reduceNeg, Nat.zero_add, Nat.add_zero, Nat.mul_one, Int.toNat_natCast, Int.natCast_zero, Int.cast_ofNat_Int, or_false, false_or, or_true, true_or, Int.reduceToNat, Nat.sub_zero, Int.natCast_nonneg, Int.toNat_zero, Bool.true_and, Bool.and_true, Bool.false_and, Bool.and_false, Bool.true_or, Bool.or_true, Bool.false_or, Bool.or_false, Bool.not_true, Bool.not_false, Bool.not_not, true_and, and_true, false_and, and_false, not_true_eq_false, not_false_eq_true, eq_self, decide_true, decide_false, ne_eq, implies_true, forall_const, true_implies, false_implies, Bool.true_eq_false, Bool.false_eq_true, reduceCtorEq, List.map_cons, List.map_nil, List.all_cons, List.all_nil, List.length_cons, List.length_nil, List.length_map, List.length_append, List.nil_append, List.cons_append, List.set_cons_zero, List.set_cons_succ, List.set_nil, List.drop_zero, List.drop_succ_cons, List.drop_nil, List.take_zero, List.take_succ_cons, List.take_nil, Option.map_some, Option.map_none, Option.isSome_some, Nat.reduceEqDiff, Nat.reduceBEq, Nat.reduceGT, List.all_append, List.all_map, Function.comp_def, decide_eq_true_eq, Bool.and_eq_true, beq_self_eq_true, or_self, and_self, ite_true, ite_false, Nat.le_refl, Bool.not_eq_true, decide_not, Bool.not_eq_true', decide_eq_false_iff_not, Bool.not_eq_false, Bool.or_eq_true, if_true, if_false, ite_self, mE_it, mc_len, mc_sure, mc_ltA, mc_lt1, mc_all1, mc_ro, mc_take, mc_sl, mc_set, mc_fr, mc_sq, mc_tm, zcM_eq, ms_len, ms_sure, ms_ltA, ms_lt1, ms_all1, ms_ro, ms_take, ms_set, ms_low, ms_root, ms_l, zs_len, zs_sure, zs_ltA, zs_ro, zs_set, zs_set2, zs_take, zs_b, me_ltA, me_len3, natInt, u_nthM, all_tt, zs_lt, zs_all1, hkl', hx, hS, w_i64, plenumlaw30_MarksKeep_r4_eq]
    refine iter_go (ι := {j : Nat // j ≤ s.l.length}) (fun j => ⟨[⟨1, ty_api_Marks, 0, MC s⟩, ⟨1, ty_api_Marks, 0, MC x'⟩], [(0, nA n), (1, SL (l.map mE)), (5, OP 0 0), (6, nA (fN n)), (7, nA k), (8, OP 1 0), (9, bA st), (11, nA (sameC (s.l.take j.1) x)), (12, nA j.1)]⟩) (fun j => s.l.length - j.1) (fun _ => some (bA true, [])) ?_ ⟨0, Nat.zero_le _⟩ (by dsimp only; omega)
    rintro kx2 hkx2 ⟨j, hj⟩ kc2 hkc2
    dsimp only at hkc2 ⊢
    rw [plenumlaw30_MarksKeep_b2_eq]
    have hle : sameC (s.l.take j) x ≤ s.l.length := Nat.le_trans (List.length_filter_le ..) (by rw [List.length_take]; omega)
    by_cases hjl : j < s.l.length
    · have hjl' : (j : Int) < (s.l.length : Int) := by omega
      have step := hkc2 ⟨j + 1, by omega⟩ (by dsimp only; omega)
      dsimp only at step
      have hsn : sameC (s.l.take (j + 1)) x = sameC (s.l.take j) x + (if (mtB x s.l[j] && !decide (s.l[j].fr = x.fr)) = true then 1 else 0) := by
        unfold sameC
        rw [filter_snoc hjl, List.length_append]
        congr 1
        split <;> rfl
      rw [hsn] at step
      generalize sameC (s.l.take j) x = A at step hle ⊢
      by_cases d1 : s.l[j].sq = x.sq
      · by_cases d2 : s.l[j].tm = x.tm
        · by_cases d3 : s.l[j].fr = x.fr
          · rw [if_neg (by simp [d3])] at step
            simp (config := {maxSteps := 4000000, implicitDefEqProofs := false}) (disch := omega) only [go_sem, ↓reduceIte, Nat.reduceAdd, Nat.reduceSub, Nat.reduceMul, Nat.reduceLeDiff, Nat.reduceLT, Int.reduceEq, Int.reduceNe, Int.reduceLT, Int.reduceLE, Int.reduceAdd, Int.reduceSub, Int.reduceMul, Int.reduceNeg, Nat.zero_add, Nat.add_zero, Nat.mul_one, Int.toNat_natCast, Int.natCast_zero, Int.cast_ofNat_Int, or_false, false_or, or_true, true_or, Int.reduceToNat, Nat.sub_zero, Int.natCast_nonneg, Int.toNat_zero, Bool.true_and, Bool.and_true, Bool.false_and, Bool.and_false, Bool.true_or, Bool.or_true, Bool.false_or, Bool.or_false, Bool.not_true, Bool.not_false, Bool.not_not, true_and, and_true, false_and, and_false, not_true_eq_false, not_false_eq_true, eq_self, decide_true, decide_false, ne_eq, implies_true, forall_const, true_implies, false_implies, Bool.true_eq_false, Bool.false_eq_true, reduceCtorEq, List.map_cons, List.map_nil, List.all_cons, List.all_nil, List.length_cons, List.length_nil, List.length_map, List.length_append, List.nil_append, List.cons_append, List.set_cons_zero, List.set_cons_succ, List.set_nil, List.drop_zero, List.drop_succ_cons, List.drop_nil, List.take_zero, List.take_succ_cons, List.take_nil, Option.map_some, Option.map_none, Option.isSome_some, Nat.reduceEqDiff, Nat.reduceBEq, Nat.reduceGT, List.all_append, List.all_map, Function.comp_def, decide_eq_true_eq, Bool.and_eq_true, beq_self_eq_true, or_self, and_self, ite_true, ite_false, Nat.le_refl, Bool.not_eq_true, decide_not, Bool.not_eq_true', decide_eq_false_iff_not, Bool.not_eq_false, Bool.or_eq_true, if_true, if_false, ite_self, mE_it, mc_len, mc_sure, mc_ltA, mc_lt1, mc_all1, mc_ro, mc_take, mc_sl, mc_set, mc_fr, mc_sq, mc_tm, zcM_eq, ms_len, ms_sure, ms_ltA, ms_lt1, ms_all1, ms_ro, ms_take, ms_set, ms_low, ms_root, ms_l, zs_len, zs_sure, zs_ltA, zs_ro, zs_set, zs_set2, zs_take, zs_b, me_ltA, me_len3, natInt, u_nthM, all_tt, hjl', hkl', hx, d1, d2, d3, w_i64, plenumlaw30_MarksKeep_r6_eq, plenumlaw30_MarksKeep_r9_eq]
            exact step
          · rw [if_pos (by unfold mtB; simp [d1, d2, d3])] at step
            simp (config := {maxSteps := 4000000, implicitDefEqProofs := false}) (disch := omega) only [go_sem, ↓reduceIte, Nat.reduceAdd, Nat.reduceSub, Nat.reduceMul, Nat.reduceLeDiff, Nat.reduceLT, Int.reduceEq, Int.reduceNe, Int.reduceLT, Int.reduceLE, Int.reduceAdd, Int.reduceSub, Int.reduceMul, Int.reduceNeg, Nat.zero_add, Nat.add_zero, Nat.mul_one, Int.toNat_natCast, Int.natCast_zero, Int.cast_ofNat_Int, or_false, false_or, or_true, true_or, Int.reduceToNat, Nat.sub_zero, Int.natCast_nonneg, Int.toNat_zero, Bool.true_and, Bool.and_true, Bool.false_and, Bool.and_false, Bool.true_or, Bool.or_true, Bool.false_or, Bool.or_false, Bool.not_true, Bool.not_false, Bool.not_not, true_and, and_true, false_and, and_false, not_true_eq_false, not_false_eq_true, eq_self, decide_true, decide_false, ne_eq, implies_true, forall_const, true_implies, false_implies, Bool.true_eq_false, Bool.false_eq_true, reduceCtorEq, List.map_cons, List.map_nil, List.all_cons, List.all_nil, List.length_cons, List.length_nil, List.length_map, List.length_append, List.nil_append, List.cons_append, List.set_cons_zero, List.set_cons_succ, List.set_nil, List.drop_zero, List.drop_succ_cons, List.drop_nil, List.take_zero, List.take_succ_cons, List.take_nil, Option.map_some, Option.map_none, Option.isSome_some, Nat.reduceEqDiff, Nat.reduceBEq, Nat.reduceGT, List.all_append, List.all_map, Function.comp_def, decide_eq_true_eq, Bool.and_eq_true, beq_self_eq_true, or_self, and_self, ite_true, ite_false, Nat.le_refl, Bool.not_eq_true, decide_not, Bool.not_eq_true', decide_eq_false_iff_not, Bool.not_eq_false, Bool.or_eq_true, if_true, if_false, ite_self, mE_it, mc_len, mc_sure, mc_ltA, mc_lt1, mc_all1, mc_ro, mc_take, mc_sl, mc_set, mc_fr, mc_sq, mc_tm, zcM_eq, ms_len, ms_sure, ms_ltA, ms_lt1, ms_all1, ms_ro, ms_take, ms_set, ms_low, ms_root, ms_l, zs_len, zs_sure, zs_ltA, zs_ro, zs_set, zs_set2, zs_take, zs_b, me_ltA, me_len3, natInt, u_nthM, all_tt, hjl', hkl', hx, d1, d2, d3, w_i64, plenumlaw30_MarksKeep_r6_eq, plenumlaw30_MarksKeep_r9_eq]
            exact step
        · rw [if_neg (by unfold mtB; simp [d2])] at step
          simp (config := {maxSteps := 4000000, implicitDefEqProofs := false}) (disch := omega) only [go_sem, ↓reduceIte, Nat.reduceAdd, Nat.reduceSub, Nat.reduceMul, Nat.reduceLeDiff, Nat.reduceLT, Int.reduceEq, Int.reduceNe, Int.reduceLT, Int.reduceLE, Int.reduceAdd, Int.reduceSub, Int.reduceMul, Int.reduceNeg, Nat.zero_add, Nat.add_zero, Nat.mul_one, Int.toNat_natCast, Int.natCast_zero, Int.cast_ofNat_Int, or_false, false_or, or_true, true_or, Int.reduceToNat, Nat.sub_zero, Int.natCast_nonneg, Int.toNat_zero, Bool.true_and, Bool.and_true, Bool.false_and, Bool.and_false, Bool.true_or, Bool.or_true, Bool.false_or, Bool.or_false, Bool.not_true, Bool.not_false, Bool.not_not, true_and, and_true, false_and, and_false, not_true_eq_false, not_false_eq_true, eq_self, decide_true, decide_false, ne_eq, implies_true, forall_const, true_implies, false_implies, Bool.true_eq_false, Bool.false_eq_true, reduceCtorEq, List.map_cons, List.map_nil, List.all_cons, List.all_nil, List.length_cons, List.length_nil, List.length_map, List.length_append, List.nil_append, List.cons_append, List.set_cons_zero, List.set_cons_succ, List.set_nil, List.drop_zero, List.drop_succ_cons, List.drop_nil, List.take_zero, List.take_succ_cons, List.take_nil, Option.map_some, Option.map_none, Option.isSome_some, Nat.reduceEqDiff, Nat.reduceBEq, Nat.reduceGT, List.all_append, List.all_map, Function.comp_def, decide_eq_true_eq, Bool.and_eq_true, beq_self_eq_true, or_self, and_self, ite_true, ite_false, Nat.le_refl, Bool.not_eq_true, decide_not, Bool.not_eq_true', decide_eq_false_iff_not, Bool.not_eq_false, Bool.or_eq_true, if_true, if_false, ite_self, mE_it, mc_len, mc_sure, mc_ltA, mc_lt1, mc_all1, mc_ro, mc_take, mc_sl, mc_set, mc_fr, mc_sq, mc_tm, zcM_eq, ms_len, ms_sure, ms_ltA, ms_lt1, ms_all1, ms_ro, ms_take, ms_set, ms_low, ms_root, ms_l, zs_len, zs_sure, zs_ltA, zs_ro, zs_set, zs_set2, zs_take, zs_b, me_ltA, me_len3, natInt, u_nthM, all_tt, hjl', hkl', hx, d1, d2, w_i64, plenumlaw30_MarksKeep_r6_eq, plenumlaw30_MarksKeep_r9_eq]
          exact step
      · rw [if_neg (by unfold mtB; simp [d1])] at step
        simp (config := {maxSteps := 4000000, implicitDefEqProofs := false}) (disch := omega) only [go_sem, ↓reduceIte, Nat.reduceAdd, Nat.reduceSub, Nat.reduceMul, Nat.reduceLeDiff, Nat.reduceLT, Int.reduceEq, Int.reduceNe, Int.reduceLT, Int.reduceLE, Int.reduceAdd, Int.reduceSub, Int.reduceMul, Int.reduceNeg, Nat.zero_add, Nat.add_zero, Nat.mul_one, Int.toNat_natCast, Int.natCast_zero, Int.cast_ofNat_Int, or_false, false_or, or_true, true_or, Int.reduceToNat, Nat.sub_zero, Int.natCast_nonneg, Int.toNat_zero, Bool.true_and, Bool.and_true, Bool.false_and, Bool.and_false, Bool.true_or, Bool.or_true, Bool.false_or, Bool.or_false, Bool.not_true, Bool.not_false, Bool.not_not, true_and, and_true, false_and, and_false, not_true_eq_false, not_false_eq_true, eq_self, decide_true, decide_false, ne_eq, implies_true, forall_const, true_implies, false_implies, Bool.true_eq_false, Bool.false_eq_true, reduceCtorEq, List.map_cons, List.map_nil, List.all_cons, List.all_nil, List.length_cons, List.length_nil, List.length_map, List.length_append, List.nil_append, List.cons_append, List.set_cons_zero, List.set_cons_succ, List.set_nil, List.drop_zero, List.drop_succ_cons, List.drop_nil, List.take_zero, List.take_succ_cons, List.take_nil, Option.map_some, Option.map_none, Option.isSome_some, Nat.reduceEqDiff, Nat.reduceBEq, Nat.reduceGT, List.all_append, List.all_map, Function.comp_def, decide_eq_true_eq, Bool.and_eq_true, beq_self_eq_true, or_self, and_self, ite_true, ite_false, Nat.le_refl, Bool.not_eq_true, decide_not, Bool.not_eq_true', decide_eq_false_iff_not, Bool.not_eq_false, Bool.or_eq_true, if_true, if_false, ite_self, mE_it, mc_len, mc_sure, mc_ltA, mc_lt1, mc_all1, mc_ro, mc_take, mc_sl, mc_set, mc_fr, mc_sq, mc_tm, zcM_eq, ms_len, ms_sure, ms_ltA, ms_lt1, ms_all1, ms_ro, ms_take, ms_set, ms_low, ms_root, ms_l, zs_len, zs_sure, zs_ltA, zs_ro, zs_set, zs_set2, zs_take, zs_b, me_ltA, me_len3, natInt, u_nthM, all_tt, hjl', hkl', hx, d1, w_i64, plenumlaw30_MarksKeep_r6_eq, plenumlaw30_MarksKeep_r9_eq]
        exact step
    · have hjl' : ¬ (j : Int) < (s.l.length : Int) := by omega
      have : j = s.l.length := by omega
      subst this
      rw [List.take_length]
      simp (config := {maxSteps := 4000000, implicitDefEqProofs := false}) (disch := omega) only [go_sem, ↓reduceIte, Nat.reduceAdd, Nat.reduceSub, Nat.reduceMul, Nat.reduceLeDiff, Nat.reduceLT, Int.reduceEq, Int.reduceNe, Int.reduceLT, Int.reduceLE, Int.reduceAdd, Int.reduceSub, Int.reduceMul, Int.reduceNeg, Nat.zero_add, Nat.add_zero, Nat.mul_one, Int.toNat_natCast, Int.natCast_zero, Int.cast_ofNat_Int, or_false, false_or, or_true, true_or, Int.reduceToNat, Nat.sub_zero, Int.natCast_nonneg, Int.toNat_zero, Bool.true_and, Bool.and_true, Bool.false_and, Bool.and_false, Bool.true_or, Bool.or_true, Bool.false_or, Bool.or_false, Bool.not_true, Bool.not_false, Bool.not_not, true_and, and_true, false_and, and_false, not_true_eq_false, not_false_eq_true, eq_self, decide_true, decide_false, ne_eq, implies_true, forall_const, true_implies, false_implies, Bool.true_eq_false, Bool.false_eq_true, reduceCtorEq, List.map_cons, List.map_nil, List.all_cons, List.all_nil, List.length_cons, List.length_nil, List.length_map, List.length_append, List.nil_append, List.cons_append, List.set_cons_zero, List.set_cons_succ, List.set_nil, List.drop_zero, List.drop_succ_cons, List.drop_nil, List.take_zero, List.take_succ_cons, List.take_nil, Option.map_some, Option.map_none, Option.isSome_some, Nat.reduceEqDiff, Nat.reduceBEq, Nat.reduceGT, List.all_append, List.all_map, Function.comp_def, decide_eq_true_eq, Bool.and_eq_true, beq_self_eq_true, or_self, and_self, ite_true, ite_false, Nat.le_refl, Bool.not_eq_true, decide_not, Bool.not_eq_true', decide_eq_false_iff_not, Bool.not_eq_false, Bool.or_eq_true, if_true, if_false, ite_self, mE_it, mc_len, mc_sure, mc_ltA, mc_lt1, mc_all1, mc_ro, mc_take, mc_sl, mc_set, mc_fr, mc_sq, mc_tm, zcM_eq, ms_len, ms_sure, ms_ltA, ms_lt1, ms_all1, ms_ro, ms_take, ms_set, ms_low, ms_root, ms_l, zs_len, zs_sure, zs_ltA, zs_ro, zs_set, zs_set2, zs_take, zs_b, me_ltA, me_len3, natInt, u_nthM, all_tt, hjl', hkx2, fin]
  · have fin := fin _ (.inr ⟨rfl, rfl⟩)
    have hz : sameC MZ.l x = 0 := rfl
    rw [hz] at fin
    rw [plenumlaw30_MarksKeep_r3_eq]
    simp (config := {maxSteps := 4000000, implicitDefEqProofs := false}) (disch := omega) only [go_sem, ↓reduceIte, Nat.reduceAdd, Nat.reduceSub, Nat.reduceMul, Nat.reduceLeDiff, Nat.reduceLT, Int.reduceEq, Int.reduceNe, Int.reduceLT, Int.reduceLE, Int.reduceAdd, Int.reduceSub, Int.reduceMul, Int.reduceNeg, Nat.zero_add, Nat.add_zero, Nat.mul_one, Int.toNat_natCast, Int.natCast_zero, Int.cast_ofNat_Int, or_false, false_or, or_true, true_or, Int.reduceToNat, Nat.sub_zero, Int.natCast_nonneg, Int.toNat_zero, Bool.true_and, Bool.and_true, Bool.false_and, Bool.and_false, Bool.true_or, Bool.or_true, Bool.false_or, Bool.or_false, Bool.not_true, Bool.not_false, Bool.not_not, true_and, and_true, false_and, and_false, not_true_eq_false, not_false_eq_true, eq_self, decide_true, decide_false, ne_eq, implies_true, forall_const, true_implies, false_implies, Bool.true_eq_false, Bool.false_eq_true, reduceCtorEq, List.map_cons, List.map_nil, List.all_cons, List.all_nil, List.length_cons, List.length_nil, List.length_map, List.length_append, List.nil_append, List.cons_append, List.set_cons_zero, List.set_cons_succ, List.set_nil, List.drop_zero, List.drop_succ_cons, List.drop_nil, List.take_zero, List.take_succ_cons, List.take_nil, Option.map_some, Option.map_none, Option.isSome_some, Nat.reduceEqDiff, Nat.reduceBEq, Nat.reduceGT, List.all_append, List.all_map, Function.comp_def, decide_eq_true_eq, Bool.and_eq_true, beq_self_eq_true, or_self, and_self, ite_true, ite_false, Nat.le_refl, Bool.not_eq_true, decide_not, Bool.not_eq_true', decide_eq_false_iff_not, Bool.not_eq_false, Bool.or_eq_true, if_true, if_false, ite_self, mE_it, mc_len, mc_sure, mc_ltA, mc_lt1, mc_all1, mc_ro, mc_take, mc_sl, mc_set, mc_fr, mc_sq, mc_tm, zcM_eq, ms_len, ms_sure, ms_ltA, ms_lt1, ms_all1, ms_ro, ms_take, ms_set, ms_low, ms_root, ms_l, zs_len, zs_sure, zs_ltA, zs_ro, zs_set, zs_set2, zs_take, zs_b, me_ltA, me_len3, natInt, u_nthM, all_tt, zs_lt, zs_all1, hkl', hx, hS, w_i64, plenumlaw30_MarksKeep_r4_eq]
    refine iter_go (ι := Unit) (fun _ => ⟨[⟨1, ty_api_Marks, 0, zc_api_Marks⟩, ⟨1, ty_api_Marks, 0, MC x'⟩], [(0, nA n), (1, SL (l.map mE)), (5, OP 0 0), (6, nA (fN n)), (7, nA k), (8, OP 1 0), (9, bA st), (11, nA 0), (12, nA 0)]⟩) (fun _ => 0) (fun _ => some (bA true, [])) ?_ () (by omega)
    rintro kx2 hkx2 _ kc2 hkc2
    rw [plenumlaw30_MarksKeep_b2_eq]
    simp (config := {maxSteps := 4000000, implicitDefEqProofs := false}) (disch := omega) only [go_sem, ↓reduceIte, Nat.reduceAdd, Nat.reduceSub, Nat.reduceMul, Nat.reduceLeDiff, Nat.reduceLT, Int.reduceEq, Int.reduceNe, Int.reduceLT, Int.reduceLE, Int.reduceAdd, Int.reduceSub, Int.reduceMul, Int.reduceNeg, Nat.zero_add, Nat.add_zero, Nat.mul_one, Int.toNat_natCast, Int.natCast_zero, Int.cast_ofNat_Int, or_false, false_or, or_true, true_or, Int.reduceToNat, Nat.sub_zero, Int.natCast_nonneg, Int.toNat_zero, Bool.true_and, Bool.and_true, Bool.false_and, Bool.and_false, Bool.true_or, Bool.or_true, Bool.false_or, Bool.or_false, Bool.not_true, Bool.not_false, Bool.not_not, true_and, and_true, false_and, and_false, not_true_eq_false, not_false_eq_true, eq_self, decide_true, decide_false, ne_eq, implies_true, forall_const, true_implies, false_implies, Bool.true_eq_false, Bool.false_eq_true, reduceCtorEq, List.map_cons, List.map_nil, List.all_cons, List.all_nil, List.length_cons, List.length_nil, List.length_map, List.length_append, List.nil_append, List.cons_append, List.set_cons_zero, List.set_cons_succ, List.set_nil, List.drop_zero, List.drop_succ_cons, List.drop_nil, List.take_zero, List.take_succ_cons, List.take_nil, Option.map_some, Option.map_none, Option.isSome_some, Nat.reduceEqDiff, Nat.reduceBEq, Nat.reduceGT, List.all_append, List.all_map, Function.comp_def, decide_eq_true_eq, Bool.and_eq_true, beq_self_eq_true, or_self, and_self, ite_true, ite_false, Nat.le_refl, Bool.not_eq_true, decide_not, Bool.not_eq_true', decide_eq_false_iff_not, Bool.not_eq_false, Bool.or_eq_true, if_true, if_false, ite_self, mE_it, mc_len, mc_sure, mc_ltA, mc_lt1, mc_all1, mc_ro, mc_take, mc_sl, mc_set, mc_fr, mc_sq, mc_tm, zcM_eq, ms_len, ms_sure, ms_ltA, ms_lt1, ms_all1, ms_ro, ms_take, ms_set, ms_low, ms_root, ms_l, zs_len, zs_sure, zs_ltA, zs_ro, zs_set, zs_set2, zs_take, zs_b, me_ltA, me_len3, natInt, u_nthM, all_tt, zs_l, hkx2, fin]
    exact fin
theorem markskeep_s (m : Nat) (n : Int) (l : List Mk) (hm : 2000 < m) (hlm : l.length < m) (hq : ∀ x ∈ l, x.sq < 9223372036854775808) : plenumlaw30_MarksKeep m (nA n) (SL (l.map mE)) = some (bA true, []) := by
  have hA := awake30_s m (by omega)
  have hRF := rfaults_s m n (by omega)
  rw [plenumlaw30_MarksKeep_eq]
  simp (config := {maxSteps := 4000000, implicitDefEqProofs := false}) (disch := omega) only [go_sem, ↓reduceIte, Nat.reduceAdd, Nat.reduceSub, Nat.reduceMul, Nat.reduceLeDiff, Nat.reduceLT, Int.reduceEq, Int.reduceNe, Int.reduceLT, Int.reduceLE, Int.reduceAdd, Int.reduceSub, Int.reduceMul, Int.reduceNeg, Nat.zero_add, Nat.add_zero, Nat.mul_one, Int.toNat_natCast, Int.natCast_zero, Int.cast_ofNat_Int, or_false, false_or, or_true, true_or, Int.reduceToNat, Nat.sub_zero, Int.natCast_nonneg, Int.toNat_zero, Bool.true_and, Bool.and_true, Bool.false_and, Bool.and_false, Bool.true_or, Bool.or_true, Bool.false_or, Bool.or_false, Bool.not_true, Bool.not_false, Bool.not_not, true_and, and_true, false_and, and_false, not_true_eq_false, not_false_eq_true, eq_self, decide_true, decide_false, ne_eq, implies_true, forall_const, true_implies, false_implies, Bool.true_eq_false, Bool.false_eq_true, reduceCtorEq, List.map_cons, List.map_nil, List.all_cons, List.all_nil, List.length_cons, List.length_nil, List.length_map, List.length_append, List.nil_append, List.cons_append, List.set_cons_zero, List.set_cons_succ, List.set_nil, List.drop_zero, List.drop_succ_cons, List.drop_nil, List.take_zero, List.take_succ_cons, List.take_nil, Option.map_some, Option.map_none, Option.isSome_some, Nat.reduceEqDiff, Nat.reduceBEq, Nat.reduceGT, List.all_append, List.all_map, Function.comp_def, decide_eq_true_eq, Bool.and_eq_true, beq_self_eq_true, or_self, and_self, ite_true, ite_false, Nat.le_refl, Bool.not_eq_true, decide_not, Bool.not_eq_true', decide_eq_false_iff_not, Bool.not_eq_false, Bool.or_eq_true, if_true, if_false, ite_self, mE_it, mc_len, mc_sure, mc_ltA, mc_lt1, mc_all1, mc_ro, mc_take, mc_sl, mc_set, mc_fr, mc_sq, mc_tm, zcM_eq, ms_len, ms_sure, ms_ltA, ms_lt1, ms_all1, ms_ro, ms_take, ms_set, ms_low, ms_root, ms_l, zs_len, zs_sure, zs_ltA, zs_ro, zs_set, zs_set2, zs_take, zs_b, me_ltA, me_len3, natInt, u_nthM, all_tt, hRF]
  refine iter_go (ι := {p : Nat × Ms × List AV // p.1 ≤ l.length ∧ Keep n p.2.1 ∧ (p.2.1.l.length : Int) ≤ 64 ∧ (p.2.2 = MC p.2.1 ∨ (p.2.2 = zc_api_Marks ∧ p.2.1 = MZ))}) (fun p => ⟨[⟨1, ty_api_Marks, 0, p.1.2.2⟩], [(0, nA n), (1, SL (l.map mE)), (5, OP 0 0), (6, nA (fN n)), (7, nA p.1.1)]⟩) (fun p => l.length - p.1.1) (fun _ => some (bA true, [])) ?_ ⟨(0, MZ, zc_api_Marks), Nat.zero_le _, keep_zero, by show (0 : Int) ≤ 64; omega, .inr ⟨rfl, rfl⟩⟩ (by dsimp only; omega)
  rintro kx hkx ⟨⟨k, s, c⟩, hk, hK, hsl, hc⟩ kc hkc
  dsimp only at hkc hk hK hsl hc ⊢
  rw [plenumlaw30_MarksKeep_b1_eq]
  by_cases hlt : k < l.length
  · have hlt' : (k : Int) < (l.length : Int) := by omega
    by_cases h150 : k < 150
    · have h150' : (k : Int) < 150 := by omega
      have hR := keep_round m n l k s c hm hlt h150 hq hK hsl hc kx kc (hkc ⟨(k + 1, s, c), by dsimp only; omega, hK, hsl, hc⟩ (by dsimp only; omega)) fun t h1 h2 => hkc ⟨(k + 1, t, MC t), by dsimp only; omega, h1, h2, .inl rfl⟩ (by dsimp only; omega)
      simp (config := {maxSteps := 4000000, implicitDefEqProofs := false}) (disch := omega) only [go_sem, ↓reduceIte, Nat.reduceAdd, Nat.reduceSub, Nat.reduceMul, Nat.reduceLeDiff, Nat.reduceLT, Int.reduceEq, Int.reduceNe, Int.reduceLT, Int.reduceLE, Int.reduceAdd, Int.reduceSub, Int.reduceMul, Int.reduceNeg, Nat.zero_add, Nat.add_zero, Nat.mul_one, Int.toNat_natCast, Int.natCast_zero, Int.cast_ofNat_Int, or_false, false_or, or_true, true_or, Int.reduceToNat, Nat.sub_zero, Int.natCast_nonneg, Int.toNat_zero, Bool.true_and, Bool.and_true, Bool.false_and, Bool.and_false, Bool.true_or, Bool.or_true, Bool.false_or, Bool.or_false, Bool.not_true, Bool.not_false, Bool.not_not, true_and, and_true, false_and, and_false, not_true_eq_false, not_false_eq_true, eq_self, decide_true, decide_false, ne_eq, implies_true, forall_const, true_implies, false_implies, Bool.true_eq_false, Bool.false_eq_true, reduceCtorEq, List.map_cons, List.map_nil, List.all_cons, List.all_nil, List.length_cons, List.length_nil, List.length_map, List.length_append, List.nil_append, List.cons_append, List.set_cons_zero, List.set_cons_succ, List.set_nil, List.drop_zero, List.drop_succ_cons, List.drop_nil, List.take_zero, List.take_succ_cons, List.take_nil, Option.map_some, Option.map_none, Option.isSome_some, Nat.reduceEqDiff, Nat.reduceBEq, Nat.reduceGT, List.all_append, List.all_map, Function.comp_def, decide_eq_true_eq, Bool.and_eq_true, beq_self_eq_true, or_self, and_self, ite_true, ite_false, Nat.le_refl, Bool.not_eq_true, decide_not, Bool.not_eq_true', decide_eq_false_iff_not, Bool.not_eq_false, Bool.or_eq_true, if_true, if_false, ite_self, mE_it, mc_len, mc_sure, mc_ltA, mc_lt1, mc_all1, mc_ro, mc_take, mc_sl, mc_set, mc_fr, mc_sq, mc_tm, zcM_eq, ms_len, ms_sure, ms_ltA, ms_lt1, ms_all1, ms_ro, ms_take, ms_set, ms_low, ms_root, ms_l, zs_len, zs_sure, zs_ltA, zs_ro, zs_set, zs_set2, zs_take, zs_b, me_ltA, me_len3, natInt, u_nthM, all_tt, hlt', h150', plenumlaw30_MarksKeep_r2_eq]
      exact hR
    · have h150' : ¬ (k : Int) < 150 := by omega
      simp (config := {maxSteps := 4000000, implicitDefEqProofs := false}) (disch := omega) only [go_sem, ↓reduceIte, Nat.reduceAdd, Nat.reduceSub, Nat.reduceMul, Nat.reduceLeDiff, Nat.reduceLT, Int.reduceEq, Int.reduceNe, Int.reduceLT, Int.reduceLE, Int.reduceAdd, Int.reduceSub, Int.reduceMul, Int.reduceNeg, Nat.zero_add, Nat.add_zero, Nat.mul_one, Int.toNat_natCast, Int.natCast_zero, Int.cast_ofNat_Int, or_false, false_or, or_true, true_or, Int.reduceToNat, Nat.sub_zero, Int.natCast_nonneg, Int.toNat_zero, Bool.true_and, Bool.and_true, Bool.false_and, Bool.and_false, Bool.true_or, Bool.or_true, Bool.false_or, Bool.or_false, Bool.not_true, Bool.not_false, Bool.not_not, true_and, and_true, false_and, and_false, not_true_eq_false, not_false_eq_true, eq_self, decide_true, decide_false, ne_eq, implies_true, forall_const, true_implies, false_implies, Bool.true_eq_false, Bool.false_eq_true, reduceCtorEq, List.map_cons, List.map_nil, List.all_cons, List.all_nil, List.length_cons, List.length_nil, List.length_map, List.length_append, List.nil_append, List.cons_append, List.set_cons_zero, List.set_cons_succ, List.set_nil, List.drop_zero, List.drop_succ_cons, List.drop_nil, List.take_zero, List.take_succ_cons, List.take_nil, Option.map_some, Option.map_none, Option.isSome_some, Nat.reduceEqDiff, Nat.reduceBEq, Nat.reduceGT, List.all_append, List.all_map, Function.comp_def, decide_eq_true_eq, Bool.and_eq_true, beq_self_eq_true, or_self, and_self, ite_true, ite_false, Nat.le_refl, Bool.not_eq_true, decide_not, Bool.not_eq_true', decide_eq_false_iff_not, Bool.not_eq_false, Bool.or_eq_true, if_true, if_false, ite_self, mE_it, mc_len, mc_sure, mc_ltA, mc_lt1, mc_all1, mc_ro, mc_take, mc_sl, mc_set, mc_fr, mc_sq, mc_tm, zcM_eq, ms_len, ms_sure, ms_ltA, ms_lt1, ms_all1, ms_ro, ms_take, ms_set, ms_low, ms_root, ms_l, zs_len, zs_sure, zs_ltA, zs_ro, zs_set, zs_set2, zs_take, zs_b, me_ltA, me_len3, natInt, u_nthM, all_tt, hlt', h150', hkx, hA, plenumlaw30_MarksKeep_r12_eq, plenumlaw30_MarksKeep_r11_eq, plenumlaw30_MarksKeep_r10_eq, plenumlaw30_MarksKeep_r9_eq, plenumlaw30_MarksKeep_r8_eq, plenumlaw30_MarksKeep_r7_eq, plenumlaw30_MarksKeep_r6_eq, plenumlaw30_MarksKeep_r5_eq, plenumlaw30_MarksKeep_r4_eq, plenumlaw30_MarksKeep_r3_eq, plenumlaw30_MarksKeep_r2_eq, plenumlaw30_MarksKeep_r1_eq]
  · have hlt' : ¬ (k : Int) < (l.length : Int) := by omega
    simp (config := {maxSteps := 4000000, implicitDefEqProofs := false}) (disch := omega) only [go_sem, ↓reduceIte, Nat.reduceAdd, Nat.reduceSub, Nat.reduceMul, Nat.reduceLeDiff, Nat.reduceLT, Int.reduceEq, Int.reduceNe, Int.reduceLT, Int.reduceLE, Int.reduceAdd, Int.reduceSub, Int.reduceMul, Int.reduceNeg, Nat.zero_add, Nat.add_zero, Nat.mul_one, Int.toNat_natCast, Int.natCast_zero, Int.cast_ofNat_Int, or_false, false_or, or_true, true_or, Int.reduceToNat, Nat.sub_zero, Int.natCast_nonneg, Int.toNat_zero, Bool.true_and, Bool.and_true, Bool.false_and, Bool.and_false, Bool.true_or, Bool.or_true, Bool.false_or, Bool.or_false, Bool.not_true, Bool.not_false, Bool.not_not, true_and, and_true, false_and, and_false, not_true_eq_false, not_false_eq_true, eq_self, decide_true, decide_false, ne_eq, implies_true, forall_const, true_implies, false_implies, Bool.true_eq_false, Bool.false_eq_true, reduceCtorEq, List.map_cons, List.map_nil, List.all_cons, List.all_nil, List.length_cons, List.length_nil, List.length_map, List.length_append, List.nil_append, List.cons_append, List.set_cons_zero, List.set_cons_succ, List.set_nil, List.drop_zero, List.drop_succ_cons, List.drop_nil, List.take_zero, List.take_succ_cons, List.take_nil, Option.map_some, Option.map_none, Option.isSome_some, Nat.reduceEqDiff, Nat.reduceBEq, Nat.reduceGT, List.all_append, List.all_map, Function.comp_def, decide_eq_true_eq, Bool.and_eq_true, beq_self_eq_true, or_self, and_self, ite_true, ite_false, Nat.le_refl, Bool.not_eq_true, decide_not, Bool.not_eq_true', decide_eq_false_iff_not, Bool.not_eq_false, Bool.or_eq_true, if_true, if_false, ite_self, mE_it, mc_len, mc_sure, mc_ltA, mc_lt1, mc_all1, mc_ro, mc_take, mc_sl, mc_set, mc_fr, mc_sq, mc_tm, zcM_eq, ms_len, ms_sure, ms_ltA, ms_lt1, ms_all1, ms_ro, ms_take, ms_set, ms_low, ms_root, ms_l, zs_len, zs_sure, zs_ltA, zs_ro, zs_set, zs_set2, zs_take, zs_b, me_ltA, me_len3, natInt, u_nthM, all_tt, hlt', hkx, hA, plenumlaw30_MarksKeep_r12_eq, plenumlaw30_MarksKeep_r11_eq, plenumlaw30_MarksKeep_r10_eq, plenumlaw30_MarksKeep_r9_eq, plenumlaw30_MarksKeep_r8_eq, plenumlaw30_MarksKeep_r7_eq, plenumlaw30_MarksKeep_r6_eq, plenumlaw30_MarksKeep_r5_eq, plenumlaw30_MarksKeep_r4_eq, plenumlaw30_MarksKeep_r3_eq, plenumlaw30_MarksKeep_r2_eq, plenumlaw30_MarksKeep_r1_eq]
end Go.Proofs.Ytbobfgbjliolmaa

namespace Go.Proofs.Ytbobfgbjliolmaa
open Go.RowKit
set_option linter.unusedVariables false
set_option linter.unusedSimpArgs false
set_option maxRecDepth 100000
theorem walk_MarksKeep (W : World) (v0 : Value) (h0 : Arg Try.prog W 3 v0) (v1 : Value) (h1 : Arg Try.prog W 22 v1) :
    Calls Try.prog 3 #[v0, v1] W fun e W' => e = .returned (.bool true) ∧ Below W.heap.size W W' := by
  obtain ⟨n, _, r0⟩ := arg_int h0
  obtain ⟨l, hl, r1⟩ := arg_ml h1
  exact run_tells (plenumlaw30_MarksKeep_ok (l.length + 16000001) [_, _] _ _ (markskeep_s _ n l (by omega) (by omega) hl)) gok_nil (vs := [v0, v1]) rfl (reps2 r0 r1)
end Go.Proofs.Ytbobfgbjliolmaa
