/-
  Texts laid together, part 5 of 6: laws of a walk over data, contracts of functions, each whole by itself.
-/
import Derived.Test.YtaaafkoeddgaaaaDoorMgd
import Derived.WalkKit
import Derived.KernelRfl
import Derived.Test.YtaaafkoeddgaaaaDoorMgc
import Derived.Laws.Bits64
import Derived.Laws.Bits64b
import Derived.Laws.Bits128
import Derived.Test.YtaaafkoeddgaaaaDoorMgb
namespace Go.Proofs.YtaaafkoeddgaaaaDoor
open Go.RowKit
set_option linter.unusedVariables false
set_option linter.unusedSimpArgs false
set_option maxRecDepth 20000
attribute [local go_sem] Nat.zero_add Nat.add_zero Nat.mul_one Int.toNat_natCast Int.natCast_zero Int.cast_ofNat_Int or_false false_or or_true true_or Nat.sub_zero Int.natCast_nonneg Int.toNat_zero Bool.true_and Bool.and_true Bool.false_and Bool.and_false Bool.true_or Bool.or_true Bool.false_or Bool.or_false Bool.not_true Bool.not_false Bool.not_not true_and and_true false_and and_false not_true_eq_false not_false_eq_true eq_self decide_true decide_false ne_eq implies_true forall_const true_implies false_implies Bool.true_eq_false Bool.false_eq_true List.map_cons List.map_nil List.all_cons List.all_nil List.length_cons List.length_nil List.length_map List.length_append List.nil_append List.cons_append List.set_cons_zero List.set_cons_succ List.set_nil List.drop_zero List.drop_succ_cons List.drop_nil List.take_zero List.take_succ_cons List.take_nil Option.map_some Option.map_none Option.isSome_some List.all_append List.all_map Function.comp_def decide_eq_true_eq Bool.and_eq_true beq_self_eq_true or_self and_self ite_true ite_false Nat.le_refl Bool.not_eq_true decide_not Bool.not_eq_true' decide_eq_false_iff_not Bool.not_eq_false Bool.or_eq_true if_true if_false ite_self vE_it vc_len vc_sure vc_ltA vc_lt1 vc_all1 vc_ro vc_take vc_sl vc_set vc_fr vc_vw vc_tm zcV_eq sc_len sc_sure sc_ltA sc_lt1 sc_all1 sc_ro sc_take sc_set sc_has sc_vw sc_tm sc_body sc_p sc_c zs_len zs_sure zs_ltA zs_ro zs_set zs_set2 zs_set3 zs_take zs_b vs_ltA vs_len3 natInt u_nthM all_tt
section
variable {X0 X1 X2 X3 X4 X5 : AObj} {h : Bool} {v t k : Int} {b : List UInt8} {p c : List Vo}
theorem fz_ll {n : Nat} (hn : n = p.length) : fzV [X0, X1, X2, X3, X4, ⟨4, ty_api_Vote, 3, p.map vE⟩, ⟨4, ty_api_Vote, 3, c.map vE⟩] (TU [.agg [bA h, nA v, nA t, sA b, PR 5 n, PR 6 c.length], nA k]) = TU [SE ⟨h, v, t, b, p, c⟩, nA k] := by
  subst hn
  have hp : (p.map vE).all (ltA 0) = true := by rw [List.all_map]; exact vs_ltA
  have hc : (c.map vE).all (ltA 0) = true := by rw [List.all_map]; exact vs_ltA
  simp [fzV, fzA, fz1, fzO, hp, hc]
  rfl
theorem fz_ll2 {n : Nat} (hn : n = c.length) : fzV [X0, X1, X2, X3, X4, ⟨4, ty_api_Vote, 3, p.map vE⟩, ⟨4, ty_api_Vote, 3, c.map vE⟩] (TU [.agg [bA h, nA v, nA t, sA b, PR 5 p.length, PR 6 n], nA k]) = TU [SE ⟨h, v, t, b, p, c⟩, nA k] := by
  subst hn
  exact fz_ll rfl
theorem fz_sl : fzV [X0, X1, X2, X3, X4, X5, ⟨4, ty_api_Vote, 3, c.map vE⟩] (TU [.agg [bA h, nA v, nA t, sA b, SL (p.map vE), PR 6 c.length], nA k]) = TU [SE ⟨h, v, t, b, p, c⟩, nA k] := by
  have hc : (c.map vE).all (ltA 0) = true := by rw [List.all_map]; exact vs_ltA
  simp [fzV, fzA, fz1, fzO, hc]
  rfl
theorem fz_ls : fzV [X0, X1, X2, X3, X4, ⟨4, ty_api_Vote, 3, p.map vE⟩, X5] (TU [.agg [bA h, nA v, nA t, sA b, PR 5 p.length, SL (c.map vE)], nA k]) = TU [SE ⟨h, v, t, b, p, c⟩, nA k] := by
  have hp : (p.map vE).all (ltA 0) = true := by rw [List.all_map]; exact vs_ltA
  simp [fzV, fzA, fz1, fzO, hp]
  rfl
end
abbrev fnP : AV := V (.func (.func 29) #[] #[])
theorem callV_P {R : Type} {m : Nat} {H : List AObj} {K : AV → List AObj → Option R} : callVE (slot_with_env m) fnP [OP 0 0] H K = keepE (slot_Prepare_1_t m [OP 0 0] H) K := _root_.id rfl
theorem kindP_s (m : Nat) (s : So) (x : Vo) : slot_Prepare_1_t m [OP 0 0] (HB s x) = some (OP 0 4, HB s x) := by
  show slot_Prepare_1 m _ _ = _
  rw [slot_Prepare_1_eq]
  simp (config := {maxSteps := 4000000, implicitDefEqProofs := false}) (disch := omega) only [go_sem, ↓reduceIte, Nat.reduceAdd, Nat.reduceSub, Nat.reduceMul, Nat.reduceLeDiff, Nat.reduceLT, Int.reduceEq, Int.reduceNe, Int.reduceLT, Int.reduceLE, Int.reduceAdd, Int.reduceSub, Int.reduceMul, Int.reduceNeg, Int.reduceToNat, reduceCtorEq, Nat.reduceEqDiff, Nat.reduceBEq, Nat.reduceGT, tA_PR, t1_PR, tT_PR, r1_PR, zs_lt]
theorem layP_new (m : Nat) (s : So) (x : Vo) (hm : s.p.length < m) (hl : s.p.length ≤ 1000000) (hs : Srt s.p) (h : ∀ q : posV s.p x < s.p.length, ¬ s.p[posV s.p x].fr = x.fr) : slot_lay m (OP 0 4) (vE x) (HB s x) = some (nA 0, ((HB s x).set 0 ⟨1, ty_api_Slot, 0, (S0 s).set 4 (SL ((s.p.take (posV s.p x) ++ x :: s.p.drop (posV s.p x)).map vE))⟩).set 5 ⟨0, ty_api_Vote, 3, []⟩) := by
  have hS := searchP m s x hm hl hs
  have hle := pos_le s.p x
  have h1 := lay1P m s x (posV s.p x) hle hl
  rw [slot_lay_eq, vE_it]
  generalize posV s.p x = p at h hS hle h1 ⊢
  rcases Nat.lt_or_ge p s.p.length with q | q
  · have q' : (p : Int) < (s.p.length : Int) := by omega
    have q2 : ¬ (p : Int) = (s.p.length : Int) := by omega
    have hpos : 0 < s.p.length := by omega
    have hne := h q
    simp (config := {maxSteps := 4000000, implicitDefEqProofs := false}) (disch := omega) only [go_sem, ↓reduceIte, Nat.reduceAdd, Nat.reduceSub, Nat.reduceMul, Nat.reduceLeDiff, Nat.reduceLT, Int.reduceEq, Int.reduceNe, Int.reduceLT, Int.reduceLE, Int.reduceAdd, Int.reduceSub, Int.reduceMul, Int.reduceNeg, Int.reduceToNat, reduceCtorEq, Nat.reduceEqDiff, Nat.reduceBEq, Nat.reduceGT, tA_PR, t1_PR, tT_PR, r1_PR, ptr_ro, zs_lt, hS, q', q2, hpos, flV_0, hne, h1]
  · have q2 : (p : Int) = (s.p.length : Int) := by omega
    have e2 : p = s.p.length := by omega
    subst e2
    simp (config := {maxSteps := 4000000, implicitDefEqProofs := false}) (disch := omega) only [go_sem, ↓reduceIte, Nat.reduceAdd, Nat.reduceSub, Nat.reduceMul, Nat.reduceLeDiff, Nat.reduceLT, Int.reduceEq, Int.reduceNe, Int.reduceLT, Int.reduceLE, Int.reduceAdd, Int.reduceSub, Int.reduceMul, Int.reduceNeg, Int.reduceToNat, reduceCtorEq, Nat.reduceEqDiff, Nat.reduceBEq, Nat.reduceGT, tA_PR, t1_PR, tT_PR, r1_PR, ptr_ro, zs_lt, hS, h1]
theorem layP_old (m : Nat) (s : So) (x : Vo) (hm : s.p.length < m) (hl : s.p.length ≤ 1000000) (hs : Srt s.p) (p : Nat) (hp : posV s.p x = p) (q : p < s.p.length) (h : s.p[p].fr = x.fr) : slot_lay m (OP 0 4) (vE x) (HB s x) = some (nA (againI x.vw s.p[p].vw (decide (x.tm = s.p[p].tm))), if againI x.vw s.p[p].vw (decide (x.tm = s.p[p].tm)) = 0 then (HB s x).set 5 ⟨4, ty_api_Vote, 3, (s.p.set p x).map vE⟩ else HB s x) := by
  have hS := searchP m s x hm hl hs
  have h1 := lay2P m s x p q hl
  rw [slot_lay_eq, vE_it]
  rw [hp] at hS
  have q' : (p : Int) < (s.p.length : Int) := by omega
  have q2 : ¬ (p : Int) = (s.p.length : Int) := by omega
  have hpos : 0 < s.p.length := by omega
  simp (config := {maxSteps := 4000000, implicitDefEqProofs := false}) (disch := omega) only [go_sem, ↓reduceIte, Nat.reduceAdd, Nat.reduceSub, Nat.reduceMul, Nat.reduceLeDiff, Nat.reduceLT, Int.reduceEq, Int.reduceNe, Int.reduceLT, Int.reduceLE, Int.reduceAdd, Int.reduceSub, Int.reduceMul, Int.reduceNeg, Int.reduceToNat, reduceCtorEq, Nat.reduceEqDiff, Nat.reduceBEq, Nat.reduceGT, tA_PR, t1_PR, tT_PR, r1_PR, ptr_ro, zs_lt, hS, q', q2, hpos, flV_0, h, h1]
def prepF (s : So) (x : Vo) : So × Int :=
  if mayB s = true ∧ voteB x = true then (if (layF s.p x).2 = 0 then ({ s with p := (layF s.p x).1 }, 0) else (SZ, (layF s.p x).2)) else (SZ, 1)
theorem with2P_s (m : Nat) (s : So) (x : Vo) (h : s.Ok m) (hs : Srt s.p) : slot_with_r2 m ⟨[⟨1, ty_api_Slot, 0, SC s⟩, ⟨1, ty_api_Vote, 0, vC x⟩, ⟨1, ty_api_Slot, 0, zc_api_Slot⟩], [(2, fnP), (3, OP 0 0), (4, OP 1 0), (6, OP 2 0)]⟩ = some (if (layF s.p x).2 = 0 then TU [SE { s with p := (layF s.p x).1 }, nA 0] else TU [SE SZ, nA (layF s.p x).2], []) := by
  have hO := own_s3 m s ⟨1, ty_api_Slot, 0, SC s⟩ ⟨1, ty_api_Vote, 0, vC x⟩ ⟨1, ty_api_Slot, 0, zc_api_Slot⟩ h (fun n => rfl) (fun n => rfl) (fun n => rfl)
  have hK := kindP_s m s x
  obtain ⟨p1, p2, c1, c2, b1⟩ := h
  rw [SE_it] at hO
  have hN := layP_new m s x (by omega) (by omega) hs
  have hD := layP_old m s x (by omega) (by omega) hs
  rw [slot_with_r2_eq]
  rcases Nat.lt_or_ge (posV s.p x) s.p.length with q | q
  · by_cases hf : s.p[posV s.p x].fr = x.fr
    · have hL := hD _ rfl q hf
      have eF : layF s.p x = if againI x.vw s.p[posV s.p x].vw (decide (x.tm = s.p[posV s.p x].tm)) = 0 then (s.p.set (posV s.p x) x, 0) else ([], againI x.vw s.p[posV s.p x].vw (decide (x.tm = s.p[posV s.p x].tm))) := by
        unfold layF
        rw [List.getElem?_eq_getElem q]
        dsimp only
        rw [if_pos hf]
      rw [eF]
      generalize againI x.vw s.p[posV s.p x].vw (decide (x.tm = s.p[posV s.p x].tm)) = e at hL ⊢
      by_cases he : e = 0
      · subst he
        have hlen : s.p.length = (s.p.set (posV s.p x) x).length := by rw [List.length_set]
        rw [if_pos rfl] at hL ⊢
        generalize s.p.set (posV s.p x) x = L at hL hlen ⊢
        rw [vE_it] at hL
        have hL2 := hL
        simp (config := {maxSteps := 4000000, implicitDefEqProofs := false}) (disch := omega) only [go_sem, ↓reduceIte, Nat.reduceAdd, Nat.reduceSub, Nat.reduceMul, Nat.reduceLeDiff, Nat.reduceLT, Int.reduceEq, Int.reduceNe, Int.reduceLT, Int.reduceLE, Int.reduceAdd, Int.reduceSub, Int.reduceMul, Int.reduceNeg, Int.reduceToNat, reduceCtorEq, Nat.reduceEqDiff, Nat.reduceBEq, Nat.reduceGT, hO, hK, callV_P, hL2, zs_set6, sc_set6, tA_PR, t1_PR, tT_PR, r1_PR, ptr_ro, zs_all1, u_tellZ, fz_ll, se_lt]
      · rw [if_neg he] at hL
        rw [if_neg he, if_neg he]
        rw [vE_it] at hL
        simp (config := {maxSteps := 4000000, implicitDefEqProofs := false}) (disch := omega) only [go_sem, ↓reduceIte, Nat.reduceAdd, Nat.reduceSub, Nat.reduceMul, Nat.reduceLeDiff, Nat.reduceLT, Int.reduceEq, Int.reduceNe, Int.reduceLT, Int.reduceLE, Int.reduceAdd, Int.reduceSub, Int.reduceMul, Int.reduceNeg, Int.reduceToNat, reduceCtorEq, Nat.reduceEqDiff, Nat.reduceBEq, Nat.reduceGT, hO, hK, callV_P, hL, he, zs_set6, sc_set6, tA_PR, t1_PR, tT_PR, r1_PR, ptr_ro, zs_all1]
        try rfl
    · have hL := hN fun _ => hf
      have eF : layF s.p x = (s.p.take (posV s.p x) ++ x :: s.p.drop (posV s.p x), 0) := by
        unfold layF
        rw [List.getElem?_eq_getElem q]
        dsimp only
        rw [if_neg hf]
      rw [eF]
      generalize s.p.take (posV s.p x) ++ x :: s.p.drop (posV s.p x) = L at hL ⊢
      rw [vE_it] at hL
      rw [if_pos rfl]
      simp (config := {maxSteps := 4000000, implicitDefEqProofs := false}) (disch := omega) only [go_sem, ↓reduceIte, Nat.reduceAdd, Nat.reduceSub, Nat.reduceMul, Nat.reduceLeDiff, Nat.reduceLT, Int.reduceEq, Int.reduceNe, Int.reduceLT, Int.reduceLE, Int.reduceAdd, Int.reduceSub, Int.reduceMul, Int.reduceNeg, Int.reduceToNat, reduceCtorEq, Nat.reduceEqDiff, Nat.reduceBEq, Nat.reduceGT, hO, hK, callV_P, hL, zs_set6, sc_set6, tA_PR, t1_PR, tT_PR, r1_PR, ptr_ro, zs_all1, u_tellZ, fz_sl, se_lt]
  · have hL := hN fun q2 => by omega
    have eF : layF s.p x = (s.p.take (posV s.p x) ++ x :: s.p.drop (posV s.p x), 0) := by
      unfold layF
      rw [List.getElem?_eq_none (by omega)]
    rw [eF]
    generalize s.p.take (posV s.p x) ++ x :: s.p.drop (posV s.p x) = L at hL ⊢
    rw [vE_it] at hL
    rw [if_pos rfl]
    simp (config := {maxSteps := 4000000, implicitDefEqProofs := false}) (disch := omega) only [go_sem, ↓reduceIte, Nat.reduceAdd, Nat.reduceSub, Nat.reduceMul, Nat.reduceLeDiff, Nat.reduceLT, Int.reduceEq, Int.reduceNe, Int.reduceLT, Int.reduceLE, Int.reduceAdd, Int.reduceSub, Int.reduceMul, Int.reduceNeg, Int.reduceToNat, reduceCtorEq, Nat.reduceEqDiff, Nat.reduceBEq, Nat.reduceGT, hO, hK, callV_P, hL, zs_set6, sc_set6, tA_PR, t1_PR, tT_PR, r1_PR, ptr_ro, zs_all1, u_tellZ, fz_sl, se_lt]
theorem may_srtP {s : So} (h : mayB s = true) : Srt s.p := by
  unfold mayB at h
  simp only [Bool.and_eq_true] at h
  exact (votes_srt h.2.2.2.2.1).1
theorem with1P_s (m : Nat) (s : So) (x : Vo) : slot_with_r1 m ⟨[⟨1, ty_api_Slot, 0, SC s⟩, ⟨1, ty_api_Vote, 0, vC x⟩, ⟨1, ty_api_Slot, 0, zc_api_Slot⟩], [(2, fnP), (3, OP 0 0), (4, OP 1 0), (6, OP 2 0), (16, V (.bool true))]⟩ = some (TU [SE SZ, nA 1], []) := by
  rw [slot_with_r1_eq]
  simp (config := {maxSteps := 4000000, implicitDefEqProofs := false}) (disch := omega) only [go_sem, ↓reduceIte, Nat.reduceAdd, Nat.reduceSub, Nat.reduceMul, Nat.reduceLeDiff, Nat.reduceLT, Int.reduceEq, Int.reduceNe, Int.reduceLT, Int.reduceLE, Int.reduceAdd, Int.reduceSub, Int.reduceMul, Int.reduceNeg, Int.reduceToNat, reduceCtorEq, Nat.reduceEqDiff, Nat.reduceBEq, Nat.reduceGT, zs_all1]
  try rfl
theorem withP_s (m : Nat) (s : So) (x : Vo) (h : s.Ok m) : slot_with m (SE s) (vE x) fnP = some (TU [SE (prepF s x).1, nA (prepF s x).2], []) := by
  have hM := may_s m s h
  have hV := vote_s m x
  have h1 := with1P_s m s x
  rw [SE_it] at hM
  rw [vE_it] at hV
  rw [slot_with_eq, SE_it, vE_it]
  unfold prepF
  cases q1 : mayB s with
  | false =>
    rw [q1] at hM
    rw [if_neg (by simp)]
    simp (config := {maxSteps := 4000000, implicitDefEqProofs := false}) (disch := omega) only [go_sem, ↓reduceIte, Nat.reduceAdd, Nat.reduceSub, Nat.reduceMul, Nat.reduceLeDiff, Nat.reduceLT, Int.reduceEq, Int.reduceNe, Int.reduceLT, Int.reduceLE, Int.reduceAdd, Int.reduceSub, Int.reduceMul, Int.reduceNeg, Int.reduceToNat, reduceCtorEq, Nat.reduceEqDiff, Nat.reduceBEq, Nat.reduceGT, hM, h1]
  | true =>
  rw [q1] at hM
  have h2 := with2P_s m s x h (may_srtP q1)
  cases q2 : voteB x with
  | false =>
    rw [q2] at hV
    rw [if_neg (by simp)]
    simp (config := {maxSteps := 4000000, implicitDefEqProofs := false}) (disch := omega) only [go_sem, ↓reduceIte, Nat.reduceAdd, Nat.reduceSub, Nat.reduceMul, Nat.reduceLeDiff, Nat.reduceLT, Int.reduceEq, Int.reduceNe, Int.reduceLT, Int.reduceLE, Int.reduceAdd, Int.reduceSub, Int.reduceMul, Int.reduceNeg, Int.reduceToNat, reduceCtorEq, Nat.reduceEqDiff, Nat.reduceBEq, Nat.reduceGT, hM, hV, h1]
  | true =>
  rw [q2] at hV
  rw [if_pos ⟨rfl, rfl⟩]
  simp (config := {maxSteps := 4000000, implicitDefEqProofs := false}) (disch := omega) only [go_sem, ↓reduceIte, Nat.reduceAdd, Nat.reduceSub, Nat.reduceMul, Nat.reduceLeDiff, Nat.reduceLT, Int.reduceEq, Int.reduceNe, Int.reduceLT, Int.reduceLE, Int.reduceAdd, Int.reduceSub, Int.reduceMul, Int.reduceNeg, Int.reduceToNat, reduceCtorEq, Nat.reduceEqDiff, Nat.reduceBEq, Nat.reduceGT, hM, hV, slot_with_r1_eq, h2]
  split <;> rfl
theorem ro_fnP {H : List AObj} : ro H fnP = fnP := _root_.id rfl
theorem lt_fnP {n : Nat} : ltT n fnP = true := _root_.id rfl
theorem prep_s (m : Nat) (s : So) (x : Vo) (h : s.Ok m) : slot_Prepare m (SE s) (vE x) = some (TU [SE (prepF s x).1, nA (prepF s x).2], []) := by
  have hW := withP_s m s x h
  rw [SE_it, vE_it, SE_it] at hW
  rw [slot_Prepare_eq, SE_it, vE_it, SE_it]
  simp (config := {maxSteps := 4000000, implicitDefEqProofs := false}) (disch := omega) only [go_sem, ↓reduceIte, Nat.reduceAdd, Nat.reduceSub, Nat.reduceMul, Nat.reduceLeDiff, Nat.reduceLT, Int.reduceEq, Int.reduceNe, Int.reduceLT, Int.reduceLE, Int.reduceAdd, Int.reduceSub, Int.reduceMul, Int.reduceNeg, Int.reduceToNat, reduceCtorEq, Nat.reduceEqDiff, Nat.reduceBEq, Nat.reduceGT, hW, ro_fnP, lt_fnP]
theorem rprep_s (m : Nat) (s : So) (x : Vo) (h : s.Ok m) : plenumref29_Prepare m (SE s) (vE x) = some (TU [SE (prepF s x).1, nA (prepF s x).2], []) := by
  have hM := rmay_s m s h
  have hV := rvote_s m x
  have h1 : plenumref29_Prepare_r1 m ⟨[⟨1, ty_api_Slot, 0, SC s⟩, ⟨1, ty_api_Vote, 0, vC x⟩, ⟨1, ty_api_Slot, 0, zc_api_Slot⟩], [(2, OP 0 0), (3, OP 1 0), (4, OP 2 0), (15, V (.bool true))]⟩ = some (TU [SE SZ, nA 1], []) := by
    rw [plenumref29_Prepare_r1_eq]
    simp (config := {maxSteps := 4000000, implicitDefEqProofs := false}) (disch := omega) only [go_sem, ↓reduceIte, Nat.reduceAdd, Nat.reduceSub, Nat.reduceMul, Nat.reduceLeDiff, Nat.reduceLT, Int.reduceEq, Int.reduceNe, Int.reduceLT, Int.reduceLE, Int.reduceAdd, Int.reduceSub, Int.reduceMul, Int.reduceNeg, Int.reduceToNat, reduceCtorEq, Nat.reduceEqDiff, Nat.reduceBEq, Nat.reduceGT, zs_all1]
    try rfl
  rw [SE_it] at hM
  rw [vE_it] at hV
  rw [plenumref29_Prepare_eq, SE_it, vE_it]
  unfold prepF
  cases q1 : mayB s with
  | false =>
    rw [q1] at hM
    rw [if_neg (by simp)]
    simp (config := {maxSteps := 4000000, implicitDefEqProofs := false}) (disch := omega) only [go_sem, ↓reduceIte, Nat.reduceAdd, Nat.reduceSub, Nat.reduceMul, Nat.reduceLeDiff, Nat.reduceLT, Int.reduceEq, Int.reduceNe, Int.reduceLT, Int.reduceLE, Int.reduceAdd, Int.reduceSub, Int.reduceMul, Int.reduceNeg, Int.reduceToNat, reduceCtorEq, Nat.reduceEqDiff, Nat.reduceBEq, Nat.reduceGT, hM, h1]
  | true =>
  rw [q1] at hM
  cases q2 : voteB x with
  | false =>
    rw [q2] at hV
    rw [if_neg (by simp)]
    simp (config := {maxSteps := 4000000, implicitDefEqProofs := false}) (disch := omega) only [go_sem, ↓reduceIte, Nat.reduceAdd, Nat.reduceSub, Nat.reduceMul, Nat.reduceLeDiff, Nat.reduceLT, Int.reduceEq, Int.reduceNe, Int.reduceLT, Int.reduceLE, Int.reduceAdd, Int.reduceSub, Int.reduceMul, Int.reduceNeg, Int.reduceToNat, reduceCtorEq, Nat.reduceEqDiff, Nat.reduceBEq, Nat.reduceGT, hM, hV, h1]
  | true =>
  rw [q2] at hV
  rw [if_pos ⟨rfl, rfl⟩]
  obtain ⟨p1, p2, c1, c2, b1⟩ := h
  have hR := rlay_s m s.p x (by omega) (by omega) (may_srtP q1)
  rw [vE_it] at hR
  generalize layF s.p x = G at hR ⊢
  obtain ⟨L, e⟩ := G
  dsimp only at hR ⊢
  by_cases he : e = 0
  · subst he
    rw [if_pos rfl]
    simp (config := {maxSteps := 4000000, implicitDefEqProofs := false}) (disch := omega) only [go_sem, ↓reduceIte, Nat.reduceAdd, Nat.reduceSub, Nat.reduceMul, Nat.reduceLeDiff, Nat.reduceLT, Int.reduceEq, Int.reduceNe, Int.reduceLT, Int.reduceLE, Int.reduceAdd, Int.reduceSub, Int.reduceMul, Int.reduceNeg, Int.reduceToNat, reduceCtorEq, Nat.reduceEqDiff, Nat.reduceBEq, Nat.reduceGT, hM, hV, hR, sc_setP, plenumref29_Prepare_r1_eq, plenumref29_Prepare_r2_eq]
    try rfl
  · rw [if_neg he]
    simp (config := {maxSteps := 4000000, implicitDefEqProofs := false}) (disch := omega) only [go_sem, ↓reduceIte, Nat.reduceAdd, Nat.reduceSub, Nat.reduceMul, Nat.reduceLeDiff, Nat.reduceLT, Int.reduceEq, Int.reduceNe, Int.reduceLT, Int.reduceLE, Int.reduceAdd, Int.reduceSub, Int.reduceMul, Int.reduceNeg, Int.reduceToNat, reduceCtorEq, Nat.reduceEqDiff, Nat.reduceBEq, Nat.reduceGT, hM, hV, hR, he, zs_all1, plenumref29_Prepare_r1_eq, plenumref29_Prepare_r2_eq]
    try rfl
abbrev fnC : AV := V (.func (.func 30) #[] #[])
theorem callV_C {R : Type} {m : Nat} {H : List AObj} {K : AV → List AObj → Option R} : callVE (slot_with_env m) fnC [OP 0 0] H K = keepE (slot_Commit_1_t m [OP 0 0] H) K := _root_.id rfl
theorem kindC_s (m : Nat) (s : So) (x : Vo) : slot_Commit_1_t m [OP 0 0] (HB s x) = some (OP 0 5, HB s x) := by
  show slot_Commit_1 m _ _ = _
  rw [slot_Commit_1_eq]
  simp (config := {maxSteps := 4000000, implicitDefEqProofs := false}) (disch := omega) only [go_sem, ↓reduceIte, Nat.reduceAdd, Nat.reduceSub, Nat.reduceMul, Nat.reduceLeDiff, Nat.reduceLT, Int.reduceEq, Int.reduceNe, Int.reduceLT, Int.reduceLE, Int.reduceAdd, Int.reduceSub, Int.reduceMul, Int.reduceNeg, Int.reduceToNat, reduceCtorEq, Nat.reduceEqDiff, Nat.reduceBEq, Nat.reduceGT, tA_PR, t1_PR, tT_PR, r1_PR, zs_lt]
theorem layC_new (m : Nat) (s : So) (x : Vo) (hm : s.c.length < m) (hl : s.c.length ≤ 1000000) (hs : Srt s.c) (h : ∀ q : posV s.c x < s.c.length, ¬ s.c[posV s.c x].fr = x.fr) : slot_lay m (OP 0 5) (vE x) (HB s x) = some (nA 0, ((HB s x).set 0 ⟨1, ty_api_Slot, 0, (S0 s).set 5 (SL ((s.c.take (posV s.c x) ++ x :: s.c.drop (posV s.c x)).map vE))⟩).set 6 ⟨0, ty_api_Vote, 3, []⟩) := by
  have hS := searchC m s x hm hl hs
  have hle := pos_le s.c x
  have h1 := lay1C m s x (posV s.c x) hle hl
  rw [slot_lay_eq, vE_it]
  generalize posV s.c x = p at h hS hle h1 ⊢
  rcases Nat.lt_or_ge p s.c.length with q | q
  · have q' : (p : Int) < (s.c.length : Int) := by omega
    have q2 : ¬ (p : Int) = (s.c.length : Int) := by omega
    have hpos : 0 < s.c.length := by omega
    have hne := h q
    simp (config := {maxSteps := 4000000, implicitDefEqProofs := false}) (disch := omega) only [go_sem, ↓reduceIte, Nat.reduceAdd, Nat.reduceSub, Nat.reduceMul, Nat.reduceLeDiff, Nat.reduceLT, Int.reduceEq, Int.reduceNe, Int.reduceLT, Int.reduceLE, Int.reduceAdd, Int.reduceSub, Int.reduceMul, Int.reduceNeg, Int.reduceToNat, reduceCtorEq, Nat.reduceEqDiff, Nat.reduceBEq, Nat.reduceGT, tA_PR, t1_PR, tT_PR, r1_PR, ptr_ro, zs_lt, hS, q', q2, hpos, flV_0, hne, h1]
  · have q2 : (p : Int) = (s.c.length : Int) := by omega
    have e2 : p = s.c.length := by omega
    subst e2
    simp (config := {maxSteps := 4000000, implicitDefEqProofs := false}) (disch := omega) only [go_sem, ↓reduceIte, Nat.reduceAdd, Nat.reduceSub, Nat.reduceMul, Nat.reduceLeDiff, Nat.reduceLT, Int.reduceEq, Int.reduceNe, Int.reduceLT, Int.reduceLE, Int.reduceAdd, Int.reduceSub, Int.reduceMul, Int.reduceNeg, Int.reduceToNat, reduceCtorEq, Nat.reduceEqDiff, Nat.reduceBEq, Nat.reduceGT, tA_PR, t1_PR, tT_PR, r1_PR, ptr_ro, zs_lt, hS, h1]
theorem layC_old (m : Nat) (s : So) (x : Vo) (hm : s.c.length < m) (hl : s.c.length ≤ 1000000) (hs : Srt s.c) (p : Nat) (hp : posV s.c x = p) (q : p < s.c.length) (h : s.c[p].fr = x.fr) : slot_lay m (OP 0 5) (vE x) (HB s x) = some (nA (againI x.vw s.c[p].vw (decide (x.tm = s.c[p].tm))), if againI x.vw s.c[p].vw (decide (x.tm = s.c[p].tm)) = 0 then (HB s x).set 6 ⟨4, ty_api_Vote, 3, (s.c.set p x).map vE⟩ else HB s x) := by
  have hS := searchC m s x hm hl hs
  have h1 := lay2C m s x p q hl
  rw [slot_lay_eq, vE_it]
  rw [hp] at hS
  have q' : (p : Int) < (s.c.length : Int) := by omega
  have q2 : ¬ (p : Int) = (s.c.length : Int) := by omega
  have hpos : 0 < s.c.length := by omega
  simp (config := {maxSteps := 4000000, implicitDefEqProofs := false}) (disch := omega) only [go_sem, ↓reduceIte, Nat.reduceAdd, Nat.reduceSub, Nat.reduceMul, Nat.reduceLeDiff, Nat.reduceLT, Int.reduceEq, Int.reduceNe, Int.reduceLT, Int.reduceLE, Int.reduceAdd, Int.reduceSub, Int.reduceMul, Int.reduceNeg, Int.reduceToNat, reduceCtorEq, Nat.reduceEqDiff, Nat.reduceBEq, Nat.reduceGT, tA_PR, t1_PR, tT_PR, r1_PR, ptr_ro, zs_lt, hS, q', q2, hpos, flV_0, h, h1]
def commF (s : So) (x : Vo) : So × Int :=
  if mayB s = true ∧ voteB x = true then (if (layF s.c x).2 = 0 then ({ s with c := (layF s.c x).1 }, 0) else (SZ, (layF s.c x).2)) else (SZ, 1)
theorem with2C_s (m : Nat) (s : So) (x : Vo) (h : s.Ok m) (hs : Srt s.c) : slot_with_r2 m ⟨[⟨1, ty_api_Slot, 0, SC s⟩, ⟨1, ty_api_Vote, 0, vC x⟩, ⟨1, ty_api_Slot, 0, zc_api_Slot⟩], [(2, fnC), (3, OP 0 0), (4, OP 1 0), (6, OP 2 0)]⟩ = some (if (layF s.c x).2 = 0 then TU [SE { s with c := (layF s.c x).1 }, nA 0] else TU [SE SZ, nA (layF s.c x).2], []) := by
  have hO := own_s3 m s ⟨1, ty_api_Slot, 0, SC s⟩ ⟨1, ty_api_Vote, 0, vC x⟩ ⟨1, ty_api_Slot, 0, zc_api_Slot⟩ h (fun n => rfl) (fun n => rfl) (fun n => rfl)
  have hK := kindC_s m s x
  obtain ⟨p1, p2, c1, c2, b1⟩ := h
  rw [SE_it] at hO
  have hN := layC_new m s x (by omega) (by omega) hs
  have hD := layC_old m s x (by omega) (by omega) hs
  rw [slot_with_r2_eq]
  rcases Nat.lt_or_ge (posV s.c x) s.c.length with q | q
  · by_cases hf : s.c[posV s.c x].fr = x.fr
    · have hL := hD _ rfl q hf
      have eF : layF s.c x = if againI x.vw s.c[posV s.c x].vw (decide (x.tm = s.c[posV s.c x].tm)) = 0 then (s.c.set (posV s.c x) x, 0) else ([], againI x.vw s.c[posV s.c x].vw (decide (x.tm = s.c[posV s.c x].tm))) := by
        unfold layF
        rw [List.getElem?_eq_getElem q]
        dsimp only
        rw [if_pos hf]
      rw [eF]
      generalize againI x.vw s.c[posV s.c x].vw (decide (x.tm = s.c[posV s.c x].tm)) = e at hL ⊢
      by_cases he : e = 0
      · subst he
        have hlen : s.c.length = (s.c.set (posV s.c x) x).length := by rw [List.length_set]
        rw [if_pos rfl] at hL ⊢
        generalize s.c.set (posV s.c x) x = L at hL hlen ⊢
        rw [vE_it] at hL
        have hL2 := hL
        simp (config := {maxSteps := 4000000, implicitDefEqProofs := false}) (disch := omega) only [go_sem, ↓reduceIte, Nat.reduceAdd, Nat.reduceSub, Nat.reduceMul, Nat.reduceLeDiff, Nat.reduceLT, Int.reduceEq, Int.reduceNe, Int.reduceLT, Int.reduceLE, Int.reduceAdd, Int.reduceSub, Int.reduceMul, Int.reduceNeg, Int.reduceToNat, reduceCtorEq, Nat.reduceEqDiff, Nat.reduceBEq, Nat.reduceGT, hO, hK, callV_C, hL2, zs_set6, sc_set6, tA_PR, t1_PR, tT_PR, r1_PR, ptr_ro, zs_all1, u_tellZ, fz_ll2, se_lt]
      · rw [if_neg he] at hL
        rw [if_neg he, if_neg he]
        rw [vE_it] at hL
        simp (config := {maxSteps := 4000000, implicitDefEqProofs := false}) (disch := omega) only [go_sem, ↓reduceIte, Nat.reduceAdd, Nat.reduceSub, Nat.reduceMul, Nat.reduceLeDiff, Nat.reduceLT, Int.reduceEq, Int.reduceNe, Int.reduceLT, Int.reduceLE, Int.reduceAdd, Int.reduceSub, Int.reduceMul, Int.reduceNeg, Int.reduceToNat, reduceCtorEq, Nat.reduceEqDiff, Nat.reduceBEq, Nat.reduceGT, hO, hK, callV_C, hL, he, zs_set6, sc_set6, tA_PR, t1_PR, tT_PR, r1_PR, ptr_ro, zs_all1]
        try rfl
    · have hL := hN fun _ => hf
      have eF : layF s.c x = (s.c.take (posV s.c x) ++ x :: s.c.drop (posV s.c x), 0) := by
        unfold layF
        rw [List.getElem?_eq_getElem q]
        dsimp only
        rw [if_neg hf]
      rw [eF]
      generalize s.c.take (posV s.c x) ++ x :: s.c.drop (posV s.c x) = L at hL ⊢
      rw [vE_it] at hL
      rw [if_pos rfl]
      simp (config := {maxSteps := 4000000, implicitDefEqProofs := false}) (disch := omega) only [go_sem, ↓reduceIte, Nat.reduceAdd, Nat.reduceSub, Nat.reduceMul, Nat.reduceLeDiff, Nat.reduceLT, Int.reduceEq, Int.reduceNe, Int.reduceLT, Int.reduceLE, Int.reduceAdd, Int.reduceSub, Int.reduceMul, Int.reduceNeg, Int.reduceToNat, reduceCtorEq, Nat.reduceEqDiff, Nat.reduceBEq, Nat.reduceGT, hO, hK, callV_C, hL, zs_set6, sc_set6, tA_PR, t1_PR, tT_PR, r1_PR, ptr_ro, zs_all1, u_tellZ, fz_ls, se_lt]
  · have hL := hN fun q2 => by omega
    have eF : layF s.c x = (s.c.take (posV s.c x) ++ x :: s.c.drop (posV s.c x), 0) := by
      unfold layF
      rw [List.getElem?_eq_none (by omega)]
    rw [eF]
    generalize s.c.take (posV s.c x) ++ x :: s.c.drop (posV s.c x) = L at hL ⊢
    rw [vE_it] at hL
    rw [if_pos rfl]
    simp (config := {maxSteps := 4000000, implicitDefEqProofs := false}) (disch := omega) only [go_sem, ↓reduceIte, Nat.reduceAdd, Nat.reduceSub, Nat.reduceMul, Nat.reduceLeDiff, Nat.reduceLT, Int.reduceEq, Int.reduceNe, Int.reduceLT, Int.reduceLE, Int.reduceAdd, Int.reduceSub, Int.reduceMul, Int.reduceNeg, Int.reduceToNat, reduceCtorEq, Nat.reduceEqDiff, Nat.reduceBEq, Nat.reduceGT, hO, hK, callV_C, hL, zs_set6, sc_set6, tA_PR, t1_PR, tT_PR, r1_PR, ptr_ro, zs_all1, u_tellZ, fz_ls, se_lt]
theorem may_srtC {s : So} (h : mayB s = true) : Srt s.c := by
  unfold mayB at h
  simp only [Bool.and_eq_true] at h
  exact (votes_srt h.2.2.2.2.2).1
theorem with1C_s (m : Nat) (s : So) (x : Vo) : slot_with_r1 m ⟨[⟨1, ty_api_Slot, 0, SC s⟩, ⟨1, ty_api_Vote, 0, vC x⟩, ⟨1, ty_api_Slot, 0, zc_api_Slot⟩], [(2, fnC), (3, OP 0 0), (4, OP 1 0), (6, OP 2 0), (16, V (.bool true))]⟩ = some (TU [SE SZ, nA 1], []) := by
  rw [slot_with_r1_eq]
  simp (config := {maxSteps := 4000000, implicitDefEqProofs := false}) (disch := omega) only [go_sem, ↓reduceIte, Nat.reduceAdd, Nat.reduceSub, Nat.reduceMul, Nat.reduceLeDiff, Nat.reduceLT, Int.reduceEq, Int.reduceNe, Int.reduceLT, Int.reduceLE, Int.reduceAdd, Int.reduceSub, Int.reduceMul, Int.reduceNeg, Int.reduceToNat, reduceCtorEq, Nat.reduceEqDiff, Nat.reduceBEq, Nat.reduceGT, zs_all1]
  try rfl
theorem withC_s (m : Nat) (s : So) (x : Vo) (h : s.Ok m) : slot_with m (SE s) (vE x) fnC = some (TU [SE (commF s x).1, nA (commF s x).2], []) := by
  have hM := may_s m s h
  have hV := vote_s m x
  have h1 := with1C_s m s x
  rw [SE_it] at hM
  rw [vE_it] at hV
  rw [slot_with_eq, SE_it, vE_it]
  unfold commF
  cases q1 : mayB s with
  | false =>
    rw [q1] at hM
    rw [if_neg (by simp)]
    simp (config := {maxSteps := 4000000, implicitDefEqProofs := false}) (disch := omega) only [go_sem, ↓reduceIte, Nat.reduceAdd, Nat.reduceSub, Nat.reduceMul, Nat.reduceLeDiff, Nat.reduceLT, Int.reduceEq, Int.reduceNe, Int.reduceLT, Int.reduceLE, Int.reduceAdd, Int.reduceSub, Int.reduceMul, Int.reduceNeg, Int.reduceToNat, reduceCtorEq, Nat.reduceEqDiff, Nat.reduceBEq, Nat.reduceGT, hM, h1]
  | true =>
  rw [q1] at hM
  have h2 := with2C_s m s x h (may_srtC q1)
  cases q2 : voteB x with
  | false =>
    rw [q2] at hV
    rw [if_neg (by simp)]
    simp (config := {maxSteps := 4000000, implicitDefEqProofs := false}) (disch := omega) only [go_sem, ↓reduceIte, Nat.reduceAdd, Nat.reduceSub, Nat.reduceMul, Nat.reduceLeDiff, Nat.reduceLT, Int.reduceEq, Int.reduceNe, Int.reduceLT, Int.reduceLE, Int.reduceAdd, Int.reduceSub, Int.reduceMul, Int.reduceNeg, Int.reduceToNat, reduceCtorEq, Nat.reduceEqDiff, Nat.reduceBEq, Nat.reduceGT, hM, hV, h1]
  | true =>
  rw [q2] at hV
  rw [if_pos ⟨rfl, rfl⟩]
  simp (config := {maxSteps := 4000000, implicitDefEqProofs := false}) (disch := omega) only [go_sem, ↓reduceIte, Nat.reduceAdd, Nat.reduceSub, Nat.reduceMul, Nat.reduceLeDiff, Nat.reduceLT, Int.reduceEq, Int.reduceNe, Int.reduceLT, Int.reduceLE, Int.reduceAdd, Int.reduceSub, Int.reduceMul, Int.reduceNeg, Int.reduceToNat, reduceCtorEq, Nat.reduceEqDiff, Nat.reduceBEq, Nat.reduceGT, hM, hV, slot_with_r1_eq, h2]
  split <;> rfl
theorem ro_fnC {H : List AObj} : ro H fnC = fnC := _root_.id rfl
theorem lt_fnC {n : Nat} : ltT n fnC = true := _root_.id rfl
theorem comm_s (m : Nat) (s : So) (x : Vo) (h : s.Ok m) : slot_Commit m (SE s) (vE x) = some (TU [SE (commF s x).1, nA (commF s x).2], []) := by
  have hW := withC_s m s x h
  rw [SE_it, vE_it, SE_it] at hW
  rw [slot_Commit_eq, SE_it, vE_it, SE_it]
  simp (config := {maxSteps := 4000000, implicitDefEqProofs := false}) (disch := omega) only [go_sem, ↓reduceIte, Nat.reduceAdd, Nat.reduceSub, Nat.reduceMul, Nat.reduceLeDiff, Nat.reduceLT, Int.reduceEq, Int.reduceNe, Int.reduceLT, Int.reduceLE, Int.reduceAdd, Int.reduceSub, Int.reduceMul, Int.reduceNeg, Int.reduceToNat, reduceCtorEq, Nat.reduceEqDiff, Nat.reduceBEq, Nat.reduceGT, hW, ro_fnC, lt_fnC]
theorem rcomm_s (m : Nat) (s : So) (x : Vo) (h : s.Ok m) : plenumref29_Commit m (SE s) (vE x) = some (TU [SE (commF s x).1, nA (commF s x).2], []) := by
  have hM := rmay_s m s h
  have hV := rvote_s m x
  have h1 : plenumref29_Commit_r1 m ⟨[⟨1, ty_api_Slot, 0, SC s⟩, ⟨1, ty_api_Vote, 0, vC x⟩, ⟨1, ty_api_Slot, 0, zc_api_Slot⟩], [(2, OP 0 0), (3, OP 1 0), (4, OP 2 0), (15, V (.bool true))]⟩ = some (TU [SE SZ, nA 1], []) := by
    rw [plenumref29_Commit_r1_eq]
    simp (config := {maxSteps := 4000000, implicitDefEqProofs := false}) (disch := omega) only [go_sem, ↓reduceIte, Nat.reduceAdd, Nat.reduceSub, Nat.reduceMul, Nat.reduceLeDiff, Nat.reduceLT, Int.reduceEq, Int.reduceNe, Int.reduceLT, Int.reduceLE, Int.reduceAdd, Int.reduceSub, Int.reduceMul, Int.reduceNeg, Int.reduceToNat, reduceCtorEq, Nat.reduceEqDiff, Nat.reduceBEq, Nat.reduceGT, zs_all1]
    try rfl
  rw [SE_it] at hM
  rw [vE_it] at hV
  rw [plenumref29_Commit_eq, SE_it, vE_it]
  unfold commF
  cases q1 : mayB s with
  | false =>
    rw [q1] at hM
    rw [if_neg (by simp)]
    simp (config := {maxSteps := 4000000, implicitDefEqProofs := false}) (disch := omega) only [go_sem, ↓reduceIte, Nat.reduceAdd, Nat.reduceSub, Nat.reduceMul, Nat.reduceLeDiff, Nat.reduceLT, Int.reduceEq, Int.reduceNe, Int.reduceLT, Int.reduceLE, Int.reduceAdd, Int.reduceSub, Int.reduceMul, Int.reduceNeg, Int.reduceToNat, reduceCtorEq, Nat.reduceEqDiff, Nat.reduceBEq, Nat.reduceGT, hM, h1]
  | true =>
  rw [q1] at hM
  cases q2 : voteB x with
  | false =>
    rw [q2] at hV
    rw [if_neg (by simp)]
    simp (config := {maxSteps := 4000000, implicitDefEqProofs := false}) (disch := omega) only [go_sem, ↓reduceIte, Nat.reduceAdd, Nat.reduceSub, Nat.reduceMul, Nat.reduceLeDiff, Nat.reduceLT, Int.reduceEq, Int.reduceNe, Int.reduceLT, Int.reduceLE, Int.reduceAdd, Int.reduceSub, Int.reduceMul, Int.reduceNeg, Int.reduceToNat, reduceCtorEq, Nat.reduceEqDiff, Nat.reduceBEq, Nat.reduceGT, hM, hV, h1]
  | true =>
  rw [q2] at hV
  rw [if_pos ⟨rfl, rfl⟩]
  obtain ⟨p1, p2, c1, c2, b1⟩ := h
  have hR := rlay_s m s.c x (by omega) (by omega) (may_srtC q1)
  rw [vE_it] at hR
  generalize layF s.c x = G at hR ⊢
  obtain ⟨L, e⟩ := G
  dsimp only at hR ⊢
  by_cases he : e = 0
  · subst he
    rw [if_pos rfl]
    simp (config := {maxSteps := 4000000, implicitDefEqProofs := false}) (disch := omega) only [go_sem, ↓reduceIte, Nat.reduceAdd, Nat.reduceSub, Nat.reduceMul, Nat.reduceLeDiff, Nat.reduceLT, Int.reduceEq, Int.reduceNe, Int.reduceLT, Int.reduceLE, Int.reduceAdd, Int.reduceSub, Int.reduceMul, Int.reduceNeg, Int.reduceToNat, reduceCtorEq, Nat.reduceEqDiff, Nat.reduceBEq, Nat.reduceGT, hM, hV, hR, sc_setC, plenumref29_Commit_r1_eq, plenumref29_Commit_r2_eq]
    try rfl
  · rw [if_neg he]
    simp (config := {maxSteps := 4000000, implicitDefEqProofs := false}) (disch := omega) only [go_sem, ↓reduceIte, Nat.reduceAdd, Nat.reduceSub, Nat.reduceMul, Nat.reduceLeDiff, Nat.reduceLT, Int.reduceEq, Int.reduceNe, Int.reduceLT, Int.reduceLE, Int.reduceAdd, Int.reduceSub, Int.reduceMul, Int.reduceNeg, Int.reduceToNat, reduceCtorEq, Nat.reduceEqDiff, Nat.reduceBEq, Nat.reduceGT, hM, hV, hR, he, zs_all1, plenumref29_Commit_r1_eq, plenumref29_Commit_r2_eq]
    try rfl
end Go.Proofs.YtaaafkoeddgaaaaDoor

namespace Go.Proofs.YtaaafkoeddgaaaaDoor
set_option linter.unusedVariables false
set_option linter.unusedSimpArgs false
def setL (s : Nat) : List Nat := (List.range 64).filter s.testBit
def cntS (s : Nat) : Nat := (setL s).length
def bv : List Nat → Nat
  | [] => 0
  | b :: r => 2 ^ 8 * bv r + b
theorem and_cons {h b m c : Nat} (hb : b < 2 ^ 8) (hc : c < 2 ^ 8) : (2 ^ 8 * h + b) &&& (2 ^ 8 * m + c) = 2 ^ 8 * (h &&& m) + (b &&& c) := by
  have hbc : b &&& c < 2 ^ 8 := Nat.lt_of_le_of_lt Nat.and_le_left hb
  refine Nat.eq_of_testBit_eq fun j => ?_
  rw [Nat.testBit_and, Nat.testBit_two_pow_mul_add _ hb, Nat.testBit_two_pow_mul_add _ hc, Nat.testBit_two_pow_mul_add _ hbc]
  split
  · rw [Nat.testBit_and]
  · rw [Nat.testBit_and]
theorem shr_and_cons {h b m c k : Nat} (hk : k ≤ 8) (hb : b < 2 ^ 8) (hc : c < 2 ^ (8 - k)) : (2 ^ 8 * h + b) / 2 ^ k &&& (2 ^ 8 * m + c) = 2 ^ 8 * (h / 2 ^ k &&& m) + (b / 2 ^ k &&& c) := by
  have hc8 : c < 2 ^ 8 := Nat.lt_of_lt_of_le hc (Nat.pow_le_pow_right (by decide) (by omega))
  have hbc : b / 2 ^ k &&& c < 2 ^ 8 := Nat.lt_of_le_of_lt Nat.and_le_right hc8
  refine Nat.eq_of_testBit_eq fun j => ?_
  rw [Nat.testBit_and, Nat.testBit_div_two_pow, Nat.testBit_two_pow_mul_add _ hb, Nat.testBit_two_pow_mul_add _ hc8, Nat.testBit_two_pow_mul_add _ hbc]
  by_cases hj : j < 8
  · rw [if_pos hj, if_pos hj, Nat.testBit_and, Nat.testBit_div_two_pow]
    by_cases hjk : j + k < 8
    · rw [if_pos hjk]
    · have : c.testBit j = false := Nat.testBit_lt_two_pow (Nat.lt_of_lt_of_le hc (Nat.pow_le_pow_right (by decide) (by omega)))
      rw [this, Bool.and_false, Bool.and_false]
  · rw [if_neg hj, if_neg hj, if_neg (by omega), Nat.testBit_and, Nat.testBit_div_two_pow]
    congr 2
    omega
def msk (c w : Nat) : Nat := bv (List.replicate w c)
def oc1 (w x : Nat) : Nat := (x / 2 ^ 1 &&& msk 85 w) + (x &&& msk 85 w)
def oc2 (w x : Nat) : Nat := (x / 2 ^ 2 &&& msk 51 w) + (x &&& msk 51 w)
def oc3 (w x : Nat) : Nat := (x / 2 ^ 4 + x) &&& msk 15 w
def f1 (b : Nat) : Nat := (b / 2 ^ 1 &&& 85) + (b &&& 85)
def f2 (b : Nat) : Nat := (b / 2 ^ 2 &&& 51) + (b &&& 51)
def f3 (b : Nat) : Nat := (b / 16 + b) &&& 15
theorem msk_cons (c w : Nat) : msk c (w + 1) = 2 ^ 8 * msk c w + c := rfl
theorem oc1_bv : ∀ (l : List Nat), (∀ b ∈ l, b < 2 ^ 8) → oc1 l.length (bv l) = bv (l.map f1)
  | [], _ => rfl
  | b :: r, h => by
    have ih := oc1_bv r fun x hx => h x (List.mem_cons_of_mem _ hx)
    have hb := h b (List.mem_cons_self ..)
    simp only [List.map_cons, bv, List.length_cons]
    rw [← ih]
    unfold oc1
    rw [msk_cons, shr_and_cons (by decide) hb (by decide), and_cons hb (by decide)]
    unfold f1
    omega
theorem oc2_bv : ∀ (l : List Nat), (∀ b ∈ l, b < 2 ^ 8) → oc2 l.length (bv l) = bv (l.map f2)
  | [], _ => rfl
  | b :: r, h => by
    have ih := oc2_bv r fun x hx => h x (List.mem_cons_of_mem _ hx)
    have hb := h b (List.mem_cons_self ..)
    simp only [List.map_cons, bv, List.length_cons]
    rw [← ih]
    unfold oc2
    rw [msk_cons, shr_and_cons (by decide) hb (by decide), and_cons hb (by decide)]
    unfold f2
    omega
def q4 (b : Nat) : Bool := decide (b % 16 ≤ 4) && decide (b / 16 ≤ 4)
theorem and15 (x : Nat) : x &&& 15 = x % 16 := Nat.and_two_pow_sub_one_eq_mod x 4
theorem oc3_bv : ∀ (l : List Nat), (∀ b ∈ l, q4 b = true) → oc3 l.length (bv l) = bv (l.map f3)
  | [], _ => rfl
  | b :: r, h => by
    have ih := oc3_bv r fun x hx => h x (List.mem_cons_of_mem _ hx)
    have hb := h b (List.mem_cons_self ..)
    unfold q4 at hb
    simp only [Bool.and_eq_true, decide_eq_true_eq] at hb
    have hr : bv r % 16 ≤ 4 := by
      cases r with
      | nil => exact Nat.zero_le _
      | cons c r' =>
        have hc := h c (List.mem_cons_of_mem _ (List.mem_cons_self ..))
        unfold q4 at hc
        simp only [Bool.and_eq_true, decide_eq_true_eq] at hc
        simp only [bv]
        omega
    simp only [List.map_cons, bv, List.length_cons]
    rw [← ih]
    unfold oc3
    rw [msk_cons]
    have e : (2 ^ 8 * bv r + b) / 2 ^ 4 + (2 ^ 8 * bv r + b) = 2 ^ 8 * (bv r / 2 ^ 4 + bv r) + (16 * (bv r % 16) + b / 16 + b) := by omega
    rw [e, and_cons (by omega) (by decide)]
    unfold f3
    rw [and15, and15]
    omega
def p8 (b : Nat) : Nat := ((List.range 8).filter b.testBit).length
theorem f_all : ∀ b, b < 256 → f1 b < 256 ∧ f2 (f1 b) < 256 ∧ q4 (f2 (f1 b)) = true ∧ f3 (f2 (f1 b)) = p8 b ∧ p8 b ≤ 8 := by decide +kernel
theorem range_add (n : Nat) : ∀ k, List.range (n + k) = List.range n ++ (List.range k).map (n + ·)
  | 0 => by simp
  | k + 1 => by rw [← Nat.add_assoc, List.range_succ, range_add n k, List.range_succ, List.map_append, ← List.append_assoc]; rfl
theorem cnt_bv : ∀ (l : List Nat), (∀ b ∈ l, b < 2 ^ 8) → ((List.range (8 * l.length)).filter (bv l).testBit).length = (l.map p8).sum
  | [], _ => rfl
  | b :: r, h => by
    have ih := cnt_bv r fun x hx => h x (List.mem_cons_of_mem _ hx)
    have hb := h b (List.mem_cons_self ..)
    simp only [List.length_cons, List.map_cons, List.sum_cons, bv]
    rw [show 8 * (r.length + 1) = 8 + 8 * r.length by omega, range_add, List.filter_append, List.length_append, List.filter_map, List.length_map]
    congr 1
    · unfold p8
      congr 1
      refine List.filter_congr fun i hi => ?_
      rw [Nat.testBit_two_pow_mul_add _ hb, if_pos (List.mem_range.1 hi)]
    · rw [← ih]
      congr 1
      refine List.filter_congr fun i hi => ?_
      show (2 ^ 8 * bv r + b).testBit (8 + i) = _
      rw [Nat.testBit_two_pow_mul_add _ hb, if_neg (by omega)]
      congr 1; omega
theorem as_bytes (s : Nat) (h : s < 2 ^ 64) : ∃ b0 b1 b2 b3 b4 b5 b6 b7 : Nat, s = bv [b0, b1, b2, b3, b4, b5, b6, b7] ∧ ∀ b ∈ [b0, b1, b2, b3, b4, b5, b6, b7], b < 2 ^ 8 := by
  refine ⟨s % 256, s / 256 % 256, s / 65536 % 256, s / 16777216 % 256, s / 4294967296 % 256, s / 1099511627776 % 256, s / 281474976710656 % 256, s / 72057594037927936 % 256, ?_, ?_⟩
  · simp only [bv]; omega
  · intro b hb
    simp only [List.mem_cons, List.not_mem_nil, or_false] at hb
    omega
theorem msk85 : msk 85 8 = 6148914691236517205 := by decide
theorem msk51 : msk 51 8 = 3689348814741910323 := by decide
theorem msk15 : msk 15 8 = 1085102592571150095 := by decide
theorem oc_sum (s : Nat) (h : s < 2 ^ 64) : ∃ c0 c1 c2 c3 c4 c5 c6 c7 : Nat, oc3 8 (oc2 8 (oc1 8 s)) = bv [c0, c1, c2, c3, c4, c5, c6, c7] ∧ (c0 ≤ 8 ∧ c1 ≤ 8 ∧ c2 ≤ 8 ∧ c3 ≤ 8 ∧ c4 ≤ 8 ∧ c5 ≤ 8 ∧ c6 ≤ 8 ∧ c7 ≤ 8) ∧ cntS s = c0 + c1 + c2 + c3 + c4 + c5 + c6 + c7 ∧ oc1 8 s < 2 ^ 64 ∧ oc2 8 (oc1 8 s) < 2 ^ 64 := by
  obtain ⟨b0, b1, b2, b3, b4, b5, b6, b7, rfl, hb⟩ := as_bytes s h
  have hlt : ∀ l : List Nat, l.length = 8 → (∀ b ∈ l, b < 256) → bv l < 2 ^ 64 := by
    intro l hl hb
    match l, hl with
    | [a0, a1, a2, a3, a4, a5, a6, a7], _ =>
      have h0 := hb a0 (by simp); have h1 := hb a1 (by simp); have h2 := hb a2 (by simp); have h3 := hb a3 (by simp)
      have h4 := hb a4 (by simp); have h5 := hb a5 (by simp); have h6 := hb a6 (by simp); have h7 := hb a7 (by simp)
      simp only [bv]; omega
  generalize hl : [b0, b1, b2, b3, b4, b5, b6, b7] = l at *
  have hlen : l.length = 8 := by rw [← hl]; rfl
  have e1 := oc1_bv l hb
  have hb1 : ∀ b ∈ l.map f1, b < 2 ^ 8 := fun b h => by
    obtain ⟨x, hx, rfl⟩ := List.mem_map.1 h
    exact (f_all x (hb x hx)).1
  have e2 := oc2_bv (l.map f1) hb1
  have hb2 : ∀ b ∈ (l.map f1).map f2, b < 2 ^ 8 := fun b h => by
    rw [List.map_map] at h
    obtain ⟨x, hx, rfl⟩ := List.mem_map.1 h
    exact (f_all x (hb x hx)).2.1
  have e3 := oc3_bv ((l.map f1).map f2) fun b h => by
    rw [List.map_map] at h
    obtain ⟨x, hx, rfl⟩ := List.mem_map.1 h
    exact (f_all x (hb x hx)).2.2.1
  have hc := cnt_bv l hb
  rw [hlen] at e1 hc
  rw [List.length_map, hlen] at e2
  rw [List.length_map, List.length_map, hlen] at e3
  have hp : ((l.map f1).map f2).map f3 = l.map p8 := by
    rw [List.map_map, List.map_map]
    exact List.map_congr_left fun x hx => (f_all x (hb x hx)).2.2.2.1
  rw [hp] at e3
  rw [e1, e2, e3]
  have h8 : ∀ x ∈ l, p8 x ≤ 8 := fun x hx => (f_all x (hb x hx)).2.2.2.2
  have l1 := hlt (l.map f1) (by simp [hlen]) hb1
  have l2 := hlt ((l.map f1).map f2) (by simp [hlen]) hb2
  refine ⟨p8 b0, p8 b1, p8 b2, p8 b3, p8 b4, p8 b5, p8 b6, p8 b7, by rw [← hl]; rfl, ?_, ?_, l1, l2⟩
  · subst hl
    exact ⟨h8 _ (by simp), h8 _ (by simp), h8 _ (by simp), h8 _ (by simp), h8 _ (by simp), h8 _ (by simp), h8 _ (by simp), h8 _ (by simp)⟩
  · show ((List.range (8 * 8)).filter (bv l).testBit).length = _
    rw [hc, ← hl]
    simp only [List.map_cons, List.map_nil, List.sum_cons, List.sum_nil]
    omega
theorem dv {a h m : Nat} (ha : a < m) : (a + m * h) / m = h := by
  rw [Nat.add_mul_div_left _ _ (by omega), Nat.div_eq_of_lt ha, Nat.zero_add]
theorem ln1 (c0 c1 c2 c3 c4 c5 c6 c7 : Nat) : (c0 + 256 * (c1 + 256 * (c2 + 256 * (c3 + 256 * (c4 + 256 * (c5 + 256 * (c6 + 256 * c7))))))) + (c1 + 256 * (c2 + 256 * (c3 + 256 * (c4 + 256 * (c5 + 256 * (c6 + 256 * c7)))))) =
    (c0 + c1 + 256 * (c1 + c2)) + 65536 * ((c2 + c3) + 256 * (c3 + c4 + 256 * (c4 + c5 + 256 * (c5 + c6 + 256 * (c6 + c7 + 256 * c7))))) := by omega
theorem ln2 (c0 c1 c2 c3 c4 c5 c6 c7 : Nat) : ((c0 + c1 + 256 * (c1 + c2)) + 65536 * ((c2 + c3) + 256 * (c3 + c4 + 256 * (c4 + c5 + 256 * (c5 + c6 + 256 * (c6 + c7 + 256 * c7)))))) + ((c2 + c3) + 256 * (c3 + c4 + 256 * (c4 + c5 + 256 * (c5 + c6 + 256 * (c6 + c7 + 256 * c7))))) =
    ((c0 + c1 + c2 + c3) + 256 * ((c1 + c2 + c3 + c4) + 256 * ((c2 + c3 + c4 + c5) + 256 * (c3 + c4 + c5 + c6)))) + 4294967296 * ((c4 + c5 + c6 + c7) + 256 * ((c5 + c6 + c7) + 256 * ((c6 + c7) + 256 * c7))) := by omega
theorem ln3 (c0 c1 c2 c3 c4 c5 c6 c7 : Nat) : (((c0 + c1 + c2 + c3) + 256 * ((c1 + c2 + c3 + c4) + 256 * ((c2 + c3 + c4 + c5) + 256 * (c3 + c4 + c5 + c6)))) + 4294967296 * ((c4 + c5 + c6 + c7) + 256 * ((c5 + c6 + c7) + 256 * ((c6 + c7) + 256 * c7)))) + ((c4 + c5 + c6 + c7) + 256 * ((c5 + c6 + c7) + 256 * ((c6 + c7) + 256 * c7))) =
    (c0 + c1 + c2 + c3 + c4 + c5 + c6 + c7) + 128 * (2 * ((c1 + c2 + c3 + c4 + c5 + c6 + c7) + 256 * ((c2 + c3 + c4 + c5 + c6 + c7) + 256 * (c3 + c4 + c5 + c6 + c7)) + 16777216 * ((c4 + c5 + c6 + c7) + 256 * ((c5 + c6 + c7) + 256 * ((c6 + c7) + 256 * c7))))) := by omega
theorem bv8 (c0 c1 c2 c3 c4 c5 c6 c7 : Nat) : bv [c0, c1, c2, c3, c4, c5, c6, c7] = c0 + 256 * (c1 + 256 * (c2 + 256 * (c3 + 256 * (c4 + 256 * (c5 + 256 * (c6 + 256 * c7)))))) := by
  simp only [bv]; omega
theorem oc_all (s : Nat) (h : s < 2 ^ 64) : ∃ x y z, oc3 8 (oc2 8 (oc1 8 s)) = x ∧ x < 2 ^ 60 ∧ x + x / 256 = y ∧ y < 2 ^ 61 ∧ y + y / 65536 = z ∧ z < 2 ^ 62 ∧ z + z / 4294967296 < 2 ^ 63 ∧ (z + z / 4294967296) % 128 = cntS s ∧ cntS s ≤ 64 := by
  obtain ⟨c0, c1, c2, c3, c4, c5, c6, c7, e, ⟨h0, h1, h2, h3, h4, h5, h6, h7⟩, hc, _, _⟩ := oc_sum s h
  have a1 := dv (a := c0) (m := 256) (h := c1 + 256 * (c2 + 256 * (c3 + 256 * (c4 + 256 * (c5 + 256 * (c6 + 256 * c7)))))) (by omega)
  have a2 := dv (a := c0 + c1 + 256 * (c1 + c2)) (m := 65536) (h := (c2 + c3) + 256 * (c3 + c4 + 256 * (c4 + c5 + 256 * (c5 + c6 + 256 * (c6 + c7 + 256 * c7))))) (by omega)
  have a3 := dv (a := (c0 + c1 + c2 + c3) + 256 * ((c1 + c2 + c3 + c4) + 256 * ((c2 + c3 + c4 + c5) + 256 * (c3 + c4 + c5 + c6)))) (m := 4294967296) (h := (c4 + c5 + c6 + c7) + 256 * ((c5 + c6 + c7) + 256 * ((c6 + c7) + 256 * c7))) (by omega)
  refine ⟨_, _, _, e.trans (bv8 ..), ?_, (congrArg _ a1).trans (ln1 ..), ?_, (congrArg _ a2).trans (ln2 ..), ?_, ?_, ?_, ?_⟩
  · clear a1 a2 a3 hc; omega
  · clear a1 a2 a3 hc; omega
  · clear a1 a2 a3 hc; omega
  · rw [a3]; clear a1 a2 a3 hc; omega
  · rw [a3, ln3, hc, Nat.add_mul_mod_self_left]
    exact Nat.mod_eq_of_lt (by clear a1 a2 a3 hc; omega)
  · clear a1 a2 a3; omega
end Go.Proofs.YtaaafkoeddgaaaaDoor

namespace Go.Proofs.YtaaafkoeddgaaaaDoor
open Go.RowKit
set_option linter.unusedVariables false
set_option linter.unusedSimpArgs false
set_option maxRecDepth 20000
theorem wrap_u64n (a : Nat) (h : a < 2 ^ 64) : IntKind.u64.wrap (a : Int) = (a : Int) := by
  rw [IntKind.wrap_u64]; omega
theorem fdiv_nat (a n : Nat) : (a : Int).fdiv (2 ^ n) = ((a / 2 ^ n : Nat) : Int) := by
  have e : (2 : Int) ^ n = ((2 ^ n : Nat) : Int) := by norm_cast
  rw [e, Int.fdiv_eq_ediv_of_nonneg _ (Int.natCast_nonneg _), Int.natCast_ediv]
section
variable {R : Type} {K : AV → Option R} {k : IntKind}
theorem q_shr {a n : Nat} {b : Int} (hb : b = (n : Int)) (hn : n ≤ 64) : binE none false false .shr (qA a) (V (.int k b)) K = K (qA (a / 2 ^ n)) := by
  subst hb
  rw [u_shr, show min (n : Int).toNat IntKind.u64.bits = n by show min (n : Int).toNat 64 = n; rw [Int.toNat_natCast]; omega, fdiv_nat, show decide (0 ≤ (n : Int)) = true by simp]
  rfl
theorem q_and {a b : Nat} {c : Int} (hc : c = (b : Int)) (ha : a < 2 ^ 64) (hb : b < 2 ^ 64) : binE none false false .and (qA a) (V (.int .u64 c)) K = K (qA (a &&& b)) := by
  subst hc
  rw [u_and, bits_and_u64_nat a b ha hb]
theorem q_or {a b : Nat} (ha : a < 2 ^ 64) (hb : b < 2 ^ 64) : binE none false false .or (qA a) (qA b) K = K (qA (a ||| b)) := by
  rw [u_or, bits_or_u64_nat a b ha hb]
theorem q_add {a b : Nat} (h : a + b < 2 ^ 64) : binE none false false .add (qA a) (qA b) K = K (qA (a + b)) := by
  rw [u_add, show ((a : Int) + (b : Int)) = ((a + b : Nat) : Int) by omega, wrap_u64n _ h]
end
theorem q_tell {R : Type} {K : AV → Option R} {X d : AV} {H' : List AObj} (h : ltT 0 d = true) : tellE (some (X, H')) [d] K = K X := by
  rw [u_tell, show List.all [d] (ltT 0) = true by simp [h]]; rfl
theorem dlt {a n m : Nat} (h : a < m) : a / n < m := Nat.lt_of_le_of_lt (Nat.div_le_self ..) h
theorem ones_s (m s : Nat) (h : s < 2 ^ 64) : math_bits_OnesCount64 m (qA s) = some (nA (cntS s), []) := by
  obtain ⟨x, y, z, e1, hx, e2, hy, e3, hz, hw, hm, hc⟩ := oc_all s h
  obtain ⟨_, _, _, _, _, _, _, _, _, _, _, l1, l2⟩ := oc_sum s h
  have b85 : msk 85 8 < 2 ^ 64 := by rw [msk85]; decide
  have b51 : msk 51 8 < 2 ^ 64 := by rw [msk51]; decide
  have b15 : msk 15 8 < 2 ^ 64 := by rw [msk15]; decide
  have c85 : (6148914691236517205 : Int) = ((msk 85 8 : Nat) : Int) := by rw [msk85]; rfl
  have c51 : (3689348814741910323 : Int) = ((msk 51 8 : Nat) : Int) := by rw [msk51]; rfl
  have c15 : (1085102592571150095 : Int) = ((msk 15 8 : Nat) : Int) := by rw [msk15]; rfl
  have l3 : oc2 8 (oc1 8 s) < 2 ^ 63 := by
    unfold oc2
    have a1 : oc1 8 s / 2 ^ 2 &&& msk 51 8 ≤ msk 51 8 := Nat.and_le_right
    have a2 : oc1 8 s &&& msk 51 8 ≤ msk 51 8 := Nat.and_le_right
    rw [msk51] at a1 a2 ⊢
    omega
  have l4 : oc2 8 (oc1 8 s) / 2 ^ 4 + oc2 8 (oc1 8 s) < 2 ^ 64 := by omega
  rw [math_bits_OnesCount64_eq]
  rw [q_shr (a := s) (b := 1) (n := 1) rfl (by decide), q_and c85 (dlt h) b85, q_and c85 h b85, q_add (a := s / 2 ^ 1 &&& msk 85 8) (b := s &&& msk 85 8) l1]
  rw [show (s / 2 ^ 1 &&& msk 85 8) + (s &&& msk 85 8) = oc1 8 s from rfl]
  rw [q_shr (b := 2) (n := 2) rfl (by decide), q_and c51 (dlt l1) b51, q_and c51 l1 b51, q_add (a := oc1 8 s / 2 ^ 2 &&& msk 51 8) (b := oc1 8 s &&& msk 51 8) l2]
  rw [show (oc1 8 s / 2 ^ 2 &&& msk 51 8) + (oc1 8 s &&& msk 51 8) = oc2 8 (oc1 8 s) from rfl]
  rw [q_shr (b := 4) (n := 4) rfl (by decide), q_add l4, q_and c15 l4 b15]
  rw [show (oc2 8 (oc1 8 s) / 2 ^ 4 + oc2 8 (oc1 8 s)) &&& msk 15 8 = x from e1]
  rw [q_shr (b := 8) (n := 8) rfl (by decide), q_add (by rw [show 2 ^ 8 = 256 from rfl, e2]; omega), show x + x / 2 ^ 8 = y from e2]
  rw [q_shr (b := 16) (n := 16) rfl (by decide), q_add (by rw [show 2 ^ 16 = 65536 from rfl, e3]; omega), show y + y / 2 ^ 16 = z from e3]
  rw [q_shr (b := 32) (n := 32) rfl (by decide), q_add (by rw [show 2 ^ 32 = 4294967296 from rfl]; omega), show z + z / 2 ^ 32 = z + z / 4294967296 from rfl]
  rw [u_iconv, w_i64 (by omega) (by omega), u_and, i64_and127, show (((z + z / 4294967296 : Nat) : Int) % 128) = (cntS s : Int) by omega]
  rfl
def qb (i : Int) : Nat := if 0 ≤ i ∧ i ≤ 63 then 2 ^ i.toNat else 0
theorem qb_lt (i : Int) : qb i < 2 ^ 64 := by
  unfold qb
  split
  · exact Nat.pow_lt_pow_right (by decide) (by omega)
  · decide
theorem bit_s (m : Nat) (i : Int) : quorum_bit m (nA i) = some (qA (qb i), []) := by
  rw [quorum_bit_eq]
  by_cases h0 : i < 0
  · rw [u_lss, show decide (i < 0) = true by simpa using h0, u_condT]
    unfold qb
    rw [if_neg (by omega)]
    rfl
  · rw [u_lss, show decide (i < 0) = false by simpa using h0, u_condF]
    by_cases h9 : 63 < i
    · rw [u_gtr, show decide (63 < i) = true by simpa using h9, u_condT]
      unfold qb
      rw [if_neg (by omega)]
      rfl
    · rw [u_gtr, show decide (63 < i) = false by simpa using h9, u_condF, u_iconv, w_u64 (by omega) (by omega)]
      obtain ⟨n, rfl⟩ : ∃ n : Nat, i = n := ⟨i.toNat, by omega⟩
      have e : qb n = 2 ^ n := by unfold qb; rw [if_pos (by omega)]; simp
      have hlt := qb_lt n
      rw [e] at hlt
      rw [u_shl, show min (n : Int).toNat IntKind.u64.bits = n by show min (n : Int).toNat 64 = n; rw [Int.toNat_natCast]; omega, show decide (0 ≤ (n : Int)) = true by simp, e]
      rw [show ((1 : Int) * 2 ^ n) = ((2 ^ n : Nat) : Int) by rw [Int.one_mul]; norm_cast, wrap_u64n _ hlt]
      rfl
theorem with_s (m s : Nat) (i : Int) (h : s < 2 ^ 64) : quorum_With m (qA s) (nA i) = some (qA (s ||| qb i), []) := by
  have hb := bit_s m i
  rw [quorum_With_eq]
  rw [show (ro [] (nA i)) = nA i from rfl, hb, q_tell rfl]
  rw [q_or h (qb_lt i)]
  rfl
theorem count_s (m s : Nat) (h : s < 2 ^ 64) : quorum_Count m (qA s) = some (nA (cntS s), []) := by
  have hb := ones_s m s h
  rw [quorum_Count_eq]
  rw [show (ro [] (qA s)) = qA s from rfl, hb, q_tell rfl]
  rfl
theorem bitw {s : Nat} {i : Int} {j : Nat} (hj : j < 64) : (s ||| qb i).testBit j = (s.testBit j || decide (i = j)) := by
  rw [Nat.testBit_or]
  congr 1
  unfold qb
  split
  · rw [Nat.testBit_two_pow]
    rw [Bool.eq_iff_iff]; simp; omega
  · rw [Nat.zero_testBit, eq_comm, decide_eq_false_iff_not]; omega
end Go.Proofs.YtaaafkoeddgaaaaDoor

namespace Go.Proofs.YtaaafkoeddgaaaaDoor
open Go.RowKit
set_option linter.unusedVariables false
set_option linter.unusedSimpArgs false
set_option maxRecDepth 20000
def allN (n : Int) : Nat := if n < 1 then 0 else if 63 < n then 2 ^ 64 - 1 else 2 ^ n.toNat - 1
theorem allN_lt (n : Int) : allN n < 2 ^ 64 := by
  unfold allN
  split
  · decide
  · split
    · decide
    · have : 2 ^ n.toNat < 2 ^ 64 := Nat.pow_lt_pow_right (by decide) (by omega)
      omega
theorem allN_bit {n : Int} {j : Nat} (hj : j < 64) : (allN n).testBit j = decide ((j : Int) < n) := by
  unfold allN
  split
  · rw [Nat.zero_testBit, eq_comm, decide_eq_false_iff_not]; omega
  · split
    · rw [Nat.testBit_two_pow_sub_one, decide_eq_decide]; omega
    · rw [Nat.testBit_two_pow_sub_one, decide_eq_decide]; omega
theorem q_sub1 {R : Type} {K : AV → Option R} {a : Nat} (h : 1 ≤ a) (ha : a < 2 ^ 64) : binE none false false .sub (qA a) (V (.int .u64 1)) K = K (qA (a - 1)) := by
  rw [u_sub, show ((a : Int) - 1) = ((a - 1 : Nat) : Int) by omega, wrap_u64n _ (by omega)]
theorem all_s (m : Nat) (n : Int) : quorum_All m (nA n) = some (qA (allN n), []) := by
  have hb := bit_s m n
  rw [quorum_All_eq, show (ro [] (nA n)) = nA n from rfl, hb]
  unfold allN
  by_cases h0 : n < 1
  · rw [u_lss, show decide (n < 1) = true by simpa using h0, u_condT, if_pos h0]
    rfl
  · rw [u_lss, show decide (n < 1) = false by simpa using h0, u_condF, if_neg h0]
    by_cases h9 : 63 < n
    · rw [u_gtr, show decide (63 < n) = true by simpa using h9, u_condT, if_pos h9]
      rfl
    · have hp : 1 ≤ qb n := by unfold qb; rw [if_pos (by omega)]; exact Nat.one_le_two_pow
      rw [u_gtr, show decide (63 < n) = false by simpa using h9, u_condF, if_neg h9, q_tell rfl, q_sub1 hp (qb_lt n)]
      unfold qb
      rw [if_pos (by omega)]
      rfl
def okN (n : Int) : Bool := decide (n.tmod 3 = 1) && !decide (n < 4) && !decide (16 < n)
theorem okN_iff {n : Int} : okN n = true ↔ n = 4 ∨ n = 7 ∨ n = 10 ∨ n = 13 ∨ n = 16 := by
  unfold okN
  simp only [Bool.and_eq_true, decide_eq_true_eq, Bool.not_eq_true', decide_eq_false_iff_not]
  constructor
  · rintro ⟨⟨h1, h2⟩, h3⟩
    rw [Int.tmod_eq_emod_of_nonneg (by omega)] at h1
    omega
  · rintro (rfl | rfl | rfl | rfl | rfl) <;> decide
def fN (n : Int) : Nat := if okN n then (n / 3).toNat else 0
theorem fN_le (n : Int) : fN n ≤ 5 := by
  unfold fN
  split
  · rename_i h; have := okN_iff.1 h; omega
  · decide
theorem faults_s (m : Nat) (n : Int) : quorum_Faults m (nA n) = some (TU [nA (fN n), nA (if okN n then 0 else 1)], []) := by
  rw [quorum_Faults_eq]
  unfold fN okN
  by_cases h1 : n.tmod 3 = 1
  · by_cases h2 : n < 4
    · simp (config := {maxSteps := 4000000, implicitDefEqProofs := false}) only [go_sem, ↓reduceIte, Nat.reduceAdd, Nat.reduceSub, Nat.reduceMul, Nat.reduceLeDiff, Nat.reduceLT, Int.reduceEq, Int.reduceNe, Int.reduceLT, Int.reduceLE, Int.reduceAdd, Int.reduceSub, Int.reduceMul, Int.reduceNeg, Nat.zero_add, Nat.add_zero, Nat.mul_one, Int.toNat_natCast, Int.natCast_zero, Int.cast_ofNat_Int, or_false, false_or, or_true, true_or, Int.reduceToNat, Nat.sub_zero, Int.natCast_nonneg, Int.toNat_zero, Bool.true_and, Bool.and_true, Bool.false_and, Bool.and_false, Bool.true_or, Bool.or_true, Bool.false_or, Bool.or_false, Bool.not_true, Bool.not_false, Bool.not_not, true_and, and_true, false_and, and_false, not_true_eq_false, not_false_eq_true, eq_self, decide_true, decide_false, ne_eq, implies_true, forall_const, true_implies, false_implies, Bool.true_eq_false, Bool.false_eq_true, reduceCtorEq, List.map_cons, List.map_nil, List.all_cons, List.all_nil, List.length_cons, List.length_nil, List.length_map, List.length_append, List.nil_append, List.cons_append, List.set_cons_zero, List.set_cons_succ, List.set_nil, List.drop_zero, List.drop_succ_cons, List.drop_nil, List.take_zero, List.take_succ_cons, List.take_nil, Option.map_some, Option.map_none, Option.isSome_some, Nat.reduceEqDiff, Nat.reduceBEq, Nat.reduceGT, List.all_append, List.all_map, Function.comp_def, decide_eq_true_eq, Bool.and_eq_true, beq_self_eq_true, or_self, and_self, ite_true, ite_false, Nat.le_refl, Bool.not_eq_true, decide_not, Bool.not_eq_true', decide_eq_false_iff_not, Bool.not_eq_false, Bool.or_eq_true, if_true, if_false, ite_self, h1, h2]
    · by_cases h3 : 16 < n
      · simp (config := {maxSteps := 4000000, implicitDefEqProofs := false}) only [go_sem, ↓reduceIte, Nat.reduceAdd, Nat.reduceSub, Nat.reduceMul, Nat.reduceLeDiff, Nat.reduceLT, Int.reduceEq, Int.reduceNe, Int.reduceLT, Int.reduceLE, Int.reduceAdd, Int.reduceSub, Int.reduceMul, Int.reduceNeg, Nat.zero_add, Nat.add_zero, Nat.mul_one, Int.toNat_natCast, Int.natCast_zero, Int.cast_ofNat_Int, or_false, false_or, or_true, true_or, Int.reduceToNat, Nat.sub_zero, Int.natCast_nonneg, Int.toNat_zero, Bool.true_and, Bool.and_true, Bool.false_and, Bool.and_false, Bool.true_or, Bool.or_true, Bool.false_or, Bool.or_false, Bool.not_true, Bool.not_false, Bool.not_not, true_and, and_true, false_and, and_false, not_true_eq_false, not_false_eq_true, eq_self, decide_true, decide_false, ne_eq, implies_true, forall_const, true_implies, false_implies, Bool.true_eq_false, Bool.false_eq_true, reduceCtorEq, List.map_cons, List.map_nil, List.all_cons, List.all_nil, List.length_cons, List.length_nil, List.length_map, List.length_append, List.nil_append, List.cons_append, List.set_cons_zero, List.set_cons_succ, List.set_nil, List.drop_zero, List.drop_succ_cons, List.drop_nil, List.take_zero, List.take_succ_cons, List.take_nil, Option.map_some, Option.map_none, Option.isSome_some, Nat.reduceEqDiff, Nat.reduceBEq, Nat.reduceGT, List.all_append, List.all_map, Function.comp_def, decide_eq_true_eq, Bool.and_eq_true, beq_self_eq_true, or_self, and_self, ite_true, ite_false, Nat.le_refl, Bool.not_eq_true, decide_not, Bool.not_eq_true', decide_eq_false_iff_not, Bool.not_eq_false, Bool.or_eq_true, if_true, if_false, ite_self, h1, h2, h3]
      · have e : n.tdiv 3 = ((n / 3).toNat : Int) := by rw [Int.tdiv_eq_ediv_of_nonneg (by omega)]; omega
        have e2 : IntKind.i64.wrap (n.tdiv 3) = ((n / 3).toNat : Int) := by rw [w_i64 (by omega) (by omega), e]
        simp (config := {maxSteps := 4000000, implicitDefEqProofs := false}) only [go_sem, ↓reduceIte, Nat.reduceAdd, Nat.reduceSub, Nat.reduceMul, Nat.reduceLeDiff, Nat.reduceLT, Int.reduceEq, Int.reduceNe, Int.reduceLT, Int.reduceLE, Int.reduceAdd, Int.reduceSub, Int.reduceMul, Int.reduceNeg, Nat.zero_add, Nat.add_zero, Nat.mul_one, Int.toNat_natCast, Int.natCast_zero, Int.cast_ofNat_Int, or_false, false_or, or_true, true_or, Int.reduceToNat, Nat.sub_zero, Int.natCast_nonneg, Int.toNat_zero, Bool.true_and, Bool.and_true, Bool.false_and, Bool.and_false, Bool.true_or, Bool.or_true, Bool.false_or, Bool.or_false, Bool.not_true, Bool.not_false, Bool.not_not, true_and, and_true, false_and, and_false, not_true_eq_false, not_false_eq_true, eq_self, decide_true, decide_false, ne_eq, implies_true, forall_const, true_implies, false_implies, Bool.true_eq_false, Bool.false_eq_true, reduceCtorEq, List.map_cons, List.map_nil, List.all_cons, List.all_nil, List.length_cons, List.length_nil, List.length_map, List.length_append, List.nil_append, List.cons_append, List.set_cons_zero, List.set_cons_succ, List.set_nil, List.drop_zero, List.drop_succ_cons, List.drop_nil, List.take_zero, List.take_succ_cons, List.take_nil, Option.map_some, Option.map_none, Option.isSome_some, Nat.reduceEqDiff, Nat.reduceBEq, Nat.reduceGT, List.all_append, List.all_map, Function.comp_def, decide_eq_true_eq, Bool.and_eq_true, beq_self_eq_true, or_self, and_self, ite_true, ite_false, Nat.le_refl, Bool.not_eq_true, decide_not, Bool.not_eq_true', decide_eq_false_iff_not, Bool.not_eq_false, Bool.or_eq_true, if_true, if_false, ite_self, h1, h2, h3, e2]
  · simp (config := {maxSteps := 4000000, implicitDefEqProofs := false}) only [go_sem, ↓reduceIte, Nat.reduceAdd, Nat.reduceSub, Nat.reduceMul, Nat.reduceLeDiff, Nat.reduceLT, Int.reduceEq, Int.reduceNe, Int.reduceLT, Int.reduceLE, Int.reduceAdd, Int.reduceSub, Int.reduceMul, Int.reduceNeg, Nat.zero_add, Nat.add_zero, Nat.mul_one, Int.toNat_natCast, Int.natCast_zero, Int.cast_ofNat_Int, or_false, false_or, or_true, true_or, Int.reduceToNat, Nat.sub_zero, Int.natCast_nonneg, Int.toNat_zero, Bool.true_and, Bool.and_true, Bool.false_and, Bool.and_false, Bool.true_or, Bool.or_true, Bool.false_or, Bool.or_false, Bool.not_true, Bool.not_false, Bool.not_not, true_and, and_true, false_and, and_false, not_true_eq_false, not_false_eq_true, eq_self, decide_true, decide_false, ne_eq, implies_true, forall_const, true_implies, false_implies, Bool.true_eq_false, Bool.false_eq_true, reduceCtorEq, List.map_cons, List.map_nil, List.all_cons, List.all_nil, List.length_cons, List.length_nil, List.length_map, List.length_append, List.nil_append, List.cons_append, List.set_cons_zero, List.set_cons_succ, List.set_nil, List.drop_zero, List.drop_succ_cons, List.drop_nil, List.take_zero, List.take_succ_cons, List.take_nil, Option.map_some, Option.map_none, Option.isSome_some, Nat.reduceEqDiff, Nat.reduceBEq, Nat.reduceGT, List.all_append, List.all_map, Function.comp_def, decide_eq_true_eq, Bool.and_eq_true, beq_self_eq_true, or_self, and_self, ite_true, ite_false, Nat.le_refl, Bool.not_eq_true, decide_not, Bool.not_eq_true', decide_eq_false_iff_not, Bool.not_eq_false, Bool.or_eq_true, if_true, if_false, ite_self, h1]
theorem strong_s (m : Nat) (n : Int) : quorum_Strong m (nA n) = some (nA (if okN n then 2 * (fN n : Int) + 1 else 0), []) := by
  have h := faults_s m n
  have hl := fN_le n
  rw [quorum_Strong_eq]
  have e1 : IntKind.i64.wrap (2 * (fN n : Int)) = 2 * (fN n : Int) := w_i64 (by omega) (by omega)
  have e2 : IntKind.i64.wrap (2 * (fN n : Int) + 1) = 2 * (fN n : Int) + 1 := w_i64 (by omega) (by omega)
  cases ho : okN n with
  | true => rw [ho] at h; simp (config := {maxSteps := 4000000, implicitDefEqProofs := false}) only [go_sem, ↓reduceIte, Nat.reduceAdd, Nat.reduceSub, Nat.reduceMul, Nat.reduceLeDiff, Nat.reduceLT, Int.reduceEq, Int.reduceNe, Int.reduceLT, Int.reduceLE, Int.reduceAdd, Int.reduceSub, Int.reduceMul, Int.reduceNeg, Nat.zero_add, Nat.add_zero, Nat.mul_one, Int.toNat_natCast, Int.natCast_zero, Int.cast_ofNat_Int, or_false, false_or, or_true, true_or, Int.reduceToNat, Nat.sub_zero, Int.natCast_nonneg, Int.toNat_zero, Bool.true_and, Bool.and_true, Bool.false_and, Bool.and_false, Bool.true_or, Bool.or_true, Bool.false_or, Bool.or_false, Bool.not_true, Bool.not_false, Bool.not_not, true_and, and_true, false_and, and_false, not_true_eq_false, not_false_eq_true, eq_self, decide_true, decide_false, ne_eq, implies_true, forall_const, true_implies, false_implies, Bool.true_eq_false, Bool.false_eq_true, reduceCtorEq, List.map_cons, List.map_nil, List.all_cons, List.all_nil, List.length_cons, List.length_nil, List.length_map, List.length_append, List.nil_append, List.cons_append, List.set_cons_zero, List.set_cons_succ, List.set_nil, List.drop_zero, List.drop_succ_cons, List.drop_nil, List.take_zero, List.take_succ_cons, List.take_nil, Option.map_some, Option.map_none, Option.isSome_some, Nat.reduceEqDiff, Nat.reduceBEq, Nat.reduceGT, List.all_append, List.all_map, Function.comp_def, decide_eq_true_eq, Bool.and_eq_true, beq_self_eq_true, or_self, and_self, ite_true, ite_false, Nat.le_refl, Bool.not_eq_true, decide_not, Bool.not_eq_true', decide_eq_false_iff_not, Bool.not_eq_false, Bool.or_eq_true, if_true, if_false, ite_self, h, ho, e1, e2]
  | false => rw [ho] at h; simp (config := {maxSteps := 4000000, implicitDefEqProofs := false}) only [go_sem, ↓reduceIte, Nat.reduceAdd, Nat.reduceSub, Nat.reduceMul, Nat.reduceLeDiff, Nat.reduceLT, Int.reduceEq, Int.reduceNe, Int.reduceLT, Int.reduceLE, Int.reduceAdd, Int.reduceSub, Int.reduceMul, Int.reduceNeg, Nat.zero_add, Nat.add_zero, Nat.mul_one, Int.toNat_natCast, Int.natCast_zero, Int.cast_ofNat_Int, or_false, false_or, or_true, true_or, Int.reduceToNat, Nat.sub_zero, Int.natCast_nonneg, Int.toNat_zero, Bool.true_and, Bool.and_true, Bool.false_and, Bool.and_false, Bool.true_or, Bool.or_true, Bool.false_or, Bool.or_false, Bool.not_true, Bool.not_false, Bool.not_not, true_and, and_true, false_and, and_false, not_true_eq_false, not_false_eq_true, eq_self, decide_true, decide_false, ne_eq, implies_true, forall_const, true_implies, false_implies, Bool.true_eq_false, Bool.false_eq_true, reduceCtorEq, List.map_cons, List.map_nil, List.all_cons, List.all_nil, List.length_cons, List.length_nil, List.length_map, List.length_append, List.nil_append, List.cons_append, List.set_cons_zero, List.set_cons_succ, List.set_nil, List.drop_zero, List.drop_succ_cons, List.drop_nil, List.take_zero, List.take_succ_cons, List.take_nil, Option.map_some, Option.map_none, Option.isSome_some, Nat.reduceEqDiff, Nat.reduceBEq, Nat.reduceGT, List.all_append, List.all_map, Function.comp_def, decide_eq_true_eq, Bool.and_eq_true, beq_self_eq_true, or_self, and_self, ite_true, ite_false, Nat.le_refl, Bool.not_eq_true, decide_not, Bool.not_eq_true', decide_eq_false_iff_not, Bool.not_eq_false, Bool.or_eq_true, if_true, if_false, ite_self, h, ho]
theorem enough_s (m s : Nat) (n k : Int) (h : s < 2 ^ 64) : quorum_enough m (qA s) (nA n) (nA k) = some (bA (decide (0 < k) && decide (k ≤ (cntS (s &&& allN n) : Int))), []) := by
  have hlt := allN_lt n
  have ha := all_s m n
  have hc := count_s m (s &&& allN n) (Nat.lt_of_le_of_lt Nat.and_le_left h)
  have hb := bits_and_u64_nat s (allN n) h hlt
  rw [quorum_enough_eq]
  by_cases h0 : 0 < k
  · simp (config := {maxSteps := 4000000, implicitDefEqProofs := false}) only [go_sem, ↓reduceIte, Nat.reduceAdd, Nat.reduceSub, Nat.reduceMul, Nat.reduceLeDiff, Nat.reduceLT, Int.reduceEq, Int.reduceNe, Int.reduceLT, Int.reduceLE, Int.reduceAdd, Int.reduceSub, Int.reduceMul, Int.reduceNeg, Nat.zero_add, Nat.add_zero, Nat.mul_one, Int.toNat_natCast, Int.natCast_zero, Int.cast_ofNat_Int, or_false, false_or, or_true, true_or, Int.reduceToNat, Nat.sub_zero, Int.natCast_nonneg, Int.toNat_zero, Bool.true_and, Bool.and_true, Bool.false_and, Bool.and_false, Bool.true_or, Bool.or_true, Bool.false_or, Bool.or_false, Bool.not_true, Bool.not_false, Bool.not_not, true_and, and_true, false_and, and_false, not_true_eq_false, not_false_eq_true, eq_self, decide_true, decide_false, ne_eq, implies_true, forall_const, true_implies, false_implies, Bool.true_eq_false, Bool.false_eq_true, reduceCtorEq, List.map_cons, List.map_nil, List.all_cons, List.all_nil, List.length_cons, List.length_nil, List.length_map, List.length_append, List.nil_append, List.cons_append, List.set_cons_zero, List.set_cons_succ, List.set_nil, List.drop_zero, List.drop_succ_cons, List.drop_nil, List.take_zero, List.take_succ_cons, List.take_nil, Option.map_some, Option.map_none, Option.isSome_some, Nat.reduceEqDiff, Nat.reduceBEq, Nat.reduceGT, List.all_append, List.all_map, Function.comp_def, decide_eq_true_eq, Bool.and_eq_true, beq_self_eq_true, or_self, and_self, ite_true, ite_false, Nat.le_refl, Bool.not_eq_true, decide_not, Bool.not_eq_true', decide_eq_false_iff_not, Bool.not_eq_false, Bool.or_eq_true, if_true, if_false, ite_self, h0, ha, hc, hb]
  · simp (config := {maxSteps := 4000000, implicitDefEqProofs := false}) only [go_sem, ↓reduceIte, Nat.reduceAdd, Nat.reduceSub, Nat.reduceMul, Nat.reduceLeDiff, Nat.reduceLT, Int.reduceEq, Int.reduceNe, Int.reduceLT, Int.reduceLE, Int.reduceAdd, Int.reduceSub, Int.reduceMul, Int.reduceNeg, Nat.zero_add, Nat.add_zero, Nat.mul_one, Int.toNat_natCast, Int.natCast_zero, Int.cast_ofNat_Int, or_false, false_or, or_true, true_or, Int.reduceToNat, Nat.sub_zero, Int.natCast_nonneg, Int.toNat_zero, Bool.true_and, Bool.and_true, Bool.false_and, Bool.and_false, Bool.true_or, Bool.or_true, Bool.false_or, Bool.or_false, Bool.not_true, Bool.not_false, Bool.not_not, true_and, and_true, false_and, and_false, not_true_eq_false, not_false_eq_true, eq_self, decide_true, decide_false, ne_eq, implies_true, forall_const, true_implies, false_implies, Bool.true_eq_false, Bool.false_eq_true, reduceCtorEq, List.map_cons, List.map_nil, List.all_cons, List.all_nil, List.length_cons, List.length_nil, List.length_map, List.length_append, List.nil_append, List.cons_append, List.set_cons_zero, List.set_cons_succ, List.set_nil, List.drop_zero, List.drop_succ_cons, List.drop_nil, List.take_zero, List.take_succ_cons, List.take_nil, Option.map_some, Option.map_none, Option.isSome_some, Nat.reduceEqDiff, Nat.reduceBEq, Nat.reduceGT, List.all_append, List.all_map, Function.comp_def, decide_eq_true_eq, Bool.and_eq_true, beq_self_eq_true, or_self, and_self, ite_true, ite_false, Nat.le_refl, Bool.not_eq_true, decide_not, Bool.not_eq_true', decide_eq_false_iff_not, Bool.not_eq_false, Bool.or_eq_true, if_true, if_false, ite_self, h0]
theorem isStrong_s (m s : Nat) (n : Int) (h : s < 2 ^ 64) : quorum_IsStrong m (qA s) (nA n) = some (bA (okN n && decide (2 * (fN n : Int) + 1 ≤ (cntS (s &&& allN n) : Int))), []) := by
  have h1 := strong_s m n
  have h2 := enough_s m s n (if okN n then 2 * (fN n : Int) + 1 else 0) h
  rw [quorum_IsStrong_eq]
  cases ho : okN n with
  | true =>
    simp only [ho, if_true] at h1 h2
    have h0 : (0 : Int) < 2 * (fN n : Int) + 1 := by omega
    simp (config := {maxSteps := 4000000, implicitDefEqProofs := false}) only [go_sem, ↓reduceIte, Nat.reduceAdd, Nat.reduceSub, Nat.reduceMul, Nat.reduceLeDiff, Nat.reduceLT, Int.reduceEq, Int.reduceNe, Int.reduceLT, Int.reduceLE, Int.reduceAdd, Int.reduceSub, Int.reduceMul, Int.reduceNeg, Nat.zero_add, Nat.add_zero, Nat.mul_one, Int.toNat_natCast, Int.natCast_zero, Int.cast_ofNat_Int, or_false, false_or, or_true, true_or, Int.reduceToNat, Nat.sub_zero, Int.natCast_nonneg, Int.toNat_zero, Bool.true_and, Bool.and_true, Bool.false_and, Bool.and_false, Bool.true_or, Bool.or_true, Bool.false_or, Bool.or_false, Bool.not_true, Bool.not_false, Bool.not_not, true_and, and_true, false_and, and_false, not_true_eq_false, not_false_eq_true, eq_self, decide_true, decide_false, ne_eq, implies_true, forall_const, true_implies, false_implies, Bool.true_eq_false, Bool.false_eq_true, reduceCtorEq, List.map_cons, List.map_nil, List.all_cons, List.all_nil, List.length_cons, List.length_nil, List.length_map, List.length_append, List.nil_append, List.cons_append, List.set_cons_zero, List.set_cons_succ, List.set_nil, List.drop_zero, List.drop_succ_cons, List.drop_nil, List.take_zero, List.take_succ_cons, List.take_nil, Option.map_some, Option.map_none, Option.isSome_some, Nat.reduceEqDiff, Nat.reduceBEq, Nat.reduceGT, List.all_append, List.all_map, Function.comp_def, decide_eq_true_eq, Bool.and_eq_true, beq_self_eq_true, or_self, and_self, ite_true, ite_false, Nat.le_refl, Bool.not_eq_true, decide_not, Bool.not_eq_true', decide_eq_false_iff_not, Bool.not_eq_false, Bool.or_eq_true, if_true, if_false, ite_self, h1, h2, h0]
  | false =>
    simp only [ho, Bool.false_eq_true, if_false] at h1 h2
    simp (config := {maxSteps := 4000000, implicitDefEqProofs := false}) only [go_sem, ↓reduceIte, Nat.reduceAdd, Nat.reduceSub, Nat.reduceMul, Nat.reduceLeDiff, Nat.reduceLT, Int.reduceEq, Int.reduceNe, Int.reduceLT, Int.reduceLE, Int.reduceAdd, Int.reduceSub, Int.reduceMul, Int.reduceNeg, Nat.zero_add, Nat.add_zero, Nat.mul_one, Int.toNat_natCast, Int.natCast_zero, Int.cast_ofNat_Int, or_false, false_or, or_true, true_or, Int.reduceToNat, Nat.sub_zero, Int.natCast_nonneg, Int.toNat_zero, Bool.true_and, Bool.and_true, Bool.false_and, Bool.and_false, Bool.true_or, Bool.or_true, Bool.false_or, Bool.or_false, Bool.not_true, Bool.not_false, Bool.not_not, true_and, and_true, false_and, and_false, not_true_eq_false, not_false_eq_true, eq_self, decide_true, decide_false, ne_eq, implies_true, forall_const, true_implies, false_implies, Bool.true_eq_false, Bool.false_eq_true, reduceCtorEq, List.map_cons, List.map_nil, List.all_cons, List.all_nil, List.length_cons, List.length_nil, List.length_map, List.length_append, List.nil_append, List.cons_append, List.set_cons_zero, List.set_cons_succ, List.set_nil, List.drop_zero, List.drop_succ_cons, List.drop_nil, List.take_zero, List.take_succ_cons, List.take_nil, Option.map_some, Option.map_none, Option.isSome_some, Nat.reduceEqDiff, Nat.reduceBEq, Nat.reduceGT, List.all_append, List.all_map, Function.comp_def, decide_eq_true_eq, Bool.and_eq_true, beq_self_eq_true, or_self, and_self, ite_true, ite_false, Nat.le_refl, Bool.not_eq_true, decide_not, Bool.not_eq_true', decide_eq_false_iff_not, Bool.not_eq_false, Bool.or_eq_true, if_true, if_false, ite_self, h1, h2]
end Go.Proofs.YtaaafkoeddgaaaaDoor

namespace Go.Proofs.YtaaafkoeddgaaaaDoor
open Go.RowKit
set_option linter.unusedVariables false
set_option linter.unusedSimpArgs false
set_option maxRecDepth 20000
theorem without_s (m s : Nat) (n : Int) (h : s < 2 ^ 64) : quorum_Without m (qA s) (nA n) = some (qA (s &&& (18446744073709551615 - qb n)), []) := by
  have hb := bit_s m n
  have ha := u64_andNot_nat s (qb n) h (qb_lt n)
  rw [quorum_Without_eq]
  simp (config := {maxSteps := 4000000, implicitDefEqProofs := false}) only [go_sem, ↓reduceIte, Nat.reduceAdd, Nat.reduceSub, Nat.reduceMul, Nat.reduceLeDiff, Nat.reduceLT, Int.reduceEq, Int.reduceNe, Int.reduceLT, Int.reduceLE, Int.reduceAdd, Int.reduceSub, Int.reduceMul, Int.reduceNeg, Nat.zero_add, Nat.add_zero, Nat.mul_one, Int.toNat_natCast, Int.natCast_zero, Int.cast_ofNat_Int, or_false, false_or, or_true, true_or, Int.reduceToNat, Nat.sub_zero, Int.natCast_nonneg, Int.toNat_zero, Bool.true_and, Bool.and_true, Bool.false_and, Bool.and_false, Bool.true_or, Bool.or_true, Bool.false_or, Bool.or_false, Bool.not_true, Bool.not_false, Bool.not_not, true_and, and_true, false_and, and_false, not_true_eq_false, not_false_eq_true, eq_self, decide_true, decide_false, ne_eq, implies_true, forall_const, true_implies, false_implies, Bool.true_eq_false, Bool.false_eq_true, reduceCtorEq, List.map_cons, List.map_nil, List.all_cons, List.all_nil, List.length_cons, List.length_nil, List.length_map, List.length_append, List.nil_append, List.cons_append, List.set_cons_zero, List.set_cons_succ, List.set_nil, List.drop_zero, List.drop_succ_cons, List.drop_nil, List.take_zero, List.take_succ_cons, List.take_nil, Option.map_some, Option.map_none, Option.isSome_some, Nat.reduceEqDiff, Nat.reduceBEq, Nat.reduceGT, List.all_append, List.all_map, Function.comp_def, decide_eq_true_eq, Bool.and_eq_true, beq_self_eq_true, or_self, and_self, ite_true, ite_false, Nat.le_refl, Bool.not_eq_true, decide_not, Bool.not_eq_true', decide_eq_false_iff_not, Bool.not_eq_false, Bool.or_eq_true, if_true, if_false, ite_self, hb, ha]
theorem primary_s (m : Nat) (v n : Int) (hv : -9223372036854775808 ≤ v ∧ v < 9223372036854775808) (hn : n < 9223372036854775808) : quorum_Primary m (nA v) (nA n) = some (nA (if n < 1 then 0 else v % n), []) := by
  rw [quorum_Primary_eq]
  by_cases h1 : n < 1
  · simp (config := {maxSteps := 4000000, implicitDefEqProofs := false}) only [go_sem, ↓reduceIte, Nat.reduceAdd, Nat.reduceSub, Nat.reduceMul, Nat.reduceLeDiff, Nat.reduceLT, Int.reduceEq, Int.reduceNe, Int.reduceLT, Int.reduceLE, Int.reduceAdd, Int.reduceSub, Int.reduceMul, Int.reduceNeg, Nat.zero_add, Nat.add_zero, Nat.mul_one, Int.toNat_natCast, Int.natCast_zero, Int.cast_ofNat_Int, or_false, false_or, or_true, true_or, Int.reduceToNat, Nat.sub_zero, Int.natCast_nonneg, Int.toNat_zero, Bool.true_and, Bool.and_true, Bool.false_and, Bool.and_false, Bool.true_or, Bool.or_true, Bool.false_or, Bool.or_false, Bool.not_true, Bool.not_false, Bool.not_not, true_and, and_true, false_and, and_false, not_true_eq_false, not_false_eq_true, eq_self, decide_true, decide_false, ne_eq, implies_true, forall_const, true_implies, false_implies, Bool.true_eq_false, Bool.false_eq_true, reduceCtorEq, List.map_cons, List.map_nil, List.all_cons, List.all_nil, List.length_cons, List.length_nil, List.length_map, List.length_append, List.nil_append, List.cons_append, List.set_cons_zero, List.set_cons_succ, List.set_nil, List.drop_zero, List.drop_succ_cons, List.drop_nil, List.take_zero, List.take_succ_cons, List.take_nil, Option.map_some, Option.map_none, Option.isSome_some, Nat.reduceEqDiff, Nat.reduceBEq, Nat.reduceGT, List.all_append, List.all_map, Function.comp_def, decide_eq_true_eq, Bool.and_eq_true, beq_self_eq_true, or_self, and_self, ite_true, ite_false, Nat.le_refl, Bool.not_eq_true, decide_not, Bool.not_eq_true', decide_eq_false_iff_not, Bool.not_eq_false, Bool.or_eq_true, if_true, if_false, ite_self, h1]
  · have h0 : ¬ n = 0 := by omega
    have hm : v.tmod n = if v.tmod n < 0 then v % n - n else v % n := by
      have e1 := Int.emod_nonneg v h0
      have e2 := Int.emod_lt_of_pos v (show 0 < n by omega)
      by_cases hp : 0 ≤ v
      · rw [Int.tmod_eq_emod_of_nonneg hp, if_neg (by omega)]
      · have e3 := Int.tmod_eq_emod (a := v) (b := n)
        have e4 : v.tmod n = if n ∣ v then v % n else v % n - n := by
          rw [e3]
          by_cases hd : n ∣ v
          · rw [if_pos (.inr hd), if_pos hd]; omega
          · rw [if_neg (by simp [hd, hp]), if_neg hd]
            have : (n.natAbs : Int) = n := by omega
            omega
        by_cases hd : n ∣ v
        · have : v % n = 0 := Int.emod_eq_zero_of_dvd hd
          rw [if_pos hd] at e4
          rw [e4, if_neg (by omega)]
        · rw [if_neg hd] at e4
          rw [e4, if_pos (by omega)]
    by_cases h2 : v.tmod n < 0
    · rw [if_pos h2] at hm
      have e : IntKind.i64.wrap (v.tmod n + n) = v % n := by
        rw [hm] at h2 ⊢
        have e1 := Int.emod_nonneg v h0
        have e2 := Int.emod_lt_of_pos v (show 0 < n by omega)
        rw [show v % n - n + n = v % n by omega]
        exact w_i64 (by omega) (by omega)
      simp (config := {maxSteps := 4000000, implicitDefEqProofs := false}) only [go_sem, ↓reduceIte, Nat.reduceAdd, Nat.reduceSub, Nat.reduceMul, Nat.reduceLeDiff, Nat.reduceLT, Int.reduceEq, Int.reduceNe, Int.reduceLT, Int.reduceLE, Int.reduceAdd, Int.reduceSub, Int.reduceMul, Int.reduceNeg, Nat.zero_add, Nat.add_zero, Nat.mul_one, Int.toNat_natCast, Int.natCast_zero, Int.cast_ofNat_Int, or_false, false_or, or_true, true_or, Int.reduceToNat, Nat.sub_zero, Int.natCast_nonneg, Int.toNat_zero, Bool.true_and, Bool.and_true, Bool.false_and, Bool.and_false, Bool.true_or, Bool.or_true, Bool.false_or, Bool.or_false, Bool.not_true, Bool.not_false, Bool.not_not, true_and, and_true, false_and, and_false, not_true_eq_false, not_false_eq_true, eq_self, decide_true, decide_false, ne_eq, implies_true, forall_const, true_implies, false_implies, Bool.true_eq_false, Bool.false_eq_true, reduceCtorEq, List.map_cons, List.map_nil, List.all_cons, List.all_nil, List.length_cons, List.length_nil, List.length_map, List.length_append, List.nil_append, List.cons_append, List.set_cons_zero, List.set_cons_succ, List.set_nil, List.drop_zero, List.drop_succ_cons, List.drop_nil, List.take_zero, List.take_succ_cons, List.take_nil, Option.map_some, Option.map_none, Option.isSome_some, Nat.reduceEqDiff, Nat.reduceBEq, Nat.reduceGT, List.all_append, List.all_map, Function.comp_def, decide_eq_true_eq, Bool.and_eq_true, beq_self_eq_true, or_self, and_self, ite_true, ite_false, Nat.le_refl, Bool.not_eq_true, decide_not, Bool.not_eq_true', decide_eq_false_iff_not, Bool.not_eq_false, Bool.or_eq_true, if_true, if_false, ite_self, h1, h0, h2, e]
    · rw [if_neg h2] at hm
      rw [if_neg h1]
      simp (config := {maxSteps := 4000000, implicitDefEqProofs := false}) only [go_sem, ↓reduceIte, Nat.reduceAdd, Nat.reduceSub, Nat.reduceMul, Nat.reduceLeDiff, Nat.reduceLT, Int.reduceEq, Int.reduceNe, Int.reduceLT, Int.reduceLE, Int.reduceAdd, Int.reduceSub, Int.reduceMul, Int.reduceNeg, Nat.zero_add, Nat.add_zero, Nat.mul_one, Int.toNat_natCast, Int.natCast_zero, Int.cast_ofNat_Int, or_false, false_or, or_true, true_or, Int.reduceToNat, Nat.sub_zero, Int.natCast_nonneg, Int.toNat_zero, Bool.true_and, Bool.and_true, Bool.false_and, Bool.and_false, Bool.true_or, Bool.or_true, Bool.false_or, Bool.or_false, Bool.not_true, Bool.not_false, Bool.not_not, true_and, and_true, false_and, and_false, not_true_eq_false, not_false_eq_true, eq_self, decide_true, decide_false, ne_eq, implies_true, forall_const, true_implies, false_implies, Bool.true_eq_false, Bool.false_eq_true, reduceCtorEq, List.map_cons, List.map_nil, List.all_cons, List.all_nil, List.length_cons, List.length_nil, List.length_map, List.length_append, List.nil_append, List.cons_append, List.set_cons_zero, List.set_cons_succ, List.set_nil, List.drop_zero, List.drop_succ_cons, List.drop_nil, List.take_zero, List.take_succ_cons, List.take_nil, Option.map_some, Option.map_none, Option.isSome_some, Nat.reduceEqDiff, Nat.reduceBEq, Nat.reduceGT, List.all_append, List.all_map, Function.comp_def, decide_eq_true_eq, Bool.and_eq_true, beq_self_eq_true, or_self, and_self, ite_true, ite_false, Nat.le_refl, Bool.not_eq_true, decide_not, Bool.not_eq_true', decide_eq_false_iff_not, Bool.not_eq_false, Bool.or_eq_true, if_true, if_false, ite_self, h1, h0, h2]
      rw [hm]
end Go.Proofs.YtaaafkoeddgaaaaDoor

namespace Go.Proofs.YtaaafkoeddgaaaaDoor
open Go.RowKit
set_option linter.unusedVariables false
set_option linter.unusedSimpArgs false
set_option maxRecDepth 20000
def cP (p : Nat → Bool) : Nat := ((List.range 64).filter p).length
theorem cP_mono {p q : Nat → Bool} (h : ∀ i, i < 64 → p i = true → q i = true) : cP p ≤ cP q := by
  unfold cP
  have key : ∀ l : List Nat, (∀ i ∈ l, p i = true → q i = true) → (l.filter p).length ≤ (l.filter q).length := by
    intro l
    induction l with
    | nil => intro _; exact Nat.le_refl _
    | cons a l ih =>
      intro h
      have h1 := ih fun i hi => h i (List.mem_cons_of_mem _ hi)
      have h2 := h a (List.mem_cons_self ..)
      simp only [List.filter_cons]
      cases hp : p a with
      | true => rw [h2 hp]; simp; omega
      | false => cases q a <;> simp <;> omega
  exact key _ fun i hi => h i (List.mem_range.1 hi)
theorem cP_two (p q : Nat → Bool) : cP p + cP q = cP (fun i => p i && q i) + cP (fun i => p i || q i) := by
  unfold cP
  have key : ∀ l : List Nat, (l.filter p).length + (l.filter q).length = (l.filter fun i => p i && q i).length + (l.filter fun i => p i || q i).length := by
    intro l
    induction l with
    | nil => rfl
    | cons a l ih =>
      simp only [List.filter_cons]
      cases hp : p a <;> cases hq : q a <;> simp <;> omega
  exact key _
theorem cP_lt (n : Int) (h : okN n = true) : cP (fun i => decide ((i : Int) < n)) = n.toNat := by
  rcases okN_iff.1 h with rfl | rfl | rfl | rfl | rfl <;> decide +kernel
theorem cnt_P (s : Nat) : cntS s = cP s.testBit := rfl
theorem cP_ext {p q : Nat → Bool} (h : ∀ i, i < 64 → p i = q i) : cP p = cP q :=
  Nat.le_antisymm (cP_mono fun i hi k => by rw [← h i hi]; exact k) (cP_mono fun i hi k => by rw [h i hi]; exact k)
theorem fN_ok {n : Int} (h : okN n = true) : n = 3 * (fN n : Int) + 1 := by
  unfold fN; rw [h]
  rcases okN_iff.1 h with rfl | rfl | rfl | rfl | rfl <;> decide
theorem not_bit {t i : Nat} (ht : t < 2 ^ 64) (hi : i < 64) : (18446744073709551615 - t).testBit i = !t.testBit i := by
  have e : 18446744073709551615 - t = 2 ^ 64 - (t + 1) := by omega
  rw [e, Nat.testBit_two_pow_sub_succ ht]
  simp [hi]
theorem cnt_all {s : Nat} {n : Int} : cntS (s &&& allN n) = cP fun i => s.testBit i && decide ((i : Int) < n) := by
  rw [cnt_P]
  exact cP_ext fun i hi => by rw [Nat.testBit_and, allN_bit hi]
theorem rfaults_s (m : Nat) (n : Int) (hm : 6 < m) : plenumref05_Faults m (nA n) = some (nA (fN n), []) := by
  rw [plenumref05_Faults_eq]
  refine iter_ind (ι := {k : Nat // 1 ≤ k ∧ k ≤ 6 ∧ ∀ j : Nat, 1 ≤ j → j < k → ¬ n = 3 * (j : Int) + 1}) (fun k => ⟨[], [(0, nA n), (3, nA k.1)]⟩) (fun k => 6 - k.1) (fun _ => some (nA (fN n), [])) ?_ ⟨1, by omega, by omega, fun j h1 h2 => by omega⟩ (by dsimp only; omega)
  rintro ⟨k, hk1, hk, hall⟩ kc hkc
  dsimp only at hkc ⊢
  rw [plenumref05_Faults_b1_eq]
  by_cases hlt : k ≤ 5
  · have hlt' : (k : Int) ≤ 5 := by omega
    by_cases he : n = 3 * (k : Int) + 1
    · have hf : (fN n : Int) = k := by
        have ho : okN n = true := okN_iff.2 (by omega)
        have := fN_ok ho
        omega
      simp (config := {maxSteps := 4000000, implicitDefEqProofs := false}) (disch := omega) only [go_sem, ↓reduceIte, Nat.reduceAdd, Nat.reduceSub, Nat.reduceMul, Nat.reduceLeDiff, Nat.reduceLT, Int.reduceEq, Int.reduceNe, Int.reduceLT, Int.reduceLE, Int.reduceAdd, Int.reduceSub, Int.reduceMul, Int.reduceNeg, Nat.zero_add, Nat.add_zero, Nat.mul_one, Int.toNat_natCast, Int.natCast_zero, Int.cast_ofNat_Int, or_false, false_or, or_true, true_or, Int.reduceToNat, Nat.sub_zero, Int.natCast_nonneg, Int.toNat_zero, Bool.true_and, Bool.and_true, Bool.false_and, Bool.and_false, Bool.true_or, Bool.or_true, Bool.false_or, Bool.or_false, Bool.not_true, Bool.not_false, Bool.not_not, true_and, and_true, false_and, and_false, not_true_eq_false, not_false_eq_true, eq_self, decide_true, decide_false, ne_eq, implies_true, forall_const, true_implies, false_implies, Bool.true_eq_false, Bool.false_eq_true, reduceCtorEq, List.map_cons, List.map_nil, List.all_cons, List.all_nil, List.length_cons, List.length_nil, List.length_map, List.length_append, List.nil_append, List.cons_append, List.set_cons_zero, List.set_cons_succ, List.set_nil, List.drop_zero, List.drop_succ_cons, List.drop_nil, List.take_zero, List.take_succ_cons, List.take_nil, Option.map_some, Option.map_none, Option.isSome_some, Nat.reduceEqDiff, Nat.reduceBEq, Nat.reduceGT, List.all_append, List.all_map, Function.comp_def, decide_eq_true_eq, Bool.and_eq_true, beq_self_eq_true, or_self, and_self, ite_true, ite_false, Nat.le_refl, Bool.not_eq_true, decide_not, Bool.not_eq_true', decide_eq_false_iff_not, Bool.not_eq_false, Bool.or_eq_true, if_true, if_false, ite_self, hlt', w_i64, he]
      rw [← he, hf]
    · have hs := hkc ⟨k + 1, by omega, by omega, fun j h1 h2 => by
        by_cases e : j = k
        · subst e; exact he
        · exact hall j h1 (by omega)⟩ (by dsimp only; omega)
      simp (config := {maxSteps := 4000000, implicitDefEqProofs := false}) (disch := omega) only [go_sem, ↓reduceIte, Nat.reduceAdd, Nat.reduceSub, Nat.reduceMul, Nat.reduceLeDiff, Nat.reduceLT, Int.reduceEq, Int.reduceNe, Int.reduceLT, Int.reduceLE, Int.reduceAdd, Int.reduceSub, Int.reduceMul, Int.reduceNeg, Nat.zero_add, Nat.add_zero, Nat.mul_one, Int.toNat_natCast, Int.natCast_zero, Int.cast_ofNat_Int, or_false, false_or, or_true, true_or, Int.reduceToNat, Nat.sub_zero, Int.natCast_nonneg, Int.toNat_zero, Bool.true_and, Bool.and_true, Bool.false_and, Bool.and_false, Bool.true_or, Bool.or_true, Bool.false_or, Bool.or_false, Bool.not_true, Bool.not_false, Bool.not_not, true_and, and_true, false_and, and_false, not_true_eq_false, not_false_eq_true, eq_self, decide_true, decide_false, ne_eq, implies_true, forall_const, true_implies, false_implies, Bool.true_eq_false, Bool.false_eq_true, reduceCtorEq, List.map_cons, List.map_nil, List.all_cons, List.all_nil, List.length_cons, List.length_nil, List.length_map, List.length_append, List.nil_append, List.cons_append, List.set_cons_zero, List.set_cons_succ, List.set_nil, List.drop_zero, List.drop_succ_cons, List.drop_nil, List.take_zero, List.take_succ_cons, List.take_nil, Option.map_some, Option.map_none, Option.isSome_some, Nat.reduceEqDiff, Nat.reduceBEq, Nat.reduceGT, List.all_append, List.all_map, Function.comp_def, decide_eq_true_eq, Bool.and_eq_true, beq_self_eq_true, or_self, and_self, ite_true, ite_false, Nat.le_refl, Bool.not_eq_true, decide_not, Bool.not_eq_true', decide_eq_false_iff_not, Bool.not_eq_false, Bool.or_eq_true, if_true, if_false, ite_self, hlt', w_i64, he]
      exact hs
  · have hlt' : ¬ (k : Int) ≤ 5 := by omega
    have hf : fN n = 0 := by
      unfold fN
      rw [if_neg]
      intro ho
      have h1 := hall 1 (by omega) (by omega)
      have h2 := hall 2 (by omega) (by omega)
      have h3 := hall 3 (by omega) (by omega)
      have h4 := hall 4 (by omega) (by omega)
      have h5 := hall 5 (by omega) (by omega)
      rcases okN_iff.1 ho with q | q | q | q | q <;> omega
    simp (config := {maxSteps := 4000000, implicitDefEqProofs := false}) only [go_sem, ↓reduceIte, Nat.reduceAdd, Nat.reduceSub, Nat.reduceMul, Nat.reduceLeDiff, Nat.reduceLT, Int.reduceEq, Int.reduceNe, Int.reduceLT, Int.reduceLE, Int.reduceAdd, Int.reduceSub, Int.reduceMul, Int.reduceNeg, Nat.zero_add, Nat.add_zero, Nat.mul_one, Int.toNat_natCast, Int.natCast_zero, Int.cast_ofNat_Int, or_false, false_or, or_true, true_or, Int.reduceToNat, Nat.sub_zero, Int.natCast_nonneg, Int.toNat_zero, Bool.true_and, Bool.and_true, Bool.false_and, Bool.and_false, Bool.true_or, Bool.or_true, Bool.false_or, Bool.or_false, Bool.not_true, Bool.not_false, Bool.not_not, true_and, and_true, false_and, and_false, not_true_eq_false, not_false_eq_true, eq_self, decide_true, decide_false, ne_eq, implies_true, forall_const, true_implies, false_implies, Bool.true_eq_false, Bool.false_eq_true, reduceCtorEq, List.map_cons, List.map_nil, List.all_cons, List.all_nil, List.length_cons, List.length_nil, List.length_map, List.length_append, List.nil_append, List.cons_append, List.set_cons_zero, List.set_cons_succ, List.set_nil, List.drop_zero, List.drop_succ_cons, List.drop_nil, List.take_zero, List.take_succ_cons, List.take_nil, Option.map_some, Option.map_none, Option.isSome_some, Nat.reduceEqDiff, Nat.reduceBEq, Nat.reduceGT, List.all_append, List.all_map, Function.comp_def, decide_eq_true_eq, Bool.and_eq_true, beq_self_eq_true, or_self, and_self, ite_true, ite_false, Nat.le_refl, Bool.not_eq_true, decide_not, Bool.not_eq_true', decide_eq_false_iff_not, Bool.not_eq_false, Bool.or_eq_true, if_true, if_false, ite_self, hlt']
    rw [plenumref05_Faults_r1_eq, hf]
    simp (config := {maxSteps := 4000000, implicitDefEqProofs := false}) only [go_sem, ↓reduceIte, Nat.reduceAdd, Nat.reduceSub, Nat.reduceMul, Nat.reduceLeDiff, Nat.reduceLT, Int.reduceEq, Int.reduceNe, Int.reduceLT, Int.reduceLE, Int.reduceAdd, Int.reduceSub, Int.reduceMul, Int.reduceNeg, Nat.zero_add, Nat.add_zero, Nat.mul_one, Int.toNat_natCast, Int.natCast_zero, Int.cast_ofNat_Int, or_false, false_or, or_true, true_or, Int.reduceToNat, Nat.sub_zero, Int.natCast_nonneg, Int.toNat_zero, Bool.true_and, Bool.and_true, Bool.false_and, Bool.and_false, Bool.true_or, Bool.or_true, Bool.false_or, Bool.or_false, Bool.not_true, Bool.not_false, Bool.not_not, true_and, and_true, false_and, and_false, not_true_eq_false, not_false_eq_true, eq_self, decide_true, decide_false, ne_eq, implies_true, forall_const, true_implies, false_implies, Bool.true_eq_false, Bool.false_eq_true, reduceCtorEq, List.map_cons, List.map_nil, List.all_cons, List.all_nil, List.length_cons, List.length_nil, List.length_map, List.length_append, List.nil_append, List.cons_append, List.set_cons_zero, List.set_cons_succ, List.set_nil, List.drop_zero, List.drop_succ_cons, List.drop_nil, List.take_zero, List.take_succ_cons, List.take_nil, Option.map_some, Option.map_none, Option.isSome_some, Nat.reduceEqDiff, Nat.reduceBEq, Nat.reduceGT, List.all_append, List.all_map, Function.comp_def, decide_eq_true_eq, Bool.and_eq_true, beq_self_eq_true, or_self, and_self, ite_true, ite_false, Nat.le_refl, Bool.not_eq_true, decide_not, Bool.not_eq_true', decide_eq_false_iff_not, Bool.not_eq_false, Bool.or_eq_true, if_true, if_false, ite_self]
end Go.Proofs.YtaaafkoeddgaaaaDoor

namespace Go.Proofs.YtaaafkoeddgaaaaDoor
open Go.RowKit
set_option linter.unusedVariables false
set_option linter.unusedSimpArgs false
set_option maxRecDepth 20000
attribute [local go_sem] Nat.zero_add Nat.add_zero Nat.mul_one Int.toNat_natCast Int.natCast_zero Int.cast_ofNat_Int or_false false_or or_true true_or Nat.sub_zero Int.natCast_nonneg Int.toNat_zero Bool.true_and Bool.and_true Bool.false_and Bool.and_false Bool.true_or Bool.or_true Bool.false_or Bool.or_false Bool.not_true Bool.not_false Bool.not_not true_and and_true false_and and_false not_true_eq_false not_false_eq_true eq_self decide_true decide_false ne_eq implies_true forall_const true_implies false_implies Bool.true_eq_false Bool.false_eq_true List.map_cons List.map_nil List.all_cons List.all_nil List.length_cons List.length_nil List.length_map List.length_append List.nil_append List.cons_append List.set_cons_zero List.set_cons_succ List.set_nil List.drop_zero List.drop_succ_cons List.drop_nil List.take_zero List.take_succ_cons List.take_nil Option.map_some Option.map_none Option.isSome_some List.all_append List.all_map Function.comp_def decide_eq_true_eq Bool.and_eq_true beq_self_eq_true or_self and_self ite_true ite_false Nat.le_refl Bool.not_eq_true decide_not Bool.not_eq_true' decide_eq_false_iff_not Bool.not_eq_false Bool.or_eq_true if_true if_false ite_self vE_it vc_len vc_sure vc_ltA vc_lt1 vc_all1 vc_ro vc_take vc_sl vc_set vc_fr vc_vw vc_tm zcV_eq sc_len sc_sure sc_ltA sc_lt1 sc_all1 sc_ro sc_take sc_set sc_has sc_vw sc_tm sc_body sc_p sc_c zs_len zs_sure zs_ltA zs_ro zs_set zs_set2 zs_set3 zs_take zs_b vs_ltA vs_len3 natInt u_nthM all_tt
theorem rprimary_s (m : Nat) (v n : Int) (hv : -9223372036854775808 ≤ v ∧ v < 9223372036854775808) (hn : n < 9223372036854775808) : plenumref05_Primary m (nA v) (nA n) = some (nA (if n < 1 then 0 else v % n), []) := by
  rw [plenumref05_Primary_eq]
  by_cases h1 : n < 1
  · simp (config := {maxSteps := 4000000, implicitDefEqProofs := false}) only [go_sem, ↓reduceIte, Nat.reduceAdd, Nat.reduceSub, Nat.reduceMul, Nat.reduceLeDiff, Nat.reduceLT, Int.reduceEq, Int.reduceNe, Int.reduceLT, Int.reduceLE, Int.reduceAdd, Int.reduceSub, Int.reduceMul, Int.reduceNeg, Int.reduceToNat, reduceCtorEq, Nat.reduceEqDiff, Nat.reduceBEq, Nat.reduceGT, h1]
  · have h0 : ¬ n = 0 := by omega
    have hm : v.tmod n = if v.tmod n < 0 then v % n - n else v % n := by
      have e1 := Int.emod_nonneg v h0
      have e2 := Int.emod_lt_of_pos v (show 0 < n by omega)
      by_cases hp : 0 ≤ v
      · rw [Int.tmod_eq_emod_of_nonneg hp, if_neg (by omega)]
      · have e3 := Int.tmod_eq_emod (a := v) (b := n)
        have e4 : v.tmod n = if n ∣ v then v % n else v % n - n := by
          rw [e3]
          by_cases hd : n ∣ v
          · rw [if_pos (.inr hd), if_pos hd]; omega
          · rw [if_neg (by simp [hd, hp]), if_neg hd]
            have : (n.natAbs : Int) = n := by omega
            omega
        by_cases hd : n ∣ v
        · have : v % n = 0 := Int.emod_eq_zero_of_dvd hd
          rw [if_pos hd] at e4
          rw [e4, if_neg (by omega)]
        · rw [if_neg hd] at e4
          rw [e4, if_pos (by omega)]
    by_cases h2 : v.tmod n < 0
    · rw [if_pos h2] at hm
      have e : IntKind.i64.wrap (v.tmod n + n) = v % n := by
        rw [hm] at h2 ⊢
        have e1 := Int.emod_nonneg v h0
        have e2 := Int.emod_lt_of_pos v (show 0 < n by omega)
        rw [show v % n - n + n = v % n by omega]
        exact w_i64 (by omega) (by omega)
      simp (config := {maxSteps := 4000000, implicitDefEqProofs := false}) only [go_sem, ↓reduceIte, Nat.reduceAdd, Nat.reduceSub, Nat.reduceMul, Nat.reduceLeDiff, Nat.reduceLT, Int.reduceEq, Int.reduceNe, Int.reduceLT, Int.reduceLE, Int.reduceAdd, Int.reduceSub, Int.reduceMul, Int.reduceNeg, Int.reduceToNat, reduceCtorEq, Nat.reduceEqDiff, Nat.reduceBEq, Nat.reduceGT, h1, h0, h2, e, plenumref05_Primary_r1_eq]
    · rw [if_neg h2] at hm
      rw [if_neg h1]
      simp (config := {maxSteps := 4000000, implicitDefEqProofs := false}) only [go_sem, ↓reduceIte, Nat.reduceAdd, Nat.reduceSub, Nat.reduceMul, Nat.reduceLeDiff, Nat.reduceLT, Int.reduceEq, Int.reduceNe, Int.reduceLT, Int.reduceLE, Int.reduceAdd, Int.reduceSub, Int.reduceMul, Int.reduceNeg, Int.reduceToNat, reduceCtorEq, Nat.reduceEqDiff, Nat.reduceBEq, Nat.reduceGT, h1, h0, h2, plenumref05_Primary_r1_eq]
      rw [hm]
def selB (s : So) (n : Int) (y : Vo) : Bool := decide (y.fr < n) && (decide (y.vw = s.vw) && decide (y.tm = s.tm))
def whoL (s : So) (l : List Vo) (n but : Int) : List Vo := l.filter fun y => selB s n y && !decide (y.fr = but)
def wordW (s : So) (n : Int) : List Vo → Nat → Nat
  | [], w => w
  | y :: r, w => wordW s n r (if selB s n y = true then w ||| qb y.fr else w)
theorem wordW_lt (s : So) (n : Int) : ∀ (l : List Vo) (w : Nat), w < 2 ^ 64 → wordW s n l w < 2 ^ 64
  | [], w, h => h
  | y :: r, w, h => by
    unfold wordW
    refine wordW_lt s n r _ ?_
    split
    · exact Nat.or_lt_two_pow h (qb_lt _)
    · exact h
theorem wordW_bit (s : So) (n : Int) {j : Nat} (hj : j < 64) : ∀ (l : List Vo) (w : Nat), (wordW s n l w).testBit j = (w.testBit j || l.any fun y => selB s n y && decide (y.fr = (j : Int)))
  | [], w => by simp [wordW]
  | y :: r, w => by
    unfold wordW
    rw [wordW_bit s n hj r, List.any_cons]
    cases h : selB s n y with
    | true => rw [if_pos rfl, bitw hj, Bool.true_and, Bool.or_assoc]
    | false => rw [if_neg (by simp), Bool.false_and, Bool.false_or]
theorem qb_bit {i : Int} {j : Nat} (hj : j < 64) : (qb i).testBit j = decide (i = (j : Int)) := by
  have := bitw (s := 0) (i := i) hj
  rw [Nat.zero_or] at this
  rw [this]; simp
theorem cP_none : cP (fun _ => false) = 0 := by unfold cP; simp
theorem cP_1 {k : Nat} (hk : k < 64) : cP (fun j => decide (j = k)) = 1 := by
  unfold cP
  have : ∀ k : Fin 64, ((List.range 64).filter fun j => decide (j = k.val)).length = 1 := by decide +kernel
  exact this ⟨k, hk⟩
theorem cnt_any {sel : Vo → Bool} : ∀ {l : List Vo}, (∀ y ∈ l, 0 ≤ y.fr ∧ y.fr < 64) → l.Pairwise (fun a b => a.fr ≠ b.fr) → cP (fun j => l.any fun y => sel y && decide (y.fr = (j : Int))) = (l.filter sel).length
  | [], _, _ => by simp [cP_none]
  | a :: r, h, hp => by
    obtain ⟨p1, p2⟩ := List.pairwise_cons.1 hp
    have ih := cnt_any (sel := sel) (fun y hy => h y (List.mem_cons_of_mem _ hy)) p2
    obtain ⟨a1, a2⟩ := h a (List.mem_cons_self ..)
    rw [List.filter_cons]
    cases hs : sel a with
    | false =>
      rw [if_neg (by simp), ← ih]
      exact cP_ext fun j hj => by simp [hs]
    | true =>
      rw [if_pos rfl, List.length_cons, ← ih]
      have e : cP (fun j => decide (j = a.fr.toNat)) = 1 := cP_1 (by omega)
      have two := cP_two (fun j => r.any fun y => sel y && decide (y.fr = (j : Int))) (fun j => decide (j = a.fr.toNat))
      have z : cP (fun j => (r.any fun y => sel y && decide (y.fr = (j : Int))) && decide (j = a.fr.toNat)) = 0 := by
        rw [← cP_none]
        refine cP_ext fun j hj => ?_
        by_cases q : j = a.fr.toNat
        · have : (r.any fun y => sel y && decide (y.fr = (j : Int))) = false := by
            rw [List.any_eq_false]
            intro y hy hc
            simp only [Bool.and_eq_true, decide_eq_true_eq] at hc
            exact p1 y hy (by omega)
          rw [this, Bool.false_and]
        · simp [q]
      have o : cP (fun j => (a :: r).any fun y => sel y && decide (y.fr = (j : Int))) = cP (fun j => (r.any fun y => sel y && decide (y.fr = (j : Int))) || decide (j = a.fr.toNat)) := by
        refine cP_ext fun j hj => ?_
        rw [List.any_cons, hs, Bool.true_and, Bool.or_comm]
        congr 1
        by_cases q : a.fr = (j : Int)
        · rw [decide_eq_true q, decide_eq_true (by omega)]
        · rw [decide_eq_false q, decide_eq_false (by omega)]
      rw [o]; omega
theorem votes_dom {l : List Vo} {p : Option Vo} (h : votesG p l = true) : (∀ y ∈ l, 0 ≤ y.fr ∧ y.fr < 64) ∧ l.Pairwise (fun a b => a.fr ≠ b.fr) := by
  refine ⟨fun y hy => ?_, ?_⟩
  · have := votes_ok h y hy
    unfold voteB at this
    simp only [Bool.and_eq_true, decide_eq_true_eq] at this
    exact ⟨this.1, this.2.1⟩
  · have hs := (votes_srt h).1
    rw [List.pairwise_iff_getElem]
    intro i j hi hj hij
    have := hs i j hj hij
    omega
theorem cnt_but (s : So) (l : List Vo) (n p : Int) (h : votesG none l = true) : cntS (wordW s n l 0 &&& (18446744073709551615 - qb p)) = (whoL s l n p).length := by
  obtain ⟨h1, h2⟩ := votes_dom h
  rw [cnt_P]
  unfold whoL
  rw [← cnt_any h1 h2]
  refine cP_ext fun j hj => ?_
  rw [Nat.testBit_and, not_bit (qb_lt p) hj, wordW_bit s n hj, qb_bit hj, Nat.zero_testBit, Bool.false_or]
  by_cases q : p = (j : Int)
  · rw [decide_eq_true q, Bool.not_true, Bool.and_false]
    symm
    rw [List.any_eq_false]
    intro y hy hc
    simp only [Bool.and_eq_true, decide_eq_true_eq, Bool.not_eq_true', decide_eq_false_iff_not] at hc
    exact hc.1.2 (by omega)
  · rw [decide_eq_false q, Bool.not_false, Bool.and_true]
    congr 1
    funext y
    by_cases c : y.fr = (j : Int)
    · rw [decide_eq_true c, decide_eq_false (show ¬ y.fr = p by omega)]; simp
    · rw [decide_eq_false c]; simp
theorem cnt_str (s : So) (l : List Vo) (n : Int) (h : votesG none l = true) : cntS (wordW s n l 0 &&& allN n) = (whoL s l n (-1)).length := by
  obtain ⟨h1, h2⟩ := votes_dom h
  rw [cnt_all]
  unfold whoL
  rw [← cnt_any h1 h2]
  refine cP_ext fun j hj => ?_
  rw [wordW_bit s n hj, Nat.zero_testBit, Bool.false_or, Bool.eq_iff_iff]
  simp only [Bool.and_eq_true, List.any_eq_true, decide_eq_true_eq, Bool.not_eq_true', decide_eq_false_iff_not]
  constructor
  · rintro ⟨⟨y, hy, hs, e⟩, _⟩
    exact ⟨y, hy, ⟨hs, by omega⟩, e⟩
  · rintro ⟨y, hy, ⟨hs, _⟩, e⟩
    refine ⟨⟨y, hy, hs, e⟩, ?_⟩
    unfold selB at hs
    simp only [Bool.and_eq_true, decide_eq_true_eq] at hs
    omega
theorem count29_s (m : Nat) (s : So) (l : List Vo) (n : Int) (hm : l.length < m) (hl : l.length ≤ 1000000) : slot_count m (SE s) (SL (l.map vE)) (nA n) = some (qA (wordW s n l 0), []) := by
  rw [slot_count_eq, SE_it]
  simp (config := {maxSteps := 4000000, implicitDefEqProofs := false}) (disch := omega) only [go_sem, ↓reduceIte, Nat.reduceAdd, Nat.reduceSub, Nat.reduceMul, Nat.reduceLeDiff, Nat.reduceLT, Int.reduceEq, Int.reduceNe, Int.reduceLT, Int.reduceLE, Int.reduceAdd, Int.reduceSub, Int.reduceMul, Int.reduceNeg, Int.reduceToNat, reduceCtorEq, Nat.reduceEqDiff, Nat.reduceBEq, Nat.reduceGT]
  generalize hg : wordW s n l 0 = g
  refine iter_go (ι := {p : Nat × Nat // p.1 ≤ l.length ∧ p.2 < 2 ^ 64 ∧ wordW s n (l.drop p.1) p.2 = g}) (fun p => ⟨[⟨1, ty_api_Slot, 0, SC s⟩], [(2, nA n), (3, OP 0 0), (7, qA p.1.2), (10, SL (l.map vE)), (11, nA l.length), (12, nA p.1.1)]⟩) (fun p => l.length - p.1.1) (fun _ => some (qA g, [])) ?_ ⟨(0, 0), Nat.zero_le _, by decide, hg⟩ (by dsimp only; omega)
  rintro kx hkx ⟨⟨k, w⟩, hk, hw, hG⟩ kc hkc
  dsimp only at hkc hk hw hG ⊢
  rw [slot_count_b1_eq]
  by_cases hlt : k < l.length
  · have hlt' : (k : Int) < (l.length : Int) := by omega
    rw [List.drop_eq_getElem_cons hlt] at hG
    unfold wordW selB at hG
    have hW := with_s m w l[k].fr hw
    by_cases c0 : l[k].fr < n
    · by_cases c1 : l[k].vw = s.vw
      · by_cases c2 : l[k].tm = s.tm
        · rw [if_pos (by simp [c0, c1, c2])] at hG
          have step := hkc ⟨(k + 1, w ||| qb l[k].fr), by dsimp only; omega, Nat.or_lt_two_pow hw (qb_lt _), hG⟩ (by dsimp only; omega)
          dsimp only at step
          simp (config := {maxSteps := 4000000, implicitDefEqProofs := false}) (disch := omega) only [go_sem, ↓reduceIte, Nat.reduceAdd, Nat.reduceSub, Nat.reduceMul, Nat.reduceLeDiff, Nat.reduceLT, Int.reduceEq, Int.reduceNe, Int.reduceLT, Int.reduceLE, Int.reduceAdd, Int.reduceSub, Int.reduceMul, Int.reduceNeg, Int.reduceToNat, reduceCtorEq, Nat.reduceEqDiff, Nat.reduceBEq, Nat.reduceGT, hlt', c0, c1, c2, hW, w_i64, slot_count_r2_eq, slot_count_r3_eq]
          exact step
        · rw [if_neg (by simp [c2])] at hG
          have step := hkc ⟨(k + 1, w), by dsimp only; omega, hw, hG⟩ (by dsimp only; omega)
          dsimp only at step
          simp (config := {maxSteps := 4000000, implicitDefEqProofs := false}) (disch := omega) only [go_sem, ↓reduceIte, Nat.reduceAdd, Nat.reduceSub, Nat.reduceMul, Nat.reduceLeDiff, Nat.reduceLT, Int.reduceEq, Int.reduceNe, Int.reduceLT, Int.reduceLE, Int.reduceAdd, Int.reduceSub, Int.reduceMul, Int.reduceNeg, Int.reduceToNat, reduceCtorEq, Nat.reduceEqDiff, Nat.reduceBEq, Nat.reduceGT, hlt', c0, c1, c2, w_i64, slot_count_r2_eq, slot_count_r3_eq]
          exact step
      · rw [if_neg (by simp [c1])] at hG
        have step := hkc ⟨(k + 1, w), by dsimp only; omega, hw, hG⟩ (by dsimp only; omega)
        dsimp only at step
        simp (config := {maxSteps := 4000000, implicitDefEqProofs := false}) (disch := omega) only [go_sem, ↓reduceIte, Nat.reduceAdd, Nat.reduceSub, Nat.reduceMul, Nat.reduceLeDiff, Nat.reduceLT, Int.reduceEq, Int.reduceNe, Int.reduceLT, Int.reduceLE, Int.reduceAdd, Int.reduceSub, Int.reduceMul, Int.reduceNeg, Int.reduceToNat, reduceCtorEq, Nat.reduceEqDiff, Nat.reduceBEq, Nat.reduceGT, hlt', c0, c1, w_i64, slot_count_r2_eq, slot_count_r3_eq]
        exact step
    · rw [if_neg (by simp [c0])] at hG
      have step := hkc ⟨(k + 1, w), by dsimp only; omega, hw, hG⟩ (by dsimp only; omega)
      dsimp only at step
      simp (config := {maxSteps := 4000000, implicitDefEqProofs := false}) (disch := omega) only [go_sem, ↓reduceIte, Nat.reduceAdd, Nat.reduceSub, Nat.reduceMul, Nat.reduceLeDiff, Nat.reduceLT, Int.reduceEq, Int.reduceNe, Int.reduceLT, Int.reduceLE, Int.reduceAdd, Int.reduceSub, Int.reduceMul, Int.reduceNeg, Int.reduceToNat, reduceCtorEq, Nat.reduceEqDiff, Nat.reduceBEq, Nat.reduceGT, hlt', c0, w_i64, slot_count_r2_eq, slot_count_r3_eq]
      exact step
  · have hlt' : ¬ (k : Int) < (l.length : Int) := by omega
    rw [List.drop_of_length_le (by omega)] at hG
    have : w = g := hG
    subst this
    simp (config := {maxSteps := 4000000, implicitDefEqProofs := false}) (disch := omega) only [go_sem, ↓reduceIte, Nat.reduceAdd, Nat.reduceSub, Nat.reduceMul, Nat.reduceLeDiff, Nat.reduceLT, Int.reduceEq, Int.reduceNe, Int.reduceLT, Int.reduceLE, Int.reduceAdd, Int.reduceSub, Int.reduceMul, Int.reduceNeg, Int.reduceToNat, reduceCtorEq, Nat.reduceEqDiff, Nat.reduceBEq, Nat.reduceGT, hlt', hkx, slot_count_r1_eq]
theorem rwho_s (m : Nat) (s : So) (l : List Vo) (n but : Int) (hm : l.length < m) (hl : l.length ≤ 1000000) : plenumref29_Who m (SE s) (SL (l.map vE)) (nA n) (nA but) = some (SL ((whoL s l n but).map fun y => nA y.fr), []) := by
  rw [plenumref29_Who_eq, SE_it]
  simp (config := {maxSteps := 4000000, implicitDefEqProofs := false}) (disch := omega) only [go_sem, ↓reduceIte, Nat.reduceAdd, Nat.reduceSub, Nat.reduceMul, Nat.reduceLeDiff, Nat.reduceLT, Int.reduceEq, Int.reduceNe, Int.reduceLT, Int.reduceLE, Int.reduceAdd, Int.reduceSub, Int.reduceMul, Int.reduceNeg, Int.reduceToNat, reduceCtorEq, Nat.reduceEqDiff, Nat.reduceBEq, Nat.reduceGT]
  refine iter_go (ι := {k : Nat // k ≤ l.length}) (fun k => ⟨[⟨1, ty_api_Slot, 0, SC s⟩, ⟨2, ty_int, 1, (whoL s (l.take k.1) n but).map fun y => nA y.fr⟩], [(1, SL (l.map vE)), (2, nA n), (3, nA but), (4, OP 0 0), (9, OW 1 (whoL s (l.take k.1) n but).length), (10, nA k.1)]⟩) (fun k => l.length - k.1) (fun _ => some (SL ((whoL s l n but).map fun y => nA y.fr), [])) ?_ ⟨0, Nat.zero_le _⟩ (by dsimp only; omega)
  rintro kx hkx ⟨k, hk⟩ kc hkc
  dsimp only at hkc ⊢
  rw [plenumref29_Who_b1_eq]
  have hlen : (whoL s (l.take k) n but).length + 1 ≤ 34359738368 := by
    have := List.length_filter_le (fun y => selB s n y && !decide (y.fr = but)) (l.take k)
    rw [List.length_take] at this
    unfold whoL; omega
  by_cases hlt : k < l.length
  · have hlt' : (k : Int) < (l.length : Int) := by omega
    have step := hkc ⟨k + 1, by omega⟩ (by dsimp only; omega)
    dsimp only at step
    rw [List.take_succ_eq_append_getElem hlt] at step
    have e2 : whoL s (l.take k ++ [l[k]]) n but = whoL s (l.take k) n but ++ if (selB s n l[k] && !decide (l[k].fr = but)) = true then [l[k]] else [] := by
      unfold whoL
      rw [List.filter_append, List.filter_cons]
      rfl
    rw [e2] at step
    unfold selB at step
    generalize whoL s (l.take k) n but = W at step hlen ⊢
    by_cases c0 : l[k].fr < n
    · by_cases c3 : l[k].fr = but
      · rw [if_neg (by simp [c3]), List.append_nil] at step
        have c0' : but < n := by omega
        simp (config := {maxSteps := 4000000, implicitDefEqProofs := false}) (disch := omega) only [go_sem, ↓reduceIte, Nat.reduceAdd, Nat.reduceSub, Nat.reduceMul, Nat.reduceLeDiff, Nat.reduceLT, Int.reduceEq, Int.reduceNe, Int.reduceLT, Int.reduceLE, Int.reduceAdd, Int.reduceSub, Int.reduceMul, Int.reduceNeg, Int.reduceToNat, reduceCtorEq, Nat.reduceEqDiff, Nat.reduceBEq, Nat.reduceGT, hlt', c0, c0', c3, w_i64, plenumref29_Who_r2_eq, plenumref29_Who_r3_eq]
        exact step
      · by_cases c1 : l[k].vw = s.vw
        · by_cases c2 : l[k].tm = s.tm
          · rw [if_pos (by simp [c0, c1, c2, c3]), List.map_append, List.length_append] at step
            simp (config := {maxSteps := 4000000, implicitDefEqProofs := false}) (disch := omega) only [go_sem, ↓reduceIte, Nat.reduceAdd, Nat.reduceSub, Nat.reduceMul, Nat.reduceLeDiff, Nat.reduceLT, Int.reduceEq, Int.reduceNe, Int.reduceLT, Int.reduceLE, Int.reduceAdd, Int.reduceSub, Int.reduceMul, Int.reduceNeg, Int.reduceToNat, reduceCtorEq, Nat.reduceEqDiff, Nat.reduceBEq, Nat.reduceGT, hlt', c0, c1, c2, c3, hlen, w_i64, plenumref29_Who_r2_eq, plenumref29_Who_r3_eq]
            exact step
          · rw [if_neg (by simp [c2]), List.append_nil] at step
            simp (config := {maxSteps := 4000000, implicitDefEqProofs := false}) (disch := omega) only [go_sem, ↓reduceIte, Nat.reduceAdd, Nat.reduceSub, Nat.reduceMul, Nat.reduceLeDiff, Nat.reduceLT, Int.reduceEq, Int.reduceNe, Int.reduceLT, Int.reduceLE, Int.reduceAdd, Int.reduceSub, Int.reduceMul, Int.reduceNeg, Int.reduceToNat, reduceCtorEq, Nat.reduceEqDiff, Nat.reduceBEq, Nat.reduceGT, hlt', c0, c1, c2, c3, w_i64, plenumref29_Who_r2_eq, plenumref29_Who_r3_eq]
            exact step
        · rw [if_neg (by simp [c1]), List.append_nil] at step
          simp (config := {maxSteps := 4000000, implicitDefEqProofs := false}) (disch := omega) only [go_sem, ↓reduceIte, Nat.reduceAdd, Nat.reduceSub, Nat.reduceMul, Nat.reduceLeDiff, Nat.reduceLT, Int.reduceEq, Int.reduceNe, Int.reduceLT, Int.reduceLE, Int.reduceAdd, Int.reduceSub, Int.reduceMul, Int.reduceNeg, Int.reduceToNat, reduceCtorEq, Nat.reduceEqDiff, Nat.reduceBEq, Nat.reduceGT, hlt', c0, c1, c3, w_i64, plenumref29_Who_r2_eq, plenumref29_Who_r3_eq]
          exact step
    · rw [if_neg (by simp [c0]), List.append_nil] at step
      simp (config := {maxSteps := 4000000, implicitDefEqProofs := false}) (disch := omega) only [go_sem, ↓reduceIte, Nat.reduceAdd, Nat.reduceSub, Nat.reduceMul, Nat.reduceLeDiff, Nat.reduceLT, Int.reduceEq, Int.reduceNe, Int.reduceLT, Int.reduceLE, Int.reduceAdd, Int.reduceSub, Int.reduceMul, Int.reduceNeg, Int.reduceToNat, reduceCtorEq, Nat.reduceEqDiff, Nat.reduceBEq, Nat.reduceGT, hlt', c0, w_i64, plenumref29_Who_r2_eq, plenumref29_Who_r3_eq]
      exact step
  · have hlt' : ¬ (k : Int) < (l.length : Int) := by omega
    have : k = l.length := by omega
    subst this
    rw [List.take_length]
    simp (config := {maxSteps := 4000000, implicitDefEqProofs := false}) (disch := omega) only [go_sem, ↓reduceIte, Nat.reduceAdd, Nat.reduceSub, Nat.reduceMul, Nat.reduceLeDiff, Nat.reduceLT, Int.reduceEq, Int.reduceNe, Int.reduceLT, Int.reduceLE, Int.reduceAdd, Int.reduceSub, Int.reduceMul, Int.reduceNeg, Int.reduceToNat, reduceCtorEq, Nat.reduceEqDiff, Nat.reduceBEq, Nat.reduceGT, hlt', hkx, plenumref29_Who_r1_eq]
def prepB (s : So) (n : Int) : Bool := okN n && (mayB s && (s.has && decide (2 * fN n ≤ (whoL s s.p n (s.vw % n)).length)))
def commB (s : So) (n : Int) : Bool := prepB s n && decide (2 * fN n + 1 ≤ (whoL s s.c n (-1)).length)
theorem may_vw {s : So} (h : mayB s = true) : (0 ≤ s.vw ∧ s.vw ≤ 2147483647) ∧ votesG none s.p = true ∧ votesG none s.c = true := by
  unfold mayB numB at h
  simp only [Bool.and_eq_true, decide_eq_true_eq] at h
  exact ⟨h.2.1, h.2.2.2.2⟩
theorem backups_s (m : Nat) (s : So) (n : Int) (h : s.Ok m) (hv : 0 ≤ s.vw ∧ s.vw ≤ 2147483647) (hn : okN n = true) : slot_backups m (SE s) (nA n) = some (qA (wordW s n s.p 0 &&& (18446744073709551615 - qb (s.vw % n))), []) := by
  obtain ⟨p1, p2, c1, c2, b1⟩ := h
  have hn2 := okN_iff.1 hn
  have hC := count29_s m s s.p n p1 p2
  have hP := primary_s m s.vw n (by omega) (by omega)
  rw [if_neg (by omega)] at hP
  have hW := without_s m (wordW s n s.p 0) (s.vw % n) (wordW_lt s n s.p 0 (by decide))
  rw [SE_it] at hC
  rw [slot_backups_eq, SE_it]
  simp (config := {maxSteps := 4000000, implicitDefEqProofs := false}) (disch := omega) only [go_sem, ↓reduceIte, Nat.reduceAdd, Nat.reduceSub, Nat.reduceMul, Nat.reduceLeDiff, Nat.reduceLT, Int.reduceEq, Int.reduceNe, Int.reduceLT, Int.reduceLE, Int.reduceAdd, Int.reduceSub, Int.reduceMul, Int.reduceNeg, Int.reduceToNat, reduceCtorEq, Nat.reduceEqDiff, Nat.reduceBEq, Nat.reduceGT, hC, hP, hW]
theorem prepared_s (m : Nat) (s : So) (n : Int) (h : s.Ok m) : slot_Prepared m (SE s) (nA n) = some (bA (prepB s n), []) := by
  have hF := faults_s m n
  have hM := may_s m s h
  rw [SE_it] at hM
  rw [slot_Prepared_eq, SE_it]
  unfold prepB
  cases q1 : okN n with
  | false =>
    rw [q1] at hF
    simp (config := {maxSteps := 4000000, implicitDefEqProofs := false}) (disch := omega) only [go_sem, ↓reduceIte, Nat.reduceAdd, Nat.reduceSub, Nat.reduceMul, Nat.reduceLeDiff, Nat.reduceLT, Int.reduceEq, Int.reduceNe, Int.reduceLT, Int.reduceLE, Int.reduceAdd, Int.reduceSub, Int.reduceMul, Int.reduceNeg, Int.reduceToNat, reduceCtorEq, Nat.reduceEqDiff, Nat.reduceBEq, Nat.reduceGT, hF]
  | true =>
  rw [q1] at hF
  cases q2 : mayB s with
  | false =>
    rw [q2] at hM
    simp (config := {maxSteps := 4000000, implicitDefEqProofs := false}) (disch := omega) only [go_sem, ↓reduceIte, Nat.reduceAdd, Nat.reduceSub, Nat.reduceMul, Nat.reduceLeDiff, Nat.reduceLT, Int.reduceEq, Int.reduceNe, Int.reduceLT, Int.reduceLE, Int.reduceAdd, Int.reduceSub, Int.reduceMul, Int.reduceNeg, Int.reduceToNat, reduceCtorEq, Nat.reduceEqDiff, Nat.reduceBEq, Nat.reduceGT, hF, hM]
  | true =>
  rw [q2] at hM
  cases q3 : s.has with
  | false => simp (config := {maxSteps := 4000000, implicitDefEqProofs := false}) (disch := omega) only [go_sem, ↓reduceIte, Nat.reduceAdd, Nat.reduceSub, Nat.reduceMul, Nat.reduceLeDiff, Nat.reduceLT, Int.reduceEq, Int.reduceNe, Int.reduceLT, Int.reduceLE, Int.reduceAdd, Int.reduceSub, Int.reduceMul, Int.reduceNeg, Int.reduceToNat, reduceCtorEq, Nat.reduceEqDiff, Nat.reduceBEq, Nat.reduceGT, hF, hM, q3]
  | true =>
  obtain ⟨hv, hp, _⟩ := may_vw q2
  have hB := backups_s m s n h hv q1
  rw [SE_it] at hB
  have hlt : wordW s n s.p 0 &&& (18446744073709551615 - qb (s.vw % n)) < 2 ^ 64 := Nat.and_lt_two_pow _ (by omega)
  have hc := cnt_but s s.p n (s.vw % n) hp
  have hK := count_s m (wordW s n s.p 0 &&& (18446744073709551615 - qb (s.vw % n))) hlt
  rw [hc] at hK
  have hf := fN_le n
  have e : (2 * (fN n : Int) ≤ ((whoL s s.p n (s.vw % n)).length : Int)) = (2 * fN n ≤ (whoL s s.p n (s.vw % n)).length) := by simp; omega
  simp (config := {maxSteps := 4000000, implicitDefEqProofs := false}) (disch := omega) only [go_sem, ↓reduceIte, Nat.reduceAdd, Nat.reduceSub, Nat.reduceMul, Nat.reduceLeDiff, Nat.reduceLT, Int.reduceEq, Int.reduceNe, Int.reduceLT, Int.reduceLE, Int.reduceAdd, Int.reduceSub, Int.reduceMul, Int.reduceNeg, Int.reduceToNat, reduceCtorEq, Nat.reduceEqDiff, Nat.reduceBEq, Nat.reduceGT, hF, hM, q3, hB, hK, w_i64, e]
theorem committed_s (m : Nat) (s : So) (n : Int) (h : s.Ok m) : slot_Committed m (SE s) (nA n) = some (bA (commB s n), []) := by
  have hP := prepared_s m s n h
  rw [SE_it] at hP
  rw [slot_Committed_eq, SE_it]
  unfold commB
  cases q : prepB s n with
  | false =>
    rw [q] at hP
    simp (config := {maxSteps := 4000000, implicitDefEqProofs := false}) (disch := omega) only [go_sem, ↓reduceIte, Nat.reduceAdd, Nat.reduceSub, Nat.reduceMul, Nat.reduceLeDiff, Nat.reduceLT, Int.reduceEq, Int.reduceNe, Int.reduceLT, Int.reduceLE, Int.reduceAdd, Int.reduceSub, Int.reduceMul, Int.reduceNeg, Int.reduceToNat, reduceCtorEq, Nat.reduceEqDiff, Nat.reduceBEq, Nat.reduceGT, hP]
  | true =>
  rw [q] at hP
  unfold prepB at q
  simp only [Bool.and_eq_true] at q
  obtain ⟨q1, q2, _⟩ := q
  obtain ⟨_, _, hc⟩ := may_vw q2
  obtain ⟨p1, p2, c1, c2, b1⟩ := h
  have hC := count29_s m s s.c n c1 c2
  rw [SE_it] at hC
  have hI := isStrong_s m (wordW s n s.c 0) n (wordW_lt s n s.c 0 (by decide))
  rw [cnt_str s s.c n hc, q1, Bool.true_and] at hI
  have e : (2 * (fN n : Int) + 1 ≤ ((whoL s s.c n (-1)).length : Int)) = (2 * fN n + 1 ≤ (whoL s s.c n (-1)).length) := by simp; omega
  simp (config := {maxSteps := 4000000, implicitDefEqProofs := false}) (disch := omega) only [go_sem, ↓reduceIte, Nat.reduceAdd, Nat.reduceSub, Nat.reduceMul, Nat.reduceLeDiff, Nat.reduceLT, Int.reduceEq, Int.reduceNe, Int.reduceLT, Int.reduceLE, Int.reduceAdd, Int.reduceSub, Int.reduceMul, Int.reduceNeg, Int.reduceToNat, reduceCtorEq, Nat.reduceEqDiff, Nat.reduceBEq, Nat.reduceGT, hP, hC, hI, e]
theorem fN_pos {n : Int} : 0 < (fN n : Int) ↔ okN n = true := by
  constructor
  · intro h
    cases q : okN n with
    | true => rfl
    | false => unfold fN at h; rw [q] at h; simp at h
  · intro h
    have := fN_ok h
    rcases okN_iff.1 h with rfl | rfl | rfl | rfl | rfl <;> omega
theorem rprepared_s (m : Nat) (s : So) (n : Int) (hm : 6 < m) (h : s.Ok m) : plenumref29_Prepared m (SE s) (nA n) = some (bA (prepB s n), []) := by
  have hF := rfaults_s m n hm
  have hM := rmay_s m s h
  rw [SE_it] at hM
  rw [plenumref29_Prepared_eq, SE_it]
  unfold prepB
  cases q1 : okN n with
  | false =>
    have h0 : ¬ 0 < (fN n : Int) := fun q => by rw [fN_pos, q1] at q; cases q
    simp (config := {maxSteps := 4000000, implicitDefEqProofs := false}) (disch := omega) only [go_sem, ↓reduceIte, Nat.reduceAdd, Nat.reduceSub, Nat.reduceMul, Nat.reduceLeDiff, Nat.reduceLT, Int.reduceEq, Int.reduceNe, Int.reduceLT, Int.reduceLE, Int.reduceAdd, Int.reduceSub, Int.reduceMul, Int.reduceNeg, Int.reduceToNat, reduceCtorEq, Nat.reduceEqDiff, Nat.reduceBEq, Nat.reduceGT, hF, h0]
  | true =>
  have h0 : 0 < (fN n : Int) := fN_pos.2 q1
  cases q2 : mayB s with
  | false =>
    rw [q2] at hM
    simp (config := {maxSteps := 4000000, implicitDefEqProofs := false}) (disch := omega) only [go_sem, ↓reduceIte, Nat.reduceAdd, Nat.reduceSub, Nat.reduceMul, Nat.reduceLeDiff, Nat.reduceLT, Int.reduceEq, Int.reduceNe, Int.reduceLT, Int.reduceLE, Int.reduceAdd, Int.reduceSub, Int.reduceMul, Int.reduceNeg, Int.reduceToNat, reduceCtorEq, Nat.reduceEqDiff, Nat.reduceBEq, Nat.reduceGT, hF, h0, hM]
  | true =>
  rw [q2] at hM
  cases q3 : s.has with
  | false => simp (config := {maxSteps := 4000000, implicitDefEqProofs := false}) (disch := omega) only [go_sem, ↓reduceIte, Nat.reduceAdd, Nat.reduceSub, Nat.reduceMul, Nat.reduceLeDiff, Nat.reduceLT, Int.reduceEq, Int.reduceNe, Int.reduceLT, Int.reduceLE, Int.reduceAdd, Int.reduceSub, Int.reduceMul, Int.reduceNeg, Int.reduceToNat, reduceCtorEq, Nat.reduceEqDiff, Nat.reduceBEq, Nat.reduceGT, hF, h0, hM, q3]
  | true =>
  obtain ⟨hv, hp, _⟩ := may_vw q2
  obtain ⟨p1, p2, c1, c2, b1⟩ := h
  have hn2 := okN_iff.1 q1
  have hP := rprimary_s m s.vw n (by omega) (by omega)
  rw [if_neg (by omega)] at hP
  have hW := rwho_s m s s.p n (s.vw % n) p1 p2
  rw [SE_it] at hW
  have hf := fN_le n
  have e : (2 * (fN n : Int) ≤ ((whoL s s.p n (s.vw % n)).length : Int)) = (2 * fN n ≤ (whoL s s.p n (s.vw % n)).length) := by simp; omega
  simp (config := {maxSteps := 4000000, implicitDefEqProofs := false}) (disch := omega) only [go_sem, ↓reduceIte, Nat.reduceAdd, Nat.reduceSub, Nat.reduceMul, Nat.reduceLeDiff, Nat.reduceLT, Int.reduceEq, Int.reduceNe, Int.reduceLT, Int.reduceLE, Int.reduceAdd, Int.reduceSub, Int.reduceMul, Int.reduceNeg, Int.reduceToNat, reduceCtorEq, Nat.reduceEqDiff, Nat.reduceBEq, Nat.reduceGT, hF, h0, hM, q3, hP, hW, w_i64, e]
theorem rcommitted_s (m : Nat) (s : So) (n : Int) (hm : 6 < m) (h : s.Ok m) : plenumref29_Committed m (SE s) (nA n) = some (bA (commB s n), []) := by
  have hP := rprepared_s m s n hm h
  have hF := rfaults_s m n hm
  rw [SE_it] at hP
  rw [plenumref29_Committed_eq, SE_it]
  unfold commB
  cases q : prepB s n with
  | false =>
    rw [q] at hP
    simp (config := {maxSteps := 4000000, implicitDefEqProofs := false}) (disch := omega) only [go_sem, ↓reduceIte, Nat.reduceAdd, Nat.reduceSub, Nat.reduceMul, Nat.reduceLeDiff, Nat.reduceLT, Int.reduceEq, Int.reduceNe, Int.reduceLT, Int.reduceLE, Int.reduceAdd, Int.reduceSub, Int.reduceMul, Int.reduceNeg, Int.reduceToNat, reduceCtorEq, Nat.reduceEqDiff, Nat.reduceBEq, Nat.reduceGT, hP]
  | true =>
  rw [q] at hP
  obtain ⟨p1, p2, c1, c2, b1⟩ := h
  have hW := rwho_s m s s.c n (-1) c1 c2
  rw [SE_it] at hW
  have hf := fN_le n
  have e : (2 * (fN n : Int) + 1 ≤ ((whoL s s.c n (-1)).length : Int)) = (2 * fN n + 1 ≤ (whoL s s.c n (-1)).length) := by simp; omega
  simp (config := {maxSteps := 4000000, implicitDefEqProofs := false}) (disch := omega) only [go_sem, ↓reduceIte, Nat.reduceAdd, Nat.reduceSub, Nat.reduceMul, Nat.reduceLeDiff, Nat.reduceLT, Int.reduceEq, Int.reduceNe, Int.reduceLT, Int.reduceLE, Int.reduceAdd, Int.reduceSub, Int.reduceMul, Int.reduceNeg, Int.reduceToNat, reduceCtorEq, Nat.reduceEqDiff, Nat.reduceBEq, Nat.reduceGT, hP, hF, hW, w_i64, e]
end Go.Proofs.YtaaafkoeddgaaaaDoor

namespace Go.Proofs.YtaaafkoeddgaaaaDoor
open Go.RowKit
set_option linter.unusedVariables false
set_option linter.unusedSimpArgs false
set_option maxRecDepth 20000
attribute [local go_sem] Nat.zero_add Nat.add_zero Nat.mul_one Int.toNat_natCast Int.natCast_zero Int.cast_ofNat_Int or_false false_or or_true true_or Nat.sub_zero Int.natCast_nonneg Int.toNat_zero Bool.true_and Bool.and_true Bool.false_and Bool.and_false Bool.true_or Bool.or_true Bool.false_or Bool.or_false Bool.not_true Bool.not_false Bool.not_not true_and and_true false_and and_false not_true_eq_false not_false_eq_true eq_self decide_true decide_false ne_eq implies_true forall_const true_implies false_implies Bool.true_eq_false Bool.false_eq_true List.map_cons List.map_nil List.all_cons List.all_nil List.length_cons List.length_nil List.length_map List.length_append List.nil_append List.cons_append List.set_cons_zero List.set_cons_succ List.set_nil List.drop_zero List.drop_succ_cons List.drop_nil List.take_zero List.take_succ_cons List.take_nil Option.map_some Option.map_none Option.isSome_some List.all_append List.all_map Function.comp_def decide_eq_true_eq Bool.and_eq_true beq_self_eq_true or_self and_self ite_true ite_false Nat.le_refl Bool.not_eq_true decide_not Bool.not_eq_true' decide_eq_false_iff_not Bool.not_eq_false Bool.or_eq_true if_true if_false ite_self vE_it vc_len vc_sure vc_ltA vc_lt1 vc_all1 vc_ro vc_take vc_sl vc_set vc_fr vc_vw vc_tm zcV_eq sc_len sc_sure sc_ltA sc_lt1 sc_all1 sc_ro sc_take sc_set sc_has sc_vw sc_tm sc_body sc_p sc_c zs_len zs_sure zs_ltA zs_ro zs_set zs_set2 zs_set3 zs_take zs_b vs_ltA vs_len3 natInt u_nthM all_tt
theorem text_s (m : Nat) (b : List UInt8) (h : b.length ≤ 9223372036854775807) : plenumlaw29_text m (sA b) = some (sA (b.take 65540), []) := by
  rw [plenumlaw29_text_eq]
  by_cases h1 : b.length ≤ 65540
  · have h2 : ¬ (65540 : Int) < (b.length : Int) := by omega
    rw [List.take_of_length_le h1]
    simp (config := {maxSteps := 4000000, implicitDefEqProofs := false}) (disch := omega) only [go_sem, ↓reduceIte, Nat.reduceAdd, Nat.reduceSub, Nat.reduceMul, Nat.reduceLeDiff, Nat.reduceLT, Int.reduceEq, Int.reduceNe, Int.reduceLT, Int.reduceLE, Int.reduceAdd, Int.reduceSub, Int.reduceMul, Int.reduceNeg, Int.reduceToNat, reduceCtorEq, Nat.reduceEqDiff, Nat.reduceBEq, Nat.reduceGT, h2]
  · have h2 : (65540 : Int) < (b.length : Int) := by omega
    have h3 : (65540 : Int) ≤ (b.length : Int) := by omega
    simp (config := {maxSteps := 4000000, implicitDefEqProofs := false}) (disch := omega) only [go_sem, ↓reduceIte, Nat.reduceAdd, Nat.reduceSub, Nat.reduceMul, Nat.reduceLeDiff, Nat.reduceLT, Int.reduceEq, Int.reduceNe, Int.reduceLT, Int.reduceLE, Int.reduceAdd, Int.reduceSub, Int.reduceMul, Int.reduceNeg, Int.reduceToNat, reduceCtorEq, Nat.reduceEqDiff, Nat.reduceBEq, Nat.reduceGT, h2, h3]
def fewS (s : So) : So := ⟨s.has, s.vw, s.tm, s.body.take 65540, s.p.take 66, s.c.take 66⟩
theorem sc_setB {s : So} {b : List UInt8} : setCells (SC s) 3 [sA b] = SC { s with body := b } := _root_.id rfl
theorem few2_s (m : Nat) (s : So) (h : s.body.length ≤ 9223372036854775807) : plenumlaw29_Few_r2 m ⟨[⟨1, ty_api_Slot, 0, SC s⟩, ⟨1, ty_api_Slot, 0, zc_api_Slot⟩], [(1, OP 0 0), (2, OP 1 0)]⟩ = some (SE { s with body := s.body.take 65540 }, []) := by
  have hT := text_s m s.body h
  rw [plenumlaw29_Few_r2_eq, SE_it]
  simp (config := {maxSteps := 4000000, implicitDefEqProofs := false}) (disch := omega) only [go_sem, ↓reduceIte, Nat.reduceAdd, Nat.reduceSub, Nat.reduceMul, Nat.reduceLeDiff, Nat.reduceLT, Int.reduceEq, Int.reduceNe, Int.reduceLT, Int.reduceLE, Int.reduceAdd, Int.reduceSub, Int.reduceMul, Int.reduceNeg, Int.reduceToNat, reduceCtorEq, Nat.reduceEqDiff, Nat.reduceBEq, Nat.reduceGT, hT, sc_setB]
theorem few1_s (m : Nat) (s : So) (h : s.body.length ≤ 9223372036854775807) (hc : s.c.length ≤ 9223372036854775807) : plenumlaw29_Few_r1 m ⟨[⟨1, ty_api_Slot, 0, SC s⟩, ⟨1, ty_api_Slot, 0, zc_api_Slot⟩], [(1, OP 0 0), (2, OP 1 0)]⟩ = some (SE { s with body := s.body.take 65540, c := s.c.take 66 }, []) := by
  rw [plenumlaw29_Few_r1_eq]
  by_cases h1 : s.c.length ≤ 66
  · have h2 : ¬ (66 : Int) < (s.c.length : Int) := by omega
    have hF := few2_s m s h
    rw [List.take_of_length_le h1]
    simp (config := {maxSteps := 4000000, implicitDefEqProofs := false}) (disch := omega) only [go_sem, ↓reduceIte, Nat.reduceAdd, Nat.reduceSub, Nat.reduceMul, Nat.reduceLeDiff, Nat.reduceLT, Int.reduceEq, Int.reduceNe, Int.reduceLT, Int.reduceLE, Int.reduceAdd, Int.reduceSub, Int.reduceMul, Int.reduceNeg, Int.reduceToNat, reduceCtorEq, Nat.reduceEqDiff, Nat.reduceBEq, Nat.reduceGT, h2, hF]
  · have h2 : (66 : Int) < (s.c.length : Int) := by omega
    have h3 : (66 : Int) ≤ (s.c.length : Int) := by omega
    have hF := few2_s m { s with c := s.c.take 66 } h
    have e : (s.c.map vE).take 66 = (s.c.take 66).map vE := List.map_take.symm
    simp (config := {maxSteps := 4000000, implicitDefEqProofs := false}) (disch := omega) only [go_sem, ↓reduceIte, Nat.reduceAdd, Nat.reduceSub, Nat.reduceMul, Nat.reduceLeDiff, Nat.reduceLT, Int.reduceEq, Int.reduceNe, Int.reduceLT, Int.reduceLE, Int.reduceAdd, Int.reduceSub, Int.reduceMul, Int.reduceNeg, Int.reduceToNat, reduceCtorEq, Nat.reduceEqDiff, Nat.reduceBEq, Nat.reduceGT, h2, h3, e, sc_setC, hF]
theorem few_s (m : Nat) (s : So) (h : s.body.length ≤ 9223372036854775807) (hp : s.p.length ≤ 9223372036854775807) (hc : s.c.length ≤ 9223372036854775807) : plenumlaw29_Few m (SE s) = some (SE (fewS s), []) := by
  rw [plenumlaw29_Few_eq, SE_it]
  unfold fewS
  by_cases h1 : s.p.length ≤ 66
  · have h2 : ¬ (66 : Int) < (s.p.length : Int) := by omega
    have hF := few1_s m s h hc
    rw [List.take_of_length_le h1]
    simp (config := {maxSteps := 4000000, implicitDefEqProofs := false}) (disch := omega) only [go_sem, ↓reduceIte, Nat.reduceAdd, Nat.reduceSub, Nat.reduceMul, Nat.reduceLeDiff, Nat.reduceLT, Int.reduceEq, Int.reduceNe, Int.reduceLT, Int.reduceLE, Int.reduceAdd, Int.reduceSub, Int.reduceMul, Int.reduceNeg, Int.reduceToNat, reduceCtorEq, Nat.reduceEqDiff, Nat.reduceBEq, Nat.reduceGT, h2, hF]
  · have h2 : (66 : Int) < (s.p.length : Int) := by omega
    have h3 : (66 : Int) ≤ (s.p.length : Int) := by omega
    have hF := few1_s m { s with p := s.p.take 66 } h hc
    have e : (s.p.map vE).take 66 = (s.p.take 66).map vE := List.map_take.symm
    simp (config := {maxSteps := 4000000, implicitDefEqProofs := false}) (disch := omega) only [go_sem, ↓reduceIte, Nat.reduceAdd, Nat.reduceSub, Nat.reduceMul, Nat.reduceLeDiff, Nat.reduceLT, Int.reduceEq, Int.reduceNe, Int.reduceLT, Int.reduceLE, Int.reduceAdd, Int.reduceSub, Int.reduceMul, Int.reduceNeg, Int.reduceToNat, reduceCtorEq, Nat.reduceEqDiff, Nat.reduceBEq, Nat.reduceGT, h2, h3, e, sc_setP, hF]
theorem few_ok {m : Nat} (s : So) (hm : 1000 < m) : (fewS s).Ok m := by
  unfold fewS So.Ok
  simp only [List.length_take]
  omega
section
variable {R : Type} {isB sl : Bool} {x y : Vo} {K1 : AV → Option R}
theorem u_neVo : binE (some [.i .i64, .i .i64, .i .i64]) isB sl .neq (.agg (vC x)) (.agg (vC y)) K1 = K1 (bA (!decide (x = y))) := by
  have : decide (x = y) = (decide (x.fr = y.fr) && (decide (x.vw = y.vw) && (decide (x.tm = y.tm) && true))) := by
    obtain ⟨a, b, c⟩ := x
    obtain ⟨a', b', c'⟩ := y
    simp
  rw [this]; rfl
end
theorem votesEq_s (m : Nat) (a b : List Vo) (hm : a.length < m) (hl : a.length ≤ 34359738367) : plenumref29_Votes m (SL (a.map vE)) (SL (b.map vE)) = some (bA (decide (a = b)), []) := by
  rw [plenumref29_Votes_eq]
  by_cases hlen : a.length = b.length
  · have hlen' : (a.length : Int) = (b.length : Int) := by omega
    simp (config := {maxSteps := 4000000, implicitDefEqProofs := false}) (disch := omega) only [go_sem, ↓reduceIte, Nat.reduceAdd, Nat.reduceSub, Nat.reduceMul, Nat.reduceLeDiff, Nat.reduceLT, Int.reduceEq, Int.reduceNe, Int.reduceLT, Int.reduceLE, Int.reduceAdd, Int.reduceSub, Int.reduceMul, Int.reduceNeg, Int.reduceToNat, reduceCtorEq, Nat.reduceEqDiff, Nat.reduceBEq, Nat.reduceGT, hlen, hlen']
    refine iter_go (ι := {k : Nat // k ≤ a.length ∧ a.take k = b.take k}) (fun k => ⟨[], [(0, SL (a.map vE)), (1, SL (b.map vE)), (5, nA k.1)]⟩) (fun k => a.length - k.1) (fun _ => some (bA (decide (a = b)), [])) ?_ ⟨0, Nat.zero_le _, rfl⟩ (by dsimp only; omega)
    rintro kx hkx ⟨k, hk, hinv⟩ kc hkc
    dsimp only at hkc ⊢
    rw [plenumref29_Votes_b1_eq]
    by_cases hlt : k < a.length
    · have hltb : k < b.length := by omega
      have hlt' : (k : Int) < (a.length : Int) := by omega
      have hltb' : (k : Int) < (b.length : Int) := by omega
      by_cases hq : a[k] = b[k]
      · have step := hkc ⟨k + 1, by omega, by rw [List.take_succ_eq_append_getElem hlt, List.take_succ_eq_append_getElem hltb, hinv, hq]⟩ (by dsimp only; omega)
        simp (config := {maxSteps := 4000000, implicitDefEqProofs := false}) (disch := omega) only [go_sem, ↓reduceIte, Nat.reduceAdd, Nat.reduceSub, Nat.reduceMul, Nat.reduceLeDiff, Nat.reduceLT, Int.reduceEq, Int.reduceNe, Int.reduceLT, Int.reduceLE, Int.reduceAdd, Int.reduceSub, Int.reduceMul, Int.reduceNeg, Int.reduceToNat, reduceCtorEq, Nat.reduceEqDiff, Nat.reduceBEq, Nat.reduceGT, hlt', hltb', u_neVo, hq, w_i64]
        exact step
      · have hne : a ≠ b := fun e => hq (by subst e; rfl)
        simp (config := {maxSteps := 4000000, implicitDefEqProofs := false}) (disch := omega) only [go_sem, ↓reduceIte, Nat.reduceAdd, Nat.reduceSub, Nat.reduceMul, Nat.reduceLeDiff, Nat.reduceLT, Int.reduceEq, Int.reduceNe, Int.reduceLT, Int.reduceLE, Int.reduceAdd, Int.reduceSub, Int.reduceMul, Int.reduceNeg, Int.reduceToNat, reduceCtorEq, Nat.reduceEqDiff, Nat.reduceBEq, Nat.reduceGT, hkx, hlt', hltb', u_neVo, hq, hne]
    · have hlt' : ¬ (k : Int) < (b.length : Int) := by omega
      have hlt2 : ¬ (k : Int) < (a.length : Int) := by omega
      have he : a = b := by rw [← List.take_of_length_le (l := a) (i := k) (by omega), ← List.take_of_length_le (l := b) (i := k) (by omega)]; exact hinv
      simp (config := {maxSteps := 4000000, implicitDefEqProofs := false}) (disch := omega) only [go_sem, ↓reduceIte, Nat.reduceAdd, Nat.reduceSub, Nat.reduceMul, Nat.reduceLeDiff, Nat.reduceLT, Int.reduceEq, Int.reduceNe, Int.reduceLT, Int.reduceLE, Int.reduceAdd, Int.reduceSub, Int.reduceMul, Int.reduceNeg, Int.reduceToNat, reduceCtorEq, Nat.reduceEqDiff, Nat.reduceBEq, Nat.reduceGT, hkx, hlt', hlt2, he, plenumref29_Votes_r1_eq]
  · have hlen' : ¬ (a.length : Int) = (b.length : Int) := by omega
    have hne : a ≠ b := fun e => hlen (by rw [e])
    simp (config := {maxSteps := 4000000, implicitDefEqProofs := false}) (disch := omega) only [go_sem, ↓reduceIte, Nat.reduceAdd, Nat.reduceSub, Nat.reduceMul, Nat.reduceLeDiff, Nat.reduceLT, Int.reduceEq, Int.reduceNe, Int.reduceLT, Int.reduceLE, Int.reduceAdd, Int.reduceSub, Int.reduceMul, Int.reduceNeg, Int.reduceToNat, reduceCtorEq, Nat.reduceEqDiff, Nat.reduceBEq, Nat.reduceGT, hlen, hlen', hne]
theorem same_s (m : Nat) (a b : So) (h : a.Ok m) : plenumref29_Same m (SE a) (SE b) = some (bA (decide (a = b)), []) := by
  obtain ⟨p1, p2, c1, c2, b1⟩ := h
  have hP := votesEq_s m a.p b.p p1 (by omega)
  have hC := votesEq_s m a.c b.c c1 (by omega)
  rw [plenumref29_Same_eq, SE_it, SE_it]
  obtain ⟨h1, v1, t1, y1, l1, r1⟩ := a
  obtain ⟨h2, v2, t2, y2, l2, r2⟩ := b
  dsimp only at hP hC
  simp only [So.mk.injEq]
  by_cases q1 : h1 = h2
  case neg => simp (config := {maxSteps := 4000000, implicitDefEqProofs := false}) (disch := omega) only [go_sem, ↓reduceIte, Nat.reduceAdd, Nat.reduceSub, Nat.reduceMul, Nat.reduceLeDiff, Nat.reduceLT, Int.reduceEq, Int.reduceNe, Int.reduceLT, Int.reduceLE, Int.reduceAdd, Int.reduceSub, Int.reduceMul, Int.reduceNeg, Int.reduceToNat, reduceCtorEq, Nat.reduceEqDiff, Nat.reduceBEq, Nat.reduceGT, q1]
  subst q1
  by_cases q2 : v1 = v2
  case neg => simp (config := {maxSteps := 4000000, implicitDefEqProofs := false}) (disch := omega) only [go_sem, ↓reduceIte, Nat.reduceAdd, Nat.reduceSub, Nat.reduceMul, Nat.reduceLeDiff, Nat.reduceLT, Int.reduceEq, Int.reduceNe, Int.reduceLT, Int.reduceLE, Int.reduceAdd, Int.reduceSub, Int.reduceMul, Int.reduceNeg, Int.reduceToNat, reduceCtorEq, Nat.reduceEqDiff, Nat.reduceBEq, Nat.reduceGT, q2]
  subst q2
  by_cases q3 : t1 = t2
  case neg => simp (config := {maxSteps := 4000000, implicitDefEqProofs := false}) (disch := omega) only [go_sem, ↓reduceIte, Nat.reduceAdd, Nat.reduceSub, Nat.reduceMul, Nat.reduceLeDiff, Nat.reduceLT, Int.reduceEq, Int.reduceNe, Int.reduceLT, Int.reduceLE, Int.reduceAdd, Int.reduceSub, Int.reduceMul, Int.reduceNeg, Int.reduceToNat, reduceCtorEq, Nat.reduceEqDiff, Nat.reduceBEq, Nat.reduceGT, q3]
  subst q3
  by_cases q4 : y1 = y2
  case neg => simp (config := {maxSteps := 4000000, implicitDefEqProofs := false}) (disch := omega) only [go_sem, ↓reduceIte, Nat.reduceAdd, Nat.reduceSub, Nat.reduceMul, Nat.reduceLeDiff, Nat.reduceLT, Int.reduceEq, Int.reduceNe, Int.reduceLT, Int.reduceLE, Int.reduceAdd, Int.reduceSub, Int.reduceMul, Int.reduceNeg, Int.reduceToNat, reduceCtorEq, Nat.reduceEqDiff, Nat.reduceBEq, Nat.reduceGT, q4]
  subst q4
  by_cases q5 : l1 = l2
  case neg => simp (config := {maxSteps := 4000000, implicitDefEqProofs := false}) (disch := omega) only [go_sem, ↓reduceIte, Nat.reduceAdd, Nat.reduceSub, Nat.reduceMul, Nat.reduceLeDiff, Nat.reduceLT, Int.reduceEq, Int.reduceNe, Int.reduceLT, Int.reduceLE, Int.reduceAdd, Int.reduceSub, Int.reduceMul, Int.reduceNeg, Int.reduceToNat, reduceCtorEq, Nat.reduceEqDiff, Nat.reduceBEq, Nat.reduceGT, hP, q5]
  subst q5
  by_cases q6 : r1 = r2
  case neg => simp (config := {maxSteps := 4000000, implicitDefEqProofs := false}) (disch := omega) only [go_sem, ↓reduceIte, Nat.reduceAdd, Nat.reduceSub, Nat.reduceMul, Nat.reduceLeDiff, Nat.reduceLT, Int.reduceEq, Int.reduceNe, Int.reduceLT, Int.reduceLE, Int.reduceAdd, Int.reduceSub, Int.reduceMul, Int.reduceNeg, Int.reduceToNat, reduceCtorEq, Nat.reduceEqDiff, Nat.reduceBEq, Nat.reduceGT, hP, hC, q6]
  subst q6
  simp (config := {maxSteps := 4000000, implicitDefEqProofs := false}) (disch := omega) only [go_sem, ↓reduceIte, Nat.reduceAdd, Nat.reduceSub, Nat.reduceMul, Nat.reduceLeDiff, Nat.reduceLT, Int.reduceEq, Int.reduceNe, Int.reduceLT, Int.reduceLE, Int.reduceAdd, Int.reduceSub, Int.reduceMul, Int.reduceNeg, Int.reduceToNat, reduceCtorEq, Nat.reduceEqDiff, Nat.reduceBEq, Nat.reduceGT, hP, hC]
end Go.Proofs.YtaaafkoeddgaaaaDoor

namespace Go.Proofs.YtaaafkoeddgaaaaDoor
open Go.RowKit
set_option linter.unusedVariables false
set_option maxRecDepth 100000
noncomputable def slot_VoicesF_c : Code := farC 2 (endC 0 ((Tryd.f37.body).getD .skip)) .skip
def slot_VoicesF_h : Hint := (.two .n (.two (.two .n (.two (.two .n .n) .n)) .n))
noncomputable def slot_VoicesF_env (m : Nat) : Env := [(19, .tell (slot_Prepared_t m))]
noncomputable abbrev slot_VoicesF_fin (n0 : Nat) : KO (AV × List AObj) := nrmFK Tryd.prog n0 [.tmp 1, .tmp 2, .tmp 3]
noncomputable def slot_VoicesF (m : Nat) (D : List Deferred) (t0 t1 t2 : AV) (H : List AObj) : RO := exec Tryd.prog GG (slot_VoicesF_env m) m ⟨46, D⟩ slot_VoicesF_c slot_VoicesF_h ⟨H, [(0, t0), (1, t1), (2, t2)]⟩ (slot_VoicesF_fin H.length)
theorem slot_VoicesF_eq (m : Nat) (D : List Deferred) (t0 t1 t2 : AV) (H : List AObj) : slot_VoicesF m D t0 t1 t2 H =
  boxE ty_api_Slot H t0 fun t3 H2 =>
  loadE 8 H2 t3 fun t10 =>
  tellE (slot_Prepared m (ro H2 t10) (ro H2 t2)) [(ro H2 t10), (ro H2 t2)] fun t12 =>
  unE .not t12 fun t13 =>
  condE t13 (
   none) (
   some (ro H2 (TU [noT t1, noT t2, noT t3]), H2)) := by
  refine (nrmX Tryd.prog GG (slot_VoicesF_env m) m ⟨46, D⟩ H.length slot_VoicesF_c slot_VoicesF_h ⟨H, [(0, t0), (1, t1), (2, t2)]⟩ [.tmp 1, .tmp 2, .tmp 3]).trans ?_
  kernel_rfl
theorem slot_VoicesF_hE (m : Nat) : EnvOk Tryd.prog GG (slot_VoicesF_env m) := (by
    intro f e h
    simp only [slot_VoicesF_env, Prod.mk.injEq, List.mem_cons, List.not_mem_nil, or_false] at h
    obtain ⟨rfl, rfl⟩ := h
    · exact slot_Prepared_ok m)
end Go.Proofs.YtaaafkoeddgaaaaDoor

namespace Go.Proofs.YtaaafkoeddgaaaaDoor
open Go.RowKit
set_option linter.unusedVariables false
set_option maxRecDepth 100000
def ty_api_Stmt : TypeId := 64
def zc_api_Stmt : List AV := [(V (.int .i64 0)), (V (.int .i64 0)), (V (.int .i64 0)), (V (.int .i64 0)), (V (.int .i64 0))]
def pl_api_Stmt : List (Nat × Nat) := [(0, 1), (1, 1), (2, 1), (3, 1), (4, 1)]
noncomputable def slot_VoicesR_c : Code := (endC 3 ((Tryd.f37.body).getD .skip))
def slot_VoicesR_h : Hint := (.join [7] (.two .n (.one (.lp [(7, ty_api_Stmt, 5)] [1, 3, 7, 28, 29, 30] [7] (.two .n (.two (.two .n .n) (.two (.one (.two .n .n)) .n)))))) (.two .n .n))
noncomputable def slot_VoicesR_env (m : Nat) : Env := [(40, .tell (slot_backups_t m)), (48, .tell (quorum_List_t m))]
noncomputable abbrev slot_VoicesR_fin (n0 : Nat) : KO (AV × List AObj) := rawFK Tryd.prog n0 [.tmp 6]
noncomputable def slot_VoicesR_r1 (m : Nat) (D : List Deferred) (n0k : Nat) (s : ASt) : RO := joinW Tryd.prog GG (slot_VoicesR_env m) m ⟨46, D⟩ (cdR slot_VoicesR_c) slot_VoicesR_h.r s (slot_VoicesR_fin n0k)
noncomputable def slot_VoicesR_b1 (m : Nat) (D : List Deferred) (s : ASt) (kc : ASt → RO) (kx : KO (AV × List AObj)) : RO := bodyW Tryd.prog GG (slot_VoicesR_env m) m ⟨46, D⟩ (cdL (cdL (cdR (cdL slot_VoicesR_c)))) slot_VoicesR_h.l.r.c.c [1, 3, 7, 28, 29, 30] [7] s kc kx
noncomputable def slot_VoicesR (m : Nat) (D : List Deferred) (t1 t2 t3 t7 : AV) (H : List AObj) : RO := exec Tryd.prog GG (slot_VoicesR_env m) m ⟨46, D⟩ slot_VoicesR_c slot_VoicesR_h ⟨H, [(1, t1), (2, t2), (3, t3), (7, t7)]⟩ (slot_VoicesR_fin H.length)
theorem slot_VoicesR_r1_eq (m : Nat) (D : List Deferred) (n0k : Nat) (H : List AObj) (t7 : AV) : slot_VoicesR_r1 m D n0k ⟨H, [(7, t7)]⟩ =
  some (ro H t7, H) := by
  refine (joinW_eq Tryd.prog GG (slot_VoicesR_env m) m ⟨46, D⟩ (cdR slot_VoicesR_c) slot_VoicesR_h.r ⟨H, [(7, t7)]⟩ (slot_VoicesR_fin n0k)).trans ?_
  kernel_rfl
theorem slot_VoicesR_b1_eq (m : Nat) (D : List Deferred) (H : List AObj) (t1 t3 t7 t28 t29 t30 : AV) (kc : ASt → RO) (kx : KO (AV × List AObj)) : slot_VoicesR_b1 m D ⟨H, [(1, t1), (3, t3), (7, t7), (28, t28), (29, t29), (30, t30)]⟩ kc kx =
  binE none false false .lss t30 t29 fun t31 =>
  condE t31 (
   idxSE 1 H t28 t30 fun t32 =>
   loadE 1 H t32 fun t33 =>
   fieldE (some (1, 1)) t3 fun t36 =>
   loadE 1 H t36 fun t37 =>
   fieldE (some (2, 1)) t3 fun t39 =>
   loadE 1 H t39 fun t40 =>
   buildE (some pl_api_Stmt) (some zc_api_Stmt) [(0, t33), (1, (V (.int .i64 3))), (2, t37), (3, t1), (4, t40)] fun t41 =>
   buildSE (some (ty_api_Stmt, 5)) 1 [(0, t41)] fun t42 =>
   appE (some (ty_api_Stmt, 5)) H t7 t42 fun t43 H2 =>
   binE none false false .add t30 (V (.int .i64 1)) fun t44 =>
   backE H.length H2 [(1, t1), (3, t3), (7, t43), (28, t28), (29, t29), (30, t44)] kc) (
   kx (.exit 0) ⟨H, [(7, t7)]⟩) := by
  refine (bodyW_eq Tryd.prog GG (slot_VoicesR_env m) m ⟨46, D⟩ (cdL (cdL (cdR (cdL slot_VoicesR_c)))) slot_VoicesR_h.l.r.c.c [1, 3, 7, 28, 29, 30] [7] ⟨H, [(1, t1), (3, t3), (7, t7), (28, t28), (29, t29), (30, t30)]⟩ kc kx).trans ?_
  kernel_rfl
theorem slot_VoicesR_eq (m : Nat) (D : List Deferred) (t1 t2 t3 t7 : AV) (H : List AObj) : slot_VoicesR m D t1 t2 t3 t7 H =
  loadE 8 H t3 fun t25 =>
  tellE (slot_backups m (ro H t25) (ro H t2)) [(ro H t25), (ro H t2)] fun t27 =>
  tellE (quorum_List_t m [(ro H t27)]) [(ro H t27)] fun t28 =>
  lenE false true H t28 fun t29 =>
  rowE t7 ty_api_Stmt 5 H fun t7_1 H2 =>
  iterC m (slot_VoicesR_b1 m D) ⟨H2, [(1, t1), (3, t3), (7, t7_1), (28, t28), (29, t29), (30, (V (.int .i64 0)))]⟩ (blockX 0 (seqX (fun s => slot_VoicesR_r1 m D H.length ⟨s.H, [(7, gt s.T 7)]⟩) (slot_VoicesR_fin H.length))) := by
  refine (rawX Tryd.prog GG (slot_VoicesR_env m) m ⟨46, D⟩ H.length slot_VoicesR_c slot_VoicesR_h ⟨H, [(1, t1), (2, t2), (3, t3), (7, t7)]⟩ [.tmp 6]).trans ?_
  kernel_rfl
theorem slot_VoicesR_hE (m : Nat) : EnvOk Tryd.prog GG (slot_VoicesR_env m) := (by
    intro f e h
    simp only [slot_VoicesR_env, Prod.mk.injEq, List.mem_cons, List.not_mem_nil, or_false] at h
    rcases h with ⟨rfl, rfl⟩ | ⟨rfl, rfl⟩
    · exact slot_backups_ok m
    · exact quorum_List_ok m)
end Go.Proofs.YtaaafkoeddgaaaaDoor

namespace Go.Proofs.YtaaafkoeddgaaaaDoor
open Go.RowKit
set_option linter.unusedVariables false
set_option linter.unusedSimpArgs false
set_option maxRecDepth 20000
theorem own_mono {w : World} {base base' : Nat} {e : TypeId} {z : Nat} {v : Value} {n : Nat} {xs : List Value} (h : w.ownsRow base e z v n xs) (hb : base' ≤ base) : w.ownsRow base' e z v n xs := by
  refine ⟨h.1, ?_⟩
  rcases h.2 with q | ⟨g, cap, cur, q1, q2, r⟩
  · exact .inl q
  · exact .inr ⟨g, cap, cur, q1, Nat.le_trans hb q2, r⟩
theorem own_cpost {w : World} {S : SS} {μ : List Value} {H : List AObj} (hr : Rel w S μ H) {w' : World} (hb : Below w.heap.size w w') {e : TypeId} {z : Nat} {es : List AV} (hall : allC z es) {us : List Value} (hus : reps S [] (flat es) us) {A : Option Addr} {cap : Nat}
    (hown : w'.ownsRow w.heap.size e z (.slice A es.length cap) es.length us) : CPost w S μ H (Is (OW H.length es.length) (H ++ [⟨2, e, z, es⟩])) (.returned (.slice A es.length cap)) w' := by
  obtain ⟨A', c', e1, hc1, hc2⟩ := own_le hown
  injection e1 with e1 e2 e3
  subst e1 e3
  have hown0 := own_mono hown (Nat.zero_le _)
  let S' : SS := fun b j d => S b j d ∨ (w.heap.size ≤ b ∧ (∃ q, A = some ⟨b, q, none⟩) ∧ cap ≠ 0 ∧ (flat es)[j]? = some d)
  have hcell : ∀ b j d, w.heap.size ≤ b → (∃ q, A = some ⟨b, q, none⟩) → (flat es)[j]? = some d → ∃ u, w'.cell? ⟨b, j, none⟩ = some u ∧ u.oneCell' = true ∧ rep1 S [] d u := by
    rintro b j d hbb ⟨q, rfl⟩ hd
    rcases hown.2 with ⟨q1, _⟩ | ⟨g, cp, cur, q1, _, hg, h1, h2, h3, h4⟩
    · cases q1
    · injection q1 with q1 q2 q3
      injection q1 with q1
      injection q1 with q1 _ _
      subst q1 q3
      have hj : j < us.length := by rw [hus.1]; exact (List.getElem?_eq_some_iff.1 hd).1
      obtain ⟨k1, k2⟩ := hus.2 j d _ hd (List.getElem?_eq_getElem hj)
      exact ⟨_, cell_row hg h4 (List.getElem?_eq_getElem hj), k1, k2⟩
  obtain ⟨q1, q2⟩ := hr.grow (S' := S') hb (fun _ _ _ q => .inl q) (fun b j d q => q.imp id fun k => k.1) (fun b j d q hb' => by
    rcases q with q | ⟨k1, k2, _, k3⟩
    · have := hr.still_lt q; omega
    · obtain ⟨u, h1, h2, h3⟩ := hcell b j d k1 k2 k3
      exact ⟨u, h1, h2, h3.ext ⟨fun _ _ _ q => .inl q, fun i x hx => by simp at hx⟩⟩)
  have hbl : ∀ b, blkOf (.slice A es.length cap) = some b → w.heap.size ≤ b ∧ cap ≠ 0 := by
    intro b hbk
    cases A with
    | none => simp [blkOf] at hbk
    | some a =>
      simp only [blkOf] at hbk
      split at hbk
      · cases hbk
      · rename_i hc
        injection hbk with hbk
        subst hbk
        rcases hown.2 with ⟨q1, _⟩ | ⟨g, cp, cur, q1, hbg, _⟩
        · cases q1
        · injection q1 with q1; injection q1 with q1; subst q1
          exact ⟨hbg, hc⟩
  have q3 : Rel w' S' (μ ++ [.slice A es.length cap]) (H ++ [⟨2, e, z, es⟩]) := by
    refine q1.add (.inr (.inr (.inl rfl))) ⟨fun h => by simp at h, fun _ => ⟨us, A, cap, rfl, hc1, hc2, fun _ => hown0, fun hne => ?_⟩, fun h => by simp at h⟩ fun b hbk => ?_
    · have hpos : 0 < es.length := List.length_pos_iff.2 hne
      rcases hown.2 with ⟨q1, _⟩ | ⟨g, cp, cur, q1, hbg, _⟩
      · injection q1 with _ q1; omega
      · injection q1 with q1
        refine ⟨g, q1, inS_flat hall fun j y hy => .inr ⟨hbg, ⟨0, q1⟩, by have : es.length ≤ cap := hc1; omega, by simpa using hy⟩⟩
    · obtain ⟨k1, k2⟩ := hbl b hbk
      refine ⟨?_, fun j d hs => ⟨rfl, ?_⟩⟩
      · rintro ⟨k, y, o, hy, ho, hk, hb'⟩
        have := hr.own_lt hy ho hk hb'; omega
      · rcases hs with hs | ⟨_, _, _, hd⟩
        · have := hr.still_lt hs; omega
        · have := (List.getElem?_eq_some_iff.1 hd).1
          rw [flatE_length hall] at this
          exact this
  refine ⟨_, _, _, S', _, rfl, ⟨rfl, rfl⟩, q3, ⟨A, es.length, cap, A, cap, by rw [← hr.len]; simp, Nat.le_refl _, rfl, fun _ => ⟨rfl, rfl⟩⟩, q2.add hr.len fun b hbk => ?_⟩
  exact (hbl b hbk).1
end Go.Proofs.YtaaafkoeddgaaaaDoor

namespace Go.Proofs.YtaaafkoeddgaaaaDoor
open Go.RowKit
set_option linter.unusedVariables false
set_option linter.unusedSimpArgs false
set_option maxRecDepth 20000
def sX : So := ⟨true, 0, 7, [98], [⟨1, 0, 7⟩, ⟨2, 0, 7⟩], []⟩
def stA (a b c d e : Int) : AV := .agg [nA a, nA b, nA c, nA d, nA e]
theorem sX_ok {m : Nat} (hm : 1000 < m) : sX.Ok m := by
  unfold sX So.Ok
  simp only [List.length_cons, List.length_nil]
  omega
theorem rest_s (m : Nat) (D : List Deferred) (hm : 1000 < m) : slot_VoicesR m D (nA 5) (nA 4) (OP 0 0) (OW 1 1) [⟨1, ty_api_Slot, 0, SC sX⟩, ⟨2, ty_api_Stmt, 5, [stA 0 2 0 5 7]⟩] = some (SL [stA 0 2 0 5 7, stA 1 3 0 5 7, stA 2 3 0 5 7], [⟨1, ty_api_Slot, 0, SC sX⟩, ⟨2, ty_api_Stmt, 5, [stA 0 2 0 5 7, stA 1 3 0 5 7, stA 2 3 0 5 7]⟩]) := by
  have hB := backups_s m sX 4 (sX_ok hm) (by decide) (by decide)
  have e1 : wordW sX 4 sX.p 0 &&& (18446744073709551615 - qb (sX.vw % 4)) = 6 := by decide +kernel
  rw [e1, SE_it] at hB
  have hL := list_s m 6 (by decide)
  have e2 : numsL 6 = [1, 2] := by decide +kernel
  rw [e2] at hL
  have hL : quorum_List_t m [V (.int .u64 6)] = some (SL [nA 1, nA 2], []) := hL
  have v1 : sX.vw = 0 := rfl
  have v2 : sX.tm = 7 := rfl
  rw [slot_VoicesR_eq]
  obtain ⟨m, rfl⟩ : ∃ k, m = k + 1 + 1 + 1 := ⟨m - 3, by omega⟩
  simp (config := {maxSteps := 4000000, implicitDefEqProofs := false}) (disch := omega) only [go_sem, ↓reduceIte, Nat.reduceAdd, Nat.reduceSub, Nat.reduceMul, Nat.reduceLeDiff, Nat.reduceLT, Int.reduceEq, Int.reduceNe, Int.reduceLT, Int.reduceLE, Int.reduceAdd, Int.reduceSub, Int.reduceMul, Int.reduceNeg, Nat.zero_add, Nat.add_zero, Nat.mul_one, Int.toNat_natCast, Int.natCast_zero, Int.cast_ofNat_Int, or_false, false_or, or_true, true_or, Int.reduceToNat, Nat.sub_zero, Int.natCast_nonneg, Int.toNat_zero, Bool.true_and, Bool.and_true, Bool.false_and, Bool.and_false, Bool.true_or, Bool.or_true, Bool.false_or, Bool.or_false, Bool.not_true, Bool.not_false, Bool.not_not, true_and, and_true, false_and, and_false, not_true_eq_false, not_false_eq_true, eq_self, decide_true, decide_false, ne_eq, implies_true, forall_const, true_implies, false_implies, Bool.true_eq_false, Bool.false_eq_true, reduceCtorEq, List.map_cons, List.map_nil, List.all_cons, List.all_nil, List.length_cons, List.length_nil, List.length_map, List.length_append, List.nil_append, List.cons_append, List.set_cons_zero, List.set_cons_succ, List.set_nil, List.drop_zero, List.drop_succ_cons, List.drop_nil, List.take_zero, List.take_succ_cons, List.take_nil, Option.map_some, Option.map_none, Option.isSome_some, Nat.reduceEqDiff, Nat.reduceBEq, Nat.reduceGT, List.all_append, List.all_map, Function.comp_def, decide_eq_true_eq, Bool.and_eq_true, beq_self_eq_true, or_self, and_self, ite_true, ite_false, Nat.le_refl, Bool.not_eq_true, decide_not, Bool.not_eq_true', decide_eq_false_iff_not, Bool.not_eq_false, Bool.or_eq_true, if_true, if_false, ite_self, vE_it, vc_len, vc_sure, vc_ltA, vc_lt1, vc_all1, vc_ro, vc_take, vc_sl, vc_set, vc_fr, vc_vw, vc_tm, zcV_eq, sc_len, sc_sure, sc_ltA, sc_lt1, sc_all1, sc_ro, sc_take, sc_set, sc_has, sc_vw, sc_tm, sc_body, sc_p, sc_c, zs_len, zs_sure, zs_ltA, zs_ro, zs_set, zs_set2, zs_set3, zs_take, zs_b, vs_ltA, vs_len3, natInt, u_nthM, all_tt, hB, hL, iterC, slot_VoicesR_b1_eq, slot_VoicesR_r1_eq, v1, v2, w_i64]
  rfl
theorem first_s (m : Nat) (D : List Deferred) (hm : 1000 < m) : slot_VoicesF m D (SE sX) (nA 5) (nA 4) [] = some (TU [nA 5, nA 4, OP 0 0], [⟨1, ty_api_Slot, 0, SC sX⟩]) := by
  have hP := prepared_s m sX 4 (sX_ok hm)
  have e1 : prepB sX 4 = true := by decide +kernel
  rw [e1, SE_it] at hP
  rw [slot_VoicesF_eq, SE_it]
  simp (config := {maxSteps := 4000000, implicitDefEqProofs := false}) (disch := omega) only [go_sem, ↓reduceIte, Nat.reduceAdd, Nat.reduceSub, Nat.reduceMul, Nat.reduceLeDiff, Nat.reduceLT, Int.reduceEq, Int.reduceNe, Int.reduceLT, Int.reduceLE, Int.reduceAdd, Int.reduceSub, Int.reduceMul, Int.reduceNeg, Nat.zero_add, Nat.add_zero, Nat.mul_one, Int.toNat_natCast, Int.natCast_zero, Int.cast_ofNat_Int, or_false, false_or, or_true, true_or, Int.reduceToNat, Nat.sub_zero, Int.natCast_nonneg, Int.toNat_zero, Bool.true_and, Bool.and_true, Bool.false_and, Bool.and_false, Bool.true_or, Bool.or_true, Bool.false_or, Bool.or_false, Bool.not_true, Bool.not_false, Bool.not_not, true_and, and_true, false_and, and_false, not_true_eq_false, not_false_eq_true, eq_self, decide_true, decide_false, ne_eq, implies_true, forall_const, true_implies, false_implies, Bool.true_eq_false, Bool.false_eq_true, reduceCtorEq, List.map_cons, List.map_nil, List.all_cons, List.all_nil, List.length_cons, List.length_nil, List.length_map, List.length_append, List.nil_append, List.cons_append, List.set_cons_zero, List.set_cons_succ, List.set_nil, List.drop_zero, List.drop_succ_cons, List.drop_nil, List.take_zero, List.take_succ_cons, List.take_nil, Option.map_some, Option.map_none, Option.isSome_some, Nat.reduceEqDiff, Nat.reduceBEq, Nat.reduceGT, List.all_append, List.all_map, Function.comp_def, decide_eq_true_eq, Bool.and_eq_true, beq_self_eq_true, or_self, and_self, ite_true, ite_false, Nat.le_refl, Bool.not_eq_true, decide_not, Bool.not_eq_true', decide_eq_false_iff_not, Bool.not_eq_false, Bool.or_eq_true, if_true, if_false, ite_self, vE_it, vc_len, vc_sure, vc_ltA, vc_lt1, vc_all1, vc_ro, vc_take, vc_sl, vc_set, vc_fr, vc_vw, vc_tm, zcV_eq, sc_len, sc_sure, sc_ltA, sc_lt1, sc_all1, sc_ro, sc_take, sc_set, sc_has, sc_vw, sc_tm, sc_body, sc_p, sc_c, zs_len, zs_sure, zs_ltA, zs_ro, zs_set, zs_set2, zs_set3, zs_take, zs_b, vs_ltA, vs_len3, natInt, u_nthM, all_tt, hP]
theorem prim_calls (w : World) (S : SS) (hr : Rel w S [] []) (hg : GOk GG S) : Calls Tryd.prog 47 #[.int .i64 0, .int .i64 4] w fun e w' => ∃ v, e = .returned v ∧ Gr w w' ∧ v = .int .i64 0 := by
  have hP := quorum_Primary_ok 0 [nA 0, nA 4] (nA 0) [] (by
    show quorum_Primary 0 (nA 0) (nA 4) = _
    have := primary_s 0 0 4 (by omega) (by omega)
    exact this)
  have := hP.2 w S [] [.int .i64 0, .int .i64 4] hr hg rfl (fun j d v hd hv => by
    rcases j with _ | _ | j
    · cases hd; cases hv; exact ⟨rfl, rfl⟩
    · cases hd; cases hv; exact ⟨rfl, rfl⟩
    · cases hd)
  refine this.mono ?_
  rintro e w' ⟨v, r, H', S', μ', rfl, ⟨rfl, rfl⟩, hr', hrep, hst⟩
  exact ⟨v, rfl, hst.below, hrep.1⟩
def stV : Value := .agg #[.int .i64 0, .int .i64 2, .int .i64 0, .int .i64 5, .int .i64 7]
def RowAt (w0 : World) (v : Value) (w : World) : Prop := ∃ g, v = .slice (some ⟨g, 0, none⟩) 1 1 ∧ w0.heap.size ≤ g ∧ w.heap[g]? = some (.cells #[.int .i64 0, .int .i64 2, .int .i64 0, .int .i64 5, .int .i64 7] ty_api_Stmt (0, 0))
def phi (b : Nat) (w0 : World) (j : Nat) (v : Value) (w : World) : Prop := match j with
  | 0 => v = .pointer (some ⟨b, 1, none⟩)
  | 1 => v = .int .i64 0
  | 2 => v = .int .i64 4
  | 3 => v = .int .i64 0
  | 4 => v = .pointer (some ⟨b, 1, none⟩)
  | 5 => v = .int .i64 0
  | 6 => v = .int .i64 5
  | 7 => v = .pointer (some ⟨b, 2, none⟩)
  | 8 => v = .int .i64 7
  | 9 => v = stV
  | 10 => RowAt w0 v w
  | 11 => RowAt w0 v w
  | _ => True
theorem phi_gr {b : Nat} {w0 : World} {j : Nat} {v : Value} {w w' : World} (hg : Gr w w') (h : phi b w0 j v w) : phi b w0 j v w' := by
  have row : RowAt w0 v w → RowAt w0 v w' := by
    rintro ⟨g, h1, h2, h3⟩
    have hlt : g < w.heap.size := by
      rcases Nat.lt_or_ge g w.heap.size with q | q
      · exact q
      · rw [Array.getElem?_eq_none (by omega)] at h3; cases h3
    exact ⟨g, h1, h2, by rw [hg.block g hlt]; exact h3⟩
  unfold phi at h ⊢
  split at h <;> first | exact h | exact row h
theorem regB {w : World} {S : SS} {μ : List Value} {T : Tm} {a : Act} (hr : Rel w S μ [⟨1, ty_api_Slot, 0, SC sX⟩]) (hf : Fr S μ (F0 46) T a) (hg : GOk GG S) (h1 : get T 1 = nA 5) (h2 : get T 2 = nA 4) (h3 : get T 3 = OP 0 0) {Q : Exit → Act → World → Prop}
    (hQ : ∀ a' w', Gr w w' → a'.defers = a.defers → a'.tmps.size = a.tmps.size → RowAt w (a'.eval (.tmp 7)) w' → a'.eval (.tmp 1) = a.eval (.tmp 1) → a'.eval (.tmp 2) = a.eval (.tmp 2) → a'.eval (.tmp 3) = a.eval (.tmp 3) → Q .normal a' w') :
    (cdL (endC 2 ((Tryd.f37.body).getD .skip))).wp Tryd.prog Q a w := by
  have f1 : a.tmps.getD 1 undef = .int .i64 5 := by have := hf.slot 1; rw [h1] at this; exact this.1
  have f2 : a.tmps.getD 2 undef = .int .i64 4 := by have := hf.slot 2; rw [h2] at this; exact this.1
  have f3 := hf.slot 3
  rw [h3] at f3
  obtain ⟨b, x, hx, hp, f3⟩ := f3
  have ho := hr.objs 0 x _ hx rfl
  obtain ⟨b', cs, rfl, hb, hcs⟩ := ho.1 rfl
  injection hp with hp
  subst hp
  have c1 : cs[1]? = some (.int .i64 0) := by
    have hlt : 1 < cs.toList.length := by rw [hcs.1]; decide
    have := (hcs.2 1 (nA 0) _ rfl (List.getElem?_eq_getElem hlt)).2
    have e : cs.toList[1] = .int .i64 0 := this.1
    rw [← Array.getElem?_toList, List.getElem?_eq_getElem hlt, e]
  have c2 : cs[2]? = some (.int .i64 7) := by
    have hlt : 2 < cs.toList.length := by rw [hcs.1]; decide
    have := (hcs.2 2 (nA 7) _ rfl (List.getElem?_eq_getElem hlt)).2
    have e : cs.toList[2] = .int .i64 7 := this.1
    rw [← Array.getElem?_toList, List.getElem?_eq_getElem hlt, e]
  have hbl : b' < w.heap.size := by
    rcases Nat.lt_or_ge b' w.heap.size with q | q
    · exact q
    · rw [Array.getElem?_eq_none (by omega)] at hb; cases hb
  have hc1 : ∀ w', Gr w w' → w'.cell? ⟨b', 1, none⟩ = some (.int .i64 0) := fun w' hgr => by
    rw [cell_of_row w' b' 1 cs ty_api_Slot (0, 0) (by rw [hgr.block b' hbl]; exact hb)]; exact c1
  have hc2 : ∀ w', Gr w w' → w'.cell? ⟨b', 2, none⟩ = some (.int .i64 7) := fun w' hgr => by
    rw [cell_of_row w' b' 2 cs ty_api_Slot (0, 0) (by rw [hgr.block b' hbl]; exact hb)]; exact c2
  have hrel : ∀ w', Gr w w' → Rel w' S [] [] := fun w' hgr => by
    obtain ⟨q, _⟩ := hr.grow (S' := S) hgr (fun _ _ _ h => h) (fun _ _ _ h => .inl h) (fun b j d h hb => by have := hr.still_lt h; omega)
    exact q.le (H' := []) trivial rfl
  show (Code.region _ _ true).wp Tryd.prog Q a w
  refine wp_region_rows [_, _, _, _, _, _, _, _, _, _, _, _] (phi b' w) [⟨[], [3], none⟩, ⟨[(0, 14)], [], none⟩, ⟨[], [2], none⟩, ⟨[(1, 15), (2, 16)], [], none⟩, ⟨[], [3], none⟩, ⟨[(4, 18)], [], none⟩, ⟨[], [1], none⟩, ⟨[], [3], none⟩, ⟨[(7, 21)], [], none⟩, ⟨[(3, 17), (5, 19), (6, 20), (8, 22)], [], none⟩, ⟨[(9, 23)], [], none⟩, ⟨[(10, 24)], [], none⟩] MIX (fun j v w w' hgr h => phi_gr hgr h) (by rw [hf.size]; kernel_rfl) (by kernel_rfl) ?_ ?_
  · refine ⟨?_, ?_, ?_, ?_, ?_, ?_, ?_, ?_, ?_, ?_, ?_, ?_, trivial⟩
    · rintro ρ w' hgr ec ef - - ⟨e3, -⟩
      have e3 : ρ (.tmp 3) = .pointer (some ⟨b', 0, none⟩) := e3.trans f3
      exact runs_val (by simp [execOp, e3, ec, ef, go_sem]) (Gr.refl _) rfl
    · rintro ρ w' hgr ec ef - ⟨q, -⟩ -
      have q : ρ (.tmp 14) = .pointer (some ⟨b', 1, none⟩) := q
      have hc := hc1 w' hgr
      exact runs_val (by simp [execOp, q, ec, ef, hc, go_sem]) (Gr.refl _) rfl
    · rintro ρ w' hgr ec ef - - ⟨e, -⟩
      have e : ρ (.tmp 2) = .int .i64 4 := e.trans f2
      exact runs_val (by simp [execOp, e, ec, ef, go_sem]) (Gr.refl _) rfl
    · rintro ρ w' hgr ec ef - ⟨q1, q2, -⟩ -
      have q1 : ρ (.tmp 15) = .int .i64 0 := q1
      have q2 : ρ (.tmp 16) = .int .i64 4 := q2
      exact runs_call (run_call_func _ (by kernel_rfl) rfl (ef _) (by simp only [List.map_toArray, List.map_cons, List.map_nil, q1, q2, ec, ef])) (prim_calls w' S (hrel w' hgr) hg)
    · rintro ρ w' hgr ec ef - - ⟨e3, -⟩
      have e3 : ρ (.tmp 3) = .pointer (some ⟨b', 0, none⟩) := e3.trans f3
      exact runs_val (by simp [execOp, e3, ec, ef, go_sem]) (Gr.refl _) rfl
    · rintro ρ w' hgr ec ef - ⟨q, -⟩ -
      have q : ρ (.tmp 18) = .pointer (some ⟨b', 1, none⟩) := q
      have hc := hc1 w' hgr
      exact runs_val (by simp [execOp, q, ec, ef, hc, go_sem]) (Gr.refl _) rfl
    · rintro ρ w' hgr ec ef - - ⟨e, -⟩
      have e : ρ (.tmp 1) = .int .i64 5 := e.trans f1
      exact runs_val (by simp [execOp, e, ec, ef, go_sem]) (Gr.refl _) rfl
    · rintro ρ w' hgr ec ef - - ⟨e3, -⟩
      have e3 : ρ (.tmp 3) = .pointer (some ⟨b', 0, none⟩) := e3.trans f3
      exact runs_val (by simp [execOp, e3, ec, ef, go_sem]) (Gr.refl _) rfl
    · rintro ρ w' hgr ec ef - ⟨q, -⟩ -
      have q : ρ (.tmp 21) = .pointer (some ⟨b', 2, none⟩) := q
      have hc := hc2 w' hgr
      exact runs_val (by simp [execOp, q, ec, ef, hc, go_sem]) (Gr.refl _) rfl
    · rintro ρ w' hgr ec ef - ⟨q1, q2, q3, q4, -⟩ -
      have q1 : ρ (.tmp 17) = .int .i64 0 := q1
      have q2 : ρ (.tmp 19) = .int .i64 0 := q2
      have q3 : ρ (.tmp 20) = .int .i64 5 := q3
      have q4 : ρ (.tmp 22) = .int .i64 7 := q4
      refine runs_val (v := stV) (w' := w') ?_ (Gr.refl _) rfl
      unfold execOp
      simp [q1, q2, q3, q4, ec, ef, go_sem]
      rfl
    · rintro ρ w' hgr ec ef - ⟨q1, -⟩ -
      have q1 : ρ (.tmp 23) = stV := q1
      refine runs_val (v := .slice (some ⟨w'.heap.size, 0, none⟩) 1 1) (w' := w'.alloc (.cells #[.int .i64 0, .int .i64 2, .int .i64 0, .int .i64 5, .int .i64 7] ty_api_Stmt)) ?_ (Gr.alloc _ _) ⟨_, rfl, hgr.size, heap_alloc_new _ _⟩
      unfold execOp
      simp [q1, ec, ef, go_sem, stV]
      rfl
    · rintro ρ w' hgr ec ef - ⟨q1, -⟩ -
      exact runs_val (v := ρ (.tmp 24)) (by simp [execOp, ec, ef, go_sem]) (Gr.refl _) q1
  · intro a' w' hgr hd hs hφ hu
    refine hQ a' w' hgr hd hs (hφ 11 _ 7 rfl rfl) ?_ ?_ ?_
    · exact hu 1 (by kernel_rfl)
    · exact hu 2 (by kernel_rfl)
    · exact hu 3 (by kernel_rfl)
theorem ro_inv {d x : AV} {H : List AObj} (h : roA H (noT d) = x) (hs : ∀ es sp, x ≠ .slice es sp) (hn : x ≠ .nil) (ha : ∀ cs, x ≠ .agg cs) : d = x := by
  unfold noT at h
  split at h
  · exact (hn (by rw [← h]; rfl)).elim
  · unfold roA at h
    split at h
    · exact (ha _ h.symm).elim
    · unfold ro1 at h
      split at h
      · split at h
        · split at h
          · exact (hs _ _ h.symm).elim
          · exact h
        · exact h
      · first | exact h | exact (hs _ _ h.symm).elim
      all_goals first | exact h | exact (hs _ _ h.symm).elim
theorem voices_acp (m : Nat) (hm : 1000 < m) : ACp Tryd.prog GG 37 [SE sX, nA 5, nA 4] (SL [stA 0 2 0 5 7, stA 1 3 0 5 7, stA 2 3 0 5 7]) := by
  refine acp_of_wpF (c := (Tryd.f37.body).getD .skip) (rs := [.tmp 6]) Tryd.func37 rfl (by kernel_rfl) rfl Tryd.ntmps37 (Nat.le_of_ble_eq_true rfl) ?_
  have hF := first_s m [] hm
  refine exec_far (n := 0) MIX (slot_VoicesF_hE m) 2 _ slot_VoicesF_h _ (by kernel_rfl) (Nat.zero_le _) hF ?_ (fun e s' hne q => ?_)
  rotate_left
  · cases e with
    | normal => exact (hne rfl).elim
    | _ => cases q
  intro s' _ hk
  have hk : (some (ro s'.H (TU [noT (gt s'.T 1), noT (gt s'.T 2), noT (gt s'.T 3)]), s'.H) : RO) = some (TU [nA 5, nA 4, OP 0 0], [⟨1, ty_api_Slot, 0, SC sX⟩]) := hk
  injection hk with hk
  injection hk with hk hH
  rw [hH] at hk
  rw [gt_eq, gt_eq, gt_eq, ro_tu] at hk
  injection hk with _ hk
  injection hk with hk
  injection hk with k1 hk
  injection hk with k2 hk
  injection hk with k3 _
  have g1 : get s'.T 1 = nA 5 := ro_inv k1 (fun _ _ q => by cases q) (fun q => by cases q) (fun _ q => by cases q)
  have g2 : get s'.T 2 = nA 4 := ro_inv k2 (fun _ _ q => by cases q) (fun q => by cases q) (fun _ q => by cases q)
  have g3 : get s'.T 3 = OP 0 0 := ro_inv k3 (fun _ _ q => by cases q) (fun q => by cases q) (fun _ q => by cases q)
  obtain ⟨H1, T1⟩ := s'
  dsimp only at hH g1 g2 g3
  subst hH
  intro w S μ a hr hf hg
  have ec : endC 2 ((Tryd.f37.body).getD .skip) = .seq (cdL (endC 2 ((Tryd.f37.body).getD .skip))) (endC 3 ((Tryd.f37.body).getD .skip)) := by kernel_rfl
  rw [ec]
  refine wp_seq (regB hr hf hg g1 g2 g3 fun a' w' hgr hd hs hrow e1 e2 e3 => ?_)
  obtain ⟨g, hv, hgs, hblk⟩ := hrow
  have hall : allC 5 [stA 0 2 0 5 7] := fun d hd => by rw [List.mem_singleton.1 hd]; rfl
  obtain ⟨v, r, H', S', μ', he, ⟨rfl, rfl⟩, hr2, hrep, hst2⟩ := own_cpost (e := ty_api_Stmt) (z := 5) (es := [stA 0 2 0 5 7]) (us := [.int .i64 0, .int .i64 2, .int .i64 0, .int .i64 5, .int .i64 7]) (A := some ⟨g, 0, none⟩) (cap := 1) hr hgr hall (by
    refine ⟨rfl, fun j d u hd hu => ?_⟩
    rcases j with _ | _ | _ | _ | _ | j
    · cases hd; cases hu; exact ⟨rfl, rfl, rfl⟩
    · cases hd; cases hu; exact ⟨rfl, rfl, rfl⟩
    · cases hd; cases hu; exact ⟨rfl, rfl, rfl⟩
    · cases hd; cases hu; exact ⟨rfl, rfl, rfl⟩
    · cases hd; cases hu; exact ⟨rfl, rfl, rfl⟩
    · cases hd) ⟨rfl, .inr ⟨g, 1, _, rfl, hgs, hblk, Nat.le_refl _, by decide, rfl, rfl⟩⟩
  injection he with he
  subst he
  have hR := rest_s m [] hm
  have key := exec_ok (n := 0) MIX (slot_VoicesR_hE m) _ slot_VoicesR_h _ _ (Nat.zero_le _) hR
  have hext := hst2.toExt hr
  have hf2 : Fr S' μ' (F0 46) [(1, nA 5), (2, nA 4), (3, OP 0 0), (7, OW 1 1)] a' := by
    refine ⟨by rw [hs, hf.size], by rw [hd, hf.nodef], fun i => ?_⟩
    by_cases q1 : i = 1
    · subst q1
      have := (hf.slot 1).ext hext
      rw [g1] at this
      have e1 : a'.tmps.getD 1 undef = a.tmps.getD 1 undef := e1
      rw [e1]; exact this
    by_cases q2 : i = 2
    · subst q2
      have := (hf.slot 2).ext hext
      rw [g2] at this
      have e2 : a'.tmps.getD 2 undef = a.tmps.getD 2 undef := e2
      rw [e2]; exact this
    by_cases q3 : i = 3
    · subst q3
      have := (hf.slot 3).ext hext
      rw [g3] at this
      have e3 : a'.tmps.getD 3 undef = a.tmps.getD 3 undef := e3
      rw [e3]; exact this
    by_cases q7 : i = 7
    · subst q7
      have hv : a'.tmps.getD 7 undef = _ := hv
      rw [hv]; exact hrep
    · have : get ([(1, nA 5), (2, nA 4), (3, OP 0 0), (7, OW 1 1)] : Tm) i = .nil := by
        simp only [_root_.Go.Proofs.YtaaafkoeddgaaaaDoor.get]
        rw [if_neg (Ne.symm q1), if_neg (Ne.symm q2), if_neg (Ne.symm q3), if_neg (Ne.symm q7)]
      rw [this]; exact rep_any _ _ _
  refine wp_mono (key w' S' μ' a' hr2 hf2 (hg.ext hst2.still)) fun e a2 w2 q => ?_
  have q := Lift.trans (hst2.less (Nat.zero_le _)) q
  obtain ⟨s2, S2, μ2, hq, rest⟩ := q
  refine ⟨s2, S2, μ2, ?_, rest⟩
  have fin : (some (ro s2.H (gt s2.T 6), s2.H) : RO) = some (SL [stA 0 2 0 5 7, stA 1 3 0 5 7, stA 2 3 0 5 7], [⟨1, ty_api_Slot, 0, SC sX⟩, ⟨2, ty_api_Stmt, 5, [stA 0 2 0 5 7, stA 1 3 0 5 7, stA 2 3 0 5 7]⟩]) → ltT 0 (SL [stA 0 2 0 5 7, stA 1 3 0 5 7, stA 2 3 0 5 7]) = true ∧ resC Tryd.prog s2.H s2.T [.tmp 6] fun ds => fzV s2.H (ro s2.H (oneOf ds)) = SL [stA 0 2 0 5 7, stA 1 3 0 5 7, stA 2 3 0 5 7] := by
    intro h
    injection h with h
    injection h with h _
    refine ⟨rfl, ?_⟩
    show fzV s2.H (ro s2.H (get s2.T 6)) = _
    rw [gt_eq] at h
    rw [h]; rfl
  cases e with
  | normal => exact fin hq
  | ret => exact fin hq
  | exit id => cases hq
  | goto l => cases hq
  | panic ch => obtain ⟨u, e9, k9⟩ := chE_some (K := fun u => some (PN u, s2.H)) hq; simp at k9
  | outgrown => cases hq
noncomputable def slot_Voices_t (m : Nat) : List AV → RO := orac (ι := Unit) (fun _ => [SE sX, nA 5, nA 4]) (fun _ => SL [stA 0 2 0 5 7, stA 1 3 0 5 7, stA 2 3 0 5 7]) (fun _ => 1000 < m)
theorem slot_Voices_ok (m : Nat) : ∀ args X H', slot_Voices_t m args = some (X, H') → ACp Tryd.prog GG 37 args X := orac_ok (fun _ h => voices_acp m h)
theorem voices_s (m : Nat) (hm : 1000 < m) : slot_Voices_t m [SE sX, nA 5, nA 4] = some (SL [stA 0 2 0 5 7, stA 1 3 0 5 7, stA 2 3 0 5 7], []) := orac_eq (ι := Unit) (fun _ _ _ => rfl) (i := ()) hm
end Go.Proofs.YtaaafkoeddgaaaaDoor
