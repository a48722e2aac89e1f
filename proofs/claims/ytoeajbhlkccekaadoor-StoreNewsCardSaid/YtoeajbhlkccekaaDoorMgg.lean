/-
  Texts laid together, part 7 of 7: laws of a walk over data, contracts of functions, each whole by itself.
-/
import Derived.Test.YtoeajbhlkccekaaDoorMgf
import Derived.Test.YtoeajbhlkccekaaDoorMgb
namespace Go.Proofs.YtoeajbhlkccekaaDoor
open Go.RowKit
set_option linter.unusedVariables false
set_option linter.unusedSimpArgs false
set_option maxRecDepth 20000
attribute [local go_sem] Nat.zero_add Nat.add_zero Nat.mul_one Int.toNat_natCast Int.natCast_zero Int.cast_ofNat_Int or_false false_or or_true true_or Nat.sub_zero Int.natCast_nonneg Int.toNat_zero Bool.true_and Bool.and_true Bool.false_and Bool.and_false Bool.true_or Bool.or_true Bool.false_or Bool.or_false Bool.not_true Bool.not_false Bool.not_not true_and and_true false_and and_false not_true_eq_false not_false_eq_true eq_self decide_true decide_false ne_eq implies_true forall_const true_implies false_implies Bool.true_eq_false Bool.false_eq_true List.map_cons List.map_nil List.all_cons List.all_nil List.length_cons List.length_nil List.length_map List.length_append List.nil_append List.cons_append List.set_cons_zero List.set_cons_succ List.set_nil List.drop_zero List.drop_succ_cons List.drop_nil List.take_zero List.take_succ_cons List.take_nil Option.map_some Option.map_none Option.isSome_some List.all_append List.all_map Function.comp_def decide_eq_true_eq Bool.and_eq_true beq_self_eq_true or_self and_self ite_true ite_false Nat.le_refl Bool.not_eq_true decide_not Bool.not_eq_true' decide_eq_false_iff_not Bool.not_eq_false Bool.or_eq_true if_true if_false ite_self u_roF u_cvF u_cvC u_ceT u_ceK u_appS
attribute [local go_sem_proc] Nat.reduceAdd Nat.reduceSub Nat.reduceMul Nat.reduceLeDiff Nat.reduceLT Int.reduceEq Int.reduceNe Int.reduceLT Int.reduceLE Int.reduceAdd Int.reduceSub Int.reduceMul Int.reduceNeg Int.reduceToNat reduceCtorEq Nat.reduceEqDiff Nat.reduceBEq Nat.reduceGT
attribute [local go_sem_proc ↓] reduceIte
theorem runM_len {lo hi : Bytes} {most : Int} : ∀ (n : Nat) (u : Tr) (acc : List Item), (runM lo hi most n u acc).length ≤ acc.length + n
  | 0, u, acc => Nat.le_refl _
  | n + 1, u, acc => by
    unfold runM
    split
    · omega
    · split
      · omega
      · have := runM_len (lo := lo) (hi := hi) (most := most) n (pop u (leastT u).toNat) (takeX lo (hdK u (leastT u).toNat) acc)
        have h2 : (takeX lo (hdK u (leastT u).toNat) acc).length ≤ acc.length + 1 := by
          unfold takeX
          split
          · omega
          · simp
        omega
theorem scanR_len {lo hi : Bytes} {most : Int} {t : Tr} (h : t.Ok) : (scanR lo hi most t).length ≤ 16000000 := by
  unfold scanR
  split
  · have := runM_len (lo := lo) (hi := hi) (most := most) (cntT t) t []
    have h2 := cnt_le h
    unfold scanT
    simp at this
    omega
  · simp
def undoR (p q : St) : List Edt := if mayS p && mayS q then undoN ((scanR [] [] 1024 p.t).length + (scanR [] [] 1024 q.t).length) (scanR [] [] 1024 p.t) (scanR [] [] 1024 q.t) [] else []
theorem undo_s (m : Nat) (p q : St) (hm : 40000000 < m) (hp : p.t.Ok) (hq : q.t.Ok) : store_Undo m (stA p) (stA q) = some (TU [SL ((undoR p q).map eA), nA (if mayS p && mayS q then 0 else 1)], []) := by
  rw [store_Undo_eq]
  have h1 := smay_s m p (by omega) hp
  have h2 := smay_s m q (by omega) hq
  have s1 := span_ScanQ_e m p.t [] [] 1024 hp
  have s2 := span_ScanQ_e m q.t [] [] 1024 hq
  rw [tA_def] at s1 s2
  unfold undoR
  rw [stA_def] at h1 h2 ⊢
  rw [stA_def]
  cases e1 : mayS p with
  | false =>
    rw [e1] at h1
    simp (config := {maxSteps := 4000000, implicitDefEqProofs := false}) (disch := omega) only [go_sem, tC_len, tC_sure, tC_ltA, tC_lt1, tC_ro, tC_take, tC_all1, zcT_eq, zcI_len, zC_len, zC_ltA, zC_lt1, zC_sure, zC_ro, zC_take, set_tl, set_tv, sc_tt, sc_zt, sc_tz, sc_zz, add16, tA_def, lA_def, natInt, u_tl, u_tv, st_take35, stC_len, st_sure, st_ltA, st_ro, h1, store_Undo_r1_eq]
    try rfl
  | true =>
    rw [e1] at h1
    cases e2 : mayS q with
    | false =>
      rw [e2] at h2
      simp (config := {maxSteps := 4000000, implicitDefEqProofs := false}) (disch := omega) only [go_sem, tC_len, tC_sure, tC_ltA, tC_lt1, tC_ro, tC_take, tC_all1, zcT_eq, zcI_len, zC_len, zC_ltA, zC_lt1, zC_sure, zC_ro, zC_take, set_tl, set_tv, sc_tt, sc_zt, sc_tz, sc_zz, add16, tA_def, lA_def, natInt, u_tl, u_tv, st_take35, stC_len, st_sure, st_ltA, st_ro, h1, h2, store_Undo_r1_eq]
      try rfl
    | true =>
      rw [e2] at h2
      have hl1 := scanR_len (lo := []) (hi := []) (most := 1024) hp
      have hl2 := scanR_len (lo := []) (hi := []) (most := 1024) hq
      simp (config := {maxSteps := 4000000, implicitDefEqProofs := false}) (disch := omega) only [go_sem, tC_len, tC_sure, tC_ltA, tC_lt1, tC_ro, tC_take, tC_all1, zcT_eq, zcI_len, zC_len, zC_ltA, zC_lt1, zC_sure, zC_ro, zC_take, set_tl, set_tv, sc_tt, sc_zt, sc_tz, sc_zz, add16, tA_def, lA_def, natInt, u_tl, u_tv, st_take35, st_take, stC_len, st_sure, st_ltA, st_ro, h1, h2, store_Undo_r1_eq, store_Undo_r2_eq, s1, s2]
      refine (undo_loop m p q (scanR [] [] 1024 p.t) (scanR [] [] 1024 q.t) (by omega) (by omega) (fun _ => none) _ ?_).trans ?_
      · intro acc
        show blockX 0 (seqX (fun s => store_Undo_r3 m ⟨s.H, [(10, gt s.T 10)]⟩) store_Undo_fin) (.exit 0) ⟨_, [(10, OW 2 acc.length)]⟩ = _
        simp (config := {maxSteps := 4000000, implicitDefEqProofs := false}) (disch := omega) only [go_sem, store_Undo_r3_eq]
      · rfl
def SEq (s u : St) : Prop := s.t.Eq16 u.t ∧ s.ver = u.ver ∧ s.bytes = u.bytes ∧ s.keys = u.keys
theorem stA_inj {s u : St} (h : stA s = stA u) : SEq s u := by
  rw [stA_def, stA_def] at h
  injection h with h
  have h1 : tC s.t = tC u.t := by
    have := congrArg (List.take 32) h
    rwa [st_take, st_take] at this
  have h2 : s.tail = u.tail := by
    have := congrArg (List.drop 32) h
    unfold stC at this
    rwa [List.drop_left' tC_len, List.drop_left' tC_len] at this
  refine ⟨tA_inj (by rw [tA_def, tA_def, h1]), ?_⟩
  unfold St.tail at h2
  injection h2 with a h2
  injection h2 with b h2
  injection h2 with c _
  exact ⟨nA_inj a, nA_inj b, nA_inj c⟩
theorem stA_eq {s u : St} (h : SEq s u) : stA s = stA u := by
  obtain ⟨h1, h2, h3, h4⟩ := h
  have e := tA_eq h1
  rw [tA_def, tA_def] at e
  injection e with e
  rw [stA_def, stA_def]
  unfold stC St.tail
  rw [e, h2, h3, h4]
theorem mayS_eq {s u : St} (h : SEq s u) : mayS s = mayS u := by
  obtain ⟨h1, h2, h3, h4⟩ := h
  unfold mayS versB
  rw [mayT_eq h1, h2, h3, h4, weightT_eq h1, countT_eq h1]
  rw [all_range_congr (f := fun i => decide (s.t.ver i ≤ u.ver)) (g := fun i => decide (u.t.ver i ≤ u.ver)) fun i hi => by rw [(h1 i hi).2]]
theorem oneT_eq {t u : Tr} (h : t.Eq16 u) (x : Edt) (v : Int) : tA (oneT t x v).1 = tA (oneT u x v).1 ∧ (oneT t x v).2 = (oneT u x v).2 := by
  unfold oneT
  rw [getT_eq h]
  split
  · split
    · exact delT_eq h x.key v
    · exact ⟨tA_eq h, rfl⟩
  · exact putT_eq h _
theorem takeG_eq {v : Int} : ∀ (l : List Edt) (k : Nat) {t u : Tr} (h : t.Eq16 u), tA (takeG v k l t).1 = tA (takeG v k l u).1 ∧ (takeG v k l t).2 = (takeG v k l u).2
  | [], k, t, u, h => ⟨tA_eq h, rfl⟩
  | x :: r, k, t, u, h => by
    obtain ⟨e1, e2⟩ := oneT_eq h x v
    unfold takeG
    rw [e2]
    split
    · exact takeG_eq r (k + 1) (tA_inj e1)
    · exact ⟨tA_eq h, rfl⟩
theorem takeS_eq {s u : St} (h : SEq s u) (l : List Edt) : takV (takeS s l) = takV (takeS u l) := by
  have hM := mayS_eq h
  obtain ⟨h1, h2, h3, h4⟩ := h
  obtain ⟨e1, e2⟩ := takeG_eq (v := s.ver + 1) l 0 h1
  have e3 := tA_inj e1
  have eO : overQ s (takeG (s.ver + 1) 0 l s.t).1 = overQ u (takeG (s.ver + 1) 0 l u.t).1 := by
    unfold overQ
    rw [weightT_eq e3, countT_eq e3, h3, h4]
  unfold takeS
  rw [hM, h2] at *
  split
  · rfl
  · split
    · rfl
    · rw [e2, eO]
      split
      · split
        · rfl
        · have : SEq ⟨(takeG (u.ver + 1) 0 l s.t).1, u.ver + 1, s.bytes, s.keys⟩ ⟨(takeG (u.ver + 1) 0 l u.t).1, u.ver + 1, u.bytes, u.keys⟩ := ⟨e3, rfl, h3, h4⟩
          unfold takV
          rw [stA_eq this]
      · rfl
theorem ed_inj {x y : Edt} (h : flA Edt.cells x = flA Edt.cells y) : x = y := by
  obtain ⟨k1, d1, i1, s1⟩ := x
  obtain ⟨k2, d2, i2, s2⟩ := y
  rw [ed_it, ed_it] at h
  simp only [DataW.agg.injEq, List.cons.injEq, DataW.held.injEq, Sum.inl.injEq, Value.string.injEq, Value.int.injEq, ByteArray.mk.injEq, Array.mk.injEq, true_and, and_true] at h
  obtain ⟨h1, h2, h3, h4⟩ := h
  have h1 : k1 = k2 := by simpa using h1
  have h4 : s1 = s2 := by simpa using h4
  subst h1 h2 h3 h4
  rfl
noncomputable def store_TakeQ_t (m : Nat) : List AV → RO := orac (ι := St × List Edt) (fun p => [stA p.1, SL (p.2.map eA)]) (fun p => takV (takeS p.1 p.2)) (fun p => p.1.t.Ok ∧ (mayT p.1.t = true → TInv p.1.t) ∧ (∀ x ∈ p.2, NumOk (x.it 0)) ∧ p.2.length ≤ 34359738368)
theorem store_TakeQ_ok (m : Nat) : ∀ args X H', store_TakeQ_t m args = some (X, H') → ACp Tryd.prog GG 10 args X := orac_ok (by
  rintro ⟨s, l⟩ ⟨h1, h2, h3, h4⟩
  exact take_acp h1 h2 h3 h4)
theorem store_TakeQ_e (m : Nat) (s : St) (l : List Edt) (h : s.t.Ok) (hi : mayT s.t = true → TInv s.t) (hx : ∀ x ∈ l, NumOk (x.it 0)) (hl : l.length ≤ 34359738368) : store_TakeQ_t m [stA s, SL (l.map eA)] = some (takV (takeS s l), []) := orac_eq (ι := St × List Edt) (by
  rintro ⟨s, l⟩ ⟨u, k⟩ e
  dsimp only at e ⊢
  simp only [List.cons.injEq, and_true] at e
  obtain ⟨e1, e2⟩ := e
  injection e2 with e2
  have := map_inj (fun _ _ => ed_inj) e2
  subst this
  exact takeS_eq (stA_inj e1) l) (i := (s, l)) ⟨h, hi, hx, hl⟩
end Go.Proofs.YtoeajbhlkccekaaDoor

namespace Go.Proofs.YtoeajbhlkccekaaDoor
open Go.RowKit
set_option linter.unusedVariables false
set_option linter.unusedSimpArgs false
set_option maxRecDepth 20000
attribute [local go_sem] Nat.zero_add Nat.add_zero Nat.mul_one Int.toNat_natCast Int.natCast_zero Int.cast_ofNat_Int or_false false_or or_true true_or Nat.sub_zero Int.natCast_nonneg Int.toNat_zero Bool.true_and Bool.and_true Bool.false_and Bool.and_false Bool.true_or Bool.or_true Bool.false_or Bool.or_false Bool.not_true Bool.not_false Bool.not_not true_and and_true false_and and_false not_true_eq_false not_false_eq_true eq_self decide_true decide_false ne_eq implies_true forall_const true_implies false_implies Bool.true_eq_false Bool.false_eq_true List.map_cons List.map_nil List.all_cons List.all_nil List.length_cons List.length_nil List.length_map List.length_append List.nil_append List.cons_append List.set_cons_zero List.set_cons_succ List.set_nil List.drop_zero List.drop_succ_cons List.drop_nil List.take_zero List.take_succ_cons List.take_nil Option.map_some Option.map_none Option.isSome_some List.all_append List.all_map Function.comp_def decide_eq_true_eq Bool.and_eq_true beq_self_eq_true or_self and_self ite_true ite_false Nat.le_refl Bool.not_eq_true decide_not Bool.not_eq_true' decide_eq_false_iff_not Bool.not_eq_false Bool.or_eq_true if_true if_false ite_self u_roF u_cvF u_cvC u_ceT u_ceK u_appS
attribute [local go_sem_proc] Nat.reduceAdd Nat.reduceSub Nat.reduceMul Nat.reduceLeDiff Nat.reduceLT Int.reduceEq Int.reduceNe Int.reduceLT Int.reduceLE Int.reduceAdd Int.reduceSub Int.reduceMul Int.reduceNeg Int.reduceToNat reduceCtorEq Nat.reduceEqDiff Nat.reduceBEq Nat.reduceGT
attribute [local go_sem_proc ↓] reduceIte
def newS (b k : Int) : St := ⟨Tr.zero, 0, b, k⟩
def zSb (b k : Int) : List AV := zC ++ [nA 0, nA b, nA k]
section
variable {R : Type} {b k : Int} {n : Nat} {K1 : AV → Option R} {H : List AObj}
theorem zSb_len : (zSb b k).length = 35 := _root_.id rfl
theorem zSb_sure : (zSb b k).all sure = true := _root_.id rfl
theorem zSb_ltA : (zSb b k).all (ltA n) = true := _root_.id rfl
theorem zSb_all1 : ((zSb b k).all fun x => lt1 n (ro1 H x)) = true := _root_.id rfl
theorem zSb_ro : (zSb b k).map (ro1 H) = stC (newS b k) := _root_.id rfl
theorem zSb_take : (zSb b k).take 35 = zSb b k := _root_.id rfl
theorem zSb_set : setCells zS 0 (zSb b k) = zSb b k := set_all rfl
theorem u_bSb : buildE (some pl_api_Store) (some zS) [(2, V (.int .i64 b)), (3, V (.int .i64 k))] K1 = K1 (.agg (zSb b k)) := _root_.id rfl
end
def newR (b k : Int) : St × Nat := if mayS (newS b k) then (newS b k, 0) else (St.zero, 1)
theorem new_s (m : Nat) (b k : Int) (hm : 1000000 < m) : store_New m (nA b) (nA k) = some (TU [stA (newR b k).1, nA (newR b k).2], []) := by
  rw [store_New_eq]
  have hM := smay_s m (newS b k) hm ok_zero
  unfold newR
  rw [stA_def] at hM ⊢
  cases h1 : mayS (newS b k) with
  | false =>
    rw [h1] at hM
    simp (config := {maxSteps := 4000000, implicitDefEqProofs := false}) (disch := omega) only [go_sem, tC_len, tC_sure, tC_ltA, tC_lt1, tC_ro, tC_take, tC_all1, zcT_eq, zcI_len, zC_len, zC_ltA, zC_lt1, zC_sure, zC_ro, zC_take, set_tl, set_tv, sc_tt, sc_zt, sc_tz, sc_zz, add16, tA_def, lA_def, natInt, u_tl, u_tv, zcS_eq, zS_len, zS_sure, zS_take, zS_ltA, zS_ro, zSb_len, zSb_sure, zSb_ltA, zSb_take, zSb_ro, zSb_set, u_bSb, u_bS0, ss_zz, hM, zS_all1, zSb_all1, stA_def]
    try rfl
  | true =>
    rw [h1] at hM
    simp (config := {maxSteps := 4000000, implicitDefEqProofs := false}) (disch := omega) only [go_sem, tC_len, tC_sure, tC_ltA, tC_lt1, tC_ro, tC_take, tC_all1, zcT_eq, zcI_len, zC_len, zC_ltA, zC_lt1, zC_sure, zC_ro, zC_take, set_tl, set_tv, sc_tt, sc_zt, sc_tz, sc_zz, add16, tA_def, lA_def, natInt, u_tl, u_tv, zcS_eq, zS_len, zS_sure, zS_take, zS_ltA, zS_ro, zSb_len, zSb_sure, zSb_ltA, zSb_take, zSb_ro, zSb_set, u_bSb, u_bS0, ss_zz, hM, zS_all1, zSb_all1, stA_def]
    try rfl
def roomR (s : St) : Int × Int := if mayS s then (s.bytes - weightT s.t, s.keys - countT s.t) else (0, 0)
theorem mayS_nums {s : St} (h : mayS s = true) : 0 ≤ s.ver ∧ s.ver ≤ 2147483647 ∧ 0 ≤ s.bytes ∧ s.bytes ≤ 65536 ∧ 0 ≤ s.keys ∧ s.keys ≤ 1024 ∧ mayT s.t = true ∧ (weightT s.t : Int) ≤ s.bytes ∧ (countT s.t : Int) ≤ s.keys := by
  unfold mayS inB at h
  simp only [Bool.and_eq_true, decide_eq_true_eq] at h
  exact ⟨h.1.1.1.1.1.2.1, h.1.1.1.1.1.2.2, h.1.1.1.1.2.1, h.1.1.1.1.2.2, h.1.1.1.2.1, h.1.1.1.2.2, h.1.1.1.1.1.1, h.1.2, h.2⟩
theorem room_s (m : Nat) (s : St) (hm : 1000000 < m) (h : s.t.Ok) : store_Room m (stA s) = some (TU [nA (roomR s).1, nA (roomR s).2], []) := by
  rw [store_Room_eq]
  have hM := smay_s m s hm h
  have hW := trunk_Weight_e m s.t h
  have hC := trunk_Count_e m s.t h
  rw [tA_def] at hW hC
  unfold roomR
  rw [stA_def] at hM ⊢
  cases h1 : mayS s with
  | false =>
    rw [h1] at hM
    simp (config := {maxSteps := 4000000, implicitDefEqProofs := false}) (disch := omega) only [go_sem, tC_len, tC_sure, tC_ltA, tC_lt1, tC_ro, tC_take, tC_all1, zcT_eq, zcI_len, zC_len, zC_ltA, zC_lt1, zC_sure, zC_ro, zC_take, set_tl, set_tv, sc_tt, sc_zt, sc_tz, sc_zz, add16, tA_def, lA_def, natInt, u_tl, u_tv, st_take35, stC_len, st_sure, st_ltA, st_ro, hM]
    try rfl
  | true =>
    rw [h1] at hM
    have hn := mayS_nums h1
    have w1 : IntKind.i64.wrap (s.bytes - (weightT s.t : Int)) = s.bytes - (weightT s.t : Int) := w_i64 (by omega) (by omega)
    have w2 : IntKind.i64.wrap (s.keys - (countT s.t : Int)) = s.keys - (countT s.t : Int) := w_i64 (by omega) (by omega)
    simp (config := {maxSteps := 4000000, implicitDefEqProofs := false}) (disch := omega) only [go_sem, tC_len, tC_sure, tC_ltA, tC_lt1, tC_ro, tC_take, tC_all1, zcT_eq, zcI_len, zC_len, zC_ltA, zC_lt1, zC_sure, zC_ro, zC_take, set_tl, set_tv, sc_tt, sc_zt, sc_tz, sc_zz, add16, tA_def, lA_def, natInt, u_tl, u_tv, st_take35, st_take, st_bytes, st_keys, stC_len, st_sure, st_ltA, st_ro, hM, hW, hC, w1, w2]
    try rfl
def getR (s : St) (k : Bytes) : Item × Nat := if mayS s then (if keyB k then (if (getT s.t k).isSome then ((getT s.t k).getD Item.zero, 0) else (Item.zero, 6)) else (Item.zero, 3)) else (Item.zero, 1)
def valV (x : Item) : AV := .agg [V (.int .i64 x.kind), V (.int .i64 x.i), V (.string ⟨x.s.toArray⟩)]
theorem zcV0 : zc_api_Value = [V (.int .i64 0), V (.int .i64 0), V (.string ⟨#[]⟩)] := _root_.id rfl
theorem u_bV0 {R : Type} {K1 : AV → Option R} : buildE (some pl_api_Value) (some [V (.int .i64 0), V (.int .i64 0), V (.string ⟨#[]⟩)]) [] K1 = K1 (.agg [V (.int .i64 0), V (.int .i64 0), V (.string ⟨#[]⟩)]) := _root_.id rfl
theorem get_s (m : Nat) (s : St) (k : Bytes) (hm : 1000000 < m) (h : s.t.Ok) : store_Get m (stA s) (sA k) = some (TU [valV (getR s k).1, nA (getR s k).1.ver, nA (getR s k).2], []) := by
  rw [store_Get_eq]
  have hM := smay_s m s hm h
  have hK := key_Is_e m k
  have hG := trunk_Get_e m s.t k h
  rw [tA_def] at hG
  unfold getR valV
  rw [stA_def] at hM ⊢
  cases h1 : mayS s with
  | false =>
    rw [h1] at hM
    simp (config := {maxSteps := 4000000, implicitDefEqProofs := false}) (disch := omega) only [go_sem, tC_len, tC_sure, tC_ltA, tC_lt1, tC_ro, tC_take, tC_all1, zcT_eq, zcI_len, zC_len, zC_ltA, zC_lt1, zC_sure, zC_ro, zC_take, set_tl, set_tv, sc_tt, sc_zt, sc_tz, sc_zz, add16, tA_def, lA_def, natInt, u_tl, u_tv, st_take35, stC_len, st_sure, st_ltA, st_ro, hM, zcV0, u_bV0]
    try rfl
  | true =>
    rw [h1] at hM
    cases h2 : keyB k with
    | false =>
      rw [h2] at hK
      simp (config := {maxSteps := 4000000, implicitDefEqProofs := false}) (disch := omega) only [go_sem, tC_len, tC_sure, tC_ltA, tC_lt1, tC_ro, tC_take, tC_all1, zcT_eq, zcI_len, zC_len, zC_ltA, zC_lt1, zC_sure, zC_ro, zC_take, set_tl, set_tv, sc_tt, sc_zt, sc_tz, sc_zz, add16, tA_def, lA_def, natInt, u_tl, u_tv, st_take35, stC_len, st_sure, st_ltA, st_ro, hM, hK, zcV0, u_bV0]
      try rfl
    | true =>
      rw [h2] at hK
      cases h3 : (getT s.t k).isSome with
      | false =>
        rw [h3] at hG
        simp (config := {maxSteps := 4000000, implicitDefEqProofs := false}) (disch := omega) only [go_sem, tC_len, tC_sure, tC_ltA, tC_lt1, tC_ro, tC_take, tC_all1, zcT_eq, zcI_len, zC_len, zC_ltA, zC_lt1, zC_sure, zC_ro, zC_take, set_tl, set_tv, sc_tt, sc_zt, sc_tz, sc_zz, add16, tA_def, lA_def, natInt, u_tl, u_tv, st_take35, st_take, stC_len, st_sure, st_ltA, st_ro, hM, hK, hG, zcV0, u_bV0, iA_def, zcI0]
        try rfl
      | true =>
        rw [h3] at hG
        simp (config := {maxSteps := 4000000, implicitDefEqProofs := false}) (disch := omega) only [go_sem, tC_len, tC_sure, tC_ltA, tC_lt1, tC_ro, tC_take, tC_all1, zcT_eq, zcI_len, zC_len, zC_ltA, zC_lt1, zC_sure, zC_ro, zC_take, set_tl, set_tv, sc_tt, sc_zt, sc_tz, sc_zz, add16, tA_def, lA_def, natInt, u_tl, u_tv, st_take35, st_take, stC_len, st_sure, st_ltA, st_ro, hM, hK, hG, zcV0, u_bV0, iA_def, zcI0]
        try rfl
end Go.Proofs.YtoeajbhlkccekaaDoor

namespace Go.Proofs.YtoeajbhlkccekaaDoor
open Go.RowKit
set_option linter.unusedVariables false
set_option maxRecDepth 100000
noncomputable def plenumlaw13_awake_c : Code := (Tryd.f13.body).getD .skip
def plenumlaw13_awake_h : Hint := (.two .n (.two .n (.two .n (.two .n (.two .n (.two .n (.two .n (.two .n (.two .n .n)))))))))
noncomputable def plenumlaw13_awake_env (m : Nat) : Env := [(27, .tell (store_New_t m)), (45, .tell (plenumref07_Int_t m)), (10, .tell (store_TakeQ_t m)), (16, .tell (store_Get_t m)), (28, .tell (store_Room_t m)), (18, .tell (store_Undo_t m))]
noncomputable abbrev plenumlaw13_awake_fin : KO (AV × List AObj) := tellFK Tryd.prog [.tmp 0]
noncomputable def plenumlaw13_awake (m : Nat) : RO := exec Tryd.prog GG (plenumlaw13_awake_env m) m ⟨142, []⟩ plenumlaw13_awake_c plenumlaw13_awake_h ⟨[], argsT 0 []⟩ (plenumlaw13_awake_fin)
theorem plenumlaw13_awake_eq (m : Nat) : plenumlaw13_awake m =
  tellE (store_New m (V (.int .i64 10)) (V (.int .i64 2))) [(V (.int .i64 10)), (V (.int .i64 2))] fun t20 =>
  extE t20 0 fun t21 =>
  extE t20 1 fun t22 =>
  allocE (some zc_api_Store) ty_api_Store [] fun t1 H1 =>
  storeE 37 H1 t1 t21 fun H2 =>
  loadE 37 H2 t1 fun t24 =>
  tellE (plenumref07_Int m (V (.int .i64 1))) [(V (.int .i64 1))] fun t25 =>
  buildE (some pl_api_Edit) (some zc_api_Edit) [(0, (V (.string ⟨#[97]⟩))), (1, t25)] fun t26 =>
  tellE (plenumref07_Int m (V (.int .i64 2))) [(V (.int .i64 2))] fun t27 =>
  buildE (some pl_api_Edit) (some zc_api_Edit) [(0, (V (.string ⟨#[98]⟩))), (1, t27)] fun t28 =>
  buildSE (some (ty_api_Edit, 4)) 2 [(0, t26), (1, t28)] fun t29 =>
  tellE (store_TakeQ_t m [(ro H2 t24), (ro H2 t29)]) [(ro H2 t24), (ro H2 t29)] fun t30 =>
  extE t30 0 fun t31 =>
  extE t30 1 fun t32 =>
  extE t30 2 fun t33 =>
  allocE (some zc_api_Store) ty_api_Store H2 fun t3 H3 =>
  storeE 37 H3 t3 t31 fun H4 =>
  loadE 37 H4 t3 fun t35 =>
  tellE (store_Get m (ro H4 t35) (V (.string ⟨#[97]⟩))) [(ro H4 t35), (V (.string ⟨#[97]⟩))] fun t36 =>
  extE t36 0 fun t37 =>
  extE t36 1 fun t38 =>
  extE t36 2 fun t39 =>
  allocE (some zc_api_Value) ty_api_Value H4 fun t6 H5 =>
  storeE 5 H5 t6 t37 fun H6 =>
  loadE 37 H6 t3 fun t41 =>
  tellE (store_Room m (ro H6 t41)) [(ro H6 t41)] fun t42 =>
  extE t42 0 fun t43 =>
  extE t42 1 fun t44 =>
  loadE 37 H6 t3 fun t46 =>
  tellE (plenumref07_Int m (V (.int .i64 3))) [(V (.int .i64 3))] fun t47 =>
  buildE (some pl_api_Edit) (some zc_api_Edit) [(0, (V (.string ⟨#[99]⟩))), (1, t47)] fun t48 =>
  buildSE (some (ty_api_Edit, 4)) 1 [(0, t48)] fun t49 =>
  tellE (store_TakeQ_t m [(ro H6 t46), (ro H6 t49)]) [(ro H6 t46), (ro H6 t49)] fun t50 =>
  extE t50 0 fun t51 =>
  extE t50 1 fun t52 =>
  extE t50 2 fun t53 =>
  allocE (some zc_api_Store) ty_api_Store H6 fun t11 H7 =>
  storeE 37 H7 t11 t51 fun H8 =>
  loadE 37 H8 t3 fun t55 =>
  buildE (some pl_api_Edit) (some zc_api_Edit) [(0, (V (.string ⟨#[97]⟩)))] fun t56 =>
  tellE (plenumref07_Int m (V (.int .i64 3))) [(V (.int .i64 3))] fun t57 =>
  buildE (some pl_api_Edit) (some zc_api_Edit) [(0, (V (.string ⟨#[99]⟩))), (1, t57)] fun t58 =>
  buildSE (some (ty_api_Edit, 4)) 2 [(0, t56), (1, t58)] fun t59 =>
  tellE (store_TakeQ_t m [(ro H8 t55), (ro H8 t59)]) [(ro H8 t55), (ro H8 t59)] fun t60 =>
  extE t60 0 fun t61 =>
  extE t60 1 fun t62 =>
  extE t60 2 fun t63 =>
  allocE (some zc_api_Store) ty_api_Store H8 fun t14 H9 =>
  storeE 37 H9 t14 t61 fun H10 =>
  loadE 37 H10 t3 fun t65 =>
  loadE 37 H10 t14 fun t66 =>
  tellE (store_Undo m (ro H10 t65) (ro H10 t66)) [(ro H10 t65), (ro H10 t66)] fun t67 =>
  extE t67 0 fun t68 =>
  extE t67 1 fun t69 =>
  binE none false false .eql t22 (V (.int .i64 0)) fun t71 =>
  condE t71 (
   binE none false false .eql t32 (V (.int .i64 0)) fun t74 =>
   condE t74 (
   loadE 5 H10 t6 fun t77 =>
   tellE (plenumref07_Int m (V (.int .i64 1))) [(V (.int .i64 1))] fun t78 =>
   binE (some [.i .i64, .i .i64, .s]) false false .eql t77 t78 fun t79 =>
   condE t79 (
   binE none false false .eql t38 (V (.int .i64 1)) fun t83 =>
   condE t83 (
   binE none false false .eql t39 (V (.int .i64 0)) fun t87 =>
   condE t87 (
   binE none false false .eql t43 (V (.int .i64 4)) fun t91 =>
   condE t91 (
   binE none false false .eql t44 (V (.int .i64 0)) fun t95 =>
   condE t95 (
   binE none false false .eql t52 (V (.int .i64 17)) fun t99 =>
   condE t99 (
   binE none false false .eql t53 (V (.int .i64 1)) fun t103 =>
   condE t103 (
   binE none false false .eql t62 (V (.int .i64 0)) fun t107 =>
   condE t107 (
   fieldE (some (32, 1)) t14 fun t110 =>
   loadE 1 H10 t110 fun t111 =>
   binE none false false .eql t111 (V (.int .i64 2)) fun t112 =>
   condE t112 (
   lenE false true H10 t68 fun t116 =>
   binE none false false .eql t116 (V (.int .i64 2)) fun t117 =>
   condE t117 (
   idxSE 6 H10 t68 (V (.int .i64 0)) fun t121 =>
   loadE 6 H10 t121 fun t122 =>
   tellE (plenumref07_Int m (V (.int .i64 1))) [(V (.int .i64 1))] fun t123 =>
   buildE (some pl_api_Edit) (some zc_api_Edit) [(0, (V (.string ⟨#[97]⟩))), (1, t123)] fun t124 =>
   binE (some [.s, .i .i64, .i .i64, .s]) false false .eql t122 t124 fun t125 =>
   condE t125 (
   idxSE 6 H10 t68 (V (.int .i64 1)) fun t129 =>
   loadE 6 H10 t129 fun t130 =>
   buildE (some pl_api_Edit) (some zc_api_Edit) [(0, (V (.string ⟨#[99]⟩)))] fun t131 =>
   binE (some [.s, .i .i64, .i .i64, .s]) false false .eql t130 t131 fun t132 =>
   condE t132 (
   binE none false false .eql t69 (V (.int .i64 0)) fun t136 =>
   pickE t136 (V (.bool true)) (V (.bool false)) fun t139 =>
  pickE t139 (V (.bool true)) (V (.bool false)) fun t141 =>
  tellK H10 (ro H10 t141)) (
   tellK H10 (ro H10 (V (.bool false))))) (
   tellK H10 (ro H10 (V (.bool false))))) (
   tellK H10 (ro H10 (V (.bool false))))) (
   tellK H10 (ro H10 (V (.bool false))))) (
   tellK H10 (ro H10 (V (.bool false))))) (
   tellK H10 (ro H10 (V (.bool false))))) (
   tellK H10 (ro H10 (V (.bool false))))) (
   tellK H10 (ro H10 (V (.bool false))))) (
   tellK H10 (ro H10 (V (.bool false))))) (
   tellK H10 (ro H10 (V (.bool false))))) (
   tellK H10 (ro H10 (V (.bool false))))) (
   tellK H10 (ro H10 (V (.bool false))))) (
   tellK H10 (ro H10 (V (.bool false))))) (
   tellK H10 (ro H10 (V (.bool false)))) := by
  refine (tellX Tryd.prog GG (plenumlaw13_awake_env m) m ⟨142, []⟩ plenumlaw13_awake_c plenumlaw13_awake_h ⟨[], argsT 0 []⟩ [.tmp 0]).trans ?_
  kernel_rfl
noncomputable def plenumlaw13_awake_t (m : Nat) : List AV → RO | [] => plenumlaw13_awake m | _ => none
theorem plenumlaw13_awake_ok (m : Nat) : ∀ args X H', plenumlaw13_awake_t m args = some (X, H') → ACp Tryd.prog GG 13 args X := by
  intro args X H' h
  unfold plenumlaw13_awake_t at h
  split at h
  · exact tell_okK MIX (by
    intro f e h
    simp only [plenumlaw13_awake_env, Prod.mk.injEq, List.mem_cons, List.not_mem_nil, or_false] at h
    rcases h with ⟨rfl, rfl⟩ | ⟨rfl, rfl⟩ | ⟨rfl, rfl⟩ | ⟨rfl, rfl⟩ | ⟨rfl, rfl⟩ | ⟨rfl, rfl⟩
    · exact store_New_ok m
    · exact plenumref07_Int_ok m
    · exact store_TakeQ_ok m
    · exact store_Get_ok m
    · exact store_Room_ok m
    · exact store_Undo_ok m) (f := 13) (c := plenumlaw13_awake_c) Tryd.func13 rfl (by kernel_rfl) _ rfl Tryd.ntmps13 (Nat.le_of_ble_eq_true rfl) plenumlaw13_awake_h h
  · cases h
end Go.Proofs.YtoeajbhlkccekaaDoor

namespace Go.Proofs.YtoeajbhlkccekaaDoor
open Go.RowKit
set_option linter.unusedVariables false
set_option linter.unusedSimpArgs false
set_option maxRecDepth 20000
attribute [local go_sem] Nat.zero_add Nat.add_zero Nat.mul_one Int.toNat_natCast Int.natCast_zero Int.cast_ofNat_Int or_false false_or or_true true_or Nat.sub_zero Int.natCast_nonneg Int.toNat_zero Bool.true_and Bool.and_true Bool.false_and Bool.and_false Bool.true_or Bool.or_true Bool.false_or Bool.or_false Bool.not_true Bool.not_false Bool.not_not true_and and_true false_and and_false not_true_eq_false not_false_eq_true eq_self decide_true decide_false ne_eq implies_true forall_const true_implies false_implies Bool.true_eq_false Bool.false_eq_true List.map_cons List.map_nil List.all_cons List.all_nil List.length_cons List.length_nil List.length_map List.length_append List.nil_append List.cons_append List.set_cons_zero List.set_cons_succ List.set_nil List.drop_zero List.drop_succ_cons List.drop_nil List.take_zero List.take_succ_cons List.take_nil Option.map_some Option.map_none Option.isSome_some List.all_append List.all_map Function.comp_def decide_eq_true_eq Bool.and_eq_true beq_self_eq_true or_self and_self ite_true ite_false Nat.le_refl Bool.not_eq_true decide_not Bool.not_eq_true' decide_eq_false_iff_not Bool.not_eq_false Bool.or_eq_true if_true if_false ite_self u_roF u_cvF u_cvC u_ceT u_ceK u_appS
attribute [local go_sem_proc] Nat.reduceAdd Nat.reduceSub Nat.reduceMul Nat.reduceLeDiff Nat.reduceLT Int.reduceEq Int.reduceNe Int.reduceLT Int.reduceLE Int.reduceAdd Int.reduceSub Int.reduceMul Int.reduceNeg Int.reduceToNat reduceCtorEq Nat.reduceEqDiff Nat.reduceBEq Nat.reduceGT
attribute [local go_sem_proc ↓] reduceIte
theorem takeG_inv {v : Int} : ∀ (l : List Edt) (k : Nat) {t : Tr}, TInv t → (∀ x ∈ l, NumOk (x.it 0)) → TInv (takeG v k l t).1
  | [], k, t, h, _ => h
  | x :: r, k, t, h, hx => by
    unfold takeG
    split
    · rename_i he
      exact takeG_inv r (k + 1) (one_inv h (hx x (List.mem_cons_self ..)) he) fun y hy => hx y (List.mem_cons_of_mem _ hy)
    · exact h
theorem may_zero : mayT Tr.zero = true := by decide +kernel
theorem zero_inv : TInv Tr.zero := ⟨may_zero, fun i x hx => (by cases hx), fun i _ => rfl⟩
theorem takeS_inv {s : St} {l : List Edt} (h : mayT s.t = true → TInv s.t) (hx : ∀ x ∈ l, NumOk (x.it 0)) : TInv (takeS s l).1.t := by
  unfold takeS
  split
  · exact zero_inv
  · rename_i hb
    have hm : mayT s.t = true := by
      simp only [Bool.not_eq_false, Bool.and_eq_true] at hb
      exact (mayS_nums hb.1).2.2.2.2.2.2.1
    split
    · exact zero_inv
    · split
      · split
        · exact zero_inv
        · exact takeG_inv l 0 (h hm) hx
      · exact zero_inv
def S0 : St := newS 10 2
def l1 : List Edt := [⟨[97], 2, 1, []⟩, ⟨[98], 2, 2, []⟩]
def l2 : List Edt := [⟨[99], 2, 3, []⟩]
def l3 : List Edt := [⟨[97], 0, 0, []⟩, ⟨[99], 2, 3, []⟩]
def A1 : St := (takeS S0 l1).1
def B1 : St := (takeS A1 l3).1
theorem hx1 : ∀ x ∈ l1, NumOk (x.it 0) := by intro x hx; simp [l1] at hx; rcases hx with rfl | rfl <;> (constructor <;> decide)
theorem hx2 : ∀ x ∈ l2, NumOk (x.it 0) := by intro x hx; simp [l2] at hx; subst hx; (constructor <;> decide)
theorem hx3 : ∀ x ∈ l3, NumOk (x.it 0) := by intro x hx; simp [l3] at hx; rcases hx with rfl | rfl <;> (constructor <;> decide)
theorem invA : TInv A1.t := takeS_inv (fun _ => zero_inv) hx1
theorem invB : TInv B1.t := takeS_inv (fun _ => invA) hx3
theorem t1_e : (takeS S0 l1).2 = (0, 0) := by decide +kernel
theorem t2_e : (takeS A1 l2).2 = (17, 1) := by decide +kernel
theorem t3_e : (takeS A1 l3).2 = (0, 0) := by decide +kernel
theorem b_ver : B1.ver = 2 := by decide +kernel
theorem new_e : (newR 10 2) = (S0, 0) := by
  unfold newR
  rw [if_pos (by decide +kernel)]
  rfl
theorem room_e : roomR A1 = (4, 0) := by decide +kernel
theorem may_A : mayS A1 = true := by decide +kernel
theorem may_B : mayS B1 = true := by decide +kernel
theorem get_e : (getR A1 [97]).2 = 0 ∧ (getR A1 [97]).1.kind = 2 ∧ (getR A1 [97]).1.i = 1 ∧ (getR A1 [97]).1.s = [] ∧ (getR A1 [97]).1.ver = 1 := by decide +kernel
theorem undo_e : undoR A1 B1 = [⟨[97], 2, 1, []⟩, ⟨[99], 0, 0, []⟩] := by kernel_rfl
theorem u_eqE2 {R : Type} {K1 : AV → Option R} {k : ByteArray} {a b : Int} {s : ByteArray} {isB sl : Bool} : binE (some [.s, .i .i64, .i .i64, .s]) isB sl .eql (.agg [V (.string k), V (.int .i64 a), V (.int .i64 b), V (.string s)]) (.agg [V (.string k), V (.int .i64 a), V (.int .i64 b), V (.string s)]) K1 = K1 (bA true) := by
  show K1 (bA (decide (k.data.toList = k.data.toList) && (decide (a = a) && (decide (b = b) && (decide (s.data.toList = s.data.toList) && true))))) = _
  simp
theorem u_bsE2 {R : Type} {K1 : AV → Option R} {a b c d e f g h : Value} : buildSE (some (ty_api_Edit, 4)) 2 [(0, .agg [V a, V b, V c, V d]), (1, .agg [V e, V f, V g, V h])] K1 = K1 (SL [.agg [V a, V b, V c, V d], .agg [V e, V f, V g, V h]]) := _root_.id rfl
theorem u_bsE1 {R : Type} {K1 : AV → Option R} {a b c d : Value} : buildSE (some (ty_api_Edit, 4)) 1 [(0, .agg [V a, V b, V c, V d])] K1 = K1 (SL [.agg [V a, V b, V c, V d]]) := _root_.id rfl
theorem awake13_s (m : Nat) (hm : 40000000 < m) : plenumlaw13_awake m = some (bA true, []) := by
  rw [plenumlaw13_awake_eq]
  have hN : store_New m (nA 10) (nA 2) = some (TU [.agg (stC S0), nA 0], []) := by
    have := new_s m 10 2 (by omega)
    rw [new_e] at this
    exact this
  have hT1 : store_TakeQ_t m [.agg (stC S0), SL [.agg [V (.string ⟨#[97]⟩), V (.int .i64 2), V (.int .i64 1), V (.string ⟨#[]⟩)], .agg [V (.string ⟨#[98]⟩), V (.int .i64 2), V (.int .i64 2), V (.string ⟨#[]⟩)]]] = some (TU [.agg (stC A1), nA 0, nA 0], []) := by
    have := store_TakeQ_e m S0 l1 zero_inv.ok (fun _ => zero_inv) hx1 (by decide)
    rw [show takeS S0 l1 = (A1, 0, 0) from Prod.ext rfl t1_e] at this
    exact this
  obtain ⟨C1, hT2⟩ : ∃ C1 : St, store_TakeQ_t m [.agg (stC A1), SL [.agg [V (.string ⟨#[99]⟩), V (.int .i64 2), V (.int .i64 3), V (.string ⟨#[]⟩)]]] = some (TU [.agg (stC C1), nA 17, nA 1], []) := by
    have := store_TakeQ_e m A1 l2 invA.ok (fun _ => invA) hx2 (by decide)
    rw [show takeS A1 l2 = ((takeS A1 l2).1, 17, 1) from Prod.ext rfl t2_e] at this
    exact ⟨_, this⟩
  have hT3 : store_TakeQ_t m [.agg (stC A1), SL [.agg [V (.string ⟨#[97]⟩), V (.int .i64 0), V (.int .i64 0), V (.string ⟨#[]⟩)], .agg [V (.string ⟨#[99]⟩), V (.int .i64 2), V (.int .i64 3), V (.string ⟨#[]⟩)]]] = some (TU [.agg (stC B1), nA 0, nA 0], []) := by
    have := store_TakeQ_e m A1 l3 invA.ok (fun _ => invA) hx3 (by decide)
    rw [show takeS A1 l3 = (B1, 0, 0) from Prod.ext rfl t3_e] at this
    exact this
  have hR : store_Room m (.agg (stC A1)) = some (TU [nA 4, nA 0], []) := by
    have := room_s m A1 (by omega) invA.ok
    rw [room_e] at this
    exact this
  have hG : store_Get m (.agg (stC A1)) (V (.string ⟨#[97]⟩)) = some (TU [.agg [V (.int .i64 2), V (.int .i64 1), V (.string ⟨#[]⟩)], nA 1, nA 0], []) := by
    have h := get_s m A1 [97] (by omega) invA.ok
    obtain ⟨g1, g2, g3, g4, g5⟩ := get_e
    unfold valV at h
    rw [g1, g2, g3, g4, g5] at h
    exact h
  have hU : store_Undo m (.agg (stC A1)) (.agg (stC B1)) = some (TU [SL [.agg [V (.string ⟨#[97]⟩), V (.int .i64 2), V (.int .i64 1), V (.string ⟨#[]⟩)], .agg [V (.string ⟨#[99]⟩), V (.int .i64 0), V (.int .i64 0), V (.string ⟨#[]⟩)]], nA 0], []) := by
    have := undo_s m A1 B1 hm invA.ok invB.ok
    rw [undo_e, may_A, may_B] at this
    exact this
  have i1 := rint_s m 1
  have i2 := rint_s m 2
  have i3 := rint_s m 3
  have hbv := b_ver
  generalize A1 = A at *
  generalize B1 = B at *
  simp (config := {maxSteps := 4000000, implicitDefEqProofs := false}) (disch := omega) only [go_sem, tC_len, tC_sure, tC_ltA, tC_lt1, tC_ro, tC_take, tC_all1, zcT_eq, zcI_len, zC_len, zC_ltA, zC_lt1, zC_sure, zC_ro, zC_take, set_tl, set_tv, sc_tt, sc_zt, sc_tz, sc_zz, add16, tA_def, lA_def, natInt, u_tl, u_tv, hN, hT1, hT2, hT3, hR, hG, hU, i1, i2, i3, zcS_eq, zS_len, zS_sure, zS_take, zS_ltA, st_take35, stC_len, st_sure, st_ltA, st_ro, st_lt1, ss_zs, u_bE1, u_bE0, u_bsE2, u_bsE1, zcV0, hbv, st_ver, u_eqE2]
  rfl
end Go.Proofs.YtoeajbhlkccekaaDoor

namespace Go.Proofs.YtoeajbhlkccekaaDoor
open Go.RowKit
set_option linter.unusedVariables false
set_option maxRecDepth 100000
noncomputable def plenumlaw13_StoreNews_c : Code := (Tryd.f6.body).getD .skip
def plenumlaw13_StoreNews_h : Hint := (.two .n (.two .n (.two .n (.join [5] (.join [0, 1, 5, 7, 8, 32] .n (.two (.join [5, 39] .n (.two (.two .n .n) .n)) (.join [5, 49] .n (.two (.two .n .n) .n)))) (.two .n (.two (.two .n (.two (.two .n .n) .n)) (.two .n .n)))))))
noncomputable def plenumlaw13_StoreNews_env (m : Nat) : Env := [(8, .tell (plenumlaw13_Few_t m)), (27, .tell (store_New_t m)), (15, .tell (plenumlaw13_none_t m)), (12, .tell (plenumref13_Same_t m)), (28, .tell (store_Room_t m)), (20, .tell (plenumref13_May_t m)), (17, .tell (store_May_t m)), (29, .tell (store_Same_t m)), (13, .tell (plenumlaw13_awake_t m)), (30, .tell (plenumref13_Weight_t m)), (31, .tell (plenumref10_All_t m))]
noncomputable abbrev plenumlaw13_StoreNews_fin : KO (AV × List AObj) := tellFK Tryd.prog [.tmp 6]
noncomputable def plenumlaw13_StoreNews_r4 (m : Nat) (s : ASt) : RO := joinW Tryd.prog GG (plenumlaw13_StoreNews_env m) m ⟨109, []⟩ (cdR (cdR (cdR (cdR plenumlaw13_StoreNews_c)))) plenumlaw13_StoreNews_h.r.r.r.r s (plenumlaw13_StoreNews_fin)
noncomputable def plenumlaw13_StoreNews_r3 (m : Nat) (s : ASt) : RO := joinW Tryd.prog GG (plenumlaw13_StoreNews_env m) m ⟨109, []⟩ (cdR (cdR (cdR (cdL (cdR (cdR (cdR plenumlaw13_StoreNews_c))))))) plenumlaw13_StoreNews_h.r.r.r.l.r.r.r s (seqX (fun s => plenumlaw13_StoreNews_r4 m ⟨s.H, [(5, gt s.T 5)]⟩) (plenumlaw13_StoreNews_fin))
noncomputable def plenumlaw13_StoreNews_r2 (m : Nat) (s : ASt) : RO := joinW Tryd.prog GG (plenumlaw13_StoreNews_env m) m ⟨109, []⟩ (cdR (cdL (cdR (cdL (cdR (cdR (cdR plenumlaw13_StoreNews_c))))))) plenumlaw13_StoreNews_h.r.r.r.l.r.l.r s (seqX (fun s => plenumlaw13_StoreNews_r4 m ⟨s.H, [(5, gt s.T 5)]⟩) (plenumlaw13_StoreNews_fin))
noncomputable def plenumlaw13_StoreNews_r1 (m : Nat) (s : ASt) : RO := joinW Tryd.prog GG (plenumlaw13_StoreNews_env m) m ⟨109, []⟩ (cdR (cdL (cdR (cdR (cdR plenumlaw13_StoreNews_c))))) plenumlaw13_StoreNews_h.r.r.r.l.r s (seqX (fun s => plenumlaw13_StoreNews_r4 m ⟨s.H, [(5, gt s.T 5)]⟩) (plenumlaw13_StoreNews_fin))
noncomputable def plenumlaw13_StoreNews (m : Nat) (t0 t1 t2 : AV) : RO := exec Tryd.prog GG (plenumlaw13_StoreNews_env m) m ⟨109, []⟩ plenumlaw13_StoreNews_c plenumlaw13_StoreNews_h ⟨[], argsT 0 [t0, t1, t2]⟩ (plenumlaw13_StoreNews_fin)
theorem plenumlaw13_StoreNews_r4_eq (m : Nat) (H : List AObj) (t5 : AV) : plenumlaw13_StoreNews_r4 m ⟨H, [(5, t5)]⟩ =
  loadE 37 H t5 fun t51 =>
  tellE (store_Room m (ro H t51)) [(ro H t51)] fun t52 =>
  extE t52 0 fun t53 =>
  extE t52 1 fun t54 =>
  loadE 37 H t5 fun t55 =>
  tellE (plenumref13_May m (ro H t55)) [(ro H t55)] fun t56 =>
  unE .not t56 fun t57 =>
  condE t57 (
   loadE 37 H t5 fun t58 =>
   tellE (store_May m (ro H t58)) [(ro H t58)] fun t59 =>
   unE .not t59 fun t60 =>
   condE t60 (
    binE none false false .eql t53 (V (.int .i64 0)) fun t63 =>
    condE t63 (
    binE none false false .eql t54 (V (.int .i64 0)) fun t67 =>
    condE t67 (
    loadE 37 H t5 fun t70 =>
    loadE 37 H t5 fun t71 =>
    tellE (store_Same m (ro H t70) (ro H t71)) [(ro H t70), (ro H t71)] fun t72 =>
    unE .not t72 fun t73 =>
    condE t73 (
    tellE (plenumlaw13_awake m) [] fun t76 =>
    tellK H (ro H t76)) (
    tellK H (ro H (V (.bool false))))) (
    tellK H (ro H (V (.bool false))))) (
    tellK H (ro H (V (.bool false))))) (
    tellK H (ro H (V (.bool false))))) (
   loadE 37 H t5 fun t78 =>
   tellE (store_May m (ro H t78)) [(ro H t78)] fun t79 =>
   condE t79 (
    fieldE (some (33, 1)) t5 fun t82 =>
    loadE 1 H t82 fun t83 =>
    fieldE (some (0, 34)) t5 fun t84 =>
    loadE 34 H t84 fun t85 =>
    tellE (plenumref13_Weight m (ro H t85)) [(ro H t85)] fun t86 =>
    binE none false false .sub t83 t86 fun t87 =>
    binE none false false .eql t53 t87 fun t88 =>
    condE t88 (
    fieldE (some (34, 1)) t5 fun t92 =>
    loadE 1 H t92 fun t93 =>
    fieldE (some (0, 34)) t5 fun t94 =>
    loadE 34 H t94 fun t95 =>
    tellE (plenumref10_All m (ro H t95)) [(ro H t95)] fun t96 =>
    lenE false true H t96 fun t97 =>
    binE none false false .sub t93 t97 fun t98 =>
    binE none false false .eql t54 t98 fun t99 =>
    condE t99 (
    loadE 37 H t5 fun t102 =>
    loadE 37 H t5 fun t103 =>
    tellE (store_Same m (ro H t102) (ro H t103)) [(ro H t102), (ro H t103)] fun t104 =>
    condE t104 (
    tellE (plenumlaw13_awake m) [] fun t107 =>
    tellK H (ro H t107)) (
    tellK H (ro H (V (.bool false))))) (
    tellK H (ro H (V (.bool false))))) (
    tellK H (ro H (V (.bool false))))) (
    tellK H (ro H (V (.bool false))))) := by
  refine (joinW_eq Tryd.prog GG (plenumlaw13_StoreNews_env m) m ⟨109, []⟩ (cdR (cdR (cdR (cdR plenumlaw13_StoreNews_c)))) plenumlaw13_StoreNews_h.r.r.r.r ⟨H, [(5, t5)]⟩ (plenumlaw13_StoreNews_fin)).trans ?_
  kernel_rfl
theorem plenumlaw13_StoreNews_r3_eq (m : Nat) (H : List AObj) (t5 t49 : AV) : plenumlaw13_StoreNews_r3 m ⟨H, [(5, t5), (49, t49)]⟩ =
  condE t49 (
   tellK H (ro H (V (.bool false)))) (
   plenumlaw13_StoreNews_r4 m ⟨H, [(5, t5)]⟩) := by
  refine (joinW_eq Tryd.prog GG (plenumlaw13_StoreNews_env m) m ⟨109, []⟩ (cdR (cdR (cdR (cdL (cdR (cdR (cdR plenumlaw13_StoreNews_c))))))) plenumlaw13_StoreNews_h.r.r.r.l.r.r.r ⟨H, [(5, t5), (49, t49)]⟩ (seqX (fun s => plenumlaw13_StoreNews_r4 m ⟨s.H, [(5, gt s.T 5)]⟩) (plenumlaw13_StoreNews_fin))).trans ?_
  kernel_rfl
theorem plenumlaw13_StoreNews_r2_eq (m : Nat) (H : List AObj) (t5 t39 : AV) : plenumlaw13_StoreNews_r2 m ⟨H, [(5, t5), (39, t39)]⟩ =
  condE t39 (
   tellK H (ro H (V (.bool false)))) (
   plenumlaw13_StoreNews_r4 m ⟨H, [(5, t5)]⟩) := by
  refine (joinW_eq Tryd.prog GG (plenumlaw13_StoreNews_env m) m ⟨109, []⟩ (cdR (cdL (cdR (cdL (cdR (cdR (cdR plenumlaw13_StoreNews_c))))))) plenumlaw13_StoreNews_h.r.r.r.l.r.l.r ⟨H, [(5, t5), (39, t39)]⟩ (seqX (fun s => plenumlaw13_StoreNews_r4 m ⟨s.H, [(5, gt s.T 5)]⟩) (plenumlaw13_StoreNews_fin))).trans ?_
  kernel_rfl
theorem plenumlaw13_StoreNews_r1_eq (m : Nat) (H : List AObj) (t0 t1 t5 t7 t8 t32 : AV) : plenumlaw13_StoreNews_r1 m ⟨H, [(0, t0), (1, t1), (5, t5), (7, t7), (8, t8), (32, t32)]⟩ =
  condE t32 (
   loadE 37 H t7 fun t33 =>
   tellE (plenumlaw13_none m (ro H t33)) [(ro H t33)] fun t34 =>
   unE .not t34 fun t35 =>
   condE t35 (
    plenumlaw13_StoreNews_r2 m ⟨H, [(5, t5), (39, (V (.bool true)))]⟩) (
    binE none false false .neq t8 (V (.int .i64 1)) fun t38 =>
    plenumlaw13_StoreNews_r2 m ⟨H, [(5, t5), (39, t38)]⟩)) (
   loadE 37 H t7 fun t40 =>
   buildE (some pl_api_Store) (some zc_api_Store) [(2, t0), (3, t1)] fun t43 =>
   tellE (plenumref13_Same m (ro H t40) (ro H t43)) [(ro H t40), (ro H t43)] fun t44 =>
   unE .not t44 fun t45 =>
   condE t45 (
    plenumlaw13_StoreNews_r3 m ⟨H, [(5, t5), (49, (V (.bool true)))]⟩) (
    binE none false false .neq t8 (V (.int .i64 0)) fun t48 =>
    plenumlaw13_StoreNews_r3 m ⟨H, [(5, t5), (49, t48)]⟩)) := by
  refine (joinW_eq Tryd.prog GG (plenumlaw13_StoreNews_env m) m ⟨109, []⟩ (cdR (cdL (cdR (cdR (cdR plenumlaw13_StoreNews_c))))) plenumlaw13_StoreNews_h.r.r.r.l.r ⟨H, [(0, t0), (1, t1), (5, t5), (7, t7), (8, t8), (32, t32)]⟩ (seqX (fun s => plenumlaw13_StoreNews_r4 m ⟨s.H, [(5, gt s.T 5)]⟩) (plenumlaw13_StoreNews_fin))).trans ?_
  kernel_rfl
theorem plenumlaw13_StoreNews_eq (m : Nat) (t0 t1 t2 : AV) : plenumlaw13_StoreNews m t0 t1 t2 =
  boxE ty_api_Store [] t2 fun t5 H1 =>
  loadE 37 H1 t5 fun t11 =>
  tellE (plenumlaw13_Few m (ro H1 t11)) [(ro H1 t11)] fun t12 =>
  storeE 37 H1 t5 t12 fun H2 =>
  tellE (store_New m (ro H2 t0) (ro H2 t1)) [(ro H2 t0), (ro H2 t1)] fun t16 =>
  extE t16 0 fun t17 =>
  extE t16 1 fun t18 =>
  allocE (some zc_api_Store) ty_api_Store H2 fun t7 H3 =>
  storeE 37 H3 t7 t17 fun H4 =>
  binE none false false .lss t0 (V (.int .i64 0)) fun t20 =>
  condE t20 (
   plenumlaw13_StoreNews_r1 m ⟨H4, [(0, t0), (1, t1), (5, t5), (7, t7), (8, t18), (32, (V (.bool true)))]⟩) (
   binE none false false .gtr t0 (V (.int .i64 65536)) fun t23 =>
   condE t23 (
   plenumlaw13_StoreNews_r1 m ⟨H4, [(0, t0), (1, t1), (5, t5), (7, t7), (8, t18), (32, (V (.bool true)))]⟩) (
   binE none false false .lss t1 (V (.int .i64 0)) fun t27 =>
   condE t27 (
   plenumlaw13_StoreNews_r1 m ⟨H4, [(0, t0), (1, t1), (5, t5), (7, t7), (8, t18), (32, (V (.bool true)))]⟩) (
   binE none false false .gtr t1 (V (.int .i64 1024)) fun t31 =>
   plenumlaw13_StoreNews_r1 m ⟨H4, [(0, t0), (1, t1), (5, t5), (7, t7), (8, t18), (32, t31)]⟩))) := by
  refine (tellX Tryd.prog GG (plenumlaw13_StoreNews_env m) m ⟨109, []⟩ plenumlaw13_StoreNews_c plenumlaw13_StoreNews_h ⟨[], argsT 0 [t0, t1, t2]⟩ [.tmp 6]).trans ?_
  kernel_rfl
noncomputable def plenumlaw13_StoreNews_t (m : Nat) : List AV → RO | [t0, t1, t2] => plenumlaw13_StoreNews m t0 t1 t2 | _ => none
theorem plenumlaw13_StoreNews_ok (m : Nat) : ∀ args X H', plenumlaw13_StoreNews_t m args = some (X, H') → ACp Tryd.prog GG 6 args X := by
  intro args X H' h
  unfold plenumlaw13_StoreNews_t at h
  split at h
  · exact tell_okK MIX (by
    intro f e h
    simp only [plenumlaw13_StoreNews_env, Prod.mk.injEq, List.mem_cons, List.not_mem_nil, or_false] at h
    rcases h with ⟨rfl, rfl⟩ | ⟨rfl, rfl⟩ | ⟨rfl, rfl⟩ | ⟨rfl, rfl⟩ | ⟨rfl, rfl⟩ | ⟨rfl, rfl⟩ | ⟨rfl, rfl⟩ | ⟨rfl, rfl⟩ | ⟨rfl, rfl⟩ | ⟨rfl, rfl⟩ | ⟨rfl, rfl⟩
    · exact plenumlaw13_Few_ok m
    · exact store_New_ok m
    · exact plenumlaw13_none_ok m
    · exact plenumref13_Same_ok m
    · exact store_Room_ok m
    · exact plenumref13_May_ok m
    · exact store_May_ok m
    · exact store_Same_ok m
    · exact plenumlaw13_awake_ok m
    · exact plenumref13_Weight_ok m
    · exact plenumref10_All_ok m) (f := 6) (c := plenumlaw13_StoreNews_c) Tryd.func6 rfl (by kernel_rfl) _ rfl Tryd.ntmps6 (Nat.le_of_ble_eq_true rfl) plenumlaw13_StoreNews_h h
  · cases h
end Go.Proofs.YtoeajbhlkccekaaDoor

namespace Go.Proofs.YtoeajbhlkccekaaDoor
open Go.RowKit
set_option linter.unusedVariables false
set_option linter.unusedSimpArgs false
set_option maxRecDepth 20000
attribute [local go_sem] Nat.zero_add Nat.add_zero Nat.mul_one Int.toNat_natCast Int.natCast_zero Int.cast_ofNat_Int or_false false_or or_true true_or Nat.sub_zero Int.natCast_nonneg Int.toNat_zero Bool.true_and Bool.and_true Bool.false_and Bool.and_false Bool.true_or Bool.or_true Bool.false_or Bool.or_false Bool.not_true Bool.not_false Bool.not_not true_and and_true false_and and_false not_true_eq_false not_false_eq_true eq_self decide_true decide_false ne_eq implies_true forall_const true_implies false_implies Bool.true_eq_false Bool.false_eq_true List.map_cons List.map_nil List.all_cons List.all_nil List.length_cons List.length_nil List.length_map List.length_append List.nil_append List.cons_append List.set_cons_zero List.set_cons_succ List.set_nil List.drop_zero List.drop_succ_cons List.drop_nil List.take_zero List.take_succ_cons List.take_nil Option.map_some Option.map_none Option.isSome_some List.all_append List.all_map Function.comp_def decide_eq_true_eq Bool.and_eq_true beq_self_eq_true or_self and_self ite_true ite_false Nat.le_refl Bool.not_eq_true decide_not Bool.not_eq_true' decide_eq_false_iff_not Bool.not_eq_false Bool.or_eq_true if_true if_false ite_self u_roF u_cvF u_cvC u_ceT u_ceK u_appS
attribute [local go_sem_proc] Nat.reduceAdd Nat.reduceSub Nat.reduceMul Nat.reduceLeDiff Nat.reduceLT Int.reduceEq Int.reduceNe Int.reduceLT Int.reduceLE Int.reduceAdd Int.reduceSub Int.reduceMul Int.reduceNeg Int.reduceToNat reduceCtorEq Nat.reduceEqDiff Nat.reduceBEq Nat.reduceGT
attribute [local go_sem_proc ↓] reduceIte
def fewSt (s : St) : St := { s with t := fewT s.t 16 }
theorem few13b_s (m : Nat) (s : St) (h : s.t.In) : plenumlaw13_Few m (stA s) = some (stA (fewSt s), []) := few13_s m s h.len
theorem none_s (m : Nat) (s : St) (hm : 16 < m) (h : ∀ i, (s.t.leaf i).length ≤ 34359738368) : plenumlaw13_none m (stA s) = some (bA (sameS s St.zero), []) := by
  rw [plenumlaw13_none_eq]
  have hS := rsameS_s m s St.zero hm h (fun i => by show ([] : List Item).length ≤ _; simp)
  rw [stA_def] at hS ⊢
  rw [stA_def] at hS
  simp (config := {maxSteps := 4000000, implicitDefEqProofs := false}) (disch := omega) only [go_sem, tC_len, tC_sure, tC_ltA, tC_lt1, tC_ro, tC_take, tC_all1, zcT_eq, zcI_len, zC_len, zC_ltA, zC_lt1, zC_sure, zC_ro, zC_take, set_tl, set_tv, sc_tt, sc_zt, sc_tz, sc_zz, add16, tA_def, lA_def, natInt, u_tl, u_tv, st_take35, stC_len, st_sure, st_ltA, st_lt1, st_ro, zcS_eq, u_bS0, zS_ro, hS]
def sameM (a b : St) : Bool := mayS a && (mayS b && (decide (a.ver = b.ver) && (decide (a.bytes = b.bytes) && (decide (a.keys = b.keys) && decide ((unlikeL a.t b.t 16).length = 0)))))
theorem tsame_s (m : Nat) (t u : Tr) (ht : t.Ok) (hu : u.Ok) (h1 : mayT t = true) (h2 : mayT u = true) : trunk_Same m (tA t) (tA u) = some (bA (decide ((unlikeL t u 16).length = 0)), []) := by
  rw [trunk_Same_eq]
  have hU := trunk_Unlike_e m t u ht hu
  have e : unlikeT t u = (unlikeL t u 16, 0) := by unfold unlikeT; rw [h1, h2]; rfl
  rw [e] at hU
  rw [tA_def, tA_def] at hU ⊢
  have hz : (nLs (unlikeL t u 16)).length = (unlikeL t u 16).length := by unfold nLs; simp
  simp (config := {maxSteps := 4000000, implicitDefEqProofs := false}) (disch := omega) only [go_sem, tC_len, tC_sure, tC_ltA, tC_lt1, tC_ro, tC_take, tC_all1, zcT_eq, zcI_len, zC_len, zC_ltA, zC_lt1, zC_sure, zC_ro, zC_take, set_tl, set_tv, sc_tt, sc_zt, sc_tz, sc_zz, add16, tA_def, lA_def, natInt, u_tl, u_tv, hU, hz]
  have : decide (((unlikeL t u 16).length : Int) = 0) = decide ((unlikeL t u 16).length = 0) := decide_eq_decide.2 (by omega)
  rw [this]
theorem same_s (m : Nat) (a b : St) (hm : 1000000 < m) (ha : a.t.Ok) (hb : b.t.Ok) : store_Same m (stA a) (stA b) = some (bA (sameM a b), []) := by
  rw [store_Same_eq]
  have h1 := smay_s m a hm ha
  have h2 := smay_s m b hm hb
  unfold sameM
  rw [stA_def] at h1 h2 ⊢
  rw [stA_def]
  cases e1 : mayS a with
  | false =>
    rw [e1] at h1
    simp (config := {maxSteps := 4000000, implicitDefEqProofs := false}) (disch := omega) only [go_sem, tC_len, tC_sure, tC_ltA, tC_lt1, tC_ro, tC_take, tC_all1, zcT_eq, zcI_len, zC_len, zC_ltA, zC_lt1, zC_sure, zC_ro, zC_take, set_tl, set_tv, sc_tt, sc_zt, sc_tz, sc_zz, add16, tA_def, lA_def, natInt, u_tl, u_tv, st_take35, stC_len, st_sure, st_ltA, st_lt1, st_ro, h1]
    try rfl
  | true =>
    rw [e1] at h1
    cases e2 : mayS b with
    | false =>
      rw [e2] at h2
      simp (config := {maxSteps := 4000000, implicitDefEqProofs := false}) (disch := omega) only [go_sem, tC_len, tC_sure, tC_ltA, tC_lt1, tC_ro, tC_take, tC_all1, zcT_eq, zcI_len, zC_len, zC_ltA, zC_lt1, zC_sure, zC_ro, zC_take, set_tl, set_tv, sc_tt, sc_zt, sc_tz, sc_zz, add16, tA_def, lA_def, natInt, u_tl, u_tv, st_take35, stC_len, st_sure, st_ltA, st_lt1, st_ro, h1, h2]
      try rfl
    | true =>
      rw [e2] at h2
      have hT := tsame_s m a.t b.t ha hb (mayS_nums e1).2.2.2.2.2.2.1 (mayS_nums e2).2.2.2.2.2.2.1
      rw [tA_def, tA_def] at hT
      by_cases q1 : a.ver = b.ver
      · by_cases q2 : a.bytes = b.bytes
        · by_cases q3 : a.keys = b.keys
          · simp (config := {maxSteps := 4000000, implicitDefEqProofs := false}) (disch := omega) only [go_sem, tC_len, tC_sure, tC_ltA, tC_lt1, tC_ro, tC_take, tC_all1, zcT_eq, zcI_len, zC_len, zC_ltA, zC_lt1, zC_sure, zC_ro, zC_take, set_tl, set_tv, sc_tt, sc_zt, sc_tz, sc_zz, add16, tA_def, lA_def, natInt, u_tl, u_tv, st_take35, st_take, st_ver, st_bytes, st_keys, stC_len, st_sure, st_ltA, st_lt1, st_ro, h1, h2, q1, q2, q3, hT]
            try rfl
          · simp (config := {maxSteps := 4000000, implicitDefEqProofs := false}) (disch := omega) only [go_sem, tC_len, tC_sure, tC_ltA, tC_lt1, tC_ro, tC_take, tC_all1, zcT_eq, zcI_len, zC_len, zC_ltA, zC_lt1, zC_sure, zC_ro, zC_take, set_tl, set_tv, sc_tt, sc_zt, sc_tz, sc_zz, add16, tA_def, lA_def, natInt, u_tl, u_tv, st_take35, st_take, st_ver, st_bytes, st_keys, stC_len, st_sure, st_ltA, st_lt1, st_ro, h1, h2, q1, q2, q3, hT]
            try simp [q3]
        · simp (config := {maxSteps := 4000000, implicitDefEqProofs := false}) (disch := omega) only [go_sem, tC_len, tC_sure, tC_ltA, tC_lt1, tC_ro, tC_take, tC_all1, zcT_eq, zcI_len, zC_len, zC_ltA, zC_lt1, zC_sure, zC_ro, zC_take, set_tl, set_tv, sc_tt, sc_zt, sc_tz, sc_zz, add16, tA_def, lA_def, natInt, u_tl, u_tv, st_take35, st_take, st_ver, st_bytes, st_keys, stC_len, st_sure, st_ltA, st_lt1, st_ro, h1, h2, q1, q2, hT]
          try simp [q2]
      · simp (config := {maxSteps := 4000000, implicitDefEqProofs := false}) (disch := omega) only [go_sem, tC_len, tC_sure, tC_ltA, tC_lt1, tC_ro, tC_take, tC_all1, zcT_eq, zcI_len, zC_len, zC_ltA, zC_lt1, zC_sure, zC_ro, zC_take, set_tl, set_tv, sc_tt, sc_zt, sc_tz, sc_zz, add16, tA_def, lA_def, natInt, u_tl, u_tv, st_take35, st_take, st_ver, st_bytes, st_keys, stC_len, st_sure, st_ltA, st_lt1, st_ro, h1, h2, q1, hT]
        try simp [q1]
theorem unlike_self (t : Tr) : unlikeL t t 16 = [] := by
  unfold unlikeL
  rw [List.filter_eq_nil_iff]
  intro i _
  unfold unlikeAt
  simp
theorem same_self {s : St} (h : mayS s = true) : sameM s s = true := by
  unfold sameM
  rw [h, unlike_self]
  simp
theorem newS_may (b k : Int) : mayS (newS b k) = (inB b 65536 && inB k 1024) := by
  have hv : versB (newS b k) = true := List.all_eq_true.2 fun i _ => by simp [newS, Tr.zero]
  have hw : weightT (newS b k).t = 0 := by show weightT Tr.zero = 0; decide +kernel
  have hc : countT (newS b k).t = 0 := by show countT Tr.zero = 0; decide +kernel
  unfold mayS
  rw [hv, hw, hc, show mayT (newS b k).t = true from may_zero]
  unfold newS inB
  dsimp only
  rw [Bool.eq_iff_iff]
  simp only [Bool.and_eq_true, decide_eq_true_eq]
  constructor
  · intro h
    exact ⟨h.1.1.1.1.2, h.1.1.1.2⟩
  · intro h
    refine ⟨⟨⟨⟨⟨⟨?_, ?_⟩, h.1⟩, h.2⟩, ?_⟩, ?_⟩, ?_⟩
    all_goals first | trivial | rfl | exact may_zero | omega | exact ⟨by decide, by decide⟩ | exact h.1.1 | exact h.2.1
theorem sameS_self (s : St) : sameS s s = true := by
  unfold sameS
  simp [sameT_iff.2 (fun i _ => ⟨rfl, rfl⟩ : s.t.Eq16 s.t)]
theorem weight_u {u : St} (h : mayS u = true) : (weight (allTo u.t 16) : Int) = weightT u.t ∧ ((allTo u.t 16).length : Int) = countT u.t := by
  have hm := (mayS_nums h).2.2.2.2.2.2.1
  have e2 : countT u.t = (allTo u.t 16).length := by rw [allTo_len]; simp [countT, hm]
  have e3 : weightT u.t = weight (allTo u.t 16) := by rw [← weight_all hm 16 (Nat.le_refl _)]; simp [weightT, hm]
  rw [e2, e3]
  exact ⟨rfl, rfl⟩
theorem news_r4 (m : Nat) (u : St) (R : AObj) (hm : 40000000 < m) (hu : u.t.Ok) : plenumlaw13_StoreNews_r4 m ⟨[⟨1, ty_api_Store, 0, stC u⟩, R], [(5, OP 0 0)]⟩ = some (bA true, []) := by
  rw [plenumlaw13_StoreNews_r4_eq]
  have hR := room_s m u (by omega) hu
  have hM := smay_s m u (by omega) hu
  have hF := rmayS_s m u (by omega) hu
  have hS := same_s m u u (by omega) hu hu
  have hA := awake13_s m hm
  unfold roomR at hR
  rw [stA_def] at hR hM hF hS
  cases h1 : mayS u with
  | false =>
    have h2 : sameM u u = false := by unfold sameM; rw [h1]; rfl
    rw [h1] at hR hM hF
    rw [h2] at hS
    rw [if_neg (by decide)] at hR
    dsimp only at hR
    simp (config := {maxSteps := 4000000, implicitDefEqProofs := false}) (disch := omega) only [go_sem, tC_len, tC_sure, tC_ltA, tC_lt1, tC_ro, tC_take, tC_all1, zcT_eq, zcI_len, zC_len, zC_ltA, zC_lt1, zC_sure, zC_ro, zC_take, set_tl, set_tv, sc_tt, sc_zt, sc_tz, sc_zz, add16, tA_def, lA_def, natInt, u_tl, u_tv, st_take35, stC_len, st_sure, st_ltA, st_lt1, st_ro, hR, hM, hF, hS, hA]
  | true =>
    rw [h1] at hR hM hF
    rw [same_self h1] at hS
    rw [if_pos rfl] at hR
    dsimp only at hR
    have hn := mayS_nums h1
    obtain ⟨hw, hc⟩ := weight_u h1
    have hW := rweight_s m u.t (by omega) hu hn.2.2.2.2.2.2.1
    have hC := rall_s m u.t (by omega) hu
    rw [hw] at hW
    rw [tA_def] at hW hC
    have w1 : IntKind.i64.wrap (u.bytes - (weightT u.t : Int)) = u.bytes - (weightT u.t : Int) := w_i64 (by omega) (by omega)
    have w2 : IntKind.i64.wrap (u.keys - (countT u.t : Int)) = u.keys - (countT u.t : Int) := w_i64 (by omega) (by omega)
    simp (config := {maxSteps := 4000000, implicitDefEqProofs := false}) (disch := omega) only [go_sem, tC_len, tC_sure, tC_ltA, tC_lt1, tC_ro, tC_take, tC_all1, zcT_eq, zcI_len, zC_len, zC_ltA, zC_lt1, zC_sure, zC_ro, zC_take, set_tl, set_tv, sc_tt, sc_zt, sc_tz, sc_zz, add16, tA_def, lA_def, natInt, u_tl, u_tv, st_take35, st_take, st_bytes, st_keys, stC_len, st_sure, st_ltA, st_lt1, st_ro, hR, hM, hF, hS, hA, hW, hC, hc, w1, w2]
theorem news_s (m : Nat) (b k : Int) (s : St) (hm : 40000000 < m) (h : s.t.In) : plenumlaw13_StoreNews m (nA b) (nA k) (stA s) = some (bA true, []) := by
  rw [plenumlaw13_StoreNews_eq]
  have hF := few13b_s m s h
  have hN := new_s m b k (by omega)
  have hr4 := fun R => news_r4 m (fewSt s) R hm (few_ok h)
  have hm2 := newS_may b k
  unfold newR at hN
  rw [stA_def, stA_def] at hF
  rw [stA_def]
  have hx : (¬ b < 0 ∧ ¬ 65536 < b ∧ ¬ k < 0 ∧ ¬ 1024 < k) ↔ mayS (newS b k) = true := by
    rw [hm2]
    unfold inB
    simp only [Bool.and_eq_true, decide_eq_true_eq]
    omega
  cases e : mayS (newS b k) with
  | true =>
    obtain ⟨q1, q2, q3, q4⟩ := hx.2 e
    rw [e, if_pos rfl] at hN
    have hS := rsameS_s m (newS b k) (newS b k) (by omega) (fun i => by show ([] : List Item).length ≤ _; simp) (fun i => by show ([] : List Item).length ≤ _; simp)
    rw [sameS_self, stA_def] at hS
    rw [stA_def] at hN
    dsimp only at hN
    simp (config := {maxSteps := 4000000, implicitDefEqProofs := false}) (disch := omega) only [go_sem, tC_len, tC_sure, tC_ltA, tC_lt1, tC_ro, tC_take, tC_all1, zcT_eq, zcI_len, zC_len, zC_ltA, zC_lt1, zC_sure, zC_ro, zC_take, set_tl, set_tv, sc_tt, sc_zt, sc_tz, sc_zz, add16, tA_def, lA_def, natInt, u_tl, u_tv, st_take35, stC_len, st_sure, st_ltA, st_lt1, st_ro, hF, hN, q1, q2, q3, q4, zcS_eq, ss_set, ss_zs, zS_len, plenumlaw13_StoreNews_r1_eq, plenumlaw13_StoreNews_r2_eq, plenumlaw13_StoreNews_r3_eq, u_bSb, zSb_ro, hS, hr4]
  | false =>
    rw [e, if_neg (by decide)] at hN
    have hZ := none_s m St.zero (by omega) (fun i => by show ([] : List Item).length ≤ _; simp)
    rw [sameS_self, stA_def] at hZ
    rw [stA_def] at hN
    dsimp only at hN
    have hq : ¬ (¬ b < 0 ∧ ¬ 65536 < b ∧ ¬ k < 0 ∧ ¬ 1024 < k) := fun q => by rw [hx.1 q] at e; cases e
    by_cases q1 : b < 0
    · simp (config := {maxSteps := 4000000, implicitDefEqProofs := false}) (disch := omega) only [go_sem, tC_len, tC_sure, tC_ltA, tC_lt1, tC_ro, tC_take, tC_all1, zcT_eq, zcI_len, zC_len, zC_ltA, zC_lt1, zC_sure, zC_ro, zC_take, set_tl, set_tv, sc_tt, sc_zt, sc_tz, sc_zz, add16, tA_def, lA_def, natInt, u_tl, u_tv, st_take35, stC_len, st_sure, st_ltA, st_lt1, st_ro, hF, hN, q1, zcS_eq, ss_set, ss_zs, zS_len, plenumlaw13_StoreNews_r1_eq, plenumlaw13_StoreNews_r2_eq, plenumlaw13_StoreNews_r3_eq, hZ, hr4]
    · by_cases q2 : 65536 < b
      · simp (config := {maxSteps := 4000000, implicitDefEqProofs := false}) (disch := omega) only [go_sem, tC_len, tC_sure, tC_ltA, tC_lt1, tC_ro, tC_take, tC_all1, zcT_eq, zcI_len, zC_len, zC_ltA, zC_lt1, zC_sure, zC_ro, zC_take, set_tl, set_tv, sc_tt, sc_zt, sc_tz, sc_zz, add16, tA_def, lA_def, natInt, u_tl, u_tv, st_take35, stC_len, st_sure, st_ltA, st_lt1, st_ro, hF, hN, q1, q2, zcS_eq, ss_set, ss_zs, zS_len, plenumlaw13_StoreNews_r1_eq, plenumlaw13_StoreNews_r2_eq, plenumlaw13_StoreNews_r3_eq, hZ, hr4]
      · by_cases q3 : k < 0
        · simp (config := {maxSteps := 4000000, implicitDefEqProofs := false}) (disch := omega) only [go_sem, tC_len, tC_sure, tC_ltA, tC_lt1, tC_ro, tC_take, tC_all1, zcT_eq, zcI_len, zC_len, zC_ltA, zC_lt1, zC_sure, zC_ro, zC_take, set_tl, set_tv, sc_tt, sc_zt, sc_tz, sc_zz, add16, tA_def, lA_def, natInt, u_tl, u_tv, st_take35, stC_len, st_sure, st_ltA, st_lt1, st_ro, hF, hN, q1, q2, q3, zcS_eq, ss_set, ss_zs, zS_len, plenumlaw13_StoreNews_r1_eq, plenumlaw13_StoreNews_r2_eq, plenumlaw13_StoreNews_r3_eq, hZ, hr4]
        · have q4 : 1024 < k := by omega
          simp (config := {maxSteps := 4000000, implicitDefEqProofs := false}) (disch := omega) only [go_sem, tC_len, tC_sure, tC_ltA, tC_lt1, tC_ro, tC_take, tC_all1, zcT_eq, zcI_len, zC_len, zC_ltA, zC_lt1, zC_sure, zC_ro, zC_take, set_tl, set_tv, sc_tt, sc_zt, sc_tz, sc_zz, add16, tA_def, lA_def, natInt, u_tl, u_tv, st_take35, stC_len, st_sure, st_ltA, st_lt1, st_ro, hF, hN, q1, q2, q3, q4, zcS_eq, ss_set, ss_zs, zS_len, plenumlaw13_StoreNews_r1_eq, plenumlaw13_StoreNews_r2_eq, plenumlaw13_StoreNews_r3_eq, hZ, hr4]
end Go.Proofs.YtoeajbhlkccekaaDoor

namespace Go.Proofs.YtoeajbhlkccekaaDoor
open Go.RowKit
set_option linter.unusedVariables false
set_option linter.unusedSimpArgs false
set_option maxRecDepth 20000
attribute [local go_sem] Nat.zero_add Nat.add_zero Nat.mul_one Int.toNat_natCast Int.natCast_zero Int.cast_ofNat_Int or_false false_or or_true true_or Nat.sub_zero Int.natCast_nonneg Int.toNat_zero Bool.true_and Bool.and_true Bool.false_and Bool.and_false Bool.true_or Bool.or_true Bool.false_or Bool.or_false Bool.not_true Bool.not_false Bool.not_not true_and and_true false_and and_false not_true_eq_false not_false_eq_true eq_self decide_true decide_false ne_eq implies_true forall_const true_implies false_implies Bool.true_eq_false Bool.false_eq_true List.map_cons List.map_nil List.all_cons List.all_nil List.length_cons List.length_nil List.length_map List.length_append List.nil_append List.cons_append List.set_cons_zero List.set_cons_succ List.set_nil List.drop_zero List.drop_succ_cons List.drop_nil List.take_zero List.take_succ_cons List.take_nil Option.map_some Option.map_none Option.isSome_some List.all_append List.all_map Function.comp_def decide_eq_true_eq Bool.and_eq_true beq_self_eq_true or_self and_self ite_true ite_false Nat.le_refl Bool.not_eq_true decide_not Bool.not_eq_true' decide_eq_false_iff_not Bool.not_eq_false Bool.or_eq_true if_true if_false ite_self u_roF u_cvF u_cvC u_ceT u_ceK u_appS
attribute [local go_sem_proc] Nat.reduceAdd Nat.reduceSub Nat.reduceMul Nat.reduceLeDiff Nat.reduceLT Int.reduceEq Int.reduceNe Int.reduceLT Int.reduceLE Int.reduceAdd Int.reduceSub Int.reduceMul Int.reduceNeg Int.reduceToNat reduceCtorEq Nat.reduceEqDiff Nat.reduceBEq Nat.reduceGT
attribute [local go_sem_proc ↓] reduceIte
end Go.Proofs.YtoeajbhlkccekaaDoor

namespace Go.Proofs.YtoeajbhlkccekaaDoor
open Go.RowKit
set_option linter.unusedVariables false
set_option linter.unusedSimpArgs false
set_option maxRecDepth 20000
attribute [local go_sem] Nat.zero_add Nat.add_zero Nat.mul_one Int.toNat_natCast Int.natCast_zero Int.cast_ofNat_Int or_false false_or or_true true_or Nat.sub_zero Int.natCast_nonneg Int.toNat_zero Bool.true_and Bool.and_true Bool.false_and Bool.and_false Bool.true_or Bool.or_true Bool.false_or Bool.or_false Bool.not_true Bool.not_false Bool.not_not true_and and_true false_and and_false not_true_eq_false not_false_eq_true eq_self decide_true decide_false ne_eq implies_true forall_const true_implies false_implies Bool.true_eq_false Bool.false_eq_true List.map_cons List.map_nil List.all_cons List.all_nil List.length_cons List.length_nil List.length_map List.length_append List.nil_append List.cons_append List.set_cons_zero List.set_cons_succ List.set_nil List.drop_zero List.drop_succ_cons List.drop_nil List.take_zero List.take_succ_cons List.take_nil Option.map_some Option.map_none Option.isSome_some List.all_append List.all_map Function.comp_def decide_eq_true_eq Bool.and_eq_true beq_self_eq_true or_self and_self ite_true ite_false Nat.le_refl Bool.not_eq_true decide_not Bool.not_eq_true' decide_eq_false_iff_not Bool.not_eq_false Bool.or_eq_true if_true if_false ite_self u_roF u_cvF u_cvC u_ceT u_ceK u_appS
attribute [local go_sem_proc] Nat.reduceAdd Nat.reduceSub Nat.reduceMul Nat.reduceLeDiff Nat.reduceLT Int.reduceEq Int.reduceNe Int.reduceLT Int.reduceLE Int.reduceAdd Int.reduceSub Int.reduceMul Int.reduceNeg Int.reduceToNat reduceCtorEq Nat.reduceEqDiff Nat.reduceBEq Nat.reduceGT
attribute [local go_sem_proc ↓] reduceIte
def Edt.one (x : Edt) : Edt := ⟨(x.it 0).one.key, x.kind, x.i, (x.it 0).one.s⟩
end Go.Proofs.YtoeajbhlkccekaaDoor

namespace Go.Proofs.YtoeajbhlkccekaaDoor
open Go.RowKit
set_option linter.unusedVariables false
set_option linter.unusedSimpArgs false
set_option maxRecDepth 100000
theorem gok_sig {W : World} (h : Sig W) : GOk GG (SW W) := by
  intro g d hg j y hy
  simp only [GG, List.mem_singleton, Prod.mk.injEq] at hg
  obtain ⟨rfl, rfl⟩ := hg
  match j with
  | 0 => simp [cellsOf] at hy; subst hy; exact ⟨1, _, h.2.1, rfl, rfl, rfl⟩
  | 1 => simp [cellsOf] at hy; subst hy; exact ⟨1, _, h.2.2, rfl, rfl, rfl⟩
  | j + 2 => simp [cellsOf] at hy
theorem ofT_val {n : Nat} {ds : List AV} (h : ofT Tryd.prog n 43 ds) : ∃ (k i : Int) (s : Bytes), ds = [nA k, nA i, sA s] ∧ (-9223372036854775808 ≤ i ∧ i < 9223372036854775808) ∧ s.length ≤ maxLen := by
  obtain ⟨m, a1, b1, rfl, h1, a2, b2, rfl, h2, a3, b3, rfl, h3, rfl⟩ := ofT_struct Tryd.underlying43 h
  obtain ⟨k, rfl, _⟩ := ofT_i64 Tryd.underlying3 h1
  obtain ⟨i, rfl, hi⟩ := ofT_i64 Tryd.underlying2 h2
  obtain ⟨s, rfl, hs⟩ := ofT_str Tryd.underlying9 h3
  exact ⟨k, i, s, rfl, hi, hs⟩
theorem ofT_item {n : Nat} {ds : List AV} (h : ofT Tryd.prog n 58 ds) : ∃ x : Item, ds = x.cells.map (fun u => V u) ∧ ItemIn x := by
  obtain ⟨m, a1, b1, rfl, h1, a2, b2, rfl, h2, a3, b3, rfl, h3, rfl⟩ := ofT_struct Tryd.underlying58 h
  obtain ⟨k, rfl, hk⟩ := ofT_str Tryd.underlying9 h1
  obtain ⟨kd, i, s, rfl, hi, hs⟩ := ofT_val h2
  obtain ⟨v, rfl, _⟩ := ofT_i64 Tryd.underlying3 h3
  exact ⟨⟨k, kd, i, s, v⟩, rfl, hk, hs, hi⟩
theorem agg_item : aggT Tryd.prog 58 = true := by kernel_rfl
theorem ofT_items {n : Nat} {ds : List AV} (h : ofT Tryd.prog n 22 ds) : ∃ l : List Item, ds = [lA l] ∧ l.length ≤ maxLen ∧ ∀ x ∈ l, ItemIn x := by
  obtain ⟨m, es, rfl, hl, he⟩ := ofT_slice Tryd.underlying22 h
  obtain ⟨l, rfl, hi⟩ := list_of (f := flA Item.cells) (Q := ItemIn) fun x hx => by
    obtain ⟨q1, q2⟩ := he x hx
    obtain ⟨y, hy, hi⟩ := ofT_item q1
    exact ⟨y, by rw [cells_agg (q2.trans agg_item), hy]; rfl, hi⟩
  exact ⟨l, rfl, by simpa using hl, hi⟩
theorem flat_one {α β : Type} {f : β → α} {k : List β} : (k.map fun y => [f y]).flatten = k.map f := by
  induction k with
  | nil => rfl
  | cons x r ih => simp [ih]
theorem map_get {α β : Type} (f : α → β) (l : List α) (d : α) : l.map f = (List.range l.length).map fun i => f (l.getD i d) := by
  refine List.ext_getElem (by simp) fun i h1 h2 => ?_
  simp only [List.length_map] at h1
  simp [List.getElem_map, h1]
theorem ofT_trunk {n : Nat} {ds : List AV} (h : ofT Tryd.prog n 26 ds) : ∃ t : Tr, ds = tC t ∧ t.In := by
  obtain ⟨m, a1, b1, rfl, h1, a2, b2, rfl, h2, rfl⟩ := ofT_struct Tryd.underlying26 h
  obtain ⟨m1, ps, hp, rfl, hq⟩ := ofT_array Tryd.underlying23 h1
  obtain ⟨m2, qs, hp2, rfl, hq2⟩ := ofT_array Tryd.underlying24 h2
  obtain ⟨L, rfl, hL⟩ := list_of (f := fun l : List Item => [lA l]) (Q := fun l => l.length ≤ maxLen ∧ ∀ x ∈ l, ItemIn x) fun x hx => ofT_items (hq x hx)
  obtain ⟨Z, rfl, hZ⟩ := list_of (f := fun z : Int => [nA z]) (Q := fun _ => True) fun x hx => by
    obtain ⟨i, e, _⟩ := ofT_i64 Tryd.underlying3 (hq2 x hx)
    exact ⟨i, e, trivial⟩
  rw [List.length_map] at hp hp2
  refine ⟨⟨fun i => L.getD i [], fun i => Z.getD i 0⟩, ?_, fun i => ?_⟩
  · rw [List.append_nil, flat_one, flat_one, map_get lA L [], map_get nA Z 0, hp, hp2]
    rfl
  · dsimp only
    by_cases hi : i < L.length
    · have e : L.getD i [] = L[i] := by simp [hi]
      have hm := hL L[i] (List.getElem_mem hi)
      rw [e]
      exact ⟨hm.1, fun x hx => (hm.2 x hx).2.2, fun q => by omega⟩
    · have e : L.getD i [] = [] := by simp [List.getD, List.getElem?_eq_none (Nat.le_of_not_lt hi)]
      rw [e]
      exact ⟨Nat.zero_le _, (by intro x hx; cases hx), fun _ => rfl⟩
theorem ofT_store {n : Nat} {ds : List AV} (h : ofT Tryd.prog n 28 ds) : ∃ s : St, ds = stC s ∧ s.t.In := by
  obtain ⟨m, a1, b1, rfl, h1, a2, b2, rfl, h2, a3, b3, rfl, h3, a4, b4, rfl, h4, rfl⟩ := ofT_struct Tryd.underlying28 h
  obtain ⟨t, rfl, ht⟩ := ofT_trunk h1
  obtain ⟨v, rfl, _⟩ := ofT_i64 Tryd.underlying3 h2
  obtain ⟨b, rfl, _⟩ := ofT_i64 Tryd.underlying3 h3
  obtain ⟨k, rfl, _⟩ := ofT_i64 Tryd.underlying3 h4
  exact ⟨⟨t, v, b, k⟩, rfl, ht⟩
theorem mk_store {ds : List AV} : mkA Tryd.prog 28 ds = .agg ds := by
  unfold mkA
  rw [if_pos (show aggT Tryd.prog 28 = true by kernel_rfl)]
theorem mk_int {d : AV} : mkA Tryd.prog 3 [d] = d := by
  unfold mkA
  rw [if_neg (by rw [show aggT Tryd.prog 3 = false by kernel_rfl]; decide)]
  rfl
theorem arg_store {W : World} {v : Value} (h : Arg Tryd.prog W 28 v) : ∃ s : St, s.t.In ∧ rep (SW W) [] (stA s) v := by
  obtain ⟨n, ds, h1, h2⟩ := h
  obtain ⟨t, rfl, ht⟩ := ofT_store h1
  rw [mk_store] at h2
  exact ⟨t, ht, h2⟩
theorem arg_int {W : World} {v : Value} (h : Arg Tryd.prog W 3 v) : ∃ i : Int, (-9223372036854775808 ≤ i ∧ i < 9223372036854775808) ∧ rep (SW W) [] (nA i) v := by
  obtain ⟨n, ds, h1, h2⟩ := h
  obtain ⟨t, rfl, ht⟩ := ofT_i64 Tryd.underlying3 h1
  rw [mk_int] at h2
  exact ⟨t, ht, h2⟩
theorem reps3 {S : SS} {d0 d1 d2 : AV} {v0 v1 v2 : Value} (h0 : rep S [] d0 v0) (h1 : rep S [] d1 v1) (h2 : rep S [] d2 v2) : ∀ (j : Nat) (d : AV) (v : Value), [d0, d1, d2][j]? = some d → [v0, v1, v2][j]? = some v → rep S [] d v := by
  intro j d v hd hv
  match j with
  | 0 => simp at hd hv; subst hd hv; exact h0
  | 1 => simp at hd hv; subst hd hv; exact h1
  | 2 => simp at hd hv; subst hd hv; exact h2
  | j + 3 => simp at hd
theorem walk_StoreNews (W : World) (hS : Sig W) (v0 : Value) (h0 : Arg Tryd.prog W 3 v0) (v1 : Value) (h1 : Arg Tryd.prog W 3 v1) (v2 : Value) (h2 : Arg Tryd.prog W 28 v2) :
    Calls Tryd.prog 6 #[v0, v1, v2] W fun e W' => e = .returned (.bool true) ∧ Below W.heap.size W W' := by
  obtain ⟨b, _, r0⟩ := arg_int h0
  obtain ⟨k, _, r1⟩ := arg_int h1
  obtain ⟨s, hs, r2⟩ := arg_store h2
  exact run_tells (plenumlaw13_StoreNews_ok 40000001 [_, _, _] _ _ (news_s _ b k s (by omega) hs)) (gok_sig hS) (vs := [v0, v1, v2]) rfl (reps3 r0 r1 r2)
end Go.Proofs.YtoeajbhlkccekaaDoor
