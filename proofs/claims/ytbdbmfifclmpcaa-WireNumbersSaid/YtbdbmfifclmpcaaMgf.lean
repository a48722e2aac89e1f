/-
  Texts laid together, part 6 of 7: laws of a walk over data, contracts of functions, each whole by itself.
-/
import Derived.Test.YtbdbmfifclmpcaaMge
import Derived.Test.YtbdbmfifclmpcaaMgc
import Derived.Defers
import Derived.Recover
import Derived.Tactics2
namespace Go.Proofs.Ytbdbmfifclmpcaa
open Go.RowKit
set_option linter.unusedVariables false
set_option linter.unusedSimpArgs false
set_option maxRecDepth 20000
abbrev St := Nat × Nat
abbrev TR (α : Type) := St → α × St
def TR.bind {α β : Type} (f : TR α) (g : α → TR β) : TR β := fun s => g (f s).1 (f s).2
def TR.ret {α : Type} (x : α) : TR α := fun s => (x, s)
def RdO.st {α : Type} (x0 : α) : RdO α → α × St
  | .ok x a => (x, (a, 0))
  | .no e a => (x0, (a, e))
def numT (b : List UInt8) (most : Nat) : TR Nat := fun s => if s.2 = 0 then (numR b most s.1).st 0 else (0, s)
def itT (b : List UInt8) (most : Nat) : TR Int := fun s => (((numT b most s).1 : Int), (numT b most s).2)
def cutT (b : List UInt8) (n : Nat) : TR (List UInt8) := fun s => if s.2 = 0 then (if b.length - s.1 < n then ([], (s.1, 2)) else ((b.drop s.1).take n, (s.1 + n, 0))) else ([], s)
def textT (b : List UInt8) : TR (List UInt8) := (numT b 65536).bind fun n => cutT b n
def stmtT (b : List UInt8) : TR Sm := (itT b 63).bind fun x0 => (itT b 2147483647).bind fun x1 => (itT b 2147483647).bind fun x2 => (itT b 2147483647).bind fun x3 => (itT b 2147483647).bind fun x4 => TR.ret ⟨x0, x1, x2, x3, x4⟩
def loopT {α : Type} (one : TR α) : Nat → TR (List α)
  | 0, s => ([], s)
  | n + 1, s => if s.2 = 0 then ((one s).1 :: (loopT one n (one s).2).1, (loopT one n (one s).2).2) else ([], s)
def someT {α : Type} (b : List UInt8) (one : TR α) : TR (List α) := (numT b 64).bind fun n => loopT one n
def certT (b : List UInt8) : TR Ce := (itT b 2147483647).bind fun x0 => (itT b 2147483647).bind fun x1 => (itT b 2147483647).bind fun x2 => (textT b).bind fun x3 => (someT b (stmtT b)).bind fun x4 => TR.ret ⟨x0, x1, x2, x3, x4⟩
def changeT (b : List UInt8) : TR Ch := (itT b 63).bind fun x0 => (itT b 2147483647).bind fun x1 => (itT b 2147483647).bind fun x2 => (itT b 2147483647).bind fun x3 => (someT b (stmtT b)).bind fun x4 => (someT b (certT b)).bind fun x5 => TR.ret ⟨x0, x1, x2, x3, x4, x5⟩
def msgT (b : List UInt8) : TR Ms := (itT b 10).bind fun x0 => (itT b 63).bind fun x1 => (itT b 2147483647).bind fun x2 => (itT b 2147483647).bind fun x3 => (itT b 2147483647).bind fun x4 => (textT b).bind fun x5 => (someT b (stmtT b)).bind fun x6 => (someT b (changeT b)).bind fun x7 => TR.ret ⟨x0, x1, x2, x3, x4, x5, x6, x7⟩
def TR.In {α : Type} (b : List UInt8) (f : TR α) : Prop := ∀ s, s.1 ≤ b.length → (f s).2.1 ≤ b.length
theorem numT_in (b : List UInt8) (most : Nat) : (numT b most).In b := by
  intro s hs
  unfold numT
  split
  · have := numR_in (most := most) hs
    unfold RdO.st
    cases hr : numR b most s.1 with
    | ok v a => exact get_in this hr
    | no e a =>
      have : a = s.1 := by
        unfold numR at hr
        split at hr
        · split at hr
          · cases hr; rfl
          · cases hr
        · cases hr; rfl
      rw [this]; exact hs
  · exact hs
theorem numT_most (b : List UInt8) (most : Nat) (s : St) : (numT b most s).1 ≤ most := by
  unfold numT
  split
  · unfold RdO.st
    cases hr : numR b most s.1 with
    | ok v a => exact numR_most hr
    | no e a => exact Nat.zero_le _
  · exact Nat.zero_le _
theorem TR.bind_in {α β : Type} {b : List UInt8} {f : TR α} {g : α → TR β} (hf : f.In b) (hg : ∀ x, (g x).In b) : (f.bind g).In b := fun s hs => hg _ _ (hf s hs)
theorem TR.ret_in {α : Type} {b : List UInt8} (x : α) : (TR.ret x).In b := fun s hs => hs
theorem itT_in (b : List UInt8) (most : Nat) : (itT b most).In b := numT_in b most
theorem cutT_in (b : List UInt8) (n : Nat) : (cutT b n).In b := by
  intro s hs
  unfold cutT
  split
  · split
    · exact hs
    · show s.1 + n ≤ b.length; omega
  · exact hs
theorem textT_in (b : List UInt8) : (textT b).In b := TR.bind_in (numT_in b _) fun n => cutT_in b n
theorem stmtT_in (b : List UInt8) : (stmtT b).In b := TR.bind_in (itT_in b _) fun _ => TR.bind_in (itT_in b _) fun _ => TR.bind_in (itT_in b _) fun _ => TR.bind_in (itT_in b _) fun _ => TR.bind_in (itT_in b _) fun _ => TR.ret_in _
theorem loopT_in {α : Type} {b : List UInt8} {one : TR α} (h : one.In b) : ∀ n, (loopT one n).In b
  | 0 => fun s hs => hs
  | n + 1 => fun s hs => by
    unfold loopT
    split
    · exact loopT_in h n _ (h s hs)
    · exact hs
theorem someT_in {α : Type} {b : List UInt8} {one : TR α} (h : one.In b) : (someT b one).In b := TR.bind_in (numT_in b _) fun n => loopT_in h n
theorem certT_in (b : List UInt8) : (certT b).In b := TR.bind_in (itT_in b _) fun _ => TR.bind_in (itT_in b _) fun _ => TR.bind_in (itT_in b _) fun _ => TR.bind_in (textT_in b) fun _ => TR.bind_in (someT_in (stmtT_in b)) fun _ => TR.ret_in _
theorem changeT_in (b : List UInt8) : (changeT b).In b := TR.bind_in (itT_in b _) fun _ => TR.bind_in (itT_in b _) fun _ => TR.bind_in (itT_in b _) fun _ => TR.bind_in (itT_in b _) fun _ => TR.bind_in (someT_in (stmtT_in b)) fun _ => TR.bind_in (someT_in (certT_in b)) fun _ => TR.ret_in _
attribute [local go_sem] Nat.zero_add Nat.add_zero Nat.mul_one Int.toNat_natCast Int.natCast_zero Int.cast_ofNat_Int or_false false_or or_true true_or Nat.sub_zero Int.natCast_nonneg Int.toNat_zero Bool.true_and Bool.and_true Bool.false_and Bool.and_false Bool.true_or Bool.or_true Bool.false_or Bool.or_false Bool.not_true Bool.not_false Bool.not_not true_and and_true false_and and_false not_true_eq_false not_false_eq_true eq_self decide_true decide_false ne_eq implies_true forall_const true_implies false_implies Bool.true_eq_false Bool.false_eq_true List.map_cons List.map_nil List.all_cons List.all_nil List.length_cons List.length_nil List.length_map List.length_append List.nil_append List.cons_append List.set_cons_zero List.set_cons_succ List.set_nil List.drop_zero List.drop_succ_cons List.drop_nil List.take_zero List.take_succ_cons List.take_nil Option.map_some Option.map_none Option.isSome_some List.all_append List.all_map Function.comp_def decide_eq_true_eq Bool.and_eq_true beq_self_eq_true or_self and_self ite_true ite_false Nat.le_refl Bool.not_eq_true decide_not Bool.not_eq_true' decide_eq_false_iff_not Bool.not_eq_false Bool.or_eq_true if_true if_false ite_self u_roF u_cvF u_cvC u_ceT u_ceK u_appS sm_it sm_len sm_sure sm_ltA sm_lt1 sm_all1 sm_ro sm_take sm_sl sm_set sm_noT sm_fr sm_st_fr sm_set_fr sm_kd sm_st_kd sm_set_kd sm_vw sm_st_vw sm_set_vw sm_sq sm_st_sq sm_set_sq sm_tm sm_st_tm sm_set_tm zsm_len zsm_sure zsm_lt1 zsm_sl zsm_ro zsm_setz zsm_set zsm_setr zsm_take sms_ltA sms_len ce_it ce_len ce_sure ce_ltA ce_lt1 ce_all1 ce_ro ce_take ce_sl ce_set ce_noT ce_sq ce_st_sq ce_set_sq ce_vw ce_st_vw ce_set_vw ce_tm ce_st_tm ce_set_tm ce_body ce_st_body ce_set_body ce_vs ce_st_vs ce_set_vs zce_len zce_sure zce_lt1 zce_sl zce_ro zce_setz zce_set zce_setr zce_take ces_ltA ces_len cg_it cg_len cg_sure cg_ltA cg_lt1 cg_all1 cg_ro cg_take cg_sl cg_set cg_noT cg_fr cg_st_fr cg_set_fr cg_vw cg_st_vw cg_set_vw cg_st cg_st_st cg_set_st cg_rt cg_st_rt cg_set_rt cg_pf cg_st_pf cg_set_pf cg_cs cg_st_cs cg_set_cs zcg_len zcg_sure zcg_lt1 zcg_sl zcg_ro zcg_setz zcg_set zcg_setr zcg_take cgs_ltA cgs_len ms_it ms_len ms_sure ms_ltA ms_lt1 ms_all1 ms_ro ms_take ms_sl ms_set ms_noT ms_kd ms_st_kd ms_set_kd ms_fr ms_st_fr ms_set_fr ms_vw ms_st_vw ms_set_vw ms_sq ms_st_sq ms_set_sq ms_tm ms_st_tm ms_set_tm ms_body ms_st_body ms_set_body ms_vs ms_st_vs ms_set_vs ms_chs ms_st_chs ms_set_chs zms_len zms_sure zms_lt1 zms_sl zms_ro zms_setz zms_set zms_setr zms_take mss_ltA mss_len natInt u_nthM u_bz u_bi1 u_bi2 u_bi3 u_bi4 u_bi5 u_bi6 u_bi7 bC_length bc_ltA bc_one nthOL ltO_o ltO_r takeL bC_append u_addS List.take_length Int.natCast_add setL setL2 setL2a nthOL2 nthOL2a takeL2
section
variable {P0 : AObj} {t : TypeId} {b : List UInt8} {Y : List AObj}
theorem tnum_s (m : Nat) (most : Nat) (s : St) (hP : ∀ n, Y.length + 2 ≤ n → ltO n P0 = true) (hY : ∀ n, Y.length + 2 ≤ n → Y.all (ltO n) = true) (hb : b.length ≤ 34359738368) (hs : s.1 ≤ b.length) (hm : most < 9223372036854775808) : plenumref01_Take_Num m (OP 1 0) (V (.int .u64 most)) (P0 :: ⟨1, t, 0, [sA b, nA s.1, nA s.2]⟩ :: Y) = some (V (.int .u64 (numT b most s).1), (P0 :: ⟨1, t, 0, [sA b, nA (numT b most s).2.1, nA (numT b most s).2.2]⟩ :: Y)) := by
  obtain ⟨a, e⟩ := s
  dsimp only at hs ⊢
  have hY2 : 1 < Y.length + 1 + 1 := by omega
  rw [plenumref01_Take_Num_eq]
  unfold numT
  by_cases he : e = 0
  rotate_left
  · have he' : ¬ (e : Int) = 0 := by omega
    rw [if_neg he]
    simp (config := {maxSteps := 4000000, implicitDefEqProofs := false}) (disch := omega) only [go_sem, ↓reduceIte, Nat.reduceAdd, Nat.reduceSub, Nat.reduceMul, Nat.reduceLeDiff, Nat.reduceLT, Int.reduceEq, Int.reduceNe, Int.reduceLT, Int.reduceLE, Int.reduceAdd, Int.reduceSub, Int.reduceMul, Int.reduceNeg, Int.reduceToNat, reduceCtorEq, Nat.reduceEqDiff, Nat.reduceBEq, Nat.reduceGT, he', hP, hY]
  subst he
  have hC := plenumref01_Cut_e m (b.drop a) (by rw [List.length_drop]; omega)
  have hL := cut_le (b.drop a)
  rw [List.length_drop] at hL
  unfold cutX at hC
  unfold numR
  rw [if_pos rfl]
  dsimp only
  generalize cut (b.drop a) = c at hC hL ⊢
  obtain ⟨v, n, e⟩ := c
  dsimp only at hC hL ⊢
  have a1 : (0 : Int) ≤ (a : Int) := by omega
  have a2 : (a : Int) ≤ (b.length : Int) := by omega
  have a3 : (b.length : Int) ≤ (b.length : Int) := Int.le_refl _
  by_cases he : e = 0
  · subst he
    have hL := hL rfl
    by_cases hv : most < v
    · have hv' : (v : Int) > (most : Int) := by omega
      rw [if_pos rfl, if_pos hv]
      unfold RdO.st
      simp (config := {maxSteps := 4000000, implicitDefEqProofs := false}) (disch := omega) only [go_sem, ↓reduceIte, Nat.reduceAdd, Nat.reduceSub, Nat.reduceMul, Nat.reduceLeDiff, Nat.reduceLT, Int.reduceEq, Int.reduceNe, Int.reduceLT, Int.reduceLE, Int.reduceAdd, Int.reduceSub, Int.reduceMul, Int.reduceNeg, Int.reduceToNat, reduceCtorEq, Nat.reduceEqDiff, Nat.reduceBEq, Nat.reduceGT, a1, a2, a3, hC, hv', hP, hY, plenumref01_Take_Num_r2_eq, plenumref01_Take_Num_r1_eq]
    · have hv' : ¬ (v : Int) > (most : Int) := by omega
      rw [if_pos rfl, if_neg hv]
      unfold RdO.st
      simp (config := {maxSteps := 4000000, implicitDefEqProofs := false}) (disch := omega) only [go_sem, ↓reduceIte, Nat.reduceAdd, Nat.reduceSub, Nat.reduceMul, Nat.reduceLeDiff, Nat.reduceLT, Int.reduceEq, Int.reduceNe, Int.reduceLT, Int.reduceLE, Int.reduceAdd, Int.reduceSub, Int.reduceMul, Int.reduceNeg, Int.reduceToNat, reduceCtorEq, Nat.reduceEqDiff, Nat.reduceBEq, Nat.reduceGT, a1, a2, a3, hC, hv', hP, hY, w_i64, plenumref01_Take_Num_r2_eq, plenumref01_Take_Num_r1_eq]
  · have he' : ¬ (e : Int) = 0 := by omega
    rw [if_neg he]
    unfold RdO.st
    simp (config := {maxSteps := 4000000, implicitDefEqProofs := false}) (disch := omega) only [go_sem, ↓reduceIte, Nat.reduceAdd, Nat.reduceSub, Nat.reduceMul, Nat.reduceLeDiff, Nat.reduceLT, Int.reduceEq, Int.reduceNe, Int.reduceLT, Int.reduceLE, Int.reduceAdd, Int.reduceSub, Int.reduceMul, Int.reduceNeg, Int.reduceToNat, reduceCtorEq, Nat.reduceEqDiff, Nat.reduceBEq, Nat.reduceGT, a1, a2, a3, hC, he', hP, hY, plenumref01_Take_Num_r2_eq, plenumref01_Take_Num_r1_eq]
theorem tall_s (m : Nat) (s : St) (hP : ∀ n, Y.length + 2 ≤ n → ltO n P0 = true) (hY : ∀ n, Y.length + 2 ≤ n → Y.all (ltO n) = true) (hb : b.length ≤ 34359738368) (hs : s.1 ≤ b.length) : plenumref28_all m (OP 1 0) (P0 :: ⟨1, t, 0, [sA b, nA s.1, nA s.2]⟩ :: Y) = some (nA (itT b 2147483647 s).1, (P0 :: ⟨1, t, 0, [sA b, nA (itT b 2147483647 s).2.1, nA (itT b 2147483647 s).2.2]⟩ :: Y)) := by
  have q := tnum_s (t := t) m 2147483647 s hP hY hb hs (by omega)
  have hn := numT_most b 2147483647 s
  rw [plenumref28_all_eq]
  unfold itT
  generalize numT b 2147483647 s = r at q hn ⊢
  obtain ⟨v, a, e⟩ := r
  dsimp only at q hn ⊢
  simp only [Int.cast_ofNat_Int] at q
  simp (config := {maxSteps := 4000000, implicitDefEqProofs := false}) (disch := omega) only [go_sem, ↓reduceIte, Nat.reduceAdd, Nat.reduceSub, Nat.reduceMul, Nat.reduceLeDiff, Nat.reduceLT, Int.reduceEq, Int.reduceNe, Int.reduceLT, Int.reduceLE, Int.reduceAdd, Int.reduceSub, Int.reduceMul, Int.reduceNeg, Int.reduceToNat, reduceCtorEq, Nat.reduceEqDiff, Nat.reduceBEq, Nat.reduceGT, q, hP, hY, w_i64]
theorem ttext_s (m : Nat) (s : St) (hP : ∀ n, Y.length + 2 ≤ n → ltO n P0 = true) (hY : ∀ n, Y.length + 2 ≤ n → Y.all (ltO n) = true) (hb : b.length ≤ 34359738368) (hs : s.1 ≤ b.length) : plenumref28_text m (OP 1 0) (P0 :: ⟨1, t, 0, [sA b, nA s.1, nA s.2]⟩ :: Y) = some (sA (textT b s).1, (P0 :: ⟨1, t, 0, [sA b, nA (textT b s).2.1, nA (textT b s).2.2]⟩ :: Y)) := by
  have q := tnum_s (t := t) m 65536 s hP hY hb hs (by omega)
  have hn := numT_most b 65536 s
  have hi := numT_in b 65536 s hs
  rw [plenumref28_text_eq]
  unfold textT TR.bind
  generalize numT b 65536 s = r at q hn hi ⊢
  obtain ⟨n, a, e⟩ := r
  dsimp only at q hn hi ⊢
  simp only [Int.cast_ofNat_Int] at q
  have hw : IntKind.i64.wrap ((b.length : Int) - (a : Int)) = (b.length : Int) - (a : Int) := w_i64 (by omega) (by omega)
  unfold cutT
  dsimp only
  by_cases he : e = 0
  rotate_left
  · have he' : ¬ (e : Int) = 0 := by omega
    rw [if_neg he]
    simp (config := {maxSteps := 4000000, implicitDefEqProofs := false}) (disch := omega) only [go_sem, ↓reduceIte, Nat.reduceAdd, Nat.reduceSub, Nat.reduceMul, Nat.reduceLeDiff, Nat.reduceLT, Int.reduceEq, Int.reduceNe, Int.reduceLT, Int.reduceLE, Int.reduceAdd, Int.reduceSub, Int.reduceMul, Int.reduceNeg, Int.reduceToNat, reduceCtorEq, Nat.reduceEqDiff, Nat.reduceBEq, Nat.reduceGT, q, he', hP, hY, w_i64, plenumref28_text_r2_eq, plenumref28_text_r1_eq]
  subst he
  rw [if_pos rfl]
  by_cases hv : b.length - a < n
  · have hv' : (n : Int) > (b.length : Int) - (a : Int) := by omega
    rw [if_pos hv]
    simp (config := {maxSteps := 4000000, implicitDefEqProofs := false}) (disch := omega) only [go_sem, ↓reduceIte, Nat.reduceAdd, Nat.reduceSub, Nat.reduceMul, Nat.reduceLeDiff, Nat.reduceLT, Int.reduceEq, Int.reduceNe, Int.reduceLT, Int.reduceLE, Int.reduceAdd, Int.reduceSub, Int.reduceMul, Int.reduceNeg, Int.reduceToNat, reduceCtorEq, Nat.reduceEqDiff, Nat.reduceBEq, Nat.reduceGT, q, hw, hv', hP, hY, w_i64, plenumref28_text_r2_eq, plenumref28_text_r1_eq]
  · have hv' : ¬ (n : Int) > (b.length : Int) - (a : Int) := by omega
    have c1 : (a : Int) + (n : Int) - (n : Int) = (a : Int) := by omega
    have c2 : (0 : Int) ≤ (a : Int) := by omega
    have c3 : (a : Int) ≤ (a : Int) + (n : Int) := by omega
    have c4 : (a : Int) + (n : Int) ≤ (b.length : Int) := by omega
    have hcut : (b.take ((a : Int) + (n : Int)).toNat).drop a = (b.drop a).take n := by
      rw [show ((a : Int) + (n : Int)).toNat = a + n by omega, List.drop_take, Nat.add_sub_cancel_left]
    rw [if_neg hv]
    simp (config := {maxSteps := 4000000, implicitDefEqProofs := false}) (disch := omega) only [go_sem, ↓reduceIte, Nat.reduceAdd, Nat.reduceSub, Nat.reduceMul, Nat.reduceLeDiff, Nat.reduceLT, Int.reduceEq, Int.reduceNe, Int.reduceLT, Int.reduceLE, Int.reduceAdd, Int.reduceSub, Int.reduceMul, Int.reduceNeg, Int.reduceToNat, reduceCtorEq, Nat.reduceEqDiff, Nat.reduceBEq, Nat.reduceGT, q, hw, hv', c1, c2, c3, c4, hcut, hP, hY, w_i64, plenumref28_text_r2_eq, plenumref28_text_r1_eq]
theorem takeL3 {A B : AObj} {Y : List AObj} : (Y ++ [A] ++ [B]).take (Y.length + 1) = Y ++ [A] := by
  rw [show Y.length + 1 = (Y ++ [A]).length by simp]; exact List.take_left
theorem ro_lastT {α : Type} {f : α → AV} {l : List α} {e z : Nat} {A0 A1 : AObj} {Y : List AObj} : ro (A0 :: A1 :: (Y ++ [⟨2, e, z, l.map f⟩])) (OW (Y.length + 1 + 1) l.length) = SL (l.map f) := by
  have : ro (A0 :: A1 :: (Y ++ [⟨2, e, z, l.map f⟩])) (OW (Y.length + 1 + 1) (l.map f).length) = SL (l.map f) := by simp [ro, roA, ro1]
  rwa [List.length_map] at this
theorem b0_Stmt {R : Type} {K1 : AV → Option R} : buildE (some pl_api_Stmt) (some zc_api_Stmt) [] K1 = K1 (.agg (smC ⟨0, 0, 0, 0, 0⟩)) := _root_.id rfl
theorem zsm_seta {x : Sm} : setCells zc_api_Stmt 0 (smC x) = smC x := _root_.id rfl
theorem tlist_s (m : Nat) (s : St) (hP : ∀ n, Y.length + 2 ≤ n → ltO n P0 = true) (hY : ∀ n, Y.length + 2 ≤ n → Y.all (ltO n) = true) (hb : b.length ≤ 34359738368) (hs : s.1 ≤ b.length) (hm : 70 < m) : plenumref28_list m (OP 1 0) (P0 :: ⟨1, t, 0, [sA b, nA s.1, nA s.2]⟩ :: Y) = some (SL ((someT b (stmtT b) s).1.map smE), (P0 :: ⟨1, t, 0, [sA b, nA (someT b (stmtT b) s).2.1, nA (someT b (stmtT b) s).2.2]⟩ :: Y)) := by
  have q := tnum_s (t := t) m 64 s hP hY hb hs (by omega)
  have hn := numT_most b 64 s
  have hi := numT_in b 64 s hs
  have hYm := hY
  rw [plenumref28_list_eq]
  unfold someT TR.bind
  generalize numT b 64 s = r at q hn hi ⊢
  obtain ⟨n, a, e⟩ := r
  dsimp only at q hn hi ⊢
  simp only [Int.cast_ofNat_Int] at q
  generalize hR : loopT (stmtT b) n (a, e) = R
  obtain ⟨r, hr2⟩ : ∃ r, r = some (SL (R.1.map smE), (P0 :: ⟨1, t, 0, [sA b, nA R.2.1, nA R.2.2]⟩ :: Y)) := ⟨_, rfl⟩
  rw [← hr2]
  simp (config := {maxSteps := 4000000, implicitDefEqProofs := false}) (disch := omega) only [go_sem, ↓reduceIte, Nat.reduceAdd, Nat.reduceSub, Nat.reduceMul, Nat.reduceLeDiff, Nat.reduceLT, Int.reduceEq, Int.reduceNe, Int.reduceLT, Int.reduceLE, Int.reduceAdd, Int.reduceSub, Int.reduceMul, Int.reduceNeg, Int.reduceToNat, reduceCtorEq, Nat.reduceEqDiff, Nat.reduceBEq, Nat.reduceGT, q, w_i64]
  refine iter_go (m := m) (ι := {k : Nat × List Sm × St // k.1 ≤ n ∧ k.2.1.length = k.1 ∧ k.2.2.1 ≤ b.length ∧ (k.2.1 ++ (loopT (stmtT b) (n - k.1) k.2.2).1, (loopT (stmtT b) (n - k.1) k.2.2).2) = R}) (fun k => ⟨(P0 :: ⟨1, t, 0, [sA b, nA k.1.2.2.1, nA k.1.2.2.2]⟩ :: (Y ++ [⟨2, ty_api_Stmt, 5, k.1.2.1.map smE⟩])), [(0, OP 1 0), (3, nA n), (4, OW (Y.length + 1 + 1) k.1.2.1.length), (5, nA k.1.1)]⟩) (fun k => n - k.1.1) (fun _ => r) ?_ ⟨(0, [], (a, e)), Nat.zero_le _, rfl, hi, hR⟩ (by dsimp only; omega)
  clear q hi hR
  rintro kx hkx ⟨⟨k, xs, c, e⟩, hk, hxl, hc, hJ⟩ kc hkc
  dsimp only at hk hxl hc hJ hkc ⊢
  have hY3 : Y.length ≤ Y.length + 1 := Nat.le_succ _
  have hY2 : 1 < Y.length + 1 + 1 := by omega
  have hxs : ∀ n, (xs.map smE).all (ltA n) = true := fun n => by rw [List.all_map]; exact sms_ltA
  have done : R = (xs, (c, e)) → (kx (.exit 0) ⟨(P0 :: ⟨1, t, 0, [sA b, nA c, nA e]⟩ :: (Y ++ [⟨2, ty_api_Stmt, 5, xs.map smE⟩])), [(4, OW (Y.length + 1 + 1) xs.length)]⟩ = r) := by
    intro hR
    rw [hr2, hR]
    simp (config := {maxSteps := 4000000, implicitDefEqProofs := false}) (disch := omega) only [go_sem, ↓reduceIte, Nat.reduceAdd, Nat.reduceSub, Nat.reduceMul, Nat.reduceLeDiff, Nat.reduceLT, Int.reduceEq, Int.reduceNe, Int.reduceLT, Int.reduceLE, Int.reduceAdd, Int.reduceSub, Int.reduceMul, Int.reduceNeg, Int.reduceToNat, reduceCtorEq, Nat.reduceEqDiff, Nat.reduceBEq, Nat.reduceGT, hkx, hP, hY, hY2, hY3, ro_lastT, plenumref28_list_r3_eq, plenumref28_list_r2_eq, plenumref28_list_r1_eq]
  rw [plenumref28_list_b1_eq]
  by_cases hlt : k < n
  rotate_left
  · have hlt' : ¬ (k : Int) < (n : Int) := by omega
    rw [show n - k = 0 by omega] at hJ
    have hJ2 : (xs ++ [], (c, e)) = R := hJ
    rw [List.append_nil] at hJ2
    simp (config := {maxSteps := 4000000, implicitDefEqProofs := false}) (disch := omega) only [go_sem, ↓reduceIte, Nat.reduceAdd, Nat.reduceSub, Nat.reduceMul, Nat.reduceLeDiff, Nat.reduceLT, Int.reduceEq, Int.reduceNe, Int.reduceLT, Int.reduceLE, Int.reduceAdd, Int.reduceSub, Int.reduceMul, Int.reduceNeg, Int.reduceToNat, reduceCtorEq, Nat.reduceEqDiff, Nat.reduceBEq, Nat.reduceGT, hlt', plenumref28_list_r3_eq, plenumref28_list_r2_eq, plenumref28_list_r1_eq]
    exact done hJ2.symm
  have hlt' : (k : Int) < (n : Int) := by omega
  rw [show n - k = (n - (k + 1)) + 1 by omega] at hJ
  unfold loopT at hJ
  dsimp only at hJ
  by_cases he : e = 0
  rotate_left
  · have he' : ¬ (e : Int) = 0 := by omega
    rw [if_neg he] at hJ
    have hJ2 : (xs ++ [], (c, e)) = R := hJ
    rw [List.append_nil] at hJ2
    simp (config := {maxSteps := 4000000, implicitDefEqProofs := false}) (disch := omega) only [go_sem, ↓reduceIte, Nat.reduceAdd, Nat.reduceSub, Nat.reduceMul, Nat.reduceLeDiff, Nat.reduceLT, Int.reduceEq, Int.reduceNe, Int.reduceLT, Int.reduceLE, Int.reduceAdd, Int.reduceSub, Int.reduceMul, Int.reduceNeg, Int.reduceToNat, reduceCtorEq, Nat.reduceEqDiff, Nat.reduceBEq, Nat.reduceGT, hlt', he', plenumref28_list_r3_eq, plenumref28_list_r2_eq, plenumref28_list_r1_eq]
    exact done hJ2.symm
  clear done
  subst he
  rw [if_pos rfl] at hJ
  have hZ0 : ∀ n, (Y ++ [(⟨2, ty_api_Stmt, 5, xs.map smE⟩ : AObj)] ++ [(⟨1, ty_api_Stmt, 0, smC ⟨0, 0, 0, 0, 0⟩⟩ : AObj)]).length + 2 ≤ n → (Y ++ [(⟨2, ty_api_Stmt, 5, xs.map smE⟩ : AObj)] ++ [(⟨1, ty_api_Stmt, 0, smC ⟨0, 0, 0, 0, 0⟩⟩ : AObj)]).all (ltO n) = true := fun n hn => by
    simp only [List.length_append, List.length_cons, List.length_nil] at hn
    simp only [List.all_append, hYm n (by omega), Bool.true_and, List.all_cons, List.all_nil, Bool.and_true, ltO_r, ltO_o, List.all_map, Function.comp_def, sms_ltA, ces_ltA, sm_ltA, ce_ltA, Bool.and_self]
  have q0 := tnum_s (t := t) (Y := Y ++ [(⟨2, ty_api_Stmt, 5, xs.map smE⟩ : AObj)] ++ [(⟨1, ty_api_Stmt, 0, smC ⟨0, 0, 0, 0, 0⟩⟩ : AObj)]) m 63 (c, 0) (fun n hn => hP n (by simp only [List.length_append, List.length_cons, List.length_nil] at hn; omega)) hZ0 hb hc (by omega)
  have hi0 := numT_in b 63 (c, 0) hc
  have hn0 := numT_most b 63 (c, 0)
  rcases r0 : numT b 63 (c, 0) with ⟨v0, c0, e0⟩
  rw [r0] at q0 hi0 hn0
  dsimp only at q0 hi0 hn0
  simp only [Int.cast_ofNat_Int] at q0
  have hZ1 : ∀ n, (Y ++ [(⟨2, ty_api_Stmt, 5, xs.map smE⟩ : AObj)] ++ [(⟨1, ty_api_Stmt, 0, smC ⟨v0, 0, 0, 0, 0⟩⟩ : AObj)]).length + 2 ≤ n → (Y ++ [(⟨2, ty_api_Stmt, 5, xs.map smE⟩ : AObj)] ++ [(⟨1, ty_api_Stmt, 0, smC ⟨v0, 0, 0, 0, 0⟩⟩ : AObj)]).all (ltO n) = true := fun n hn => by
    simp only [List.length_append, List.length_cons, List.length_nil] at hn
    simp only [List.all_append, hYm n (by omega), Bool.true_and, List.all_cons, List.all_nil, Bool.and_true, ltO_r, ltO_o, List.all_map, Function.comp_def, sms_ltA, ces_ltA, sm_ltA, ce_ltA, Bool.and_self]
  have q1 := tall_s (t := t) (Y := Y ++ [(⟨2, ty_api_Stmt, 5, xs.map smE⟩ : AObj)] ++ [(⟨1, ty_api_Stmt, 0, smC ⟨v0, 0, 0, 0, 0⟩⟩ : AObj)]) m (c0, e0) (fun n hn => hP n (by simp only [List.length_append, List.length_cons, List.length_nil] at hn; omega)) hZ1 hb hi0
  have hi1 := itT_in b 2147483647 (c0, e0) hi0
  rcases r1 : itT b 2147483647 (c0, e0) with ⟨v1, c1, e1⟩
  rw [r1] at q1 hi1
  dsimp only at q1 hi1
  have hZ2 : ∀ n, (Y ++ [(⟨2, ty_api_Stmt, 5, xs.map smE⟩ : AObj)] ++ [(⟨1, ty_api_Stmt, 0, smC ⟨v0, v1, 0, 0, 0⟩⟩ : AObj)]).length + 2 ≤ n → (Y ++ [(⟨2, ty_api_Stmt, 5, xs.map smE⟩ : AObj)] ++ [(⟨1, ty_api_Stmt, 0, smC ⟨v0, v1, 0, 0, 0⟩⟩ : AObj)]).all (ltO n) = true := fun n hn => by
    simp only [List.length_append, List.length_cons, List.length_nil] at hn
    simp only [List.all_append, hYm n (by omega), Bool.true_and, List.all_cons, List.all_nil, Bool.and_true, ltO_r, ltO_o, List.all_map, Function.comp_def, sms_ltA, ces_ltA, sm_ltA, ce_ltA, Bool.and_self]
  have q2 := tall_s (t := t) (Y := Y ++ [(⟨2, ty_api_Stmt, 5, xs.map smE⟩ : AObj)] ++ [(⟨1, ty_api_Stmt, 0, smC ⟨v0, v1, 0, 0, 0⟩⟩ : AObj)]) m (c1, e1) (fun n hn => hP n (by simp only [List.length_append, List.length_cons, List.length_nil] at hn; omega)) hZ2 hb hi1
  have hi2 := itT_in b 2147483647 (c1, e1) hi1
  rcases r2 : itT b 2147483647 (c1, e1) with ⟨v2, c2, e2⟩
  rw [r2] at q2 hi2
  dsimp only at q2 hi2
  have hZ3 : ∀ n, (Y ++ [(⟨2, ty_api_Stmt, 5, xs.map smE⟩ : AObj)] ++ [(⟨1, ty_api_Stmt, 0, smC ⟨v0, v1, v2, 0, 0⟩⟩ : AObj)]).length + 2 ≤ n → (Y ++ [(⟨2, ty_api_Stmt, 5, xs.map smE⟩ : AObj)] ++ [(⟨1, ty_api_Stmt, 0, smC ⟨v0, v1, v2, 0, 0⟩⟩ : AObj)]).all (ltO n) = true := fun n hn => by
    simp only [List.length_append, List.length_cons, List.length_nil] at hn
    simp only [List.all_append, hYm n (by omega), Bool.true_and, List.all_cons, List.all_nil, Bool.and_true, ltO_r, ltO_o, List.all_map, Function.comp_def, sms_ltA, ces_ltA, sm_ltA, ce_ltA, Bool.and_self]
  have q3 := tall_s (t := t) (Y := Y ++ [(⟨2, ty_api_Stmt, 5, xs.map smE⟩ : AObj)] ++ [(⟨1, ty_api_Stmt, 0, smC ⟨v0, v1, v2, 0, 0⟩⟩ : AObj)]) m (c2, e2) (fun n hn => hP n (by simp only [List.length_append, List.length_cons, List.length_nil] at hn; omega)) hZ3 hb hi2
  have hi3 := itT_in b 2147483647 (c2, e2) hi2
  rcases r3 : itT b 2147483647 (c2, e2) with ⟨v3, c3, e3⟩
  rw [r3] at q3 hi3
  dsimp only at q3 hi3
  have hZ4 : ∀ n, (Y ++ [(⟨2, ty_api_Stmt, 5, xs.map smE⟩ : AObj)] ++ [(⟨1, ty_api_Stmt, 0, smC ⟨v0, v1, v2, v3, 0⟩⟩ : AObj)]).length + 2 ≤ n → (Y ++ [(⟨2, ty_api_Stmt, 5, xs.map smE⟩ : AObj)] ++ [(⟨1, ty_api_Stmt, 0, smC ⟨v0, v1, v2, v3, 0⟩⟩ : AObj)]).all (ltO n) = true := fun n hn => by
    simp only [List.length_append, List.length_cons, List.length_nil] at hn
    simp only [List.all_append, hYm n (by omega), Bool.true_and, List.all_cons, List.all_nil, Bool.and_true, ltO_r, ltO_o, List.all_map, Function.comp_def, sms_ltA, ces_ltA, sm_ltA, ce_ltA, Bool.and_self]
  have q4 := tall_s (t := t) (Y := Y ++ [(⟨2, ty_api_Stmt, 5, xs.map smE⟩ : AObj)] ++ [(⟨1, ty_api_Stmt, 0, smC ⟨v0, v1, v2, v3, 0⟩⟩ : AObj)]) m (c3, e3) (fun n hn => hP n (by simp only [List.length_append, List.length_cons, List.length_nil] at hn; omega)) hZ4 hb hi3
  have hi4 := itT_in b 2147483647 (c3, e3) hi3
  rcases r4 : itT b 2147483647 (c3, e3) with ⟨v4, c4, e4⟩
  rw [r4] at q4 hi4
  dsimp only at q4 hi4
  have hS : stmtT b (c, 0) = (⟨v0, v1, v2, v3, v4⟩, (c4, e4)) := by
    have r0' : itT b 63 (c, 0) = ((v0 : Int), (c0, e0)) := by unfold itT; rw [r0]
    simp only [stmtT, TR.bind, TR.ret, r0', r1, r2, r3, r4]
  rw [hS] at hJ
  dsimp only at hJ
  have step := hkc ⟨(k + 1, xs ++ [⟨v0, v1, v2, v3, v4⟩], (c4, e4)), by dsimp only; omega, by simp [hxl], hi4, by dsimp only; rw [List.append_assoc]; exact hJ⟩ (by dsimp only; omega)
  have hroom : xs.length + 1 ≤ 34359738368 := by omega
  have hY4 : Y.length + 1 + 1 < Y.length + 1 + 1 + 1 := Nat.lt_succ_self _
  have hY5 : Y.length + 1 ≤ Y.length + 1 + 1 := Nat.le_succ _
  simp only [List.map_append, List.map_cons, List.map_nil, List.length_append, List.length_cons, List.length_nil, Nat.zero_add, sm_it] at step
  simp (config := {maxSteps := 4000000, implicitDefEqProofs := false}) (disch := omega) only [go_sem, ↓reduceIte, Nat.reduceAdd, Nat.reduceSub, Nat.reduceMul, Nat.reduceLeDiff, Nat.reduceLT, Int.reduceEq, Int.reduceNe, Int.reduceLT, Int.reduceLE, Int.reduceAdd, Int.reduceSub, Int.reduceMul, Int.reduceNeg, Int.reduceToNat, reduceCtorEq, Nat.reduceEqDiff, Nat.reduceBEq, Nat.reduceGT, hlt', q0, q1, q2, q3, q4, b0_Stmt, zsm_seta, hP, hY, hY2, hY3, hY4, hY5, hxs, hroom, takeLA, takeL3, w_i64, plenumref28_list_r3_eq, plenumref28_list_r2_eq, plenumref28_list_r1_eq]
  exact step
end
section
variable {P0 M Rw : AObj} {t : TypeId} {b : List UInt8}
theorem b0_Cert {R : Type} {K1 : AV → Option R} : buildE (some pl_api_Cert) (some zc_api_Cert) [] K1 = K1 (.agg [nA 0, nA 0, nA 0, sA [], V (.slice none 0 0)]) := _root_.id rfl
theorem b0_Change {R : Type} {K1 : AV → Option R} : buildE (some pl_api_Change) (some zc_api_Change) [] K1 = K1 (.agg [nA 0, nA 0, nA 0, nA 0, V (.slice none 0 0), V (.slice none 0 0)]) := _root_.id rfl
theorem zce_sete {x0 x1 x2 x3 x4 : AV} : setCells zc_api_Cert 0 [x0, x1, x2, x3, x4] = [x0, x1, x2, x3, x4] := _root_.id rfl
theorem zcg_sete {x0 x1 x2 x3 x4 x5 : AV} : setCells zc_api_Change 0 [x0, x1, x2, x3, x4, x5] = [x0, x1, x2, x3, x4, x5] := _root_.id rfl
theorem ceC_it {x0 x1 x2 : Int} {x3 : List UInt8} {x4 : List Sm} : ceC ⟨x0, x1, x2, x3, x4⟩ = [nA x0, nA x1, nA x2, sA x3, SL (x4.map smE)] := _root_.id rfl
theorem cgC_it {x0 x1 x2 x3 : Int} {x4 : List Sm} {x5 : List Ce} : cgC ⟨x0, x1, x2, x3, x4, x5⟩ = [nA x0, nA x1, nA x2, nA x3, SL (x4.map smE), SL (x5.map ceE)] := _root_.id rfl
theorem gh_C {T A : AObj} {x0 x1 x2 x3 x4 : AV} {Tm' : Tm} (h : get Tm' 3 = OP 5 0) : ghS 3 5 ty_api_Cert 5 ⟨[P0, T, M, Rw, A, ⟨1, ty_api_Change, 0, [x0, x1, x2, x3, x4, V (.slice none 0 0)]⟩], Tm'⟩ = ⟨[P0, T, M, Rw, A, ⟨1, ty_api_Change, 0, [x0, x1, x2, x3, x4, OW 6 0]⟩, ⟨2, ty_api_Cert, 5, []⟩], Tm'⟩ := by
  unfold ghS
  rw [h]
  rfl
theorem ro1_6 {A0 A1 A2 A3 A4 A5 : AObj} {e z m : Nat} {c : List AV} {Y : List AObj} : ro1 (A0 :: A1 :: A2 :: A3 :: A4 :: A5 :: ⟨2, e, z, c⟩ :: Y) (OW 6 m) = if m = c.length then SL c else OW 6 m := by simp [ro1]
theorem zcg_lt1' {n : Nat} : zc_api_Change.all (ltA n) = true := _root_.id rfl
theorem tA_nA {n : Nat} {x : Int} : ltA n (nA x) = true := _root_.id rfl
theorem tA_sA {n : Nat} {x : List UInt8} : ltA n (sA x) = true := _root_.id rfl
theorem tA_nil {n : Nat} : ltA n (V (.slice none 0 0)) = true := _root_.id rfl
theorem tchange_s (m : Nat) (s : St) (hP : ∀ n, 4 ≤ n → ltO n P0 = true) (hM : ∀ n, 4 ≤ n → ltO n M = true) (hRw : ∀ n, 4 ≤ n → ltO n Rw = true) (hb : b.length ≤ 34359738368) (hs : s.1 ≤ b.length) (hm : 70 < m) : plenumref28_change m (OP 1 0) (P0 :: ⟨1, t, 0, [sA b, nA s.1, nA s.2]⟩ :: [M, Rw]) = some (.agg (cgC (changeT b s).1), (P0 :: ⟨1, t, 0, [sA b, nA (changeT b s).2.1, nA (changeT b s).2.2]⟩ :: [M, Rw])) := by
  rw [plenumref28_change_eq]
  have hZa0 : ∀ n, ([M, Rw, (⟨1, ty_api_Change, 0, zc_api_Change⟩ : AObj), (⟨1, ty_api_Change, 0, [nA 0, nA 0, nA 0, nA 0, V (.slice none 0 0), V (.slice none 0 0)]⟩ : AObj)]).length + 2 ≤ n → ([M, Rw, (⟨1, ty_api_Change, 0, zc_api_Change⟩ : AObj), (⟨1, ty_api_Change, 0, [nA 0, nA 0, nA 0, nA 0, V (.slice none 0 0), V (.slice none 0 0)]⟩ : AObj)]).all (ltO n) = true := fun n hn => by
    simp only [List.length_cons, List.length_nil] at hn
    simp only [List.all_cons, List.all_nil, hM n (by omega), hRw n (by omega), ltO_r, ltO_o, List.all_map, Function.comp_def, sms_ltA, ces_ltA, zcg_lt1', Bool.true_and, Bool.and_true, Bool.and_self, tA_nA, tA_sA, tA_SL, tA_nil, tA_OW]
  have qa0 := tnum_s (t := t) (Y := [M, Rw, (⟨1, ty_api_Change, 0, zc_api_Change⟩ : AObj), (⟨1, ty_api_Change, 0, [nA 0, nA 0, nA 0, nA 0, V (.slice none 0 0), V (.slice none 0 0)]⟩ : AObj)]) m 63 s (fun n hn => hP n (by simp only [List.length_cons, List.length_nil] at hn; omega)) hZa0 hb hs (by omega)
  have hia0 := numT_in b 63 s hs
  have hna0 := numT_most b 63 s
  rcases ra0 : numT b 63 s with ⟨va0, ca0, ea0⟩
  rw [ra0] at qa0 hia0 hna0
  dsimp only at qa0 hia0 hna0
  simp only [Int.cast_ofNat_Int] at qa0
  have hZa1 : ∀ n, ([M, Rw, (⟨1, ty_api_Change, 0, zc_api_Change⟩ : AObj), (⟨1, ty_api_Change, 0, [nA ((va0 : Nat) : Int), nA 0, nA 0, nA 0, V (.slice none 0 0), V (.slice none 0 0)]⟩ : AObj)]).length + 2 ≤ n → ([M, Rw, (⟨1, ty_api_Change, 0, zc_api_Change⟩ : AObj), (⟨1, ty_api_Change, 0, [nA ((va0 : Nat) : Int), nA 0, nA 0, nA 0, V (.slice none 0 0), V (.slice none 0 0)]⟩ : AObj)]).all (ltO n) = true := fun n hn => by
    simp only [List.length_cons, List.length_nil] at hn
    simp only [List.all_cons, List.all_nil, hM n (by omega), hRw n (by omega), ltO_r, ltO_o, List.all_map, Function.comp_def, sms_ltA, ces_ltA, zcg_lt1', Bool.true_and, Bool.and_true, Bool.and_self, tA_nA, tA_sA, tA_SL, tA_nil, tA_OW]
  have qa1 := tall_s (t := t) (Y := [M, Rw, (⟨1, ty_api_Change, 0, zc_api_Change⟩ : AObj), (⟨1, ty_api_Change, 0, [nA ((va0 : Nat) : Int), nA 0, nA 0, nA 0, V (.slice none 0 0), V (.slice none 0 0)]⟩ : AObj)]) m (ca0, ea0) (fun n hn => hP n (by simp only [List.length_cons, List.length_nil] at hn; omega)) hZa1 hb hia0
  have hia1 := itT_in b 2147483647 (ca0, ea0) hia0
  rcases ra1 : itT b 2147483647 (ca0, ea0) with ⟨va1, ca1, ea1⟩
  rw [ra1] at qa1 hia1
  dsimp only at qa1 hia1
  have hZa2 : ∀ n, ([M, Rw, (⟨1, ty_api_Change, 0, zc_api_Change⟩ : AObj), (⟨1, ty_api_Change, 0, [nA ((va0 : Nat) : Int), nA va1, nA 0, nA 0, V (.slice none 0 0), V (.slice none 0 0)]⟩ : AObj)]).length + 2 ≤ n → ([M, Rw, (⟨1, ty_api_Change, 0, zc_api_Change⟩ : AObj), (⟨1, ty_api_Change, 0, [nA ((va0 : Nat) : Int), nA va1, nA 0, nA 0, V (.slice none 0 0), V (.slice none 0 0)]⟩ : AObj)]).all (ltO n) = true := fun n hn => by
    simp only [List.length_cons, List.length_nil] at hn
    simp only [List.all_cons, List.all_nil, hM n (by omega), hRw n (by omega), ltO_r, ltO_o, List.all_map, Function.comp_def, sms_ltA, ces_ltA, zcg_lt1', Bool.true_and, Bool.and_true, Bool.and_self, tA_nA, tA_sA, tA_SL, tA_nil, tA_OW]
  have qa2 := tall_s (t := t) (Y := [M, Rw, (⟨1, ty_api_Change, 0, zc_api_Change⟩ : AObj), (⟨1, ty_api_Change, 0, [nA ((va0 : Nat) : Int), nA va1, nA 0, nA 0, V (.slice none 0 0), V (.slice none 0 0)]⟩ : AObj)]) m (ca1, ea1) (fun n hn => hP n (by simp only [List.length_cons, List.length_nil] at hn; omega)) hZa2 hb hia1
  have hia2 := itT_in b 2147483647 (ca1, ea1) hia1
  rcases ra2 : itT b 2147483647 (ca1, ea1) with ⟨va2, ca2, ea2⟩
  rw [ra2] at qa2 hia2
  dsimp only at qa2 hia2
  have hZa3 : ∀ n, ([M, Rw, (⟨1, ty_api_Change, 0, zc_api_Change⟩ : AObj), (⟨1, ty_api_Change, 0, [nA ((va0 : Nat) : Int), nA va1, nA va2, nA 0, V (.slice none 0 0), V (.slice none 0 0)]⟩ : AObj)]).length + 2 ≤ n → ([M, Rw, (⟨1, ty_api_Change, 0, zc_api_Change⟩ : AObj), (⟨1, ty_api_Change, 0, [nA ((va0 : Nat) : Int), nA va1, nA va2, nA 0, V (.slice none 0 0), V (.slice none 0 0)]⟩ : AObj)]).all (ltO n) = true := fun n hn => by
    simp only [List.length_cons, List.length_nil] at hn
    simp only [List.all_cons, List.all_nil, hM n (by omega), hRw n (by omega), ltO_r, ltO_o, List.all_map, Function.comp_def, sms_ltA, ces_ltA, zcg_lt1', Bool.true_and, Bool.and_true, Bool.and_self, tA_nA, tA_sA, tA_SL, tA_nil, tA_OW]
  have qa3 := tall_s (t := t) (Y := [M, Rw, (⟨1, ty_api_Change, 0, zc_api_Change⟩ : AObj), (⟨1, ty_api_Change, 0, [nA ((va0 : Nat) : Int), nA va1, nA va2, nA 0, V (.slice none 0 0), V (.slice none 0 0)]⟩ : AObj)]) m (ca2, ea2) (fun n hn => hP n (by simp only [List.length_cons, List.length_nil] at hn; omega)) hZa3 hb hia2
  have hia3 := itT_in b 2147483647 (ca2, ea2) hia2
  rcases ra3 : itT b 2147483647 (ca2, ea2) with ⟨va3, ca3, ea3⟩
  rw [ra3] at qa3 hia3
  dsimp only at qa3 hia3
  have hZa4 : ∀ n, ([M, Rw, (⟨1, ty_api_Change, 0, zc_api_Change⟩ : AObj), (⟨1, ty_api_Change, 0, [nA ((va0 : Nat) : Int), nA va1, nA va2, nA va3, V (.slice none 0 0), V (.slice none 0 0)]⟩ : AObj)]).length + 2 ≤ n → ([M, Rw, (⟨1, ty_api_Change, 0, zc_api_Change⟩ : AObj), (⟨1, ty_api_Change, 0, [nA ((va0 : Nat) : Int), nA va1, nA va2, nA va3, V (.slice none 0 0), V (.slice none 0 0)]⟩ : AObj)]).all (ltO n) = true := fun n hn => by
    simp only [List.length_cons, List.length_nil] at hn
    simp only [List.all_cons, List.all_nil, hM n (by omega), hRw n (by omega), ltO_r, ltO_o, List.all_map, Function.comp_def, sms_ltA, ces_ltA, zcg_lt1', Bool.true_and, Bool.and_true, Bool.and_self, tA_nA, tA_sA, tA_SL, tA_nil, tA_OW]
  have qa4 := tlist_s (t := t) (Y := [M, Rw, (⟨1, ty_api_Change, 0, zc_api_Change⟩ : AObj), (⟨1, ty_api_Change, 0, [nA ((va0 : Nat) : Int), nA va1, nA va2, nA va3, V (.slice none 0 0), V (.slice none 0 0)]⟩ : AObj)]) m (ca3, ea3) (fun n hn => hP n (by simp only [List.length_cons, List.length_nil] at hn; omega)) hZa4 hb hia3 hm
  have hia4 := someT_in (stmtT_in b) (ca3, ea3) hia3
  rcases ra4 : someT b (stmtT b) (ca3, ea3) with ⟨va4, ca4, ea4⟩
  rw [ra4] at qa4 hia4
  dsimp only at qa4 hia4
  have hZa5 : ∀ n, ([M, Rw, (⟨1, ty_api_Change, 0, zc_api_Change⟩ : AObj), (⟨1, ty_api_Change, 0, [nA ((va0 : Nat) : Int), nA va1, nA va2, nA va3, SL (va4.map smE), V (.slice none 0 0)]⟩ : AObj)]).length + 2 ≤ n → ([M, Rw, (⟨1, ty_api_Change, 0, zc_api_Change⟩ : AObj), (⟨1, ty_api_Change, 0, [nA ((va0 : Nat) : Int), nA va1, nA va2, nA va3, SL (va4.map smE), V (.slice none 0 0)]⟩ : AObj)]).all (ltO n) = true := fun n hn => by
    simp only [List.length_cons, List.length_nil] at hn
    simp only [List.all_cons, List.all_nil, hM n (by omega), hRw n (by omega), ltO_r, ltO_o, List.all_map, Function.comp_def, sms_ltA, ces_ltA, zcg_lt1', Bool.true_and, Bool.and_true, Bool.and_self, tA_nA, tA_sA, tA_SL, tA_nil, tA_OW]
  have qa5 := tnum_s (t := t) (Y := [M, Rw, (⟨1, ty_api_Change, 0, zc_api_Change⟩ : AObj), (⟨1, ty_api_Change, 0, [nA ((va0 : Nat) : Int), nA va1, nA va2, nA va3, SL (va4.map smE), V (.slice none 0 0)]⟩ : AObj)]) m 64 (ca4, ea4) (fun n hn => hP n (by simp only [List.length_cons, List.length_nil] at hn; omega)) hZa5 hb hia4 (by omega)
  have hia5 := numT_in b 64 (ca4, ea4) hia4
  have hna5 := numT_most b 64 (ca4, ea4)
  rcases ra5 : numT b 64 (ca4, ea4) with ⟨va5, ca5, ea5⟩
  rw [ra5] at qa5 hia5 hna5
  dsimp only at qa5 hia5 hna5
  simp only [Int.cast_ofNat_Int] at qa5
  generalize hR : loopT (certT b) va5 (ca5, ea5) = R
  have hS : changeT b s = (⟨va0, va1, va2, va3, va4, R.1⟩, R.2) := by
    have r0' : itT b 63 s = ((va0 : Int), (ca0, ea0)) := by unfold itT; rw [ra0]
    have r5' : someT b (certT b) (ca4, ea4) = R := by unfold someT TR.bind; rw [ra5]; exact hR
    simp only [changeT, TR.bind, TR.ret, r0', ra1, ra2, ra3, ra4, r5']
  rw [hS]
  obtain ⟨r, hr2⟩ : ∃ r, r = some ((.agg (cgC ⟨va0, va1, va2, va3, va4, R.1⟩) : AV), (P0 :: ⟨1, t, 0, [sA b, nA R.2.1, nA R.2.2]⟩ :: [M, Rw])) := ⟨_, rfl⟩
  dsimp only
  rw [← hr2]
  simp (config := {maxSteps := 4000000, implicitDefEqProofs := false}) (disch := omega) only [go_sem, ↓reduceIte, Nat.reduceAdd, Nat.reduceSub, Nat.reduceMul, Nat.reduceLeDiff, Nat.reduceLT, Int.reduceEq, Int.reduceNe, Int.reduceLT, Int.reduceLE, Int.reduceAdd, Int.reduceSub, Int.reduceMul, Int.reduceNeg, Int.reduceToNat, reduceCtorEq, Nat.reduceEqDiff, Nat.reduceBEq, Nat.reduceGT, qa0, qa1, qa2, qa3, qa4, qa5, b0_Change, zcg_sete, hP, hM, hRw, w_i64]
  rw [gh_C (by rfl), plenumref28_change_r1_eq]
  clear qa0 qa1 qa2 qa3 qa4 qa5 hZa0 hZa1 hZa2 hZa3 hZa4 hZa5 hS
  refine iter_go (m := m) (ι := {k : Nat × List Ce × St // k.1 ≤ va5 ∧ k.2.1.length = k.1 ∧ k.2.2.1 ≤ b.length ∧ (k.2.1 ++ (loopT (certT b) (va5 - k.1) k.2.2).1, (loopT (certT b) (va5 - k.1) k.2.2).2) = R}) (fun k => ⟨(P0 :: ⟨1, t, 0, [sA b, nA k.1.2.2.1, nA k.1.2.2.2]⟩ :: [M, Rw, ⟨1, ty_api_Change, 0, zc_api_Change⟩, ⟨1, ty_api_Change, 0, [nA ((va0 : Nat) : Int), nA va1, nA va2, nA va3, SL (va4.map smE), OW 6 k.1.2.1.length]⟩, ⟨2, ty_api_Cert, 5, k.1.2.1.map ceE⟩]), [(0, OP 1 0), (2, OP 4 0), (3, OP 5 0), (4, nA va5), (5, nA k.1.1)]⟩) (fun k => va5 - k.1.1) (fun _ => r) ?_ ⟨(0, [], (ca5, ea5)), Nat.zero_le _, rfl, hia5, hR⟩ (by dsimp only; omega)
  clear hR
  rintro kx hkx ⟨⟨k, xs, c, e⟩, hk, hxl, hc, hJ⟩ kc hkc
  dsimp only at hk hxl hc hJ hkc ⊢
  have hxs : ∀ n, (xs.map ceE).all (ltA n) = true := fun n => by rw [List.all_map]; exact ces_ltA
  have done : R = (xs, (c, e)) → (kx (.exit 0) ⟨(P0 :: ⟨1, t, 0, [sA b, nA c, nA e]⟩ :: [M, Rw, ⟨1, ty_api_Change, 0, zc_api_Change⟩, ⟨1, ty_api_Change, 0, [nA ((va0 : Nat) : Int), nA va1, nA va2, nA va3, SL (va4.map smE), OW 6 xs.length]⟩, ⟨2, ty_api_Cert, 5, xs.map ceE⟩]), [(2, OP 4 0), (3, OP 5 0)]⟩ = r) := by
    intro hR
    rw [hr2, hR, cgC_it]
    simp (config := {maxSteps := 4000000, implicitDefEqProofs := false}) (disch := omega) only [go_sem, ↓reduceIte, Nat.reduceAdd, Nat.reduceSub, Nat.reduceMul, Nat.reduceLeDiff, Nat.reduceLT, Int.reduceEq, Int.reduceNe, Int.reduceLT, Int.reduceLE, Int.reduceAdd, Int.reduceSub, Int.reduceMul, Int.reduceNeg, Int.reduceToNat, reduceCtorEq, Nat.reduceEqDiff, Nat.reduceBEq, Nat.reduceGT, hkx, hP, hM, hRw, hxs, zcg_sete, ro1_6, plenumref28_change_r4_eq, plenumref28_change_r3_eq, plenumref28_change_r2_eq, plenumref28_change_r1_eq]
  rw [plenumref28_change_b1_eq]
  by_cases hlt : k < va5
  rotate_left
  · have hlt' : ¬ (k : Int) < (va5 : Int) := by omega
    rw [show va5 - k = 0 by omega] at hJ
    have hJ2 : (xs ++ [], (c, e)) = R := hJ
    rw [List.append_nil] at hJ2
    simp (config := {maxSteps := 4000000, implicitDefEqProofs := false}) (disch := omega) only [go_sem, ↓reduceIte, Nat.reduceAdd, Nat.reduceSub, Nat.reduceMul, Nat.reduceLeDiff, Nat.reduceLT, Int.reduceEq, Int.reduceNe, Int.reduceLT, Int.reduceLE, Int.reduceAdd, Int.reduceSub, Int.reduceMul, Int.reduceNeg, Int.reduceToNat, reduceCtorEq, Nat.reduceEqDiff, Nat.reduceBEq, Nat.reduceGT, hlt', plenumref28_change_r4_eq, plenumref28_change_r3_eq, plenumref28_change_r2_eq, plenumref28_change_r1_eq]
    exact done hJ2.symm
  have hlt' : (k : Int) < (va5 : Int) := by omega
  rw [show va5 - k = (va5 - (k + 1)) + 1 by omega] at hJ
  unfold loopT at hJ
  dsimp only at hJ
  by_cases he : e = 0
  rotate_left
  · have he' : ¬ (e : Int) = 0 := by omega
    rw [if_neg he] at hJ
    have hJ2 : (xs ++ [], (c, e)) = R := hJ
    rw [List.append_nil] at hJ2
    simp (config := {maxSteps := 4000000, implicitDefEqProofs := false}) (disch := omega) only [go_sem, ↓reduceIte, Nat.reduceAdd, Nat.reduceSub, Nat.reduceMul, Nat.reduceLeDiff, Nat.reduceLT, Int.reduceEq, Int.reduceNe, Int.reduceLT, Int.reduceLE, Int.reduceAdd, Int.reduceSub, Int.reduceMul, Int.reduceNeg, Int.reduceToNat, reduceCtorEq, Nat.reduceEqDiff, Nat.reduceBEq, Nat.reduceGT, hlt', he', plenumref28_change_r4_eq, plenumref28_change_r3_eq, plenumref28_change_r2_eq, plenumref28_change_r1_eq]
    exact done hJ2.symm
  clear done
  subst he
  rw [if_pos rfl] at hJ
  have hZb0 : ∀ n, ([M, Rw, (⟨1, ty_api_Change, 0, zc_api_Change⟩ : AObj), (⟨1, ty_api_Change, 0, [nA ((va0 : Nat) : Int), nA va1, nA va2, nA va3, SL (va4.map smE), OW 6 xs.length]⟩ : AObj), (⟨2, ty_api_Cert, 5, xs.map ceE⟩ : AObj), (⟨1, ty_api_Cert, 0, [nA 0, nA 0, nA 0, sA [], V (.slice none 0 0)]⟩ : AObj)]).length + 2 ≤ n → ([M, Rw, (⟨1, ty_api_Change, 0, zc_api_Change⟩ : AObj), (⟨1, ty_api_Change, 0, [nA ((va0 : Nat) : Int), nA va1, nA va2, nA va3, SL (va4.map smE), OW 6 xs.length]⟩ : AObj), (⟨2, ty_api_Cert, 5, xs.map ceE⟩ : AObj), (⟨1, ty_api_Cert, 0, [nA 0, nA 0, nA 0, sA [], V (.slice none 0 0)]⟩ : AObj)]).all (ltO n) = true := fun n hn => by
    simp only [List.length_cons, List.length_nil] at hn
    simp only [List.all_cons, List.all_nil, hM n (by omega), hRw n (by omega), ltO_r, ltO_o, List.all_map, Function.comp_def, sms_ltA, ces_ltA, zcg_lt1', Bool.true_and, Bool.and_true, Bool.and_self, tA_nA, tA_sA, tA_SL, tA_nil, tA_OW]
    try exact decide_eq_true (by omega)
  have qb0 := tall_s (t := t) (Y := [M, Rw, (⟨1, ty_api_Change, 0, zc_api_Change⟩ : AObj), (⟨1, ty_api_Change, 0, [nA ((va0 : Nat) : Int), nA va1, nA va2, nA va3, SL (va4.map smE), OW 6 xs.length]⟩ : AObj), (⟨2, ty_api_Cert, 5, xs.map ceE⟩ : AObj), (⟨1, ty_api_Cert, 0, [nA 0, nA 0, nA 0, sA [], V (.slice none 0 0)]⟩ : AObj)]) m (c, 0) (fun n hn => hP n (by simp only [List.length_cons, List.length_nil] at hn; omega)) hZb0 hb hc
  have hib0 := itT_in b 2147483647 (c, 0) hc
  rcases rb0 : itT b 2147483647 (c, 0) with ⟨vb0, cb0, eb0⟩
  rw [rb0] at qb0 hib0
  dsimp only at qb0 hib0
  simp only [Int.cast_ofNat_Int] at qb0
  have hZb1 : ∀ n, ([M, Rw, (⟨1, ty_api_Change, 0, zc_api_Change⟩ : AObj), (⟨1, ty_api_Change, 0, [nA ((va0 : Nat) : Int), nA va1, nA va2, nA va3, SL (va4.map smE), OW 6 xs.length]⟩ : AObj), (⟨2, ty_api_Cert, 5, xs.map ceE⟩ : AObj), (⟨1, ty_api_Cert, 0, [nA vb0, nA 0, nA 0, sA [], V (.slice none 0 0)]⟩ : AObj)]).length + 2 ≤ n → ([M, Rw, (⟨1, ty_api_Change, 0, zc_api_Change⟩ : AObj), (⟨1, ty_api_Change, 0, [nA ((va0 : Nat) : Int), nA va1, nA va2, nA va3, SL (va4.map smE), OW 6 xs.length]⟩ : AObj), (⟨2, ty_api_Cert, 5, xs.map ceE⟩ : AObj), (⟨1, ty_api_Cert, 0, [nA vb0, nA 0, nA 0, sA [], V (.slice none 0 0)]⟩ : AObj)]).all (ltO n) = true := fun n hn => by
    simp only [List.length_cons, List.length_nil] at hn
    simp only [List.all_cons, List.all_nil, hM n (by omega), hRw n (by omega), ltO_r, ltO_o, List.all_map, Function.comp_def, sms_ltA, ces_ltA, zcg_lt1', Bool.true_and, Bool.and_true, Bool.and_self, tA_nA, tA_sA, tA_SL, tA_nil, tA_OW]
    try exact decide_eq_true (by omega)
  have qb1 := tall_s (t := t) (Y := [M, Rw, (⟨1, ty_api_Change, 0, zc_api_Change⟩ : AObj), (⟨1, ty_api_Change, 0, [nA ((va0 : Nat) : Int), nA va1, nA va2, nA va3, SL (va4.map smE), OW 6 xs.length]⟩ : AObj), (⟨2, ty_api_Cert, 5, xs.map ceE⟩ : AObj), (⟨1, ty_api_Cert, 0, [nA vb0, nA 0, nA 0, sA [], V (.slice none 0 0)]⟩ : AObj)]) m (cb0, eb0) (fun n hn => hP n (by simp only [List.length_cons, List.length_nil] at hn; omega)) hZb1 hb hib0
  have hib1 := itT_in b 2147483647 (cb0, eb0) hib0
  rcases rb1 : itT b 2147483647 (cb0, eb0) with ⟨vb1, cb1, eb1⟩
  rw [rb1] at qb1 hib1
  dsimp only at qb1 hib1
  have hZb2 : ∀ n, ([M, Rw, (⟨1, ty_api_Change, 0, zc_api_Change⟩ : AObj), (⟨1, ty_api_Change, 0, [nA ((va0 : Nat) : Int), nA va1, nA va2, nA va3, SL (va4.map smE), OW 6 xs.length]⟩ : AObj), (⟨2, ty_api_Cert, 5, xs.map ceE⟩ : AObj), (⟨1, ty_api_Cert, 0, [nA vb0, nA vb1, nA 0, sA [], V (.slice none 0 0)]⟩ : AObj)]).length + 2 ≤ n → ([M, Rw, (⟨1, ty_api_Change, 0, zc_api_Change⟩ : AObj), (⟨1, ty_api_Change, 0, [nA ((va0 : Nat) : Int), nA va1, nA va2, nA va3, SL (va4.map smE), OW 6 xs.length]⟩ : AObj), (⟨2, ty_api_Cert, 5, xs.map ceE⟩ : AObj), (⟨1, ty_api_Cert, 0, [nA vb0, nA vb1, nA 0, sA [], V (.slice none 0 0)]⟩ : AObj)]).all (ltO n) = true := fun n hn => by
    simp only [List.length_cons, List.length_nil] at hn
    simp only [List.all_cons, List.all_nil, hM n (by omega), hRw n (by omega), ltO_r, ltO_o, List.all_map, Function.comp_def, sms_ltA, ces_ltA, zcg_lt1', Bool.true_and, Bool.and_true, Bool.and_self, tA_nA, tA_sA, tA_SL, tA_nil, tA_OW]
    try exact decide_eq_true (by omega)
  have qb2 := tall_s (t := t) (Y := [M, Rw, (⟨1, ty_api_Change, 0, zc_api_Change⟩ : AObj), (⟨1, ty_api_Change, 0, [nA ((va0 : Nat) : Int), nA va1, nA va2, nA va3, SL (va4.map smE), OW 6 xs.length]⟩ : AObj), (⟨2, ty_api_Cert, 5, xs.map ceE⟩ : AObj), (⟨1, ty_api_Cert, 0, [nA vb0, nA vb1, nA 0, sA [], V (.slice none 0 0)]⟩ : AObj)]) m (cb1, eb1) (fun n hn => hP n (by simp only [List.length_cons, List.length_nil] at hn; omega)) hZb2 hb hib1
  have hib2 := itT_in b 2147483647 (cb1, eb1) hib1
  rcases rb2 : itT b 2147483647 (cb1, eb1) with ⟨vb2, cb2, eb2⟩
  rw [rb2] at qb2 hib2
  dsimp only at qb2 hib2
  have hZb3 : ∀ n, ([M, Rw, (⟨1, ty_api_Change, 0, zc_api_Change⟩ : AObj), (⟨1, ty_api_Change, 0, [nA ((va0 : Nat) : Int), nA va1, nA va2, nA va3, SL (va4.map smE), OW 6 xs.length]⟩ : AObj), (⟨2, ty_api_Cert, 5, xs.map ceE⟩ : AObj), (⟨1, ty_api_Cert, 0, [nA vb0, nA vb1, nA vb2, sA [], V (.slice none 0 0)]⟩ : AObj)]).length + 2 ≤ n → ([M, Rw, (⟨1, ty_api_Change, 0, zc_api_Change⟩ : AObj), (⟨1, ty_api_Change, 0, [nA ((va0 : Nat) : Int), nA va1, nA va2, nA va3, SL (va4.map smE), OW 6 xs.length]⟩ : AObj), (⟨2, ty_api_Cert, 5, xs.map ceE⟩ : AObj), (⟨1, ty_api_Cert, 0, [nA vb0, nA vb1, nA vb2, sA [], V (.slice none 0 0)]⟩ : AObj)]).all (ltO n) = true := fun n hn => by
    simp only [List.length_cons, List.length_nil] at hn
    simp only [List.all_cons, List.all_nil, hM n (by omega), hRw n (by omega), ltO_r, ltO_o, List.all_map, Function.comp_def, sms_ltA, ces_ltA, zcg_lt1', Bool.true_and, Bool.and_true, Bool.and_self, tA_nA, tA_sA, tA_SL, tA_nil, tA_OW]
    try exact decide_eq_true (by omega)
  have qb3 := ttext_s (t := t) (Y := [M, Rw, (⟨1, ty_api_Change, 0, zc_api_Change⟩ : AObj), (⟨1, ty_api_Change, 0, [nA ((va0 : Nat) : Int), nA va1, nA va2, nA va3, SL (va4.map smE), OW 6 xs.length]⟩ : AObj), (⟨2, ty_api_Cert, 5, xs.map ceE⟩ : AObj), (⟨1, ty_api_Cert, 0, [nA vb0, nA vb1, nA vb2, sA [], V (.slice none 0 0)]⟩ : AObj)]) m (cb2, eb2) (fun n hn => hP n (by simp only [List.length_cons, List.length_nil] at hn; omega)) hZb3 hb hib2
  have hib3 := textT_in b (cb2, eb2) hib2
  rcases rb3 : textT b (cb2, eb2) with ⟨vb3, cb3, eb3⟩
  rw [rb3] at qb3 hib3
  dsimp only at qb3 hib3
  have hZb4 : ∀ n, ([M, Rw, (⟨1, ty_api_Change, 0, zc_api_Change⟩ : AObj), (⟨1, ty_api_Change, 0, [nA ((va0 : Nat) : Int), nA va1, nA va2, nA va3, SL (va4.map smE), OW 6 xs.length]⟩ : AObj), (⟨2, ty_api_Cert, 5, xs.map ceE⟩ : AObj), (⟨1, ty_api_Cert, 0, [nA vb0, nA vb1, nA vb2, sA vb3, V (.slice none 0 0)]⟩ : AObj)]).length + 2 ≤ n → ([M, Rw, (⟨1, ty_api_Change, 0, zc_api_Change⟩ : AObj), (⟨1, ty_api_Change, 0, [nA ((va0 : Nat) : Int), nA va1, nA va2, nA va3, SL (va4.map smE), OW 6 xs.length]⟩ : AObj), (⟨2, ty_api_Cert, 5, xs.map ceE⟩ : AObj), (⟨1, ty_api_Cert, 0, [nA vb0, nA vb1, nA vb2, sA vb3, V (.slice none 0 0)]⟩ : AObj)]).all (ltO n) = true := fun n hn => by
    simp only [List.length_cons, List.length_nil] at hn
    simp only [List.all_cons, List.all_nil, hM n (by omega), hRw n (by omega), ltO_r, ltO_o, List.all_map, Function.comp_def, sms_ltA, ces_ltA, zcg_lt1', Bool.true_and, Bool.and_true, Bool.and_self, tA_nA, tA_sA, tA_SL, tA_nil, tA_OW]
    try exact decide_eq_true (by omega)
  have qb4 := tlist_s (t := t) (Y := [M, Rw, (⟨1, ty_api_Change, 0, zc_api_Change⟩ : AObj), (⟨1, ty_api_Change, 0, [nA ((va0 : Nat) : Int), nA va1, nA va2, nA va3, SL (va4.map smE), OW 6 xs.length]⟩ : AObj), (⟨2, ty_api_Cert, 5, xs.map ceE⟩ : AObj), (⟨1, ty_api_Cert, 0, [nA vb0, nA vb1, nA vb2, sA vb3, V (.slice none 0 0)]⟩ : AObj)]) m (cb3, eb3) (fun n hn => hP n (by simp only [List.length_cons, List.length_nil] at hn; omega)) hZb4 hb hib3 hm
  have hib4 := someT_in (stmtT_in b) (cb3, eb3) hib3
  rcases rb4 : someT b (stmtT b) (cb3, eb3) with ⟨vb4, cb4, eb4⟩
  rw [rb4] at qb4 hib4
  dsimp only at qb4 hib4
  have hS : certT b (c, 0) = (⟨vb0, vb1, vb2, vb3, vb4⟩, (cb4, eb4)) := by
    simp only [certT, TR.bind, TR.ret, rb0, rb1, rb2, rb3, rb4]
  rw [hS] at hJ
  dsimp only at hJ
  have step := hkc ⟨(k + 1, xs ++ [⟨vb0, vb1, vb2, vb3, vb4⟩], (cb4, eb4)), by dsimp only; omega, by simp [hxl], hib4, by dsimp only; rw [List.append_assoc]; exact hJ⟩ (by dsimp only; omega)
  have hroom : xs.length + 1 ≤ 34359738368 := by omega
  simp only [List.map_append, List.map_cons, List.map_nil, List.length_append, List.length_cons, List.length_nil, Nat.zero_add, ce_it, ceC_it] at step
  simp (config := {maxSteps := 4000000, implicitDefEqProofs := false}) (disch := omega) only [go_sem, ↓reduceIte, Nat.reduceAdd, Nat.reduceSub, Nat.reduceMul, Nat.reduceLeDiff, Nat.reduceLT, Int.reduceEq, Int.reduceNe, Int.reduceLT, Int.reduceLE, Int.reduceAdd, Int.reduceSub, Int.reduceMul, Int.reduceNeg, Int.reduceToNat, reduceCtorEq, Nat.reduceEqDiff, Nat.reduceBEq, Nat.reduceGT, hlt', qb0, qb1, qb2, qb3, qb4, b0_Cert, zce_sete, hP, hM, hRw, hxs, hroom, w_i64, plenumref28_change_r4_eq, plenumref28_change_r3_eq, plenumref28_change_r2_eq, plenumref28_change_r1_eq]
  exact step
end
section
variable {b : List UInt8}
def decF (b : List UInt8) : Ms × Nat × Nat :=
  if (msgT b (0, 0)).2.2 ≠ 0 then (Ms.zero, (msgT b (0, 0)).2.2, (msgT b (0, 0)).2.1)
  else if (msgT b (0, 0)).1.kd = 0 then (Ms.zero, 3, 0)
  else if (msgT b (0, 0)).2.1 < b.length then (Ms.zero, 7, (msgT b (0, 0)).2.1)
  else ((msgT b (0, 0)).1, 0, 0)
def decX (r : Ms × Nat × Nat) : AV := TU [noT (.agg (msC r.1)), noT (nA r.2.1), noT (nA r.2.2)]
theorem b0_Msg {R : Type} {K1 : AV → Option R} : buildE (some pl_api_Msg) (some zc_api_Msg) [] K1 = K1 (.agg [nA 0, nA 0, nA 0, nA 0, nA 0, sA [], V (.slice none 0 0), V (.slice none 0 0)]) := _root_.id rfl
theorem b1_Take {R : Type} {K1 : AV → Option R} : buildE (some pl_plenumref01_Take) (some zc_plenumref01_Take) [(0, sA b)] K1 = K1 (.agg [sA b, nA 0, nA 0]) := _root_.id rfl
theorem zms_sete {x0 x1 x2 x3 x4 x5 x6 x7 : AV} : setCells zc_api_Msg 0 [x0, x1, x2, x3, x4, x5, x6, x7] = [x0, x1, x2, x3, x4, x5, x6, x7] := _root_.id rfl
theorem msC_it {x0 x1 x2 x3 x4 : Int} {x5 : List UInt8} {x6 : List Sm} {x7 : List Ch} : msC ⟨x0, x1, x2, x3, x4, x5, x6, x7⟩ = [nA x0, nA x1, nA x2, nA x3, nA x4, sA x5, SL (x6.map smE), SL (x7.map cgE)] := _root_.id rfl
theorem msZ_it : msC Ms.zero = [nA 0, nA 0, nA 0, nA 0, nA 0, sA [], SL [], SL []] := _root_.id rfl
theorem gh_M {A T : AObj} {x0 x1 x2 x3 x4 x5 x6 : AV} {Tm' : Tm} (h : get Tm' 6 = OP 2 0) : ghS 6 7 ty_api_Change 6 ⟨[A, T, ⟨1, ty_api_Msg, 0, [x0, x1, x2, x3, x4, x5, x6, V (.slice none 0 0)]⟩], Tm'⟩ = ⟨[A, T, ⟨1, ty_api_Msg, 0, [x0, x1, x2, x3, x4, x5, x6, OW 3 0]⟩, ⟨2, ty_api_Change, 6, []⟩], Tm'⟩ := by
  unfold ghS
  rw [h]
  rfl
theorem zms_lt1' {n : Nat} : zc_api_Msg.all (ltA n) = true := _root_.id rfl
theorem rdecode_s (m : Nat) (hb : b.length ≤ 34359738368) (hm : 70 < m) : plenumref28_Decode m (sA b) = some (decX (decF b), []) := by
  have h00 : ((0, 0) : St).1 ≤ b.length := Nat.zero_le _
  rw [plenumref28_Decode_eq]
  have hZa0 : ∀ n, ([(⟨1, ty_api_Msg, 0, [nA 0, nA 0, nA 0, nA 0, nA 0, sA [], V (.slice none 0 0), V (.slice none 0 0)]⟩ : AObj)]).length + 2 ≤ n → ([(⟨1, ty_api_Msg, 0, [nA 0, nA 0, nA 0, nA 0, nA 0, sA [], V (.slice none 0 0), V (.slice none 0 0)]⟩ : AObj)]).all (ltO n) = true := fun n hn => by
    simp only [List.length_cons, List.length_nil] at hn
    simp only [List.all_cons, List.all_nil, ltO_r, ltO_o, List.all_map, Function.comp_def, sms_ltA, ces_ltA, zcg_lt1', Bool.true_and, Bool.and_true, Bool.and_self, tA_nA, tA_sA, tA_SL, tA_nil, tA_OW]
  have qa0 := tnum_s (P0 := ⟨1, ty_api_Msg, 0, zc_api_Msg⟩) (t := ty_plenumref01_Take) (Y := [(⟨1, ty_api_Msg, 0, [nA 0, nA 0, nA 0, nA 0, nA 0, sA [], V (.slice none 0 0), V (.slice none 0 0)]⟩ : AObj)]) m 10 (0, 0) (fun n hn => rfl) hZa0 hb h00 (by omega)
  have hia0 := numT_in b 10 (0, 0) h00
  have hna0 := numT_most b 10 (0, 0)
  rcases ra0 : numT b 10 (0, 0) with ⟨va0, ca0, ea0⟩
  rw [ra0] at qa0 hia0 hna0
  dsimp only at qa0 hia0 hna0
  simp only [Int.cast_ofNat_Int] at qa0
  have hZa1 : ∀ n, ([(⟨1, ty_api_Msg, 0, [nA ((va0 : Nat) : Int), nA 0, nA 0, nA 0, nA 0, sA [], V (.slice none 0 0), V (.slice none 0 0)]⟩ : AObj)]).length + 2 ≤ n → ([(⟨1, ty_api_Msg, 0, [nA ((va0 : Nat) : Int), nA 0, nA 0, nA 0, nA 0, sA [], V (.slice none 0 0), V (.slice none 0 0)]⟩ : AObj)]).all (ltO n) = true := fun n hn => by
    simp only [List.length_cons, List.length_nil] at hn
    simp only [List.all_cons, List.all_nil, ltO_r, ltO_o, List.all_map, Function.comp_def, sms_ltA, ces_ltA, zcg_lt1', Bool.true_and, Bool.and_true, Bool.and_self, tA_nA, tA_sA, tA_SL, tA_nil, tA_OW]
  have qa1 := tnum_s (P0 := ⟨1, ty_api_Msg, 0, zc_api_Msg⟩) (t := ty_plenumref01_Take) (Y := [(⟨1, ty_api_Msg, 0, [nA ((va0 : Nat) : Int), nA 0, nA 0, nA 0, nA 0, sA [], V (.slice none 0 0), V (.slice none 0 0)]⟩ : AObj)]) m 63 (ca0, ea0) (fun n hn => rfl) hZa1 hb hia0 (by omega)
  have hia1 := numT_in b 63 (ca0, ea0) hia0
  have hna1 := numT_most b 63 (ca0, ea0)
  rcases ra1 : numT b 63 (ca0, ea0) with ⟨va1, ca1, ea1⟩
  rw [ra1] at qa1 hia1 hna1
  dsimp only at qa1 hia1 hna1
  simp only [Int.cast_ofNat_Int] at qa1
  have hZa2 : ∀ n, ([(⟨1, ty_api_Msg, 0, [nA ((va0 : Nat) : Int), nA ((va1 : Nat) : Int), nA 0, nA 0, nA 0, sA [], V (.slice none 0 0), V (.slice none 0 0)]⟩ : AObj)]).length + 2 ≤ n → ([(⟨1, ty_api_Msg, 0, [nA ((va0 : Nat) : Int), nA ((va1 : Nat) : Int), nA 0, nA 0, nA 0, sA [], V (.slice none 0 0), V (.slice none 0 0)]⟩ : AObj)]).all (ltO n) = true := fun n hn => by
    simp only [List.length_cons, List.length_nil] at hn
    simp only [List.all_cons, List.all_nil, ltO_r, ltO_o, List.all_map, Function.comp_def, sms_ltA, ces_ltA, zcg_lt1', Bool.true_and, Bool.and_true, Bool.and_self, tA_nA, tA_sA, tA_SL, tA_nil, tA_OW]
  have qa2 := tall_s (P0 := ⟨1, ty_api_Msg, 0, zc_api_Msg⟩) (t := ty_plenumref01_Take) (Y := [(⟨1, ty_api_Msg, 0, [nA ((va0 : Nat) : Int), nA ((va1 : Nat) : Int), nA 0, nA 0, nA 0, sA [], V (.slice none 0 0), V (.slice none 0 0)]⟩ : AObj)]) m (ca1, ea1) (fun n hn => rfl) hZa2 hb hia1
  have hia2 := itT_in b 2147483647 (ca1, ea1) hia1
  rcases ra2 : itT b 2147483647 (ca1, ea1) with ⟨va2, ca2, ea2⟩
  rw [ra2] at qa2 hia2
  dsimp only at qa2 hia2
  have hZa3 : ∀ n, ([(⟨1, ty_api_Msg, 0, [nA ((va0 : Nat) : Int), nA ((va1 : Nat) : Int), nA va2, nA 0, nA 0, sA [], V (.slice none 0 0), V (.slice none 0 0)]⟩ : AObj)]).length + 2 ≤ n → ([(⟨1, ty_api_Msg, 0, [nA ((va0 : Nat) : Int), nA ((va1 : Nat) : Int), nA va2, nA 0, nA 0, sA [], V (.slice none 0 0), V (.slice none 0 0)]⟩ : AObj)]).all (ltO n) = true := fun n hn => by
    simp only [List.length_cons, List.length_nil] at hn
    simp only [List.all_cons, List.all_nil, ltO_r, ltO_o, List.all_map, Function.comp_def, sms_ltA, ces_ltA, zcg_lt1', Bool.true_and, Bool.and_true, Bool.and_self, tA_nA, tA_sA, tA_SL, tA_nil, tA_OW]
  have qa3 := tall_s (P0 := ⟨1, ty_api_Msg, 0, zc_api_Msg⟩) (t := ty_plenumref01_Take) (Y := [(⟨1, ty_api_Msg, 0, [nA ((va0 : Nat) : Int), nA ((va1 : Nat) : Int), nA va2, nA 0, nA 0, sA [], V (.slice none 0 0), V (.slice none 0 0)]⟩ : AObj)]) m (ca2, ea2) (fun n hn => rfl) hZa3 hb hia2
  have hia3 := itT_in b 2147483647 (ca2, ea2) hia2
  rcases ra3 : itT b 2147483647 (ca2, ea2) with ⟨va3, ca3, ea3⟩
  rw [ra3] at qa3 hia3
  dsimp only at qa3 hia3
  have hZa4 : ∀ n, ([(⟨1, ty_api_Msg, 0, [nA ((va0 : Nat) : Int), nA ((va1 : Nat) : Int), nA va2, nA va3, nA 0, sA [], V (.slice none 0 0), V (.slice none 0 0)]⟩ : AObj)]).length + 2 ≤ n → ([(⟨1, ty_api_Msg, 0, [nA ((va0 : Nat) : Int), nA ((va1 : Nat) : Int), nA va2, nA va3, nA 0, sA [], V (.slice none 0 0), V (.slice none 0 0)]⟩ : AObj)]).all (ltO n) = true := fun n hn => by
    simp only [List.length_cons, List.length_nil] at hn
    simp only [List.all_cons, List.all_nil, ltO_r, ltO_o, List.all_map, Function.comp_def, sms_ltA, ces_ltA, zcg_lt1', Bool.true_and, Bool.and_true, Bool.and_self, tA_nA, tA_sA, tA_SL, tA_nil, tA_OW]
  have qa4 := tall_s (P0 := ⟨1, ty_api_Msg, 0, zc_api_Msg⟩) (t := ty_plenumref01_Take) (Y := [(⟨1, ty_api_Msg, 0, [nA ((va0 : Nat) : Int), nA ((va1 : Nat) : Int), nA va2, nA va3, nA 0, sA [], V (.slice none 0 0), V (.slice none 0 0)]⟩ : AObj)]) m (ca3, ea3) (fun n hn => rfl) hZa4 hb hia3
  have hia4 := itT_in b 2147483647 (ca3, ea3) hia3
  rcases ra4 : itT b 2147483647 (ca3, ea3) with ⟨va4, ca4, ea4⟩
  rw [ra4] at qa4 hia4
  dsimp only at qa4 hia4
  have hZa5 : ∀ n, ([(⟨1, ty_api_Msg, 0, [nA ((va0 : Nat) : Int), nA ((va1 : Nat) : Int), nA va2, nA va3, nA va4, sA [], V (.slice none 0 0), V (.slice none 0 0)]⟩ : AObj)]).length + 2 ≤ n → ([(⟨1, ty_api_Msg, 0, [nA ((va0 : Nat) : Int), nA ((va1 : Nat) : Int), nA va2, nA va3, nA va4, sA [], V (.slice none 0 0), V (.slice none 0 0)]⟩ : AObj)]).all (ltO n) = true := fun n hn => by
    simp only [List.length_cons, List.length_nil] at hn
    simp only [List.all_cons, List.all_nil, ltO_r, ltO_o, List.all_map, Function.comp_def, sms_ltA, ces_ltA, zcg_lt1', Bool.true_and, Bool.and_true, Bool.and_self, tA_nA, tA_sA, tA_SL, tA_nil, tA_OW]
  have qa5 := ttext_s (P0 := ⟨1, ty_api_Msg, 0, zc_api_Msg⟩) (t := ty_plenumref01_Take) (Y := [(⟨1, ty_api_Msg, 0, [nA ((va0 : Nat) : Int), nA ((va1 : Nat) : Int), nA va2, nA va3, nA va4, sA [], V (.slice none 0 0), V (.slice none 0 0)]⟩ : AObj)]) m (ca4, ea4) (fun n hn => rfl) hZa5 hb hia4
  have hia5 := textT_in b (ca4, ea4) hia4
  rcases ra5 : textT b (ca4, ea4) with ⟨va5, ca5, ea5⟩
  rw [ra5] at qa5 hia5
  dsimp only at qa5 hia5
  have hZa6 : ∀ n, ([(⟨1, ty_api_Msg, 0, [nA ((va0 : Nat) : Int), nA ((va1 : Nat) : Int), nA va2, nA va3, nA va4, sA va5, V (.slice none 0 0), V (.slice none 0 0)]⟩ : AObj)]).length + 2 ≤ n → ([(⟨1, ty_api_Msg, 0, [nA ((va0 : Nat) : Int), nA ((va1 : Nat) : Int), nA va2, nA va3, nA va4, sA va5, V (.slice none 0 0), V (.slice none 0 0)]⟩ : AObj)]).all (ltO n) = true := fun n hn => by
    simp only [List.length_cons, List.length_nil] at hn
    simp only [List.all_cons, List.all_nil, ltO_r, ltO_o, List.all_map, Function.comp_def, sms_ltA, ces_ltA, zcg_lt1', Bool.true_and, Bool.and_true, Bool.and_self, tA_nA, tA_sA, tA_SL, tA_nil, tA_OW]
  have qa6 := tlist_s (P0 := ⟨1, ty_api_Msg, 0, zc_api_Msg⟩) (t := ty_plenumref01_Take) (Y := [(⟨1, ty_api_Msg, 0, [nA ((va0 : Nat) : Int), nA ((va1 : Nat) : Int), nA va2, nA va3, nA va4, sA va5, V (.slice none 0 0), V (.slice none 0 0)]⟩ : AObj)]) m (ca5, ea5) (fun n hn => rfl) hZa6 hb hia5 hm
  have hia6 := someT_in (stmtT_in b) (ca5, ea5) hia5
  rcases ra6 : someT b (stmtT b) (ca5, ea5) with ⟨va6, ca6, ea6⟩
  rw [ra6] at qa6 hia6
  dsimp only at qa6 hia6
  have hZa7 : ∀ n, ([(⟨1, ty_api_Msg, 0, [nA ((va0 : Nat) : Int), nA ((va1 : Nat) : Int), nA va2, nA va3, nA va4, sA va5, SL (va6.map smE), V (.slice none 0 0)]⟩ : AObj)]).length + 2 ≤ n → ([(⟨1, ty_api_Msg, 0, [nA ((va0 : Nat) : Int), nA ((va1 : Nat) : Int), nA va2, nA va3, nA va4, sA va5, SL (va6.map smE), V (.slice none 0 0)]⟩ : AObj)]).all (ltO n) = true := fun n hn => by
    simp only [List.length_cons, List.length_nil] at hn
    simp only [List.all_cons, List.all_nil, ltO_r, ltO_o, List.all_map, Function.comp_def, sms_ltA, ces_ltA, zcg_lt1', Bool.true_and, Bool.and_true, Bool.and_self, tA_nA, tA_sA, tA_SL, tA_nil, tA_OW]
  have qa7 := tnum_s (P0 := ⟨1, ty_api_Msg, 0, zc_api_Msg⟩) (t := ty_plenumref01_Take) (Y := [(⟨1, ty_api_Msg, 0, [nA ((va0 : Nat) : Int), nA ((va1 : Nat) : Int), nA va2, nA va3, nA va4, sA va5, SL (va6.map smE), V (.slice none 0 0)]⟩ : AObj)]) m 64 (ca6, ea6) (fun n hn => rfl) hZa7 hb hia6 (by omega)
  have hia7 := numT_in b 64 (ca6, ea6) hia6
  have hna7 := numT_most b 64 (ca6, ea6)
  rcases ra7 : numT b 64 (ca6, ea6) with ⟨va7, ca7, ea7⟩
  rw [ra7] at qa7 hia7 hna7
  dsimp only at qa7 hia7 hna7
  simp only [Int.cast_ofNat_Int] at qa7
  generalize hR : loopT (changeT b) va7 (ca7, ea7) = R
  have hS : msgT b (0, 0) = (⟨va0, va1, va2, va3, va4, va5, va6, R.1⟩, R.2) := by
    have r0' : itT b 10 (0, 0) = ((va0 : Int), (ca0, ea0)) := by unfold itT; rw [ra0]
    have r1' : itT b 63 (ca0, ea0) = ((va1 : Int), (ca1, ea1)) := by unfold itT; rw [ra1]
    have r5' : someT b (changeT b) (ca6, ea6) = R := by unfold someT TR.bind; rw [ra7]; exact hR
    simp only [msgT, TR.bind, TR.ret, r0', r1', ra2, ra3, ra4, ra5, ra6, r5']
  obtain ⟨r, hr2⟩ : ∃ r, r = some (decX (decF b), ([] : List AObj)) := ⟨_, rfl⟩
  rw [← hr2]
  unfold decF at hr2
  rw [hS] at hr2
  dsimp only at hr2
  simp (config := {maxSteps := 4000000, implicitDefEqProofs := false}) (disch := omega) only [go_sem, ↓reduceIte, Nat.reduceAdd, Nat.reduceSub, Nat.reduceMul, Nat.reduceLeDiff, Nat.reduceLT, Int.reduceEq, Int.reduceNe, Int.reduceLT, Int.reduceLE, Int.reduceAdd, Int.reduceSub, Int.reduceMul, Int.reduceNeg, Int.reduceToNat, reduceCtorEq, Nat.reduceEqDiff, Nat.reduceBEq, Nat.reduceGT, qa0, qa1, qa2, qa3, qa4, qa5, qa6, qa7, b0_Msg, b1_Take, zms_sete, w_i64]
  rw [gh_M (by rfl), plenumref28_Decode_r1_eq]
  clear qa0 qa1 qa2 qa3 qa4 qa5 qa6 qa7 hZa0 hZa1 hZa2 hZa3 hZa4 hZa5 hZa6 hZa7 hS
  refine iter_go (m := m) (ι := {k : Nat × List Ch × St // k.1 ≤ va7 ∧ k.2.1.length = k.1 ∧ k.2.2.1 ≤ b.length ∧ (k.2.1 ++ (loopT (changeT b) (va7 - k.1) k.2.2).1, (loopT (changeT b) (va7 - k.1) k.2.2).2) = R}) (fun k => ⟨(⟨1, ty_api_Msg, 0, zc_api_Msg⟩ :: ⟨1, ty_plenumref01_Take, 0, [sA b, nA k.1.2.2.1, nA k.1.2.2.2]⟩ :: [⟨1, ty_api_Msg, 0, [nA ((va0 : Nat) : Int), nA ((va1 : Nat) : Int), nA va2, nA va3, nA va4, sA va5, SL (va6.map smE), OW 3 k.1.2.1.length]⟩, ⟨2, ty_api_Change, 6, k.1.2.1.map cgE⟩]), [(0, sA b), (2, OP 0 0), (5, OP 1 0), (6, OP 2 0), (7, nA va7), (8, nA k.1.1)]⟩) (fun k => va7 - k.1.1) (fun _ => r) ?_ ⟨(0, [], (ca7, ea7)), Nat.zero_le _, rfl, hia7, hR⟩ (by dsimp only; omega)
  clear hR
  rintro kx hkx ⟨⟨k, xs, c, e⟩, hk, hxl, hc, hJ⟩ kc hkc
  dsimp only at hk hxl hc hJ hkc ⊢
  have hxs : ∀ n, (xs.map cgE).all (ltA n) = true := fun n => by rw [List.all_map]; exact cgs_ltA
  have done : R = (xs, (c, e)) → (kx (.exit 0) ⟨(⟨1, ty_api_Msg, 0, zc_api_Msg⟩ :: ⟨1, ty_plenumref01_Take, 0, [sA b, nA c, nA e]⟩ :: [⟨1, ty_api_Msg, 0, [nA ((va0 : Nat) : Int), nA ((va1 : Nat) : Int), nA va2, nA va3, nA va4, sA va5, SL (va6.map smE), OW 3 xs.length]⟩, ⟨2, ty_api_Change, 6, xs.map cgE⟩]), [(0, sA b), (2, OP 0 0), (5, OP 1 0), (6, OP 2 0)]⟩ = r) := by
    intro hR
    rw [hR] at hr2
    dsimp only at hr2
    by_cases he : e = 0
    rotate_left
    · have he' : ¬ (e : Int) = 0 := by omega
      rw [if_pos he] at hr2
      rw [hr2, decX, msZ_it]
      simp (config := {maxSteps := 4000000, implicitDefEqProofs := false}) (disch := omega) only [go_sem, ↓reduceIte, Nat.reduceAdd, Nat.reduceSub, Nat.reduceMul, Nat.reduceLeDiff, Nat.reduceLT, Int.reduceEq, Int.reduceNe, Int.reduceLT, Int.reduceLE, Int.reduceAdd, Int.reduceSub, Int.reduceMul, Int.reduceNeg, Int.reduceToNat, reduceCtorEq, Nat.reduceEqDiff, Nat.reduceBEq, Nat.reduceGT, hkx, he', hxs, b0_Msg, zms_sete, u_eqE, plenumref28_Decode_r4_eq, plenumref28_Decode_r3_eq, plenumref28_Decode_r2_eq, plenumref28_Decode_r1_eq]
    have he' : (e : Int) = 0 := by omega
    rw [if_neg (by omega)] at hr2
    by_cases h1 : va0 = 0
    · have h1' : (va0 : Int) = 0 := by omega
      rw [if_pos h1'] at hr2
      rw [hr2, decX, msZ_it]
      simp (config := {maxSteps := 4000000, implicitDefEqProofs := false}) (disch := omega) only [go_sem, ↓reduceIte, Nat.reduceAdd, Nat.reduceSub, Nat.reduceMul, Nat.reduceLeDiff, Nat.reduceLT, Int.reduceEq, Int.reduceNe, Int.reduceLT, Int.reduceLE, Int.reduceAdd, Int.reduceSub, Int.reduceMul, Int.reduceNeg, Int.reduceToNat, reduceCtorEq, Nat.reduceEqDiff, Nat.reduceBEq, Nat.reduceGT, hkx, he', h1', hxs, b0_Msg, zms_sete, u_eqE, plenumref28_Decode_r4_eq, plenumref28_Decode_r3_eq, plenumref28_Decode_r2_eq, plenumref28_Decode_r1_eq]
    have h1' : ¬ (va0 : Int) = 0 := by omega
    rw [if_neg h1'] at hr2
    by_cases h2 : c < b.length
    · have h2' : (c : Int) < (b.length : Int) := by omega
      rw [if_pos h2] at hr2
      rw [hr2, decX, msZ_it]
      simp (config := {maxSteps := 4000000, implicitDefEqProofs := false}) (disch := omega) only [go_sem, ↓reduceIte, Nat.reduceAdd, Nat.reduceSub, Nat.reduceMul, Nat.reduceLeDiff, Nat.reduceLT, Int.reduceEq, Int.reduceNe, Int.reduceLT, Int.reduceLE, Int.reduceAdd, Int.reduceSub, Int.reduceMul, Int.reduceNeg, Int.reduceToNat, reduceCtorEq, Nat.reduceEqDiff, Nat.reduceBEq, Nat.reduceGT, hkx, he', h1', h2', hxs, b0_Msg, zms_sete, u_eqE, plenumref28_Decode_r4_eq, plenumref28_Decode_r3_eq, plenumref28_Decode_r2_eq, plenumref28_Decode_r1_eq]
    · have h2' : ¬ (c : Int) < (b.length : Int) := by omega
      rw [if_neg h2] at hr2
      rw [hr2, decX, msC_it]
      simp (config := {maxSteps := 4000000, implicitDefEqProofs := false}) (disch := omega) only [go_sem, ↓reduceIte, Nat.reduceAdd, Nat.reduceSub, Nat.reduceMul, Nat.reduceLeDiff, Nat.reduceLT, Int.reduceEq, Int.reduceNe, Int.reduceLT, Int.reduceLE, Int.reduceAdd, Int.reduceSub, Int.reduceMul, Int.reduceNeg, Int.reduceToNat, reduceCtorEq, Nat.reduceEqDiff, Nat.reduceBEq, Nat.reduceGT, hkx, he', h1', h2', hxs, b0_Msg, zms_sete, u_eqE, plenumref28_Decode_r4_eq, plenumref28_Decode_r3_eq, plenumref28_Decode_r2_eq, plenumref28_Decode_r1_eq]
  rw [plenumref28_Decode_b1_eq]
  by_cases hlt : k < va7
  rotate_left
  · have hlt' : ¬ (k : Int) < (va7 : Int) := by omega
    rw [show va7 - k = 0 by omega] at hJ
    have hJ2 : (xs ++ [], (c, e)) = R := hJ
    rw [List.append_nil] at hJ2
    simp (config := {maxSteps := 4000000, implicitDefEqProofs := false}) (disch := omega) only [go_sem, ↓reduceIte, Nat.reduceAdd, Nat.reduceSub, Nat.reduceMul, Nat.reduceLeDiff, Nat.reduceLT, Int.reduceEq, Int.reduceNe, Int.reduceLT, Int.reduceLE, Int.reduceAdd, Int.reduceSub, Int.reduceMul, Int.reduceNeg, Int.reduceToNat, reduceCtorEq, Nat.reduceEqDiff, Nat.reduceBEq, Nat.reduceGT, hlt', plenumref28_Decode_r4_eq, plenumref28_Decode_r3_eq, plenumref28_Decode_r2_eq, plenumref28_Decode_r1_eq]
    exact done hJ2.symm
  have hlt' : (k : Int) < (va7 : Int) := by omega
  rw [show va7 - k = (va7 - (k + 1)) + 1 by omega] at hJ
  unfold loopT at hJ
  dsimp only at hJ
  by_cases he : e = 0
  rotate_left
  · have he' : ¬ (e : Int) = 0 := by omega
    rw [if_neg he] at hJ
    have hJ2 : (xs ++ [], (c, e)) = R := hJ
    rw [List.append_nil] at hJ2
    simp (config := {maxSteps := 4000000, implicitDefEqProofs := false}) (disch := omega) only [go_sem, ↓reduceIte, Nat.reduceAdd, Nat.reduceSub, Nat.reduceMul, Nat.reduceLeDiff, Nat.reduceLT, Int.reduceEq, Int.reduceNe, Int.reduceLT, Int.reduceLE, Int.reduceAdd, Int.reduceSub, Int.reduceMul, Int.reduceNeg, Int.reduceToNat, reduceCtorEq, Nat.reduceEqDiff, Nat.reduceBEq, Nat.reduceGT, hlt', he', plenumref28_Decode_r4_eq, plenumref28_Decode_r3_eq, plenumref28_Decode_r2_eq, plenumref28_Decode_r1_eq]
    exact done hJ2.symm
  clear done hr2
  subst he
  rw [if_pos rfl] at hJ
  have hq := tchange_s (P0 := ⟨1, ty_api_Msg, 0, zc_api_Msg⟩) (M := ⟨1, ty_api_Msg, 0, [nA ((va0 : Nat) : Int), nA ((va1 : Nat) : Int), nA va2, nA va3, nA va4, sA va5, SL (va6.map smE), OW 3 xs.length]⟩) (Rw := ⟨2, ty_api_Change, 6, xs.map cgE⟩) (t := ty_plenumref01_Take) m (c, 0) (fun n _ => rfl) (fun n hn => by
    simp only [ltO_o, List.all_cons, List.all_nil, tA_nA, tA_sA, tA_SL, tA_OW, Bool.true_and, Bool.and_true]; exact decide_eq_true (by omega)) (fun n _ => by simp only [ltO_r, hxs]) hb hc hm
  have hi := changeT_in b (c, 0) hc
  rcases hS : changeT b (c, 0) with ⟨v, c2, e2⟩
  rw [hS] at hq hi hJ
  dsimp only at hq hi hJ
  simp only [Int.cast_ofNat_Int] at hq
  have step := hkc ⟨(k + 1, xs ++ [v], (c2, e2)), by dsimp only; omega, by simp [hxl], hi, by dsimp only; rw [List.append_assoc]; exact hJ⟩ (by dsimp only; omega)
  have hroom : xs.length + 1 ≤ 34359738368 := by omega
  simp only [List.map_append, List.map_cons, List.map_nil, List.length_append, List.length_cons, List.length_nil, Nat.zero_add, cg_it] at step
  simp (config := {maxSteps := 4000000, implicitDefEqProofs := false}) (disch := omega) only [go_sem, ↓reduceIte, Nat.reduceAdd, Nat.reduceSub, Nat.reduceMul, Nat.reduceLeDiff, Nat.reduceLT, Int.reduceEq, Int.reduceNe, Int.reduceLT, Int.reduceLE, Int.reduceAdd, Int.reduceSub, Int.reduceMul, Int.reduceNeg, Int.reduceToNat, reduceCtorEq, Nat.reduceEqDiff, Nat.reduceBEq, Nat.reduceGT, hlt', hq, zms_lt1', hxs, hroom, u_eqE, w_i64, plenumref28_Decode_r4_eq, plenumref28_Decode_r3_eq, plenumref28_Decode_r2_eq, plenumref28_Decode_r1_eq]
  exact step
end
end Go.Proofs.Ytbdbmfifclmpcaa

namespace Go.Proofs.Ytbdbmfifclmpcaa
open Go.RowKit
set_option linter.unusedVariables false
noncomputable abbrev sltK (T : Tm) (l : List Tmp) : List AV := List.rec (motive := fun _ => List AV) [] (fun t _ ih => slotK T t :: ih) l
theorem sltK_eq (T : Tm) : ∀ l, sltK T l = l.map (get T)
  | [] => rfl
  | t :: r => by
    have ih := sltK_eq T r
    show slotK T t :: sltK T r = get T t :: r.map (get T)
    rw [ih, slotK_eq]
noncomputable abbrev sltFK (rs : List Tmp) : KO (AV × List AObj) := fun e s => match e with
  | .normal => some (TU (sltK s.T rs), s.H)
  | .ret => some (TU (sltK s.T rs), s.H)
  | .panic ch => chE ch fun u => some (TU (PN u :: sltK s.T rs), s.H)
  | _ => none
theorem sltX (P : Program) (G : Gl) (E : Env) (M : Nat) (N : FS) (c : Code) (h : Hint) (s : ASt) (rs : List Tmp) : exec P G E M N c h s (sltFK rs) = execK P G E M N c h s (sltFK rs) := (execK_eq c h s _).symm
section
variable {P : Program} {G : Gl} {E : Env} {M n : Nat} {H : List AObj}
noncomputable abbrev orwFK (P : Program) (n : Nat) (rs : List ResultVar) : KO (AV × List AObj) := fun e s => match e with
  | .normal => resEK P s.H s.T rs fun ds => openK s.H (oneOf ds)
  | .ret => resEK P s.H s.T rs fun ds => openK s.H (oneOf ds)
  | _ => none
theorem orwX (P : Program) (G : Gl) (E : Env) (M : Nat) (N : FS) (n : Nat) (c : Code) (h : Hint) (s : ASt) (rs : List ResultVar) : exec P G E M N c h s (orwFK P n rs) = execK P G E M N c h s (orwFK P n rs) := (execK_eq c h s _).symm
theorem orw_ok {N : Nat} (hm : P.follows .mixedOrders = true) (hE : EnvOk P G E) {f : FuncId} {fn : Func} {c : Code} {args : List AV} (hf : P.funcs[f]? = some fn) (hb : fn.body = some c) (hc : callIs P f = true) (rs : List ResultVar) (hrs : fn.results.toList = rs) (hN : fn.ntmps = N) (hargs : args.length ≤ N) (h : Hint)
    {X : AV} {H' : List AObj} (hx : exec P G E M (F0 N) c h ⟨H, argsT 0 args⟩ (orwFK P n rs) = some (X, H')) : AC P G f args H (Is X H') := by
  have key := AWp.len (exec_ok (n := H.length) hm hE c h ⟨H, argsT 0 args⟩ _ (Nat.le_refl _) hx) (Nat.le_refl _)
  have fin : ∀ s : ASt, (resEK P s.H s.T rs fun ds => openK s.H (oneOf ds)) = some (X, H') → H.length ≤ s.H.length →
      resC P s.H s.T rs fun ds => ∃ X' H'', (X' = oneOf ds ∨ X' = ro s.H (oneOf ds)) ∧ HLe s.H H'' ∧ H''.all (ltO H''.length) = true ∧ H.length ≤ H''.length ∧ ltT H''.length X' = true ∧ Is X H' X' H'' := by
    intro s q hl
    rw [resEK_eq] at q
    refine resC_mono (fun ds w => ?_) (resE_ok q)
    obtain ⟨h1, h2⟩ := whenE_some w
    simp only [Bool.and_eq_true] at h1
    cases h2
    exact ⟨_, _, .inl rfl, HLe.refl _, h1.1, hl, h1.2, rfl, rfl⟩
  refine ac_of_wpC hf hb hc rs hrs N hN hargs (AWp.mono key fun e s q => ?_)
  obtain ⟨q, hl⟩ := q
  cases e with
  | normal => exact fin s q hl
  | ret => exact fin s q hl
  | exit id => cases q
  | goto l => cases q
  | panic ch => cases q
  | outgrown => cases q
end
end Go.Proofs.Ytbdbmfifclmpcaa

namespace Go.Proofs.Ytbdbmfifclmpcaa
open Go.RowKit
set_option linter.unusedVariables false
set_option maxRecDepth 100000
def ty_wire_reader : TypeId := 50
def zc_wire_reader : List AV := [(V (.slice none 0 0)), (V (.int .i64 0))]
def pl_wire_reader : List (Nat × Nat) := [(0, 1), (1, 1)]
noncomputable def wire_DecodeR_c : Code := (endC 2 ((Try.f9.body).getD .skip))
def wire_DecodeR_h : Hint := (.two .n (.two .n (.two .n (.two .n (.join [2, 3, 4] (.one (.two .n (.two .n (.two .n (.two .n .n))))) (.two .n .n))))))
noncomputable def wire_DecodeR_env (m : Nat) : Env := [(22, .pan (wire_reader_num_t m)), (23, .pan (wire_reader_party_t m)), (24, .pan (wire_reader_any_t m)), (25, .pan (wire_reader_text_t m)), (26, .pan (wire_some_Stmt_t m)), (28, .pan (wire_some_Change_t m))]
noncomputable abbrev wire_DecodeR_fin (n0 : Nat) : KO (AV × List AObj) := sltFK [2, 3, 4]
noncomputable def wire_DecodeR_r1 (m : Nat) (D : List Deferred) (n0k : Nat) (s : ASt) : RO := joinW Try.prog GG (wire_DecodeR_env m) m ⟨54, D⟩ (cdR (cdR (cdR (cdR (cdR wire_DecodeR_c))))) wire_DecodeR_h.r.r.r.r.r s (wire_DecodeR_fin n0k)
noncomputable def wire_DecodeR (m : Nat) (D : List Deferred) (t0 t2 t3 t4 : AV) (H : List AObj) : RO := exec Try.prog GG (wire_DecodeR_env m) m ⟨54, D⟩ wire_DecodeR_c wire_DecodeR_h ⟨H, [(0, t0), (2, t2), (3, t3), (4, t4)]⟩ (wire_DecodeR_fin H.length)
theorem wire_DecodeR_r1_eq (m : Nat) (D : List Deferred) (n0k : Nat) (H : List AObj) (t2 t3 t4 : AV) : wire_DecodeR_r1 m D n0k ⟨H, [(2, t2), (3, t3), (4, t4)]⟩ =
  loadE 10 H t2 fun t53 =>
  storeE 10 H t2 t53 fun H2 =>
  storeE 1 H2 t3 (V (.int .i64 0)) fun H3 =>
  storeE 1 H3 t4 (V (.int .i64 0)) fun H4 =>
  some (TU [t2, t3, t4], H4) := by
  refine (joinW_eq Try.prog GG (wire_DecodeR_env m) m ⟨54, D⟩ (cdR (cdR (cdR (cdR (cdR wire_DecodeR_c))))) wire_DecodeR_h.r.r.r.r.r ⟨H, [(2, t2), (3, t3), (4, t4)]⟩ (wire_DecodeR_fin n0k)).trans ?_
  kernel_rfl
theorem wire_DecodeR_eq (m : Nat) (D : List Deferred) (t0 t2 t3 t4 : AV) (H : List AObj) : wire_DecodeR m D t0 t2 t3 t4 H =
  buildE (some pl_wire_reader) (some zc_wire_reader) [(0, t0)] fun t8 =>
  boxE ty_wire_reader H t8 fun t9 H2 =>
  panE (wire_reader_num m (ro H2 t9) (V (.int .i64 10)) H2) (fun t11 H3 =>
  panE (wire_reader_party m (ro H3 t9) H3) (fun t13 H4 =>
  panE (wire_reader_any m (ro H4 t9) H4) (fun t15 H5 =>
  panE (wire_reader_any m (ro H5 t9) H5) (fun t17 H6 =>
  panE (wire_reader_any m (ro H6 t9) H6) (fun t19 H7 =>
  panE (wire_reader_text m (ro H7 t9) H7) (fun t21 H8 =>
  buildE (some pl_api_Msg) (some zc_api_Msg) [(0, t11), (1, t13), (2, t15), (3, t17), (4, t19), (5, t21)] fun t22 =>
  storeE 10 H8 t2 t22 fun H9 =>
  whenE (([t9] : List AV).all cap0) (
  panE (wire_some_Stmt m (ro H9 t9) (ro H9 (CL (.func 27) 1 [t9])) H9) (fun t26 H10 =>
  fieldE (some (6, 1)) t2 fun t27 =>
  storeE 1 H10 t27 t26 fun H11 =>
  whenE (([t9] : List AV).all cap0) (
  panE (wire_some_Change m (ro H11 t9) (ro H11 (CL (.func 29) 1 [t9])) H11) (fun t31 H12 =>
  fieldE (some (7, 1)) t2 fun t32 =>
  storeE 1 H12 t32 t31 fun H13 =>
  fieldE (some (0, 1)) t2 fun t34 =>
  loadE 1 H13 t34 fun t35 =>
  binE none false false .eql t35 (V (.int .i64 0)) fun t36 =>
  condE t36 (
   buildE (some pl_wire_no) (some zc_wire_no) [(0, (V (.int .i64 3))), (1, (V (.int .i64 0)))] fun t37 =>
   whenE true (ifE 47 t37 fun t38 =>
   panicE t38 H13 fun u1 H14 => some (TU [PN u1, t2, t3, t4], H14))) (
   nilE t9 fun t41 =>
   fieldE (some (1, 1)) t41 fun t42 =>
   loadE 1 H13 t42 fun t43 =>
   lenE false true H13 t0 fun t45 =>
   binE none false false .lss t43 t45 fun t46 =>
   condE t46 (
    nilE t9 fun t48 =>
    fieldE (some (1, 1)) t48 fun t49 =>
    loadE 1 H13 t49 fun t50 =>
    buildE (some pl_wire_no) (some zc_wire_no) [(0, (V (.int .i64 7))), (1, t50)] fun t51 =>
    whenE true (ifE 47 t51 fun t52 =>
    panicE t52 H13 fun u1 H14 => some (TU [PN u1, t2, t3, t4], H14))) (
    wire_DecodeR_r1 m D H.length ⟨H13, [(2, t2), (3, t3), (4, t4)]⟩))) (fun u1 H12 => some (TU [PN u1, t2, t3, t4], H12)))) (fun u1 H10 => some (TU [PN u1, t2, t3, t4], H10)))) (fun u1 H8 => some (TU [PN u1, t2, t3, t4], H8))) (fun u1 H7 => some (TU [PN u1, t2, t3, t4], H7))) (fun u1 H6 => some (TU [PN u1, t2, t3, t4], H6))) (fun u1 H5 => some (TU [PN u1, t2, t3, t4], H5))) (fun u1 H4 => some (TU [PN u1, t2, t3, t4], H4))) (fun u1 H3 => some (TU [PN u1, t2, t3, t4], H3)) := by
  refine (sltX Try.prog GG (wire_DecodeR_env m) m ⟨54, D⟩ wire_DecodeR_c wire_DecodeR_h ⟨H, [(0, t0), (2, t2), (3, t3), (4, t4)]⟩ [2, 3, 4]).trans ?_
  kernel_rfl
theorem wire_DecodeR_hE (m : Nat) : EnvOk Try.prog GG (wire_DecodeR_env m) := (by
    intro f e h
    simp only [wire_DecodeR_env, Prod.mk.injEq, List.mem_cons, List.not_mem_nil, or_false] at h
    rcases h with ⟨rfl, rfl⟩ | ⟨rfl, rfl⟩ | ⟨rfl, rfl⟩ | ⟨rfl, rfl⟩ | ⟨rfl, rfl⟩ | ⟨rfl, rfl⟩
    · exact wire_reader_num_ok m
    · exact wire_reader_party_ok m
    · exact wire_reader_any_ok m
    · exact wire_reader_text_ok m
    · exact wire_some_Stmt_ok m
    · exact wire_some_Change_ok m)
end Go.Proofs.Ytbdbmfifclmpcaa

namespace Go.Proofs.Ytbdbmfifclmpcaa
open Go.RowKit
set_option linter.unusedVariables false
set_option linter.unusedSimpArgs false
set_option maxRecDepth 20000
attribute [local go_sem] Nat.zero_add Nat.add_zero Nat.mul_one Int.toNat_natCast Int.natCast_zero Int.cast_ofNat_Int or_false false_or or_true true_or Nat.sub_zero Int.natCast_nonneg Int.toNat_zero Bool.true_and Bool.and_true Bool.false_and Bool.and_false Bool.true_or Bool.or_true Bool.false_or Bool.or_false Bool.not_true Bool.not_false Bool.not_not true_and and_true false_and and_false not_true_eq_false not_false_eq_true eq_self decide_true decide_false ne_eq implies_true forall_const true_implies false_implies Bool.true_eq_false Bool.false_eq_true List.map_cons List.map_nil List.all_cons List.all_nil List.length_cons List.length_nil List.length_map List.length_append List.nil_append List.cons_append List.set_cons_zero List.set_cons_succ List.set_nil List.drop_zero List.drop_succ_cons List.drop_nil List.take_zero List.take_succ_cons List.take_nil Option.map_some Option.map_none Option.isSome_some List.all_append List.all_map Function.comp_def decide_eq_true_eq Bool.and_eq_true beq_self_eq_true or_self and_self ite_true ite_false Nat.le_refl Bool.not_eq_true decide_not Bool.not_eq_true' decide_eq_false_iff_not Bool.not_eq_false Bool.or_eq_true if_true if_false ite_self u_roF u_cvF u_cvC u_ceT u_ceK u_appS sm_it sm_len sm_sure sm_ltA sm_lt1 sm_all1 sm_ro sm_take sm_sl sm_set sm_noT sm_fr sm_st_fr sm_set_fr sm_kd sm_st_kd sm_set_kd sm_vw sm_st_vw sm_set_vw sm_sq sm_st_sq sm_set_sq sm_tm sm_st_tm sm_set_tm zsm_len zsm_sure zsm_lt1 zsm_sl zsm_ro zsm_setz zsm_set zsm_setr zsm_take sms_ltA sms_len ce_it ce_len ce_sure ce_ltA ce_lt1 ce_all1 ce_ro ce_take ce_sl ce_set ce_noT ce_sq ce_st_sq ce_set_sq ce_vw ce_st_vw ce_set_vw ce_tm ce_st_tm ce_set_tm ce_body ce_st_body ce_set_body ce_vs ce_st_vs ce_set_vs zce_len zce_sure zce_lt1 zce_sl zce_ro zce_setz zce_set zce_setr zce_take ces_ltA ces_len cg_it cg_len cg_sure cg_ltA cg_lt1 cg_all1 cg_ro cg_take cg_sl cg_set cg_noT cg_fr cg_st_fr cg_set_fr cg_vw cg_st_vw cg_set_vw cg_st cg_st_st cg_set_st cg_rt cg_st_rt cg_set_rt cg_pf cg_st_pf cg_set_pf cg_cs cg_st_cs cg_set_cs zcg_len zcg_sure zcg_lt1 zcg_sl zcg_ro zcg_setz zcg_set zcg_setr zcg_take cgs_ltA cgs_len ms_it ms_len ms_sure ms_ltA ms_lt1 ms_all1 ms_ro ms_take ms_sl ms_set ms_noT ms_kd ms_st_kd ms_set_kd ms_fr ms_st_fr ms_set_fr ms_vw ms_st_vw ms_set_vw ms_sq ms_st_sq ms_set_sq ms_tm ms_st_tm ms_set_tm ms_body ms_st_body ms_set_body ms_vs ms_st_vs ms_set_vs ms_chs ms_st_chs ms_set_chs zms_len zms_sure zms_lt1 zms_sl zms_ro zms_setz zms_set zms_setr zms_take mss_ltA mss_len natInt u_nthM u_bz u_bi1 u_bi2 u_bi3 u_bi4 u_bi5 u_bi6 u_bi7 bC_length bc_ltA bc_one nthOL ltO_o ltO_r takeL bC_append u_addS List.take_length u_panV u_panA u_panS u_panT u_panW u_panP u_panic u_ifV u_ifA2 u_panKE prO_ok prO_no noV_it zn_b Int.natCast_add u_bcv
section
variable {b : List UInt8} {tE tA : TypeId}
def outR (b : List UInt8) : RdO Ms := (msgR b).bind fun x a => if x.kd = 0 then .no 3 0 else if a < b.length then .no 7 a else .ok x a
def decW (b : List UInt8) : Ms × Nat × Nat := match outR b with | .ok x _ => (x, 0, 0) | .no e a => (Ms.zero, e, a)
def endR (c0 : List AV) (tE tA : TypeId) (H3 : List AObj) : RdO Ms → RO
  | .ok x _ => some (TU [OP 0 0, OP 1 0, OP 2 0], ⟨1, ty_api_Msg, 0, msC x⟩ :: ⟨1, tE, 0, [nA 0]⟩ :: ⟨1, tA, 0, [nA 0]⟩ :: H3)
  | .no e a => some (TU [PN (noV e a), OP 0 0, OP 1 0, OP 2 0], ⟨1, ty_api_Msg, 0, c0⟩ :: ⟨1, tE, 0, [nA 0]⟩ :: ⟨1, tA, 0, [nA 0]⟩ :: H3)
theorem endR_ok {c0 : List AV} {H3 : List AObj} {x : Ms} {a : Nat} : endR c0 tE tA H3 (.ok x a) = some (TU [OP 0 0, OP 1 0, OP 2 0], ⟨1, ty_api_Msg, 0, msC x⟩ :: ⟨1, tE, 0, [nA 0]⟩ :: ⟨1, tA, 0, [nA 0]⟩ :: H3) := _root_.id rfl
theorem endR_no {c0 : List AV} {H3 : List AObj} {e a : Nat} : endR c0 tE tA H3 (.no e a) = some (TU [PN (noV e a), OP 0 0, OP 1 0, OP 2 0], ⟨1, ty_api_Msg, 0, c0⟩ :: ⟨1, tE, 0, [nA 0]⟩ :: ⟨1, tA, 0, [nA 0]⟩ :: H3) := _root_.id rfl
theorem brd_b {R : Type} {K1 : AV → Option R} {x : List AV} : buildE (some pl_wire_reader) (some zc_wire_reader) [(0, SL x)] K1 = K1 (.agg [SL x, nA 0]) := _root_.id rfl
theorem bms_b {R : Type} {K1 : AV → Option R} {x0 x1 x2 x3 x4 : Int} {x5 : List UInt8} : buildE (some pl_api_Msg) (some zc_api_Msg) [(0, nA x0), (1, nA x1), (2, nA x2), (3, nA x3), (4, nA x4), (5, sA x5)] K1 = K1 (.agg [nA x0, nA x1, nA x2, nA x3, nA x4, sA x5, V (.slice none 0 0), V (.slice none 0 0)]) := _root_.id rfl
theorem decodeR_s (m : Nat) (D : List Deferred) (hb : b.length ≤ 34359738368) (hm : 70 < m) : ∃ c0 R3, wire_DecodeR m D (SL (bC b)) (OP 0 0) (OP 1 0) (OP 2 0) [⟨1, ty_api_Msg, 0, zc_api_Msg⟩, ⟨1, tE, 0, [nA 0]⟩, ⟨1, tA, 0, [nA 0]⟩] = endR c0 tE tA [R3] (outR b) ∧ c0.length = 8 := by
  have ha : 0 ≤ b.length := Nat.zero_le _
  rw [wire_DecodeR_eq]
  have q0 := num_sR (X0 := ⟨1, ty_api_Msg, 0, zc_api_Msg⟩) (X1 := ⟨1, tE, 0, [nA 0]⟩) (X2 := ⟨1, tA, 0, [nA 0]⟩) (t := ty_wire_reader) (Y := []) m 10 0 (fun n => rfl) (fun n => rfl) (fun n => rfl) (fun n => rfl) hb ha (by omega)
  simp only [RO3_it, Int.cast_ofNat_Int, Int.natCast_zero] at q0
  cases r0 : numR b 10 0 with
  | no e c =>
    have r0' : intR b 10 0 = .no e c := by unfold intR; rw [r0]; rfl
    have hO : outR b = .no e c := by simp only [outR, msgR, RdO.bind, r0']
    rw [r0] at q0
    simp only [RO3_it, prO_no] at q0
    refine ⟨zc_api_Msg, ⟨1, ty_wire_reader, 0, [SL (bC b), nA c]⟩, ?_, rfl⟩
    rw [hO, endR_no]
    simp (config := {maxSteps := 4000000, implicitDefEqProofs := false}) (disch := omega) only [go_sem, ↓reduceIte, Nat.reduceAdd, Nat.reduceSub, Nat.reduceMul, Nat.reduceLeDiff, Nat.reduceLT, Int.reduceEq, Int.reduceNe, Int.reduceLT, Int.reduceLE, Int.reduceAdd, Int.reduceSub, Int.reduceMul, Int.reduceNeg, Int.reduceToNat, reduceCtorEq, Nat.reduceEqDiff, Nat.reduceBEq, Nat.reduceGT, q0, brd_b, bms_b, zms_sete, ro_cl]
  | ok x0 a0 =>
    have r0' : intR b 10 0 = .ok (x0 : Int) a0 := by unfold intR; rw [r0]; rfl
    have ha0 : a0 ≤ b.length := get_in (numR_in ha) r0
    rw [r0] at q0
    simp only [RO3_it, prO_ok] at q0
    have q1 := party_sR (X0 := ⟨1, ty_api_Msg, 0, zc_api_Msg⟩) (X1 := ⟨1, tE, 0, [nA 0]⟩) (X2 := ⟨1, tA, 0, [nA 0]⟩) (t := ty_wire_reader) (Y := []) m a0 (fun n => rfl) (fun n => rfl) (fun n => rfl) (fun n => rfl) hb ha0
    cases r1 : intR b 63 a0 with
    | no e c =>
      have hO : outR b = .no e c := by simp only [outR, msgR, RdO.bind, r0', r1]
      rw [r1] at q1
      simp only [RO3_it, prO_no] at q1
      refine ⟨zc_api_Msg, ⟨1, ty_wire_reader, 0, [SL (bC b), nA c]⟩, ?_, rfl⟩
      rw [hO, endR_no]
      simp (config := {maxSteps := 4000000, implicitDefEqProofs := false}) (disch := omega) only [go_sem, ↓reduceIte, Nat.reduceAdd, Nat.reduceSub, Nat.reduceMul, Nat.reduceLeDiff, Nat.reduceLT, Int.reduceEq, Int.reduceNe, Int.reduceLT, Int.reduceLE, Int.reduceAdd, Int.reduceSub, Int.reduceMul, Int.reduceNeg, Int.reduceToNat, reduceCtorEq, Nat.reduceEqDiff, Nat.reduceBEq, Nat.reduceGT, q0, q1, brd_b, bms_b, zms_sete, ro_cl]
    | ok x1 a1 =>
      have ha1 : a1 ≤ b.length := get_in (intR_in ha0) r1
      rw [r1] at q1
      simp only [RO3_it, prO_ok] at q1
      have q2 := any_sR (X0 := ⟨1, ty_api_Msg, 0, zc_api_Msg⟩) (X1 := ⟨1, tE, 0, [nA 0]⟩) (X2 := ⟨1, tA, 0, [nA 0]⟩) (t := ty_wire_reader) (Y := []) m a1 (fun n => rfl) (fun n => rfl) (fun n => rfl) (fun n => rfl) hb ha1
      cases r2 : intR b 2147483647 a1 with
      | no e c =>
        have hO : outR b = .no e c := by simp only [outR, msgR, RdO.bind, r0', r1, r2]
        rw [r2] at q2
        simp only [RO3_it, prO_no] at q2
        refine ⟨zc_api_Msg, ⟨1, ty_wire_reader, 0, [SL (bC b), nA c]⟩, ?_, rfl⟩
        rw [hO, endR_no]
        simp (config := {maxSteps := 4000000, implicitDefEqProofs := false}) (disch := omega) only [go_sem, ↓reduceIte, Nat.reduceAdd, Nat.reduceSub, Nat.reduceMul, Nat.reduceLeDiff, Nat.reduceLT, Int.reduceEq, Int.reduceNe, Int.reduceLT, Int.reduceLE, Int.reduceAdd, Int.reduceSub, Int.reduceMul, Int.reduceNeg, Int.reduceToNat, reduceCtorEq, Nat.reduceEqDiff, Nat.reduceBEq, Nat.reduceGT, q0, q1, q2, brd_b, bms_b, zms_sete, ro_cl]
      | ok x2 a2 =>
        have ha2 : a2 ≤ b.length := get_in (intR_in ha1) r2
        rw [r2] at q2
        simp only [RO3_it, prO_ok] at q2
        have q3 := any_sR (X0 := ⟨1, ty_api_Msg, 0, zc_api_Msg⟩) (X1 := ⟨1, tE, 0, [nA 0]⟩) (X2 := ⟨1, tA, 0, [nA 0]⟩) (t := ty_wire_reader) (Y := []) m a2 (fun n => rfl) (fun n => rfl) (fun n => rfl) (fun n => rfl) hb ha2
        cases r3 : intR b 2147483647 a2 with
        | no e c =>
          have hO : outR b = .no e c := by simp only [outR, msgR, RdO.bind, r0', r1, r2, r3]
          rw [r3] at q3
          simp only [RO3_it, prO_no] at q3
          refine ⟨zc_api_Msg, ⟨1, ty_wire_reader, 0, [SL (bC b), nA c]⟩, ?_, rfl⟩
          rw [hO, endR_no]
          simp (config := {maxSteps := 4000000, implicitDefEqProofs := false}) (disch := omega) only [go_sem, ↓reduceIte, Nat.reduceAdd, Nat.reduceSub, Nat.reduceMul, Nat.reduceLeDiff, Nat.reduceLT, Int.reduceEq, Int.reduceNe, Int.reduceLT, Int.reduceLE, Int.reduceAdd, Int.reduceSub, Int.reduceMul, Int.reduceNeg, Int.reduceToNat, reduceCtorEq, Nat.reduceEqDiff, Nat.reduceBEq, Nat.reduceGT, q0, q1, q2, q3, brd_b, bms_b, zms_sete, ro_cl]
        | ok x3 a3 =>
          have ha3 : a3 ≤ b.length := get_in (intR_in ha2) r3
          rw [r3] at q3
          simp only [RO3_it, prO_ok] at q3
          have q4 := any_sR (X0 := ⟨1, ty_api_Msg, 0, zc_api_Msg⟩) (X1 := ⟨1, tE, 0, [nA 0]⟩) (X2 := ⟨1, tA, 0, [nA 0]⟩) (t := ty_wire_reader) (Y := []) m a3 (fun n => rfl) (fun n => rfl) (fun n => rfl) (fun n => rfl) hb ha3
          cases r4 : intR b 2147483647 a3 with
          | no e c =>
            have hO : outR b = .no e c := by simp only [outR, msgR, RdO.bind, r0', r1, r2, r3, r4]
            rw [r4] at q4
            simp only [RO3_it, prO_no] at q4
            refine ⟨zc_api_Msg, ⟨1, ty_wire_reader, 0, [SL (bC b), nA c]⟩, ?_, rfl⟩
            rw [hO, endR_no]
            simp (config := {maxSteps := 4000000, implicitDefEqProofs := false}) (disch := omega) only [go_sem, ↓reduceIte, Nat.reduceAdd, Nat.reduceSub, Nat.reduceMul, Nat.reduceLeDiff, Nat.reduceLT, Int.reduceEq, Int.reduceNe, Int.reduceLT, Int.reduceLE, Int.reduceAdd, Int.reduceSub, Int.reduceMul, Int.reduceNeg, Int.reduceToNat, reduceCtorEq, Nat.reduceEqDiff, Nat.reduceBEq, Nat.reduceGT, q0, q1, q2, q3, q4, brd_b, bms_b, zms_sete, ro_cl]
          | ok x4 a4 =>
            have ha4 : a4 ≤ b.length := get_in (intR_in ha3) r4
            rw [r4] at q4
            simp only [RO3_it, prO_ok] at q4
            have q5 := text_sR (X0 := ⟨1, ty_api_Msg, 0, zc_api_Msg⟩) (X1 := ⟨1, tE, 0, [nA 0]⟩) (X2 := ⟨1, tA, 0, [nA 0]⟩) (t := ty_wire_reader) (Y := []) m a4 (fun n => rfl) (fun n => rfl) (fun n => rfl) (fun n => rfl) hb ha4
            cases r5 : textR b a4 with
            | no e c =>
              have hO : outR b = .no e c := by simp only [outR, msgR, RdO.bind, r0', r1, r2, r3, r4, r5]
              rw [r5] at q5
              simp only [RO3_it, prO_no] at q5
              refine ⟨zc_api_Msg, ⟨1, ty_wire_reader, 0, [SL (bC b), nA c]⟩, ?_, rfl⟩
              rw [hO, endR_no]
              simp (config := {maxSteps := 4000000, implicitDefEqProofs := false}) (disch := omega) only [go_sem, ↓reduceIte, Nat.reduceAdd, Nat.reduceSub, Nat.reduceMul, Nat.reduceLeDiff, Nat.reduceLT, Int.reduceEq, Int.reduceNe, Int.reduceLT, Int.reduceLE, Int.reduceAdd, Int.reduceSub, Int.reduceMul, Int.reduceNeg, Int.reduceToNat, reduceCtorEq, Nat.reduceEqDiff, Nat.reduceBEq, Nat.reduceGT, q0, q1, q2, q3, q4, q5, brd_b, bms_b, zms_sete, ro_cl]
            | ok x5 a5 =>
              have ha5 : a5 ≤ b.length := get_in (textR_in ha4) r5
              rw [r5] at q5
              simp only [RO3_it, prO_ok] at q5
              have q6 := someStmt_sR (X0 := ⟨1, ty_api_Msg, 0, [nA ((x0 : Nat) : Int), nA x1, nA x2, nA x3, nA x4, sA x5, V (.slice none 0 0), V (.slice none 0 0)]⟩) (X1 := ⟨1, tE, 0, [nA 0]⟩) (X2 := ⟨1, tA, 0, [nA 0]⟩) (t := ty_wire_reader) (Y := []) m a5 (fun n => rfl) (fun n => rfl) (fun n => rfl) (fun n => rfl) hb ha5 hm
              cases r6 : someR b (stmtR b) a5 with
              | no e c =>
                have hO : outR b = .no e c := by simp only [outR, msgR, RdO.bind, r0', r1, r2, r3, r4, r5, r6]
                rw [r6] at q6
                simp only [RO3_it, prO_no] at q6
                refine ⟨[nA ((x0 : Nat) : Int), nA x1, nA x2, nA x3, nA x4, sA x5, V (.slice none 0 0), V (.slice none 0 0)], ⟨1, ty_wire_reader, 0, [SL (bC b), nA c]⟩, ?_, rfl⟩
                rw [hO, endR_no]
                simp (config := {maxSteps := 4000000, implicitDefEqProofs := false}) (disch := omega) only [go_sem, ↓reduceIte, Nat.reduceAdd, Nat.reduceSub, Nat.reduceMul, Nat.reduceLeDiff, Nat.reduceLT, Int.reduceEq, Int.reduceNe, Int.reduceLT, Int.reduceLE, Int.reduceAdd, Int.reduceSub, Int.reduceMul, Int.reduceNeg, Int.reduceToNat, reduceCtorEq, Nat.reduceEqDiff, Nat.reduceBEq, Nat.reduceGT, q0, q1, q2, q3, q4, q5, q6, brd_b, bms_b, zms_sete, ro_cl]
              | ok x6 a6 =>
                have ha6 : a6 ≤ b.length := get_in (someR_in (fun _ => stmtR_in) ha5) r6
                rw [r6] at q6
                simp only [RO3_it, prO_ok] at q6
                have q7 := someChange_sR (X0 := ⟨1, ty_api_Msg, 0, [nA ((x0 : Nat) : Int), nA x1, nA x2, nA x3, nA x4, sA x5, SL (x6.map smE), V (.slice none 0 0)]⟩) (X1 := ⟨1, tE, 0, [nA 0]⟩) (X2 := ⟨1, tA, 0, [nA 0]⟩) (t := ty_wire_reader) (Y := []) m a6 (fun n => rfl) (fun n => rfl) (fun n => rfl) (fun n => rfl) hb ha6 hm
                cases r7 : someR b (changeR b) a6 with
                | no e c =>
                  have hO : outR b = .no e c := by simp only [outR, msgR, RdO.bind, r0', r1, r2, r3, r4, r5, r6, r7]
                  rw [r7] at q7
                  simp only [RO3_it, prO_no] at q7
                  refine ⟨[nA ((x0 : Nat) : Int), nA x1, nA x2, nA x3, nA x4, sA x5, SL (x6.map smE), V (.slice none 0 0)], ⟨1, ty_wire_reader, 0, [SL (bC b), nA c]⟩, ?_, rfl⟩
                  rw [hO, endR_no]
                  simp (config := {maxSteps := 4000000, implicitDefEqProofs := false}) (disch := omega) only [go_sem, ↓reduceIte, Nat.reduceAdd, Nat.reduceSub, Nat.reduceMul, Nat.reduceLeDiff, Nat.reduceLT, Int.reduceEq, Int.reduceNe, Int.reduceLT, Int.reduceLE, Int.reduceAdd, Int.reduceSub, Int.reduceMul, Int.reduceNeg, Int.reduceToNat, reduceCtorEq, Nat.reduceEqDiff, Nat.reduceBEq, Nat.reduceGT, q0, q1, q2, q3, q4, q5, q6, q7, brd_b, bms_b, zms_sete, ro_cl]
                | ok x7 a7 =>
                  have ha7 : a7 ≤ b.length := get_in (someR_in (fun _ => changeR_in) ha6) r7
                  rw [r7] at q7
                  simp only [RO3_it, prO_ok] at q7
                  refine ⟨[nA ((x0 : Nat) : Int), nA x1, nA x2, nA x3, nA x4, sA x5, SL (x6.map smE), SL (x7.map cgE)], ⟨1, ty_wire_reader, 0, [SL (bC b), nA a7]⟩, ?_, rfl⟩
                  by_cases hk : x0 = 0
                  · have hk' : (x0 : Int) = 0 := by omega
                    have hO : outR b = .no 3 0 := by simp only [outR, msgR, RdO.bind, r0', r1, r2, r3, r4, r5, r6, r7]; rw [if_pos hk']
                    rw [hO, endR_no]
                    simp (config := {maxSteps := 4000000, implicitDefEqProofs := false}) (disch := omega) only [go_sem, ↓reduceIte, Nat.reduceAdd, Nat.reduceSub, Nat.reduceMul, Nat.reduceLeDiff, Nat.reduceLT, Int.reduceEq, Int.reduceNe, Int.reduceLT, Int.reduceLE, Int.reduceAdd, Int.reduceSub, Int.reduceMul, Int.reduceNeg, Int.reduceToNat, reduceCtorEq, Nat.reduceEqDiff, Nat.reduceBEq, Nat.reduceGT, q0, q1, q2, q3, q4, q5, q6, q7, brd_b, bms_b, zms_sete, ro_cl]
                    simp (config := {maxSteps := 4000000, implicitDefEqProofs := false}) (disch := omega) only [go_sem, ↓reduceIte, Nat.reduceAdd, Nat.reduceSub, Nat.reduceMul, Nat.reduceLeDiff, Nat.reduceLT, Int.reduceEq, Int.reduceNe, Int.reduceLT, Int.reduceLE, Int.reduceAdd, Int.reduceSub, Int.reduceMul, Int.reduceNeg, Int.reduceToNat, reduceCtorEq, Nat.reduceEqDiff, Nat.reduceBEq, Nat.reduceGT, hk']
                  have hk' : ¬ (x0 : Int) = 0 := by omega
                  by_cases hl : a7 < b.length
                  · have hl' : (a7 : Int) < (b.length : Int) := by omega
                    have hO : outR b = .no 7 a7 := by simp only [outR, msgR, RdO.bind, r0', r1, r2, r3, r4, r5, r6, r7]; rw [if_neg hk', if_pos hl]
                    rw [hO, endR_no]
                    simp (config := {maxSteps := 4000000, implicitDefEqProofs := false}) (disch := omega) only [go_sem, ↓reduceIte, Nat.reduceAdd, Nat.reduceSub, Nat.reduceMul, Nat.reduceLeDiff, Nat.reduceLT, Int.reduceEq, Int.reduceNe, Int.reduceLT, Int.reduceLE, Int.reduceAdd, Int.reduceSub, Int.reduceMul, Int.reduceNeg, Int.reduceToNat, reduceCtorEq, Nat.reduceEqDiff, Nat.reduceBEq, Nat.reduceGT, q0, q1, q2, q3, q4, q5, q6, q7, brd_b, bms_b, zms_sete, ro_cl, hk', hl']
                  have hl' : ¬ (a7 : Int) < (b.length : Int) := by omega
                  have hO : outR b = .ok ⟨x0, x1, x2, x3, x4, x5, x6, x7⟩ a7 := by simp only [outR, msgR, RdO.bind, r0', r1, r2, r3, r4, r5, r6, r7]; rw [if_neg hk', if_neg hl]
                  rw [hO, endR_ok, msC_it]
                  simp (config := {maxSteps := 4000000, implicitDefEqProofs := false}) (disch := omega) only [go_sem, ↓reduceIte, Nat.reduceAdd, Nat.reduceSub, Nat.reduceMul, Nat.reduceLeDiff, Nat.reduceLT, Int.reduceEq, Int.reduceNe, Int.reduceLT, Int.reduceLE, Int.reduceAdd, Int.reduceSub, Int.reduceMul, Int.reduceNeg, Int.reduceToNat, reduceCtorEq, Nat.reduceEqDiff, Nat.reduceBEq, Nat.reduceGT, q0, q1, q2, q3, q4, q5, q6, q7, brd_b, bms_b, zms_sete, ro_cl, hk', hl', wire_DecodeR_r1_eq]
end
end Go.Proofs.Ytbdbmfifclmpcaa

namespace Go.Proofs.Ytbdbmfifclmpcaa
open Go.RowKit
set_option linter.unusedVariables false
set_option maxRecDepth 100000
noncomputable def wire_DecodeX_c : Code := (cdR (cdL (endC 2 ((Try.f21.body).getD .skip))))
def wire_DecodeX_h : Hint := .n
noncomputable def wire_DecodeX_env (m : Nat) : Env := []
noncomputable abbrev wire_DecodeX_fin (n0 : Nat) : KO (AV × List AObj) := sltFK [0]
noncomputable def wire_DecodeX (m : Nat) (D : List Deferred) (t0 t1 t2 t4 : AV) (H : List AObj) : RO := exec Try.prog GG (wire_DecodeX_env m) m ⟨15, D⟩ wire_DecodeX_c wire_DecodeX_h ⟨H, [(0, t0), (1, t1), (2, t2), (4, t4)]⟩ (wire_DecodeX_fin H.length)
theorem wire_DecodeX_eq (m : Nat) (D : List Deferred) (t0 t1 t2 t4 : AV) (H : List AObj) : wire_DecodeX m D t0 t1 t2 t4 H =
  buildE (some pl_api_Msg) (some zc_api_Msg) [] fun t10 =>
  fieldE (some (0, 1)) t4 fun t11 =>
  loadE 1 H t11 fun t12 =>
  fieldE (some (1, 1)) t4 fun t13 =>
  loadE 1 H t13 fun t14 =>
  storeE 10 H t0 t10 fun H2 =>
  loadE 1 H2 t13 fun t8011 =>
  eqE t14 t8011 (
  loadE 1 H2 t11 fun t8012 =>
  eqE t12 t8012 (
  storeE 1 H2 t1 t12 fun H3 =>
  loadE 1 H3 t13 fun t8014 =>
  eqE t14 t8014 (
  storeE 1 H3 t2 t14 fun H4 =>
  some (TU [t0], H4)))) := by
  refine (sltX Try.prog GG (wire_DecodeX_env m) m ⟨15, D⟩ wire_DecodeX_c wire_DecodeX_h ⟨H, [(0, t0), (1, t1), (2, t2), (4, t4)]⟩ [0]).trans ?_
  kernel_rfl
theorem wire_DecodeX_hE (m : Nat) : EnvOk Try.prog GG (wire_DecodeX_env m) := (by intro f e h; cases h)
end Go.Proofs.Ytbdbmfifclmpcaa

namespace Go.Proofs.Ytbdbmfifclmpcaa
open Go.RowKit
set_option linter.unusedVariables false
set_option linter.unusedSimpArgs false
set_option maxRecDepth 20000
noncomputable def dC : Code := (Try.f9.body).getD .skip
theorem noE : EnvOk Try.prog GG [] := fun f e h => by cases h
def dD (p0 p1 p2 : Value) : Deferred := { target := .fn (.func 21) #[p0, p1, p2], args := #[] }
theorem dB {p0 p1 p2 : Value} {a : Act} {w : World} {Q : Exit → Act → World → Prop} (h2 : a.eval (.tmp 2) = p0) (h3 : a.eval (.tmp 3) = p1) (h4 : a.eval (.tmp 4) = p2) (hd : a.defers = []) (hs : a.tmps.size = 54)
    (hQ : ∀ v : Value, Q .normal { (a.put (some 6) v) with defers := [dD p0 p1 p2] } w) : (cdL (cdR dC)).wp Try.prog Q a w := by
  show (Code.region _ _ false).wp Try.prog Q a w
  refine wp_region_list ?_
  have hmf : ∀ (fn : Fn) (first cap : Array Value) (w : World), (Instr.makeFunc fn first cap).run Try.prog w = .ok (.func fn first cap) w := fun _ _ _ _ => rfl
  have h2' : a.tmps[2]?.getD undef = p0 := by rw [← h2]; simp [Act.eval]
  have h3' : a.tmps[3]?.getD undef = p1 := by rw [← h3]; simp [Act.eval]
  have h4' : a.tmps[4]?.getD undef = p2 := by rw [← h4]; simp [Act.eval]
  have hq := hQ (.func (.func 21) #[] #[p0, p1, p2])
  simp only [Act.put, dD] at hq
  simp [wpList, go_sem, Oper.wp, Oper.upon, execOp, hmf, h2', h3', h4', hs, hd, Region.wanted]
  have g2 : a.tmps[2]'(by omega) = p0 := by rw [← h2']; simp [hs]
  have g3 : a.tmps[3]'(by omega) = p1 := by rw [← h3']; simp [hs]
  have g4 : a.tmps[4]'(by omega) = p2 := by rw [← h4']; simp [hs]
  refine .inl (.inl ?_)
  rw [g2, g3, g4]
  exact hq
theorem catch_idle (p0 p1 p2 : Value) (w : World) :
    CallsD Try.prog 21 #[p0, p1, p2] .returning w fun e u' w' => e = .returned (.tuple #[]) ∧ u' = .returning ∧ w' = w := by
  refine callsD_of_wpS Try.func21 rfl fun c₀ cs hu => ?_
  apply wpS_seq
  apply wpS_region
  simp [wpOpsS, go_sem, recoverD, hu, Try.ntmps21, Exit.thenS]
  apply wpS_seq
  apply wpS_region
  simp [wpOpsS, go_sem, Exit.thenS]
  refine wpS_cond (t := false) (by simp [Act.eval]) ?_
  simp only [Bool.false_eq_true, if_false]
  refine wpS_of_wp (wp_skip ?_)
  cases c₀
  simp_all [bodyPostS, results, Try.results21]
theorem wpList_val {P : Program} {ops : Array Oper} {Q : Exit → Act → World → Prop} {o : Oper} {rest : List Oper} {a : Act} {w : World} (v : Value) (hg : o.guard = none) (hx : (execOp a.eval o).run P w = .ok (.value v) w) (h : wpList P ops Q rest (a.put o.dst v) w) : wpList P ops Q (o :: rest) a w := by
  unfold wpList
  rw [if_pos (by simp [Region.wanted, hg])]
  refine .inl ?_
  unfold Oper.wp
  rw [hx]
  exact h
theorem ud_no : (match Try.prog.underlying 47 with | some (.interface _) => false | some _ => true | none => false) = true := by kernel_rfl
theorem run_assert (x : Value) (w : World) : (Instr.typeAssert (.iface 47 x) 20 47 false).run Try.prog w = .ok x w := by
  have h := ud_no
  cases hd : Try.prog.underlying 47 with
  | none => rw [hd] at h; cases h
  | some d =>
    rw [hd] at h
    unfold Instr.typeAssert
    simp only [Sem.run_bind, run_underlying hd, Result.andThen_ok]
    cases d with
    | interface m => cases h
    | _ => simp [Sem.run_pure]
noncomputable def eC : Code := (Try.f21.body).getD .skip
noncomputable def oC (k : Nat) : List Oper := (match cdL (cdL (endC 2 eC)) with | .region _ ops _ => ops.toList | _ => []).drop k
def cZ : List AV := [nA 0, nA 0, nA 0, nA 0, nA 0, sA [], V (.slice none 0 0), V (.slice none 0 0)]
theorem setCells_cZ {c0 : List AV} (hc : c0.length = 8) : setCells c0 0 [nA 0, nA 0, nA 0, nA 0, nA 0, sA [], V (.slice none 0 0), V (.slice none 0 0)] = cZ := by
  match c0, hc with
  | [_, _, _, _, _, _, _, _], _ => rfl
attribute [local go_sem] Nat.zero_add Nat.add_zero Nat.mul_one Int.toNat_natCast Int.natCast_zero Int.cast_ofNat_Int or_false false_or or_true true_or Nat.sub_zero Int.natCast_nonneg Int.toNat_zero Bool.true_and Bool.and_true Bool.false_and Bool.and_false Bool.true_or Bool.or_true Bool.false_or Bool.or_false Bool.not_true Bool.not_false Bool.not_not true_and and_true false_and and_false not_true_eq_false not_false_eq_true eq_self decide_true decide_false ne_eq implies_true forall_const true_implies false_implies Bool.true_eq_false Bool.false_eq_true List.map_cons List.map_nil List.all_cons List.all_nil List.length_cons List.length_nil List.length_map List.length_append List.nil_append List.cons_append List.set_cons_zero List.set_cons_succ List.set_nil List.drop_zero List.drop_succ_cons List.drop_nil List.take_zero List.take_succ_cons List.take_nil Option.map_some Option.map_none Option.isSome_some List.all_append List.all_map Function.comp_def decide_eq_true_eq Bool.and_eq_true beq_self_eq_true or_self and_self ite_true ite_false Nat.le_refl Bool.not_eq_true decide_not Bool.not_eq_true' decide_eq_false_iff_not Bool.not_eq_false Bool.or_eq_true if_true if_false ite_self u_roF u_cvF u_cvC u_ceT u_ceK u_appS sm_it sm_len sm_sure sm_ltA sm_lt1 sm_all1 sm_ro sm_take sm_sl sm_set sm_noT sm_fr sm_st_fr sm_set_fr sm_kd sm_st_kd sm_set_kd sm_vw sm_st_vw sm_set_vw sm_sq sm_st_sq sm_set_sq sm_tm sm_st_tm sm_set_tm zsm_len zsm_sure zsm_lt1 zsm_sl zsm_ro zsm_setz zsm_set zsm_setr zsm_take sms_ltA sms_len ce_it ce_len ce_sure ce_ltA ce_lt1 ce_all1 ce_ro ce_take ce_sl ce_set ce_noT ce_sq ce_st_sq ce_set_sq ce_vw ce_st_vw ce_set_vw ce_tm ce_st_tm ce_set_tm ce_body ce_st_body ce_set_body ce_vs ce_st_vs ce_set_vs zce_len zce_sure zce_lt1 zce_sl zce_ro zce_setz zce_set zce_setr zce_take ces_ltA ces_len cg_it cg_len cg_sure cg_ltA cg_lt1 cg_all1 cg_ro cg_take cg_sl cg_set cg_noT cg_fr cg_st_fr cg_set_fr cg_vw cg_st_vw cg_set_vw cg_st cg_st_st cg_set_st cg_rt cg_st_rt cg_set_rt cg_pf cg_st_pf cg_set_pf cg_cs cg_st_cs cg_set_cs zcg_len zcg_sure zcg_lt1 zcg_sl zcg_ro zcg_setz zcg_set zcg_setr zcg_take cgs_ltA cgs_len ms_it ms_len ms_sure ms_ltA ms_lt1 ms_all1 ms_ro ms_take ms_sl ms_set ms_noT ms_kd ms_st_kd ms_set_kd ms_fr ms_st_fr ms_set_fr ms_vw ms_st_vw ms_set_vw ms_sq ms_st_sq ms_set_sq ms_tm ms_st_tm ms_set_tm ms_body ms_st_body ms_set_body ms_vs ms_st_vs ms_set_vs ms_chs ms_st_chs ms_set_chs zms_len zms_sure zms_lt1 zms_sl zms_ro zms_setz zms_set zms_setr zms_take mss_ltA mss_len natInt u_nthM u_bz u_bi1 u_bi2 u_bi3 u_bi4 u_bi5 u_bi6 u_bi7 List.take_length u_eqE
theorem decodeX_s (m : Nat) {c0 : List AV} {R3 : AObj} {tE tA tX : TypeId} (e0 a0 : Nat) (hc : c0.length = 8) :
    wire_DecodeX m [] (OP 0 0) (OP 1 0) (OP 2 0) (OP 4 0) [⟨1, ty_api_Msg, 0, c0⟩, ⟨1, tE, 0, [nA 0]⟩, ⟨1, tA, 0, [nA 0]⟩, R3, ⟨1, tX, 0, [nA e0, nA a0]⟩] = some (TU [OP 0 0], [⟨1, ty_api_Msg, 0, cZ⟩, ⟨1, tE, 0, [nA e0]⟩, ⟨1, tA, 0, [nA a0]⟩, R3, ⟨1, tX, 0, [nA e0, nA a0]⟩]) := by
  have hS := setCells_cZ hc
  have h8 : 8 ≤ c0.length := by omega
  rw [wire_DecodeX_eq]
  simp (config := {maxSteps := 4000000, implicitDefEqProofs := false}) (disch := omega) only [go_sem, ↓reduceIte, Nat.reduceAdd, Nat.reduceSub, Nat.reduceMul, Nat.reduceLeDiff, Nat.reduceLT, Int.reduceEq, Int.reduceNe, Int.reduceLT, Int.reduceLE, Int.reduceAdd, Int.reduceSub, Int.reduceMul, Int.reduceNeg, Int.reduceToNat, reduceCtorEq, Nat.reduceEqDiff, Nat.reduceBEq, Nat.reduceGT, b0_Msg, hS, h8]
theorem eB {p0 p1 p2 : Value} {e0 a0 : Nat} {w : World} {S : SS} {μ : List Value} {c0 : List AV} {R3 : AObj} {a : Act} (hg : GOk GG S) (hr : Rel w S μ [⟨1, ty_api_Msg, 0, c0⟩, ⟨1, 28, 0, [nA 0]⟩, ⟨1, 3, 0, [nA 0]⟩, R3]) (hc : c0.length = 8) (h0 : rep S μ (OP 0 0) p0) (h1 : rep S μ (OP 1 0) p1) (h2 : rep S μ (OP 2 0) p2)
    (ha : a.tmps.size = 15) (hd : a.defers = []) (g0 : a.tmps.getD 0 undef = p0) (g1 : a.tmps.getD 1 undef = p1) (g2 : a.tmps.getD 2 undef = p2) (g3 : a.tmps.getD 3 undef = noV e0 a0) :
    (cdL (endC 2 eC)).wp Try.prog (fun e a' w' => (e = .normal ∨ e = .ret) ∧ a'.defers = [] ∧ ∃ S' μ', Rel w' S' μ' [⟨1, ty_api_Msg, 0, cZ⟩, ⟨1, 28, 0, [nA e0]⟩, ⟨1, 3, 0, [nA a0]⟩, R3, ⟨1, 47, 0, [nA e0, nA a0]⟩] ∧ Step 4 w S μ [⟨1, ty_api_Msg, 0, c0⟩, ⟨1, 28, 0, [nA 0]⟩, ⟨1, 3, 0, [nA 0]⟩, R3] w' S' μ' [⟨1, ty_api_Msg, 0, cZ⟩, ⟨1, 28, 0, [nA e0]⟩, ⟨1, 3, 0, [nA a0]⟩, R3, ⟨1, 47, 0, [nA e0, nA a0]⟩]) a w := by
  have ec : cdL (endC 2 eC) = .seq (cdL (cdL (endC 2 eC))) (cdR (cdL (endC 2 eC))) := by kernel_rfl
  rw [ec]
  have key2 := exec_ok (n := 4) (M := 0) MIX (wire_DecodeX_hE 0) wire_DecodeX_c wire_DecodeX_h _ _ (by simp) (decodeX_s (R3 := R3) (tE := 28) (tA := 3) (tX := 47) 0 e0 a0 hc)
  refine wp_seq (wp_mono (Q := Lift ⟨15, []⟩ 4 w S μ [⟨1, ty_api_Msg, 0, c0⟩, ⟨1, 28, 0, [nA 0]⟩, ⟨1, 3, 0, [nA 0]⟩, R3] (fun e s => e = .normal ∧ Aft (fun s => some (get s.T 0, get s.T 1, get s.T 2, get s.T 4, s.H)) (OP 0 0, OP 1 0, OP 2 0, OP 4 0, [⟨1, ty_api_Msg, 0, c0⟩, ⟨1, 28, 0, [nA 0]⟩, ⟨1, 3, 0, [nA 0]⟩, R3, ⟨1, 47, 0, [nA e0, nA a0]⟩]) s)) ?_ fun e a' w' hL => ?_)
  rotate_left
  · obtain ⟨s1, S1, μ1, ⟨rfl, T2, hT, hq⟩, hr1, hf1, hst1⟩ := hL
    injection hq with hq
    injection hq with q0 hq
    injection hq with q1 hq
    injection hq with q2 hq
    injection hq with q4 hH
    obtain ⟨H1, T1⟩ := s1
    dsimp only at q0 q1 q2 q4 hH hT hr1 hf1 hst1
    subst hH
    have hf2 : Fr S1 μ1 ⟨15, []⟩ [(0, OP 0 0), (1, OP 1 0), (2, OP 2 0), (4, OP 4 0)] a' := by
      refine ⟨hf1.size, hf1.nodef, fun i => ?_⟩
      by_cases i0 : i = 0
      · subst i0
        have := hf1.slot 0
        rw [hT 0, q0] at this; exact this
      by_cases i1 : i = 1
      · subst i1
        have := hf1.slot 1
        rw [hT 1, q1] at this; exact this
      by_cases i2 : i = 2
      · subst i2
        have := hf1.slot 2
        rw [hT 2, q2] at this; exact this
      by_cases i4 : i = 4
      · subst i4
        have := hf1.slot 4
        rw [hT 4, q4] at this; exact this
      · have : get ([(0, OP 0 0), (1, OP 1 0), (2, OP 2 0), (4, OP 4 0)] : Tm) i = .nil := by
          simp only [_root_.Go.Proofs.Ytbdbmfifclmpcaa.get]
          rw [if_neg (Ne.symm i0), if_neg (Ne.symm i1), if_neg (Ne.symm i2), if_neg (Ne.symm i4)]
        rw [this]; exact rep_any _ _ _
    refine wp_mono (key2 w' S1 μ1 a' hr1 hf2 (hg.ext hst1.still)) ?_
    rintro e2 a2 w2 ⟨s2, S2, μ2, hq2, hr2, hf3, hst2⟩
    have fin : (some (TU (sltK s2.T [0]), s2.H) : RO) = some (TU [OP 0 0], [⟨1, ty_api_Msg, 0, cZ⟩, ⟨1, 28, 0, [nA e0]⟩, ⟨1, 3, 0, [nA a0]⟩, R3, ⟨1, 47, 0, [nA e0, nA a0]⟩]) → a2.defers = [] ∧ ∃ S' μ', Rel w2 S' μ' [⟨1, ty_api_Msg, 0, cZ⟩, ⟨1, 28, 0, [nA e0]⟩, ⟨1, 3, 0, [nA a0]⟩, R3, ⟨1, 47, 0, [nA e0, nA a0]⟩] ∧ Step 4 w S μ [⟨1, ty_api_Msg, 0, c0⟩, ⟨1, 28, 0, [nA 0]⟩, ⟨1, 3, 0, [nA 0]⟩, R3] w2 S' μ' [⟨1, ty_api_Msg, 0, cZ⟩, ⟨1, 28, 0, [nA e0]⟩, ⟨1, 3, 0, [nA a0]⟩, R3, ⟨1, 47, 0, [nA e0, nA a0]⟩] := by
      intro h
      injection h with h
      injection h with _ h
      obtain ⟨H2, T2⟩ := s2
      dsimp only at h hr2 hf3 hst2
      subst h
      exact ⟨hf3.nodef, S2, μ2, hr2, hst1.trans hst2⟩
    cases e2 with
    | normal => exact ⟨.inl rfl, fin hq2⟩
    | ret => exact ⟨.inr rfl, fin hq2⟩
    | exit id => cases hq2
    | goto l => cases hq2
    | panic ch =>
      obtain ⟨u, _, hq2⟩ := chE_some (K := fun u => some (TU (PN u :: sltK s2.T [0]), s2.H)) hq2
      injection hq2 with hq2
      injection hq2 with hq2 _
      simp at hq2
    | outgrown => cases hq2
  show (Code.region _ _ false).wp Try.prog _ a w
  refine wp_region_list ?_
  refine wpList_val (noV e0 a0) rfl (by rw [← g3]; simp [execOp, go_sem, Act.eval]) ?_
  refine wpList_val (.agg #[.int .i64 e0, .int .i64 a0]) rfl (by
    have : (a.put (some 8) (noV e0 a0)).eval (.tmp 8) = noV e0 a0 := by simp [Act.put, Act.eval, ha]
    have hA := run_assert (.agg #[.int .i64 e0, .int .i64 a0]) w
    simp [execOp, go_sem, ha, noV, hA]) ?_
  generalize hb : (a.put (some 8) (noV e0 a0)).put (some 9) (.agg #[.int .i64 e0, .int .i64 a0]) = b
  have hbs : b.tmps.size = 15 := by rw [← hb]; simp [Act.put, ha]
  have hbd : b.defers = [] := by rw [← hb]; simp [Act.put, hd]
  have hb0 : b.tmps.getD 0 undef = p0 := by rw [← hb, ← g0]; simp [Act.put, ha]
  have hb1 : b.tmps.getD 1 undef = p1 := by rw [← hb, ← g1]; simp [Act.put, ha]
  have hb2 : b.tmps.getD 2 undef = p2 := by rw [← hb, ← g2]; simp [Act.put, ha]
  have hb9 : b.tmps.getD 9 undef = .agg #[.int .i64 e0, .int .i64 a0] := by rw [← hb]; simp [Act.put, ha]
  have hf : Fr S μ ⟨15, []⟩ [(0, OP 0 0), (1, OP 1 0), (2, OP 2 0), (9, .agg [nA e0, nA a0])] b := by
    refine ⟨hbs, hbd, fun i => ?_⟩
    by_cases q0 : i = 0
    · subst q0; rw [hb0]; exact h0
    by_cases q1 : i = 1
    · subst q1; rw [hb1]; exact h1
    by_cases q2 : i = 2
    · subst q2; rw [hb2]; exact h2
    by_cases q9 : i = 9
    · subst q9; rw [hb9]
      refine ⟨[.int .i64 e0, .int .i64 a0], rfl, rfl, fun j d u hd hu => ?_⟩
      rcases j with _ | _ | j
      · cases hd; cases hu; exact ⟨rfl, rfl, rfl⟩
      · cases hd; cases hu; exact ⟨rfl, rfl, rfl⟩
      · cases hd
    · have : get ([(0, OP 0 0), (1, OP 1 0), (2, OP 2 0), (9, .agg [nA e0, nA a0])] : Tm) i = .nil := by
        simp only [_root_.Go.Proofs.Ytbdbmfifclmpcaa.get]
        rw [if_neg (Ne.symm q0), if_neg (Ne.symm q1), if_neg (Ne.symm q2), if_neg (Ne.symm q9)]
      rw [this]; exact rep_any _ _ _
  have hx : runE Try.prog GG [] false (oC 0) [] (oC 2) ⟨[⟨1, ty_api_Msg, 0, c0⟩, ⟨1, 28, 0, [nA 0]⟩, ⟨1, 3, 0, [nA 0]⟩, R3], [(0, OP 0 0), (1, OP 1 0), (2, OP 2 0), (9, .agg [nA e0, nA a0])]⟩ (fun s => some (get s.T 0, get s.T 1, get s.T 2, get s.T 4, s.H)) = some (OP 0 0, OP 1 0, OP 2 0, OP 4 0, [⟨1, ty_api_Msg, 0, c0⟩, ⟨1, 28, 0, [nA 0]⟩, ⟨1, 3, 0, [nA 0]⟩, R3, ⟨1, 47, 0, [nA e0, nA a0]⟩]) := by kernel_rfl
  have hro := runE_ok noE (TEq.refl _) SkOk.nil hx
  have hfit : fits (15 : Nat) (oC 2) = true := by kernel_rfl
  have key := runOps_wp (N := ⟨15, []⟩) (n := 4) (Q := fun e s => e = .normal ∧ Aft (fun s => some (get s.T 0, get s.T 1, get s.T 2, get s.T 4, s.H)) (OP 0 0, OP 1 0, OP 2 0, OP 4 0, [⟨1, ty_api_Msg, 0, c0⟩, ⟨1, 28, 0, [nA 0]⟩, ⟨1, 3, 0, [nA 0]⟩, R3, ⟨1, 47, 0, [nA e0, nA a0]⟩]) s) (fun s q => ⟨rfl, q⟩) (H0 := [⟨1, ty_api_Msg, 0, c0⟩, ⟨1, 28, 0, [nA 0]⟩, ⟨1, 3, 0, [nA 0]⟩, R3]) (by simp) hr.len _ _ hro hfit w S μ b hr hf hg (Step.refl _ _ _ _ _)
  exact key
theorem catch_pan (p0 p1 p2 : Value) (e0 a0 : Nat) (older : List PanicEntry) (w : World) {S : SS} {μ : List Value} {c0 : List AV} {R3 : AObj} (hg : GOk GG S) (hr : Rel w S μ [⟨1, ty_api_Msg, 0, c0⟩, ⟨1, 28, 0, [nA 0]⟩, ⟨1, 3, 0, [nA 0]⟩, R3]) (hc : c0.length = 8) (h0 : rep S μ (OP 0 0) p0) (h1 : rep S μ (OP 1 0) p1) (h2 : rep S μ (OP 2 0) p2) :
    CallsD Try.prog 21 #[p0, p1, p2] (.panicking ({ v := noV e0 a0, recovered := false } :: older)) w fun e u' w' => e = .returned (.tuple #[]) ∧ u' = .panicking ({ v := noV e0 a0, recovered := true } :: older) ∧
      ∃ S' μ', Rel w' S' μ' [⟨1, ty_api_Msg, 0, cZ⟩, ⟨1, 28, 0, [nA e0]⟩, ⟨1, 3, 0, [nA a0]⟩, R3, ⟨1, 47, 0, [nA e0, nA a0]⟩] ∧ Step 4 w S μ [⟨1, ty_api_Msg, 0, c0⟩, ⟨1, 28, 0, [nA 0]⟩, ⟨1, 3, 0, [nA 0]⟩, R3] w' S' μ' [⟨1, ty_api_Msg, 0, cZ⟩, ⟨1, 28, 0, [nA e0]⟩, ⟨1, 3, 0, [nA a0]⟩, R3, ⟨1, 47, 0, [nA e0, nA a0]⟩] := by
  refine callsD_of_wpS Try.func21 rfl fun c₀ cs hu => ?_
  apply wpS_seq
  apply wpS_region
  simp [wpOpsS, go_sem, recoverD, hu, noV, Try.ntmps21, Exit.thenS]
  apply wpS_seq
  apply wpS_region
  simp [wpOpsS, go_sem, Exit.thenS]
  refine wpS_cond (t := true) (by simp [Act.eval]) ?_
  simp only [if_true]
  refine wpS_of_wp ?_
  refine wp_mono (eB (e0 := e0) (a0 := a0) hg hr hc h0 h1 h2 (by simp) rfl (by simp) (by simp) (by simp) (by simp [noV])) ?_
  rintro e a' w' ⟨he, hd, hS⟩
  have hv : (results Try.f21 a'.tmps).run Try.prog w' = .ok (.tuple #[]) w' := by simp [results, Try.results21]
  rcases he with rfl | rfl
  · exact ⟨hd, _, rfl, .tuple #[], hv, rfl, rfl, hS⟩
  · exact ⟨hd, _, rfl, .tuple #[], hv, rfl, rfl, hS⟩
theorem ld_of {k : Nat} {H : List AObj} {x d : AV} {K : AV → Prop} (h : loadE k H x (fun d => some d) = some d) (hK : K d) : aLoad k H x K := aLoad_mono (fun d' e => by injection e with e; subst e; exact hK) (loadE_ok h)
theorem res3 {T : Tm} {x0 x1 x2 x3 x4 : Int} {x5 : List UInt8} {x6 x7 : AV} {H3 : List AObj} {e a : Int} (g2 : get T 2 = OP 0 0) (g3 : get T 3 = OP 1 0) (g4 : get T 4 = OP 2 0) :
    resC Try.prog (⟨1, ty_api_Msg, 0, [nA x0, nA x1, nA x2, nA x3, nA x4, sA x5, x6, x7]⟩ :: ⟨1, 28, 0, [nA e]⟩ :: ⟨1, 3, 0, [nA a]⟩ :: H3) T [.cell 2 27, .cell 3 28, .cell 4 3] (fun ds => oneOf ds = TU [noT (.agg [nA x0, nA x1, nA x2, nA x3, nA x4, sA x5, x6, x7]), noT (nA e), noT (nA a)]) := by
  rw [rC_cell, g2]
  refine ld_of (d := .agg [nA x0, nA x1, nA x2, nA x3, nA x4, sA x5, x6, x7]) (by kernel_rfl) ?_
  rw [rC_cell, g3]
  refine ld_of (d := nA e) (by kernel_rfl) ?_
  rw [rC_cell, g4]
  refine ld_of (d := nA a) (by kernel_rfl) ?_
  rw [rC_nil]
  rfl
noncomputable abbrev kNr (rs : List Tmp) : KO (AV × List AObj) := fun e s => match e with | .normal => some (TU (sltK s.T rs), s.H) | _ => none
theorem dA_y (x : AV) : exec Try.prog GG [] 0 ⟨54, []⟩ (cdL dC) .n ⟨[], argsT 0 [x]⟩ (kNr [0, 2, 3, 4]) = some (TU [x, OP 0 0, OP 1 0, OP 2 0], [⟨1, ty_api_Msg, 0, zc_api_Msg⟩, ⟨1, 28, 0, [nA 0]⟩, ⟨1, 3, 0, [nA 0]⟩]) := by
  refine (execK_eq _ _ _ _).symm.trans ?_
  kernel_rfl
theorem TU_inj {a b : List AV} (h : TU a = TU b) : a = b := by
  injection h with _ h
  injection h
theorem cut0 {w : World} {S : SS} {μ : List Value} {H : List AObj} : Step 0 w S μ H w S [] [] := ⟨rfl, rfl, rfl, Nat.le_refl _, fun _ _ _ => rfl, fun _ _ _ h => h, fun i x hi _ => absurd hi (Nat.not_lt_zero i), fun _ _ _ h _ => .inl h, fun b k _ => by obtain ⟨i, x, o, hx, _⟩ := k; simp at hx⟩
theorem decode_acp {b : List UInt8} (hb : b.length ≤ 34359738368) : ACp Try.prog GG 9 [SL (bC b)] (decX (decW b)) := by
  refine ⟨by kernel_rfl, fun w S μ vs hr hg hl hv => ?_⟩
  have hμ : μ = [] := List.eq_nil_of_length_eq_zero hr.len
  subst hμ
  obtain ⟨v0, rfl⟩ : ∃ v, vs = [v] := by
    match vs, hl with
    | [v], _ => exact ⟨v, rfl⟩
  have hv0 := hv 0 _ _ rfl rfl
  refine calls_of_wp_defers Try.func9 (c := dC) rfl ?_
  have hf0 : Fr S [] ⟨54, []⟩ (argsT 0 [SL (bC b)]) { tmps := [v0].toArray ++ Array.replicate (Try.f9.ntmps - [v0].toArray.size) undef, defers := [] } := by
    refine ⟨by simp [Try.ntmps9], rfl, fun i => ?_⟩
    rcases i with _ | i
    · show rep S [] (SL (bC b)) _
      simpa using hv0
    · exact rep_any _ _ _
  have ec : dC = .seq (cdL dC) (.seq (cdL (cdR dC)) (endC 2 dC)) := by kernel_rfl
  rw [ec]
  have key1 := exec_ok (n := 0) (M := 0) MIX noE (cdL dC) .n _ _ (Nat.zero_le _) (dA_y (SL (bC b)))
  refine wp_seq (wp_mono (key1 w S [] _ hr hf0 hg) ?_)
  rintro e a w1 ⟨s1, S1, μ1, hq, hr1, hf1, hst1⟩
  cases e with
  | ret => cases hq
  | exit id => cases hq
  | goto l => cases hq
  | panic ch => cases hq
  | outgrown => cases hq
  | normal =>
  obtain ⟨H1, T1⟩ := s1
  injection hq with hq
  injection hq with hq hH
  dsimp only at hH hr1 hf1 hst1
  subst hH
  have hq := TU_inj hq
  rw [sltK_eq] at hq
  injection hq with q0 hq
  injection hq with q2 hq
  injection hq with q3 hq
  injection hq with q4 _
  dsimp only at q0 q2 q3 q4
  refine wp_seq (dB (p0 := a.eval (.tmp 2)) (p1 := a.eval (.tmp 3)) (p2 := a.eval (.tmp 4)) rfl rfl rfl hf1.nodef hf1.size fun v => ?_)
  have sz : a.tmps.size = 54 := hf1.size
  have r0 : rep S1 μ1 (SL (bC b)) (a.tmps.getD 0 undef) := by have := hf1.slot 0; rw [q0] at this; exact this
  have r2 : rep S1 μ1 (OP 0 0) (a.tmps.getD 2 undef) := by have := hf1.slot 2; rw [q2] at this; exact this
  have r3 : rep S1 μ1 (OP 1 0) (a.tmps.getD 3 undef) := by have := hf1.slot 3; rw [q3] at this; exact this
  have r4 : rep S1 μ1 (OP 2 0) (a.tmps.getD 4 undef) := by have := hf1.slot 4; rw [q4] at this; exact this
  generalize hp0 : a.eval (.tmp 2) = p0
  generalize hp1 : a.eval (.tmp 3) = p1
  generalize hp2 : a.eval (.tmp 4) = p2
  have e2 : a.tmps.getD 2 undef = p0 := hp0
  have e3 : a.tmps.getD 3 undef = p1 := hp1
  have e4 : a.tmps.getD 4 undef = p2 := hp2
  rw [e2] at r2
  rw [e3] at r3
  rw [e4] at r4
  generalize ha2 : ({ (a.put (some 6) v) with defers := [dD p0 p1 p2] } : Act) = a2
  show (endC 2 dC).wp Try.prog _ a2 w1
  have f0 : a2.tmps.getD 0 undef = a.tmps.getD 0 undef := by rw [← ha2]; simp [Act.put, sz]
  have f2 : a2.tmps.getD 2 undef = p0 := by rw [← ha2, ← e2]; simp [Act.put, sz]
  have f3 : a2.tmps.getD 3 undef = p1 := by rw [← ha2, ← e3]; simp [Act.put, sz]
  have f4 : a2.tmps.getD 4 undef = p2 := by rw [← ha2, ← e4]; simp [Act.put, sz]
  have hf2 : Fr S1 μ1 ⟨54, [dD p0 p1 p2]⟩ [(0, SL (bC b)), (2, OP 0 0), (3, OP 1 0), (4, OP 2 0)] a2 := by
    refine ⟨by rw [← ha2]; simp [Act.put, sz], by rw [← ha2], fun i => ?_⟩
    by_cases i0 : i = 0
    · subst i0; rw [f0]; exact r0
    by_cases i2 : i = 2
    · subst i2; rw [f2]; exact r2
    by_cases i3 : i = 3
    · subst i3; rw [f3]; exact r3
    by_cases i4 : i = 4
    · subst i4; rw [f4]; exact r4
    · have : get ([(0, SL (bC b)), (2, OP 0 0), (3, OP 1 0), (4, OP 2 0)] : Tm) i = .nil := by
        simp only [_root_.Go.Proofs.Ytbdbmfifclmpcaa.get]
        rw [if_neg (Ne.symm i0), if_neg (Ne.symm i2), if_neg (Ne.symm i3), if_neg (Ne.symm i4)]
      rw [this]; exact rep_any _ _ _
  obtain ⟨c0, R3, hR, hc⟩ := decodeR_s (tE := 28) (tA := 3) 100 [dD p0 p1 p2] hb (by omega)
  have hinv : ∀ w' : World, (invoke (.fn (.func 21) #[p0, p1, p2]) #[]).run Try.prog w' = .ok (.enter 21 #[p0, p1, p2]) w' := fun w' => by simp [go_sem]
  cases hO : outR b with
  | ok x at_ =>
    rw [hO, endR_ok] at hR
    have hX : decW b = (x, 0, 0) := by unfold decW; rw [hO]
    rw [hX]
    have key2 := exec_ok (n := 0) (M := 100) MIX (wire_DecodeR_hE 100) wire_DecodeR_c wire_DecodeR_h _ _ (Nat.zero_le _) hR
    refine wp_mono (key2 w1 S1 μ1 a2 hr1 hf2 (hg.ext hst1.still)) ?_
    rintro e a3 w3 ⟨⟨H3, T3⟩, S3, μ3, hq3, hr3, hf3, hst3⟩
    have fin : (some (TU (sltK T3 [2, 3, 4]), H3) : RO) = some (TU [OP 0 0, OP 1 0, OP 2 0], [⟨1, ty_api_Msg, 0, msC x⟩, ⟨1, 28, 0, [nA 0]⟩, ⟨1, 3, 0, [nA 0]⟩, R3]) → Leaves Try.prog Try.f9 a3.tmps (CPost w S [] [] fun r H' => r = decX (x, 0, 0) ∧ H' = []) a3.defers .returning w3 := by
      intro h
      injection h with h
      injection h with h hH
      dsimp only at hr3 hf3 hst3
      subst hH
      have h := TU_inj h
      rw [sltK_eq] at h
      injection h with g2 h
      injection h with g3 h
      injection h with g4 _
      have hd : a3.defers = [dD p0 p1 p2] := hf3.nodef
      rw [hd]
      refine leaves_cons (f := 21) (args := #[p0, p1, p2]) (by simp) (hinv w3) ?_
      refine (catch_idle p0 p1 p2 w3).mono ?_
      rintro e u' w4 ⟨rfl, rfl, rfl⟩
      show Leaves Try.prog _ a3.tmps _ [] (settle .returning) w4
      have hs : settle .returning = .returning := rfl
      rw [hs]
      obtain ⟨y, r, hrun, hrep, rfl⟩ := resultsC_run (P := Try.prog) (fn := Try.f9) (K := fun r => r = decX (x, 0, 0)) rfl hr3 hf3 (resC_mono (fun ds e => e) (by
        obtain ⟨x0, x1, x2, x3, x4, x5, x6, x7⟩ := x
        exact res3 g2 g3 g4))
      exact ⟨y, hrun, y, _, [], S3, [], rfl, ⟨rfl, rfl⟩, hr3.le (H' := []) trivial rfl, hrep.take (n := 0) rfl, (hst1.trans hst3).trans cut0⟩
    cases e with
    | normal => exact fin hq3
    | ret => exact fin hq3
    | exit id => cases hq3
    | goto l => cases hq3
    | panic ch =>
      obtain ⟨u, _, hq3⟩ := chE_some (K := fun u => some (TU (PN u :: sltK T3 [2, 3, 4]), H3)) hq3
      injection hq3 with hq3
      injection hq3 with hq3 _
      simp at hq3
    | outgrown => cases hq3
  | no en an =>
    rw [hO, endR_no] at hR
    have hX : decW b = (Ms.zero, en, an) := by unfold decW; rw [hO]
    rw [hX]
    have key2 := exec_ok (n := 3) (M := 100) MIX (wire_DecodeR_hE 100) wire_DecodeR_c wire_DecodeR_h _ _ (Nat.le_refl _) hR
    refine wp_mono (key2 w1 S1 μ1 a2 hr1 hf2 (hg.ext hst1.still)) ?_
    rintro e a3 w3 ⟨⟨H3, T3⟩, S3, μ3, hq3, hr3, hf3, hst3⟩
    cases e with
    | normal =>
      injection hq3 with hq3
      injection hq3 with hq3 _
      simp at hq3
    | ret =>
      injection hq3 with hq3
      injection hq3 with hq3 _
      simp at hq3
    | exit id => cases hq3
    | goto l => cases hq3
    | outgrown => cases hq3
    | panic ch =>
      obtain ⟨u, rfl, hq3⟩ := chE_some (K := fun u => some (TU (PN u :: sltK T3 [2, 3, 4]), H3)) hq3
      injection hq3 with hq3
      injection hq3 with h hH
      dsimp only at hr3 hf3 hst3
      subst hH
      have h := TU_inj h
      rw [sltK_eq] at h
      injection h with gu h
      injection h with g2 h
      injection h with g3 h
      injection h with g4 _
      injection gu with _ gu
      injection gu with gu
      injection gu with gu
      subst gu
      have hd : a3.defers = [dD p0 p1 p2] := hf3.nodef
      show Leaves Try.prog _ a3.tmps _ a3.defers (.panicking (pch (noV en an))) w3
      rw [hd]
      have hx := Step.toExt hr1 hst3
      refine leaves_cons (f := 21) (args := #[p0, p1, p2]) (by simp) (hinv w3) ?_
      refine (catch_pan p0 p1 p2 en an [] w3 ((hg.ext hst1.still).ext hst3.still) hr3 hc (r2.ext hx) (r3.ext hx) (r4.ext hx)).mono ?_
      rintro e u' w4 ⟨rfl, rfl, S4, μ4, hr4, hst4⟩
      show Leaves Try.prog _ a3.tmps _ [] (settle (.panicking [{ v := noV en an, recovered := true }])) w4
      have hs : settle (.panicking [{ v := noV en an, recovered := true }]) = .returning := rfl
      rw [hs]
      obtain ⟨y, r, hrun, hrep, rfl⟩ := resultsC_run (P := Try.prog) (fn := Try.f9) (K := fun r => r = TU [noT (.agg cZ), noT (nA en), noT (nA an)]) rfl hr4 (hf3.ext (Step.toExt hr3 hst4)) (resC_mono (fun ds e => e) (res3 g2 g3 g4))
      have hro := hrep.toRo hr4
      have hY : ro [⟨1, ty_api_Msg, 0, cZ⟩, ⟨1, 28, 0, [nA en]⟩, ⟨1, 3, 0, [nA an]⟩, R3, ⟨1, 47, 0, [nA en, nA an]⟩] (TU [noT (.agg cZ), noT (nA en), noT (nA an)]) = decX (Ms.zero, en, an) := by kernel_rfl
      rw [hY] at hro
      exact ⟨y, hrun, y, _, [], S4, [], rfl, ⟨rfl, rfl⟩, hr4.le (H' := []) trivial rfl, hro.take (n := 0) rfl, ((hst1.trans (hst3.less (Nat.zero_le _))).trans (hst4.less (Nat.zero_le _))).trans cut0⟩
end Go.Proofs.Ytbdbmfifclmpcaa

namespace Go.Proofs.Ytbdbmfifclmpcaa
open Go.RowKit
set_option linter.unusedVariables false
structure Foll {α : Type} (f : TR α) (r : Nat → RdO α) : Prop where
  ok : ∀ a x a', r a = .ok x a' → f (a, 0) = (x, (a', 0))
  no : ∀ a e a', r a = .no e a' → e ≠ 0 ∧ (f (a, 0)).2 = (a', e)
  stop : ∀ a e, e ≠ 0 → (f (a, e)).2 = (a, e)
theorem good_ret {α : Type} (x : α) : Foll (TR.ret x) (fun a => .ok x a) := ⟨fun a y a' h => (by cases h; rfl), fun a e a' h => (by cases h), fun a e h => rfl⟩
theorem good_bind {α β : Type} {f : TR α} {r : Nat → RdO α} {g : α → TR β} {s : α → Nat → RdO β} (hf : Foll f r) (hg : ∀ x, Foll (g x) (s x)) : Foll (f.bind g) (fun a => (r a).bind (s)) := by
  refine ⟨fun a y a' h => ?_, fun a e a' h => ?_, fun a e he => ?_⟩
  · cases hr : r a with
    | ok x c =>
      rw [hr] at h
      show g (f (a, 0)).1 (f (a, 0)).2 = _
      rw [hf.ok a x c hr]
      exact (hg x).ok c y a' h
    | no e c => rw [hr] at h; cases h
  · cases hr : r a with
    | ok x c =>
      rw [hr] at h
      show e ≠ 0 ∧ (g (f (a, 0)).1 (f (a, 0)).2).2 = _
      rw [hf.ok a x c hr]
      exact (hg x).no c e a' h
    | no e1 c =>
      rw [hr] at h
      cases h
      obtain ⟨h1, h2⟩ := hf.no a e a' hr
      refine ⟨h1, ?_⟩
      show (g (f (a, 0)).1 (f (a, 0)).2).2 = _
      rw [h2]
      exact (hg _).stop a' e h1
  · show (g (f (a, e)).1 (f (a, e)).2).2 = _
    rw [hf.stop a e he]
    exact (hg _).stop a e he
theorem numR_no {b : List UInt8} {most a e c : Nat} (h : numR b most a = .no e c) : e ≠ 0 := by
  unfold numR at h
  split at h
  · split at h
    · cases h; decide
    · cases h
  · cases h; assumption
theorem good_num (b : List UInt8) (most : Nat) : Foll (numT b most) (fun a => numR b most a) := by
  refine ⟨fun a x a' h => ?_, fun a e a' h => ?_, fun a e he => ?_⟩
  · unfold numT
    rw [if_pos rfl]
    show (numR b most a).st 0 = _
    rw [h]; rfl
  · refine ⟨numR_no h, ?_⟩
    unfold numT
    rw [if_pos rfl]
    show ((numR b most a).st 0).2 = _
    rw [h]; rfl
  · unfold numT
    rw [if_neg he]
theorem good_int (b : List UInt8) (most : Nat) : Foll (itT b most) (fun a => intR b most a) := by
  have h := good_num b most
  refine ⟨fun a x a' hx => ?_, fun a e a' hx => ?_, fun a e he => h.stop a e he⟩
  · unfold intR at hx
    cases hr : numR b most a with
    | ok v c =>
      rw [hr] at hx
      cases hx
      unfold itT
      rw [h.ok a v a' hr]
    | no e c => rw [hr] at hx; cases hx
  · unfold intR at hx
    cases hr : numR b most a with
    | ok v c => rw [hr] at hx; cases hx
    | no e1 c =>
      rw [hr] at hx
      cases hx
      exact h.no a e a' hr
theorem good_cut (b : List UInt8) (n : Nat) : Foll (cutT b n) (fun a => if b.length - a < n then .no 2 a else .ok ((b.drop a).take n) (a + n)) := by
  refine ⟨fun a x a' h => ?_, fun a e a' h => ?_, fun a e he => ?_⟩
  · unfold cutT
    rw [if_pos rfl]
    dsimp only at h ⊢
    split at h
    · cases h
    · rename_i hh; rw [if_neg hh]; cases h; rfl
  · unfold cutT
    rw [if_pos rfl]
    dsimp only at h ⊢
    split at h
    · rename_i hh; rw [if_pos hh]; cases h; exact ⟨by decide, rfl⟩
    · cases h
  · unfold cutT
    rw [if_neg he]
theorem good_text (b : List UInt8) : Foll (textT b) (fun a => textR b a) := good_bind (good_num b 65536) fun n => good_cut b n
theorem good_stmt (b : List UInt8) : Foll (stmtT b) (fun a => stmtR b a) := good_bind (good_int b 63) fun _ => good_bind (good_int b _) fun _ => good_bind (good_int b _) fun _ => good_bind (good_int b _) fun _ => good_bind (good_int b _) fun _ => good_ret _
theorem good_loop {α : Type} {f : TR α} {r : Nat → RdO α} (h : Foll f r) : ∀ n, Foll (loopT f n) (fun a => loopR r n a)
  | 0 => ⟨fun a x a' hx => (by cases hx; rfl), fun a e a' hx => (by cases hx), fun a e he => rfl⟩
  | n + 1 => by
    have ih := good_loop h n
    refine ⟨fun a x a' hx => ?_, fun a e a' hx => ?_, fun a e he => ?_⟩
    · unfold loopT
      rw [if_pos rfl]
      unfold loopR at hx
      cases hr : r a with
      | no e c => rw [hr] at hx; cases hx
      | ok y c =>
        rw [hr] at hx
        rw [h.ok a y c hr]
        cases hl : loopR r n c with
        | no e d => have hx : (RdO.bind (loopR r n c) fun l a => .ok (y :: l) a) = _ := hx; rw [hl] at hx; cases hx
        | ok l d =>
          have hx : (RdO.bind (loopR r n c) fun l a => .ok (y :: l) a) = _ := hx
          rw [hl] at hx; cases hx
          dsimp only
          rw [ih.ok c l a' hl]
    · unfold loopT
      rw [if_pos rfl]
      unfold loopR at hx
      cases hr : r a with
      | no e1 c =>
        rw [hr] at hx; cases hx
        obtain ⟨h1, h2⟩ := h.no a e a' hr
        refine ⟨h1, ?_⟩
        dsimp only
        rw [h2]
        exact ih.stop a' e h1
      | ok y c =>
        rw [hr] at hx
        have hx : (RdO.bind (loopR r n c) fun l a => .ok (y :: l) a) = _ := hx
        cases hl : loopR r n c with
        | ok l d => rw [hl] at hx; cases hx
        | no e1 d =>
          rw [hl] at hx; cases hx
          obtain ⟨h1, h2⟩ := ih.no c e a' hl
          refine ⟨h1, ?_⟩
          dsimp only
          rw [h.ok a y c hr]
          exact h2
    · unfold loopT
      rw [if_neg he]
theorem good_some {α : Type} (b : List UInt8) {f : TR α} {r : Nat → RdO α} (h : Foll f r) : Foll (someT b f) (fun a => someR b r a) := good_bind (good_num b 64) fun n => good_loop h n
theorem good_cert (b : List UInt8) : Foll (certT b) (fun a => certR b a) := good_bind (good_int b _) fun _ => good_bind (good_int b _) fun _ => good_bind (good_int b _) fun _ => good_bind (good_text b) fun _ => good_bind (good_some b (good_stmt b)) fun _ => good_ret _
theorem good_change (b : List UInt8) : Foll (changeT b) (fun a => changeR b a) := good_bind (good_int b 63) fun _ => good_bind (good_int b _) fun _ => good_bind (good_int b _) fun _ => good_bind (good_int b _) fun _ => good_bind (good_some b (good_stmt b)) fun _ => good_bind (good_some b (good_cert b)) fun _ => good_ret _
def msgG (b : List UInt8) (a : Nat) : RdO Ms := (intR b 10 a).bind fun x0 a => (intR b 63 a).bind fun x1 a => (intR b 2147483647 a).bind fun x2 a => (intR b 2147483647 a).bind fun x3 a => (intR b 2147483647 a).bind fun x4 a => (textR b a).bind fun x5 a => (someR b (stmtR b) a).bind fun x6 a => (someR b (changeR b) a).bind fun x7 a => .ok ⟨x0, x1, x2, x3, x4, x5, x6, x7⟩ a
theorem msgG_eq (b : List UInt8) : msgG b 0 = msgR b := rfl
theorem good_msg (b : List UInt8) : Foll (msgT b) (fun a => msgG b a) := good_bind (good_int b 10) fun _ => good_bind (good_int b 63) fun _ => good_bind (good_int b _) fun _ => good_bind (good_int b _) fun _ => good_bind (good_int b _) fun _ => good_bind (good_text b) fun _ => good_bind (good_some b (good_stmt b)) fun _ => good_bind (good_some b (good_change b)) fun _ => good_ret _
theorem decF_eq (b : List UInt8) : decF b = decW b := by
  have h := good_msg b
  unfold decF decW outR
  cases hr : msgR b with
  | no e a =>
    obtain ⟨h1, h2⟩ := h.no 0 e a (by rw [msgG_eq]; exact hr)
    rw [h2, if_pos h1]
    rfl
  | ok x a =>
    have h1 := h.ok 0 x a (by rw [msgG_eq]; exact hr)
    rw [h1]
    rw [if_neg (by simp)]
    show _ = (match (if x.kd = 0 then RdO.no 3 0 else if a < b.length then RdO.no 7 a else RdO.ok x a) with | .ok x _ => (x, 0, 0) | .no e a => (Ms.zero, e, a))
    by_cases k0 : x.kd = 0
    · rw [if_pos k0, if_pos k0]
    · rw [if_neg k0, if_neg k0]
      by_cases k1 : a < b.length
      · rw [if_pos k1, if_pos k1]
      · rw [if_neg k1, if_neg k1]
end Go.Proofs.Ytbdbmfifclmpcaa

namespace Go.Proofs.Ytbdbmfifclmpcaa
open Go.RowKit
set_option linter.unusedVariables false
set_option linter.unusedSimpArgs false
set_option maxRecDepth 20000
attribute [local go_sem] Nat.zero_add Nat.add_zero Nat.mul_one Int.toNat_natCast Int.natCast_zero Int.cast_ofNat_Int or_false false_or or_true true_or Nat.sub_zero Int.natCast_nonneg Int.toNat_zero Bool.true_and Bool.and_true Bool.false_and Bool.and_false Bool.true_or Bool.or_true Bool.false_or Bool.or_false Bool.not_true Bool.not_false Bool.not_not true_and and_true false_and and_false not_true_eq_false not_false_eq_true eq_self decide_true decide_false ne_eq implies_true forall_const true_implies false_implies Bool.true_eq_false Bool.false_eq_true List.map_cons List.map_nil List.all_cons List.all_nil List.length_cons List.length_nil List.length_map List.length_append List.nil_append List.cons_append List.set_cons_zero List.set_cons_succ List.set_nil List.drop_zero List.drop_succ_cons List.drop_nil List.take_zero List.take_succ_cons List.take_nil Option.map_some Option.map_none Option.isSome_some List.all_append List.all_map Function.comp_def decide_eq_true_eq Bool.and_eq_true beq_self_eq_true or_self and_self ite_true ite_false Nat.le_refl Bool.not_eq_true decide_not Bool.not_eq_true' decide_eq_false_iff_not Bool.not_eq_false Bool.or_eq_true if_true if_false ite_self u_roF u_cvF u_cvC u_ceT u_ceK u_appS sm_it sm_len sm_sure sm_ltA sm_lt1 sm_all1 sm_ro sm_take sm_sl sm_set sm_noT sm_fr sm_st_fr sm_set_fr sm_kd sm_st_kd sm_set_kd sm_vw sm_st_vw sm_set_vw sm_sq sm_st_sq sm_set_sq sm_tm sm_st_tm sm_set_tm zsm_len zsm_sure zsm_lt1 zsm_sl zsm_ro zsm_setz zsm_set zsm_setr zsm_take sms_ltA sms_len ce_it ce_len ce_sure ce_ltA ce_lt1 ce_all1 ce_ro ce_take ce_sl ce_set ce_noT ce_sq ce_st_sq ce_set_sq ce_vw ce_st_vw ce_set_vw ce_tm ce_st_tm ce_set_tm ce_body ce_st_body ce_set_body ce_vs ce_st_vs ce_set_vs zce_len zce_sure zce_lt1 zce_sl zce_ro zce_setz zce_set zce_setr zce_take ces_ltA ces_len cg_it cg_len cg_sure cg_ltA cg_lt1 cg_all1 cg_ro cg_take cg_sl cg_set cg_noT cg_fr cg_st_fr cg_set_fr cg_vw cg_st_vw cg_set_vw cg_st cg_st_st cg_set_st cg_rt cg_st_rt cg_set_rt cg_pf cg_st_pf cg_set_pf cg_cs cg_st_cs cg_set_cs zcg_len zcg_sure zcg_lt1 zcg_sl zcg_ro zcg_setz zcg_set zcg_setr zcg_take cgs_ltA cgs_len ms_it ms_len ms_sure ms_ltA ms_lt1 ms_all1 ms_ro ms_take ms_sl ms_set ms_noT ms_kd ms_st_kd ms_set_kd ms_fr ms_st_fr ms_set_fr ms_vw ms_st_vw ms_set_vw ms_sq ms_st_sq ms_set_sq ms_tm ms_st_tm ms_set_tm ms_body ms_st_body ms_set_body ms_vs ms_st_vs ms_set_vs ms_chs ms_st_chs ms_set_chs zms_len zms_sure zms_lt1 zms_sl zms_ro zms_setz zms_set zms_setr zms_take mss_ltA mss_len natInt u_nthM u_bz u_bi1 u_bi2 u_bi3 u_bi4 u_bi5 u_bi6 u_bi7 bC_length ltO_o ltO_r List.take_length u_eqE
section
variable {R : Type} {x y : Sm} {isB sl : Bool} {K1 : AV → Option R}
theorem u_neSm : binE (some [.i .i64, .i .i64, .i .i64, .i .i64, .i .i64]) isB sl .neq (.agg (smC x)) (.agg (smC y)) K1 = K1 (bA (!decide (x = y))) := by
  have : decide (x = y) = (decide (x.fr = y.fr) && (decide (x.kd = y.kd) && (decide (x.vw = y.vw) && (decide (x.sq = y.sq) && (decide (x.tm = y.tm) && true))))) := by
    obtain ⟨a, b, c, d, e⟩ := x
    obtain ⟨a', b', c', d', e'⟩ := y
    simp
  rw [this]; rfl
end
theorem drop_eq_iff {α : Type} {l m : List α} (hl : l.length = m.length) {k : Nat} (h : k < l.length) (h' : k < m.length) : l.drop k = m.drop k ↔ (l[k] = m[k] ∧ l.drop (k + 1) = m.drop (k + 1)) := by
  rw [List.drop_eq_getElem_cons h, List.drop_eq_getElem_cons h']
  exact ⟨fun q => by injection q with a b; exact ⟨a, b⟩, fun ⟨a, b⟩ => by rw [a, b]⟩
theorem equal_s (m : Nat) (l l2 : List Sm) (hm : l.length < m) (hl : l.length ≤ 34359738367) : slices_Equal_Stmt m (SL (l.map smE)) (SL (l2.map smE)) = some (bA (decide (l = l2)), []) := by
  rw [slices_Equal_Stmt_eq]
  by_cases hle : l.length = l2.length
  rotate_left
  · have hle' : ¬ (l.length : Int) = (l2.length : Int) := by omega
    have hne : ¬ l = l2 := fun e => hle (by rw [e])
    simp (config := {maxSteps := 4000000, implicitDefEqProofs := false}) (disch := omega) only [go_sem, ↓reduceIte, Nat.reduceAdd, Nat.reduceSub, Nat.reduceMul, Nat.reduceLeDiff, Nat.reduceLT, Int.reduceEq, Int.reduceNe, Int.reduceLT, Int.reduceLE, Int.reduceAdd, Int.reduceSub, Int.reduceMul, Int.reduceNeg, Int.reduceToNat, reduceCtorEq, Nat.reduceEqDiff, Nat.reduceBEq, Nat.reduceGT, hle', hne]
  have hle' : (l2.length : Int) = (l.length : Int) := by omega
  simp (config := {maxSteps := 4000000, implicitDefEqProofs := false}) (disch := omega) only [go_sem, ↓reduceIte, Nat.reduceAdd, Nat.reduceSub, Nat.reduceMul, Nat.reduceLeDiff, Nat.reduceLT, Int.reduceEq, Int.reduceNe, Int.reduceLT, Int.reduceLE, Int.reduceAdd, Int.reduceSub, Int.reduceMul, Int.reduceNeg, Int.reduceToNat, reduceCtorEq, Nat.reduceEqDiff, Nat.reduceBEq, Nat.reduceGT, hle']
  generalize hg : decide (l = l2) = g
  refine iter_go (ι := {k : Nat // k ≤ l.length ∧ decide (l.drop k = l2.drop k) = g}) (fun k => ⟨[], [(0, SL (l.map smE)), (1, SL (l2.map smE)), (12, nA l.length), (13, nA k.1)]⟩) (fun k => l.length - k.1) (fun _ => some (bA g, [])) ?_ ⟨0, Nat.zero_le _, hg⟩ (by dsimp only; omega)
  rintro kx hkx ⟨k, hk, hG⟩ kc hkc
  dsimp only at hkc hG ⊢
  rw [slices_Equal_Stmt_b1_eq]
  by_cases hlt : k < l.length
  · have hlt' : (k : Int) < (l.length : Int) := by omega
    have hlt2 : k < l2.length := by omega
    have hlt3 : (k : Int) < (l2.length : Int) := by omega
    have hD := drop_eq_iff hle hlt hlt2
    by_cases hx : l[k] = l2[k]
    · have step := hkc ⟨k + 1, by omega, by rw [← hG]; apply decide_eq_decide.2; rw [hD]; exact ⟨fun q => ⟨hx, q⟩, fun q => q.2⟩⟩ (by dsimp only; omega)
      simp (config := {maxSteps := 4000000, implicitDefEqProofs := false}) (disch := omega) only [go_sem, ↓reduceIte, Nat.reduceAdd, Nat.reduceSub, Nat.reduceMul, Nat.reduceLeDiff, Nat.reduceLT, Int.reduceEq, Int.reduceNe, Int.reduceLT, Int.reduceLE, Int.reduceAdd, Int.reduceSub, Int.reduceMul, Int.reduceNeg, Int.reduceToNat, reduceCtorEq, Nat.reduceEqDiff, Nat.reduceBEq, Nat.reduceGT, hlt', hlt3, u_neSm, hx, w_i64, slices_Equal_Stmt_r1_eq]
      exact step
    · have hG2 : false = g := by rw [← hG]; symm; apply decide_eq_false; rw [hD]; exact fun q => hx q.1
      subst hG2
      simp (config := {maxSteps := 4000000, implicitDefEqProofs := false}) (disch := omega) only [go_sem, ↓reduceIte, Nat.reduceAdd, Nat.reduceSub, Nat.reduceMul, Nat.reduceLeDiff, Nat.reduceLT, Int.reduceEq, Int.reduceNe, Int.reduceLT, Int.reduceLE, Int.reduceAdd, Int.reduceSub, Int.reduceMul, Int.reduceNeg, Int.reduceToNat, reduceCtorEq, Nat.reduceEqDiff, Nat.reduceBEq, Nat.reduceGT, hlt', hlt3, u_neSm, hx, w_i64, hkx, slices_Equal_Stmt_r1_eq]
  · have hlt' : ¬ (k : Int) < (l.length : Int) := by omega
    have hG2 : true = g := by rw [← hG, List.drop_of_length_le (by omega), List.drop_of_length_le (by omega)]; simp
    subst hG2
    simp (config := {maxSteps := 4000000, implicitDefEqProofs := false}) (disch := omega) only [go_sem, ↓reduceIte, Nat.reduceAdd, Nat.reduceSub, Nat.reduceMul, Nat.reduceLeDiff, Nat.reduceLT, Int.reduceEq, Int.reduceNe, Int.reduceLT, Int.reduceLE, Int.reduceAdd, Int.reduceSub, Int.reduceMul, Int.reduceNeg, Int.reduceToNat, reduceCtorEq, Nat.reduceEqDiff, Nat.reduceBEq, Nat.reduceGT, hlt', hkx, slices_Equal_Stmt_r1_eq]
theorem rStmts_s (m : Nat) (l l2 : List Sm) (hm : l.length < m) (hl : l.length ≤ 34359738367) : plenumref28_Stmts m (SL (l.map smE)) (SL (l2.map smE)) = some (bA (decide (l = l2)), []) := by
  rw [plenumref28_Stmts_eq]
  by_cases hle : l.length = l2.length
  rotate_left
  · have hle' : ¬ (l.length : Int) = (l2.length : Int) := by omega
    have hne : ¬ l = l2 := fun e => hle (by rw [e])
    simp (config := {maxSteps := 4000000, implicitDefEqProofs := false}) (disch := omega) only [go_sem, ↓reduceIte, Nat.reduceAdd, Nat.reduceSub, Nat.reduceMul, Nat.reduceLeDiff, Nat.reduceLT, Int.reduceEq, Int.reduceNe, Int.reduceLT, Int.reduceLE, Int.reduceAdd, Int.reduceSub, Int.reduceMul, Int.reduceNeg, Int.reduceToNat, reduceCtorEq, Nat.reduceEqDiff, Nat.reduceBEq, Nat.reduceGT, hle', hne]
  have hle' : (l2.length : Int) = (l.length : Int) := by omega
  simp (config := {maxSteps := 4000000, implicitDefEqProofs := false}) (disch := omega) only [go_sem, ↓reduceIte, Nat.reduceAdd, Nat.reduceSub, Nat.reduceMul, Nat.reduceLeDiff, Nat.reduceLT, Int.reduceEq, Int.reduceNe, Int.reduceLT, Int.reduceLE, Int.reduceAdd, Int.reduceSub, Int.reduceMul, Int.reduceNeg, Int.reduceToNat, reduceCtorEq, Nat.reduceEqDiff, Nat.reduceBEq, Nat.reduceGT, hle']
  generalize hg : decide (l = l2) = g
  refine iter_go (ι := {k : Nat // k ≤ l.length ∧ decide (l.drop k = l2.drop k) = g}) (fun k => ⟨[], [(0, SL (l.map smE)), (1, SL (l2.map smE)), (5, nA k.1)]⟩) (fun k => l.length - k.1) (fun _ => some (bA g, [])) ?_ ⟨0, Nat.zero_le _, hg⟩ (by dsimp only; omega)
  rintro kx hkx ⟨k, hk, hG⟩ kc hkc
  dsimp only at hkc hG ⊢
  rw [plenumref28_Stmts_b1_eq]
  by_cases hlt : k < l.length
  · have hlt' : (k : Int) < (l.length : Int) := by omega
    have hlt2 : k < l2.length := by omega
    have hlt3 : (k : Int) < (l2.length : Int) := by omega
    have hD := drop_eq_iff hle hlt hlt2
    by_cases hx : l[k] = l2[k]
    · have step := hkc ⟨k + 1, by omega, by rw [← hG]; apply decide_eq_decide.2; rw [hD]; exact ⟨fun q => ⟨hx, q⟩, fun q => q.2⟩⟩ (by dsimp only; omega)
      simp (config := {maxSteps := 4000000, implicitDefEqProofs := false}) (disch := omega) only [go_sem, ↓reduceIte, Nat.reduceAdd, Nat.reduceSub, Nat.reduceMul, Nat.reduceLeDiff, Nat.reduceLT, Int.reduceEq, Int.reduceNe, Int.reduceLT, Int.reduceLE, Int.reduceAdd, Int.reduceSub, Int.reduceMul, Int.reduceNeg, Int.reduceToNat, reduceCtorEq, Nat.reduceEqDiff, Nat.reduceBEq, Nat.reduceGT, hlt', hlt3, u_neSm, hx, w_i64, plenumref28_Stmts_r1_eq]
      exact step
    · have hG2 : false = g := by rw [← hG]; symm; apply decide_eq_false; rw [hD]; exact fun q => hx q.1
      subst hG2
      simp (config := {maxSteps := 4000000, implicitDefEqProofs := false}) (disch := omega) only [go_sem, ↓reduceIte, Nat.reduceAdd, Nat.reduceSub, Nat.reduceMul, Nat.reduceLeDiff, Nat.reduceLT, Int.reduceEq, Int.reduceNe, Int.reduceLT, Int.reduceLE, Int.reduceAdd, Int.reduceSub, Int.reduceMul, Int.reduceNeg, Int.reduceToNat, reduceCtorEq, Nat.reduceEqDiff, Nat.reduceBEq, Nat.reduceGT, hlt', hlt3, u_neSm, hx, w_i64, hkx, plenumref28_Stmts_r1_eq]
  · have hlt' : ¬ (k : Int) < (l.length : Int) := by omega
    have hG2 : true = g := by rw [← hG, List.drop_of_length_le (by omega), List.drop_of_length_le (by omega)]; simp
    subst hG2
    simp (config := {maxSteps := 4000000, implicitDefEqProofs := false}) (disch := omega) only [go_sem, ↓reduceIte, Nat.reduceAdd, Nat.reduceSub, Nat.reduceMul, Nat.reduceLeDiff, Nat.reduceLT, Int.reduceEq, Int.reduceNe, Int.reduceLT, Int.reduceLE, Int.reduceAdd, Int.reduceSub, Int.reduceMul, Int.reduceNeg, Int.reduceToNat, reduceCtorEq, Nat.reduceEqDiff, Nat.reduceBEq, Nat.reduceGT, hlt', hkx, plenumref28_Stmts_r1_eq]
theorem certs_s (m : Nat) (x y : Ce) (hx : x.vs.length < m) (hl : x.vs.length ≤ 34359738367) : wire_certs m (ceE x) (ceE y) = some (bA (decide (x = y)), []) := by
  have g0 := equal_s m x.vs y.vs hx hl
  rw [wire_certs_eq, ce_it, ce_it]
  by_cases h0 : x.sq = y.sq
  rotate_left
  · have hne : ¬ x = y := fun e => h0 (by rw [e])
    simp (config := {maxSteps := 4000000, implicitDefEqProofs := false}) (disch := omega) only [go_sem, ↓reduceIte, Nat.reduceAdd, Nat.reduceSub, Nat.reduceMul, Nat.reduceLeDiff, Nat.reduceLT, Int.reduceEq, Int.reduceNe, Int.reduceLT, Int.reduceLE, Int.reduceAdd, Int.reduceSub, Int.reduceMul, Int.reduceNeg, Int.reduceToNat, reduceCtorEq, Nat.reduceEqDiff, Nat.reduceBEq, Nat.reduceGT, h0, hne]
  by_cases h1 : x.vw = y.vw
  rotate_left
  · have hne : ¬ x = y := fun e => h1 (by rw [e])
    simp (config := {maxSteps := 4000000, implicitDefEqProofs := false}) (disch := omega) only [go_sem, ↓reduceIte, Nat.reduceAdd, Nat.reduceSub, Nat.reduceMul, Nat.reduceLeDiff, Nat.reduceLT, Int.reduceEq, Int.reduceNe, Int.reduceLT, Int.reduceLE, Int.reduceAdd, Int.reduceSub, Int.reduceMul, Int.reduceNeg, Int.reduceToNat, reduceCtorEq, Nat.reduceEqDiff, Nat.reduceBEq, Nat.reduceGT, h0, h1, hne]
  by_cases h2 : x.tm = y.tm
  rotate_left
  · have hne : ¬ x = y := fun e => h2 (by rw [e])
    simp (config := {maxSteps := 4000000, implicitDefEqProofs := false}) (disch := omega) only [go_sem, ↓reduceIte, Nat.reduceAdd, Nat.reduceSub, Nat.reduceMul, Nat.reduceLeDiff, Nat.reduceLT, Int.reduceEq, Int.reduceNe, Int.reduceLT, Int.reduceLE, Int.reduceAdd, Int.reduceSub, Int.reduceMul, Int.reduceNeg, Int.reduceToNat, reduceCtorEq, Nat.reduceEqDiff, Nat.reduceBEq, Nat.reduceGT, h0, h1, h2, hne]
  by_cases h3 : x.body = y.body
  rotate_left
  · have hne : ¬ x = y := fun e => h3 (by rw [e])
    simp (config := {maxSteps := 4000000, implicitDefEqProofs := false}) (disch := omega) only [go_sem, ↓reduceIte, Nat.reduceAdd, Nat.reduceSub, Nat.reduceMul, Nat.reduceLeDiff, Nat.reduceLT, Int.reduceEq, Int.reduceNe, Int.reduceLT, Int.reduceLE, Int.reduceAdd, Int.reduceSub, Int.reduceMul, Int.reduceNeg, Int.reduceToNat, reduceCtorEq, Nat.reduceEqDiff, Nat.reduceBEq, Nat.reduceGT, h0, h1, h2, h3, hne]
  have e : decide (x = y) = decide (x.vs = y.vs) := by
    apply decide_eq_decide.2
    refine ⟨fun q => by rw [q], fun q => ?_⟩
    cases x; cases y
    dsimp only at *
    simp only [h0, h1, h2, h3, q]
  rw [e]
  simp (config := {maxSteps := 4000000, implicitDefEqProofs := false}) (disch := omega) only [go_sem, ↓reduceIte, Nat.reduceAdd, Nat.reduceSub, Nat.reduceMul, Nat.reduceLeDiff, Nat.reduceLT, Int.reduceEq, Int.reduceNe, Int.reduceLT, Int.reduceLE, Int.reduceAdd, Int.reduceSub, Int.reduceMul, Int.reduceNeg, Int.reduceToNat, reduceCtorEq, Nat.reduceEqDiff, Nat.reduceBEq, Nat.reduceGT, h0, h1, h2, h3, g0]
theorem equalCert_s (m : Nat) (l l2 : List Ce) (hm : l.length < m) (hl : l.length ≤ 34359738367) (hv : ∀ y ∈ l, y.vs.length < m ∧ y.vs.length ≤ 34359738367) : slices_EqualFunc_api_Cert_Cert m (SL (l.map ceE)) (SL (l2.map ceE)) (V (.func (.func 71) #[] #[])) = some (bA (decide (l = l2)), []) := by
  rw [slices_EqualFunc_api_Cert_Cert_eq]
  by_cases hle : l.length = l2.length
  rotate_left
  · have hle' : ¬ (l.length : Int) = (l2.length : Int) := by omega
    have hne : ¬ l = l2 := fun e => hle (by rw [e])
    simp (config := {maxSteps := 4000000, implicitDefEqProofs := false}) (disch := omega) only [go_sem, ↓reduceIte, Nat.reduceAdd, Nat.reduceSub, Nat.reduceMul, Nat.reduceLeDiff, Nat.reduceLT, Int.reduceEq, Int.reduceNe, Int.reduceLT, Int.reduceLE, Int.reduceAdd, Int.reduceSub, Int.reduceMul, Int.reduceNeg, Int.reduceToNat, reduceCtorEq, Nat.reduceEqDiff, Nat.reduceBEq, Nat.reduceGT, hle', hne]
  have hle' : (l2.length : Int) = (l.length : Int) := by omega
  simp (config := {maxSteps := 4000000, implicitDefEqProofs := false}) (disch := omega) only [go_sem, ↓reduceIte, Nat.reduceAdd, Nat.reduceSub, Nat.reduceMul, Nat.reduceLeDiff, Nat.reduceLT, Int.reduceEq, Int.reduceNe, Int.reduceLT, Int.reduceLE, Int.reduceAdd, Int.reduceSub, Int.reduceMul, Int.reduceNeg, Int.reduceToNat, reduceCtorEq, Nat.reduceEqDiff, Nat.reduceBEq, Nat.reduceGT, hle']
  generalize hg : decide (l = l2) = g
  refine iter_go (ι := {k : Nat // k ≤ l.length ∧ decide (l.drop k = l2.drop k) = g}) (fun k => ⟨[], [(1, SL (l2.map ceE)), (2, V (.func (.func 71) #[] #[])), (15, SL (l.map ceE)), (16, nA l.length), (17, nA k.1)]⟩) (fun k => l.length - k.1) (fun _ => some (bA g, [])) ?_ ⟨0, Nat.zero_le _, hg⟩ (by dsimp only; omega)
  rintro kx hkx ⟨k, hk, hG⟩ kc hkc
  dsimp only at hkc hG ⊢
  rw [slices_EqualFunc_api_Cert_Cert_b1_eq]
  by_cases hlt : k < l.length
  · have hlt' : (k : Int) < (l.length : Int) := by omega
    have hlt2 : k < l2.length := by omega
    have hlt3 : (k : Int) < (l2.length : Int) := by omega
    have hD := drop_eq_iff hle hlt hlt2
    have hC := certs_s m l[k] l2[k] (hv _ (List.getElem_mem hlt)).1 (hv _ (List.getElem_mem hlt)).2
    rw [ce_it, ce_it] at hC
    have hF : findE (slices_EqualFunc_api_Cert_Cert_env m) 71 = some (.tell (wire_certs_t m)) := rfl
    have hT : wire_certs_t m [.agg (ceC l[k]), .agg (ceC l2[k])] = wire_certs m (.agg (ceC l[k])) (.agg (ceC l2[k])) := rfl
    by_cases hx : l[k] = l2[k]
    · rw [decide_eq_true hx] at hC
      have step := hkc ⟨k + 1, by omega, by rw [← hG]; apply decide_eq_decide.2; rw [hD]; exact ⟨fun q => ⟨hx, q⟩, fun q => q.2⟩⟩ (by dsimp only; omega)
      simp (config := {maxSteps := 4000000, implicitDefEqProofs := false}) (disch := omega) only [go_sem, ↓reduceIte, Nat.reduceAdd, Nat.reduceSub, Nat.reduceMul, Nat.reduceLeDiff, Nat.reduceLT, Int.reduceEq, Int.reduceNe, Int.reduceLT, Int.reduceLE, Int.reduceAdd, Int.reduceSub, Int.reduceMul, Int.reduceNeg, Int.reduceToNat, reduceCtorEq, Nat.reduceEqDiff, Nat.reduceBEq, Nat.reduceGT, hlt', hlt3, hF, hT, hC, w_i64, slices_EqualFunc_api_Cert_Cert_r1_eq]
      exact step
    · rw [decide_eq_false hx] at hC
      have hG2 : false = g := by rw [← hG]; symm; apply decide_eq_false; rw [hD]; exact fun q => hx q.1
      subst hG2
      simp (config := {maxSteps := 4000000, implicitDefEqProofs := false}) (disch := omega) only [go_sem, ↓reduceIte, Nat.reduceAdd, Nat.reduceSub, Nat.reduceMul, Nat.reduceLeDiff, Nat.reduceLT, Int.reduceEq, Int.reduceNe, Int.reduceLT, Int.reduceLE, Int.reduceAdd, Int.reduceSub, Int.reduceMul, Int.reduceNeg, Int.reduceToNat, reduceCtorEq, Nat.reduceEqDiff, Nat.reduceBEq, Nat.reduceGT, hlt', hlt3, hF, hT, hC, w_i64, hkx, slices_EqualFunc_api_Cert_Cert_r1_eq]
  · have hlt' : ¬ (k : Int) < (l.length : Int) := by omega
    have hG2 : true = g := by rw [← hG, List.drop_of_length_le (by omega), List.drop_of_length_le (by omega)]; simp
    subst hG2
    simp (config := {maxSteps := 4000000, implicitDefEqProofs := false}) (disch := omega) only [go_sem, ↓reduceIte, Nat.reduceAdd, Nat.reduceSub, Nat.reduceMul, Nat.reduceLeDiff, Nat.reduceLT, Int.reduceEq, Int.reduceNe, Int.reduceLT, Int.reduceLE, Int.reduceAdd, Int.reduceSub, Int.reduceMul, Int.reduceNeg, Int.reduceToNat, reduceCtorEq, Nat.reduceEqDiff, Nat.reduceBEq, Nat.reduceGT, hlt', hkx, slices_EqualFunc_api_Cert_Cert_r1_eq]
theorem changes_s (m : Nat) (x y : Ch) (hz : SzC m x) : wire_changes m (cgE x) (cgE y) = some (bA (decide (x = y)), []) := by
  have g0 := equal_s m x.pf y.pf hz.1 hz.2.1
  have g1 := equalCert_s m x.cs y.cs hz.2.2.1 hz.2.2.2.1 hz.2.2.2.2
  rw [wire_changes_eq, cg_it, cg_it]
  by_cases h0 : x.fr = y.fr
  rotate_left
  · have hne : ¬ x = y := fun e => h0 (by rw [e])
    simp (config := {maxSteps := 4000000, implicitDefEqProofs := false}) (disch := omega) only [go_sem, ↓reduceIte, Nat.reduceAdd, Nat.reduceSub, Nat.reduceMul, Nat.reduceLeDiff, Nat.reduceLT, Int.reduceEq, Int.reduceNe, Int.reduceLT, Int.reduceLE, Int.reduceAdd, Int.reduceSub, Int.reduceMul, Int.reduceNeg, Int.reduceToNat, reduceCtorEq, Nat.reduceEqDiff, Nat.reduceBEq, Nat.reduceGT, h0, hne]
  by_cases h1 : x.vw = y.vw
  rotate_left
  · have hne : ¬ x = y := fun e => h1 (by rw [e])
    simp (config := {maxSteps := 4000000, implicitDefEqProofs := false}) (disch := omega) only [go_sem, ↓reduceIte, Nat.reduceAdd, Nat.reduceSub, Nat.reduceMul, Nat.reduceLeDiff, Nat.reduceLT, Int.reduceEq, Int.reduceNe, Int.reduceLT, Int.reduceLE, Int.reduceAdd, Int.reduceSub, Int.reduceMul, Int.reduceNeg, Int.reduceToNat, reduceCtorEq, Nat.reduceEqDiff, Nat.reduceBEq, Nat.reduceGT, h0, h1, hne]
  by_cases h2 : x.st = y.st
  rotate_left
  · have hne : ¬ x = y := fun e => h2 (by rw [e])
    simp (config := {maxSteps := 4000000, implicitDefEqProofs := false}) (disch := omega) only [go_sem, ↓reduceIte, Nat.reduceAdd, Nat.reduceSub, Nat.reduceMul, Nat.reduceLeDiff, Nat.reduceLT, Int.reduceEq, Int.reduceNe, Int.reduceLT, Int.reduceLE, Int.reduceAdd, Int.reduceSub, Int.reduceMul, Int.reduceNeg, Int.reduceToNat, reduceCtorEq, Nat.reduceEqDiff, Nat.reduceBEq, Nat.reduceGT, h0, h1, h2, hne]
  by_cases h3 : x.rt = y.rt
  rotate_left
  · have hne : ¬ x = y := fun e => h3 (by rw [e])
    simp (config := {maxSteps := 4000000, implicitDefEqProofs := false}) (disch := omega) only [go_sem, ↓reduceIte, Nat.reduceAdd, Nat.reduceSub, Nat.reduceMul, Nat.reduceLeDiff, Nat.reduceLT, Int.reduceEq, Int.reduceNe, Int.reduceLT, Int.reduceLE, Int.reduceAdd, Int.reduceSub, Int.reduceMul, Int.reduceNeg, Int.reduceToNat, reduceCtorEq, Nat.reduceEqDiff, Nat.reduceBEq, Nat.reduceGT, h0, h1, h2, h3, hne]
  by_cases k0 : x.pf = y.pf
  rotate_left
  · have hne : ¬ x = y := fun e => k0 (by rw [e])
    rw [decide_eq_false k0] at g0
    simp (config := {maxSteps := 4000000, implicitDefEqProofs := false}) (disch := omega) only [go_sem, ↓reduceIte, Nat.reduceAdd, Nat.reduceSub, Nat.reduceMul, Nat.reduceLeDiff, Nat.reduceLT, Int.reduceEq, Int.reduceNe, Int.reduceLT, Int.reduceLE, Int.reduceAdd, Int.reduceSub, Int.reduceMul, Int.reduceNeg, Int.reduceToNat, reduceCtorEq, Nat.reduceEqDiff, Nat.reduceBEq, Nat.reduceGT, h0, h1, h2, h3, g0, hne]
  rw [decide_eq_true k0] at g0
  have e : decide (x = y) = decide (x.cs = y.cs) := by
    apply decide_eq_decide.2
    refine ⟨fun q => by rw [q], fun q => ?_⟩
    cases x; cases y
    dsimp only at *
    simp only [h0, h1, h2, h3, k0, q]
  rw [e]
  simp (config := {maxSteps := 4000000, implicitDefEqProofs := false}) (disch := omega) only [go_sem, ↓reduceIte, Nat.reduceAdd, Nat.reduceSub, Nat.reduceMul, Nat.reduceLeDiff, Nat.reduceLT, Int.reduceEq, Int.reduceNe, Int.reduceLT, Int.reduceLE, Int.reduceAdd, Int.reduceSub, Int.reduceMul, Int.reduceNeg, Int.reduceToNat, reduceCtorEq, Nat.reduceEqDiff, Nat.reduceBEq, Nat.reduceGT, h0, h1, h2, h3, g0, g1]
theorem equalChange_s (m : Nat) (l l2 : List Ch) (hm : l.length < m) (hl : l.length ≤ 34359738367) (hv : ∀ y ∈ l, SzC m y) : slices_EqualFunc_api_Change_Change m (SL (l.map cgE)) (SL (l2.map cgE)) (V (.func (.func 59) #[] #[])) = some (bA (decide (l = l2)), []) := by
  rw [slices_EqualFunc_api_Change_Change_eq]
  by_cases hle : l.length = l2.length
  rotate_left
  · have hle' : ¬ (l.length : Int) = (l2.length : Int) := by omega
    have hne : ¬ l = l2 := fun e => hle (by rw [e])
    simp (config := {maxSteps := 4000000, implicitDefEqProofs := false}) (disch := omega) only [go_sem, ↓reduceIte, Nat.reduceAdd, Nat.reduceSub, Nat.reduceMul, Nat.reduceLeDiff, Nat.reduceLT, Int.reduceEq, Int.reduceNe, Int.reduceLT, Int.reduceLE, Int.reduceAdd, Int.reduceSub, Int.reduceMul, Int.reduceNeg, Int.reduceToNat, reduceCtorEq, Nat.reduceEqDiff, Nat.reduceBEq, Nat.reduceGT, hle', hne]
  have hle' : (l2.length : Int) = (l.length : Int) := by omega
  simp (config := {maxSteps := 4000000, implicitDefEqProofs := false}) (disch := omega) only [go_sem, ↓reduceIte, Nat.reduceAdd, Nat.reduceSub, Nat.reduceMul, Nat.reduceLeDiff, Nat.reduceLT, Int.reduceEq, Int.reduceNe, Int.reduceLT, Int.reduceLE, Int.reduceAdd, Int.reduceSub, Int.reduceMul, Int.reduceNeg, Int.reduceToNat, reduceCtorEq, Nat.reduceEqDiff, Nat.reduceBEq, Nat.reduceGT, hle']
  generalize hg : decide (l = l2) = g
  refine iter_go (ι := {k : Nat // k ≤ l.length ∧ decide (l.drop k = l2.drop k) = g}) (fun k => ⟨[], [(1, SL (l2.map cgE)), (2, V (.func (.func 59) #[] #[])), (15, SL (l.map cgE)), (16, nA l.length), (17, nA k.1)]⟩) (fun k => l.length - k.1) (fun _ => some (bA g, [])) ?_ ⟨0, Nat.zero_le _, hg⟩ (by dsimp only; omega)
  rintro kx hkx ⟨k, hk, hG⟩ kc hkc
  dsimp only at hkc hG ⊢
  rw [slices_EqualFunc_api_Change_Change_b1_eq]
  by_cases hlt : k < l.length
  · have hlt' : (k : Int) < (l.length : Int) := by omega
    have hlt2 : k < l2.length := by omega
    have hlt3 : (k : Int) < (l2.length : Int) := by omega
    have hD := drop_eq_iff hle hlt hlt2
    have hC := changes_s m l[k] l2[k] (hv _ (List.getElem_mem hlt))
    rw [cg_it, cg_it] at hC
    have hF : findE (slices_EqualFunc_api_Change_Change_env m) 59 = some (.tell (wire_changes_t m)) := rfl
    have hT : wire_changes_t m [.agg (cgC l[k]), .agg (cgC l2[k])] = wire_changes m (.agg (cgC l[k])) (.agg (cgC l2[k])) := rfl
    by_cases hx : l[k] = l2[k]
    · rw [decide_eq_true hx] at hC
      have step := hkc ⟨k + 1, by omega, by rw [← hG]; apply decide_eq_decide.2; rw [hD]; exact ⟨fun q => ⟨hx, q⟩, fun q => q.2⟩⟩ (by dsimp only; omega)
      simp (config := {maxSteps := 4000000, implicitDefEqProofs := false}) (disch := omega) only [go_sem, ↓reduceIte, Nat.reduceAdd, Nat.reduceSub, Nat.reduceMul, Nat.reduceLeDiff, Nat.reduceLT, Int.reduceEq, Int.reduceNe, Int.reduceLT, Int.reduceLE, Int.reduceAdd, Int.reduceSub, Int.reduceMul, Int.reduceNeg, Int.reduceToNat, reduceCtorEq, Nat.reduceEqDiff, Nat.reduceBEq, Nat.reduceGT, hlt', hlt3, hF, hT, hC, w_i64, slices_EqualFunc_api_Change_Change_r1_eq]
      exact step
    · rw [decide_eq_false hx] at hC
      have hG2 : false = g := by rw [← hG]; symm; apply decide_eq_false; rw [hD]; exact fun q => hx q.1
      subst hG2
      simp (config := {maxSteps := 4000000, implicitDefEqProofs := false}) (disch := omega) only [go_sem, ↓reduceIte, Nat.reduceAdd, Nat.reduceSub, Nat.reduceMul, Nat.reduceLeDiff, Nat.reduceLT, Int.reduceEq, Int.reduceNe, Int.reduceLT, Int.reduceLE, Int.reduceAdd, Int.reduceSub, Int.reduceMul, Int.reduceNeg, Int.reduceToNat, reduceCtorEq, Nat.reduceEqDiff, Nat.reduceBEq, Nat.reduceGT, hlt', hlt3, hF, hT, hC, w_i64, hkx, slices_EqualFunc_api_Change_Change_r1_eq]
  · have hlt' : ¬ (k : Int) < (l.length : Int) := by omega
    have hG2 : true = g := by rw [← hG, List.drop_of_length_le (by omega), List.drop_of_length_le (by omega)]; simp
    subst hG2
    simp (config := {maxSteps := 4000000, implicitDefEqProofs := false}) (disch := omega) only [go_sem, ↓reduceIte, Nat.reduceAdd, Nat.reduceSub, Nat.reduceMul, Nat.reduceLeDiff, Nat.reduceLT, Int.reduceEq, Int.reduceNe, Int.reduceLT, Int.reduceLE, Int.reduceAdd, Int.reduceSub, Int.reduceMul, Int.reduceNeg, Int.reduceToNat, reduceCtorEq, Nat.reduceEqDiff, Nat.reduceBEq, Nat.reduceGT, hlt', hkx, slices_EqualFunc_api_Change_Change_r1_eq]
theorem same_s (m : Nat) (x y : Ms) (hz : SzM m x) : wire_Same m (msE x) (msE y) = some (bA (decide (x = y)), []) := by
  have g0 := equal_s m x.vs y.vs hz.1 hz.2.1
  have g1 := equalChange_s m x.chs y.chs hz.2.2.1 hz.2.2.2.1 hz.2.2.2.2
  rw [wire_Same_eq, ms_it, ms_it]
  by_cases h0 : x.kd = y.kd
  rotate_left
  · have hne : ¬ x = y := fun e => h0 (by rw [e])
    simp (config := {maxSteps := 4000000, implicitDefEqProofs := false}) (disch := omega) only [go_sem, ↓reduceIte, Nat.reduceAdd, Nat.reduceSub, Nat.reduceMul, Nat.reduceLeDiff, Nat.reduceLT, Int.reduceEq, Int.reduceNe, Int.reduceLT, Int.reduceLE, Int.reduceAdd, Int.reduceSub, Int.reduceMul, Int.reduceNeg, Int.reduceToNat, reduceCtorEq, Nat.reduceEqDiff, Nat.reduceBEq, Nat.reduceGT, h0, hne]
  by_cases h1 : x.fr = y.fr
  rotate_left
  · have hne : ¬ x = y := fun e => h1 (by rw [e])
    simp (config := {maxSteps := 4000000, implicitDefEqProofs := false}) (disch := omega) only [go_sem, ↓reduceIte, Nat.reduceAdd, Nat.reduceSub, Nat.reduceMul, Nat.reduceLeDiff, Nat.reduceLT, Int.reduceEq, Int.reduceNe, Int.reduceLT, Int.reduceLE, Int.reduceAdd, Int.reduceSub, Int.reduceMul, Int.reduceNeg, Int.reduceToNat, reduceCtorEq, Nat.reduceEqDiff, Nat.reduceBEq, Nat.reduceGT, h0, h1, hne]
  by_cases h2 : x.vw = y.vw
  rotate_left
  · have hne : ¬ x = y := fun e => h2 (by rw [e])
    simp (config := {maxSteps := 4000000, implicitDefEqProofs := false}) (disch := omega) only [go_sem, ↓reduceIte, Nat.reduceAdd, Nat.reduceSub, Nat.reduceMul, Nat.reduceLeDiff, Nat.reduceLT, Int.reduceEq, Int.reduceNe, Int.reduceLT, Int.reduceLE, Int.reduceAdd, Int.reduceSub, Int.reduceMul, Int.reduceNeg, Int.reduceToNat, reduceCtorEq, Nat.reduceEqDiff, Nat.reduceBEq, Nat.reduceGT, h0, h1, h2, hne]
  by_cases h3 : x.sq = y.sq
  rotate_left
  · have hne : ¬ x = y := fun e => h3 (by rw [e])
    simp (config := {maxSteps := 4000000, implicitDefEqProofs := false}) (disch := omega) only [go_sem, ↓reduceIte, Nat.reduceAdd, Nat.reduceSub, Nat.reduceMul, Nat.reduceLeDiff, Nat.reduceLT, Int.reduceEq, Int.reduceNe, Int.reduceLT, Int.reduceLE, Int.reduceAdd, Int.reduceSub, Int.reduceMul, Int.reduceNeg, Int.reduceToNat, reduceCtorEq, Nat.reduceEqDiff, Nat.reduceBEq, Nat.reduceGT, h0, h1, h2, h3, hne]
  by_cases h4 : x.tm = y.tm
  rotate_left
  · have hne : ¬ x = y := fun e => h4 (by rw [e])
    simp (config := {maxSteps := 4000000, implicitDefEqProofs := false}) (disch := omega) only [go_sem, ↓reduceIte, Nat.reduceAdd, Nat.reduceSub, Nat.reduceMul, Nat.reduceLeDiff, Nat.reduceLT, Int.reduceEq, Int.reduceNe, Int.reduceLT, Int.reduceLE, Int.reduceAdd, Int.reduceSub, Int.reduceMul, Int.reduceNeg, Int.reduceToNat, reduceCtorEq, Nat.reduceEqDiff, Nat.reduceBEq, Nat.reduceGT, h0, h1, h2, h3, h4, hne]
  by_cases h5 : x.body = y.body
  rotate_left
  · have hne : ¬ x = y := fun e => h5 (by rw [e])
    simp (config := {maxSteps := 4000000, implicitDefEqProofs := false}) (disch := omega) only [go_sem, ↓reduceIte, Nat.reduceAdd, Nat.reduceSub, Nat.reduceMul, Nat.reduceLeDiff, Nat.reduceLT, Int.reduceEq, Int.reduceNe, Int.reduceLT, Int.reduceLE, Int.reduceAdd, Int.reduceSub, Int.reduceMul, Int.reduceNeg, Int.reduceToNat, reduceCtorEq, Nat.reduceEqDiff, Nat.reduceBEq, Nat.reduceGT, h0, h1, h2, h3, h4, h5, hne]
  by_cases k0 : x.vs = y.vs
  rotate_left
  · have hne : ¬ x = y := fun e => k0 (by rw [e])
    rw [decide_eq_false k0] at g0
    simp (config := {maxSteps := 4000000, implicitDefEqProofs := false}) (disch := omega) only [go_sem, ↓reduceIte, Nat.reduceAdd, Nat.reduceSub, Nat.reduceMul, Nat.reduceLeDiff, Nat.reduceLT, Int.reduceEq, Int.reduceNe, Int.reduceLT, Int.reduceLE, Int.reduceAdd, Int.reduceSub, Int.reduceMul, Int.reduceNeg, Int.reduceToNat, reduceCtorEq, Nat.reduceEqDiff, Nat.reduceBEq, Nat.reduceGT, h0, h1, h2, h3, h4, h5, g0, hne]
  rw [decide_eq_true k0] at g0
  have e : decide (x = y) = decide (x.chs = y.chs) := by
    apply decide_eq_decide.2
    refine ⟨fun q => by rw [q], fun q => ?_⟩
    cases x; cases y
    dsimp only at *
    simp only [h0, h1, h2, h3, h4, h5, k0, q]
  rw [e]
  simp (config := {maxSteps := 4000000, implicitDefEqProofs := false}) (disch := omega) only [go_sem, ↓reduceIte, Nat.reduceAdd, Nat.reduceSub, Nat.reduceMul, Nat.reduceLeDiff, Nat.reduceLT, Int.reduceEq, Int.reduceNe, Int.reduceLT, Int.reduceLE, Int.reduceAdd, Int.reduceSub, Int.reduceMul, Int.reduceNeg, Int.reduceToNat, reduceCtorEq, Nat.reduceEqDiff, Nat.reduceBEq, Nat.reduceGT, h0, h1, h2, h3, h4, h5, g0, g1]
end Go.Proofs.Ytbdbmfifclmpcaa

namespace Go.Proofs.Ytbdbmfifclmpcaa
open Go.RowKit
set_option linter.unusedVariables false
set_option linter.unusedSimpArgs false
set_option maxRecDepth 20000
attribute [local go_sem] Nat.zero_add Nat.add_zero Nat.mul_one Int.toNat_natCast Int.natCast_zero Int.cast_ofNat_Int or_false false_or or_true true_or Nat.sub_zero Int.natCast_nonneg Int.toNat_zero Bool.true_and Bool.and_true Bool.false_and Bool.and_false Bool.true_or Bool.or_true Bool.false_or Bool.or_false Bool.not_true Bool.not_false Bool.not_not true_and and_true false_and and_false not_true_eq_false not_false_eq_true eq_self decide_true decide_false ne_eq implies_true forall_const true_implies false_implies Bool.true_eq_false Bool.false_eq_true List.map_cons List.map_nil List.all_cons List.all_nil List.length_cons List.length_nil List.length_map List.length_append List.nil_append List.cons_append List.set_cons_zero List.set_cons_succ List.set_nil List.drop_zero List.drop_succ_cons List.drop_nil List.take_zero List.take_succ_cons List.take_nil Option.map_some Option.map_none Option.isSome_some List.all_append List.all_map Function.comp_def decide_eq_true_eq Bool.and_eq_true beq_self_eq_true or_self and_self ite_true ite_false Nat.le_refl Bool.not_eq_true decide_not Bool.not_eq_true' decide_eq_false_iff_not Bool.not_eq_false Bool.or_eq_true if_true if_false ite_self u_roF u_cvF u_cvC u_ceT u_ceK u_appS sm_it sm_len sm_sure sm_ltA sm_lt1 sm_all1 sm_ro sm_take sm_sl sm_set sm_noT sm_fr sm_st_fr sm_set_fr sm_kd sm_st_kd sm_set_kd sm_vw sm_st_vw sm_set_vw sm_sq sm_st_sq sm_set_sq sm_tm sm_st_tm sm_set_tm zsm_len zsm_sure zsm_lt1 zsm_sl zsm_ro zsm_setz zsm_set zsm_setr zsm_take sms_ltA sms_len ce_it ce_len ce_sure ce_ltA ce_lt1 ce_all1 ce_ro ce_take ce_sl ce_set ce_noT ce_sq ce_st_sq ce_set_sq ce_vw ce_st_vw ce_set_vw ce_tm ce_st_tm ce_set_tm ce_body ce_st_body ce_set_body ce_vs ce_st_vs ce_set_vs zce_len zce_sure zce_lt1 zce_sl zce_ro zce_setz zce_set zce_setr zce_take ces_ltA ces_len cg_it cg_len cg_sure cg_ltA cg_lt1 cg_all1 cg_ro cg_take cg_sl cg_set cg_noT cg_fr cg_st_fr cg_set_fr cg_vw cg_st_vw cg_set_vw cg_st cg_st_st cg_set_st cg_rt cg_st_rt cg_set_rt cg_pf cg_st_pf cg_set_pf cg_cs cg_st_cs cg_set_cs zcg_len zcg_sure zcg_lt1 zcg_sl zcg_ro zcg_setz zcg_set zcg_setr zcg_take cgs_ltA cgs_len ms_it ms_len ms_sure ms_ltA ms_lt1 ms_all1 ms_ro ms_take ms_sl ms_set ms_noT ms_kd ms_st_kd ms_set_kd ms_fr ms_st_fr ms_set_fr ms_vw ms_st_vw ms_set_vw ms_sq ms_st_sq ms_set_sq ms_tm ms_st_tm ms_set_tm ms_body ms_st_body ms_set_body ms_vs ms_st_vs ms_set_vs ms_chs ms_st_chs ms_set_chs zms_len zms_sure zms_lt1 zms_sl zms_ro zms_setz zms_set zms_setr zms_take mss_ltA mss_len natInt u_nthM u_bz u_bi1 u_bi2 u_bi3 u_bi4 u_bi5 u_bi6 u_bi7 bC_length ltO_o ltO_r List.take_length u_eqE
set_option maxHeartbeats 2000000 in
theorem rchanges_s (m : Nat) (x y : Ch) (hz : SzC m x) : plenumref28_Changes m (cgE x) (cgE y) = some (bA (decide (x = y)), []) := by
  have g0 := rStmts_s m x.pf y.pf hz.1 hz.2.1
  have hm1 := hz.2.2.1
  have hm2 := hz.2.2.2.1
  rw [plenumref28_Changes_eq, cg_it, cg_it]
  by_cases h0 : x.fr = y.fr
  rotate_left
  · have hne : ¬ x = y := fun e => h0 (by rw [e])
    simp (config := {maxSteps := 4000000, implicitDefEqProofs := false}) (disch := omega) only [go_sem, ↓reduceIte, Nat.reduceAdd, Nat.reduceSub, Nat.reduceMul, Nat.reduceLeDiff, Nat.reduceLT, Int.reduceEq, Int.reduceNe, Int.reduceLT, Int.reduceLE, Int.reduceAdd, Int.reduceSub, Int.reduceMul, Int.reduceNeg, Int.reduceToNat, reduceCtorEq, Nat.reduceEqDiff, Nat.reduceBEq, Nat.reduceGT, h0, hne, plenumref28_Changes_r5_eq, plenumref28_Changes_r4_eq, plenumref28_Changes_r3_eq, plenumref28_Changes_r2_eq, plenumref28_Changes_r1_eq]
  by_cases h1 : x.vw = y.vw
  rotate_left
  · have hne : ¬ x = y := fun e => h1 (by rw [e])
    simp (config := {maxSteps := 4000000, implicitDefEqProofs := false}) (disch := omega) only [go_sem, ↓reduceIte, Nat.reduceAdd, Nat.reduceSub, Nat.reduceMul, Nat.reduceLeDiff, Nat.reduceLT, Int.reduceEq, Int.reduceNe, Int.reduceLT, Int.reduceLE, Int.reduceAdd, Int.reduceSub, Int.reduceMul, Int.reduceNeg, Int.reduceToNat, reduceCtorEq, Nat.reduceEqDiff, Nat.reduceBEq, Nat.reduceGT, h0, h1, hne, plenumref28_Changes_r5_eq, plenumref28_Changes_r4_eq, plenumref28_Changes_r3_eq, plenumref28_Changes_r2_eq, plenumref28_Changes_r1_eq]
  by_cases h2 : x.st = y.st
  rotate_left
  · have hne : ¬ x = y := fun e => h2 (by rw [e])
    simp (config := {maxSteps := 4000000, implicitDefEqProofs := false}) (disch := omega) only [go_sem, ↓reduceIte, Nat.reduceAdd, Nat.reduceSub, Nat.reduceMul, Nat.reduceLeDiff, Nat.reduceLT, Int.reduceEq, Int.reduceNe, Int.reduceLT, Int.reduceLE, Int.reduceAdd, Int.reduceSub, Int.reduceMul, Int.reduceNeg, Int.reduceToNat, reduceCtorEq, Nat.reduceEqDiff, Nat.reduceBEq, Nat.reduceGT, h0, h1, h2, hne, plenumref28_Changes_r5_eq, plenumref28_Changes_r4_eq, plenumref28_Changes_r3_eq, plenumref28_Changes_r2_eq, plenumref28_Changes_r1_eq]
  by_cases h3 : x.rt = y.rt
  rotate_left
  · have hne : ¬ x = y := fun e => h3 (by rw [e])
    simp (config := {maxSteps := 4000000, implicitDefEqProofs := false}) (disch := omega) only [go_sem, ↓reduceIte, Nat.reduceAdd, Nat.reduceSub, Nat.reduceMul, Nat.reduceLeDiff, Nat.reduceLT, Int.reduceEq, Int.reduceNe, Int.reduceLT, Int.reduceLE, Int.reduceAdd, Int.reduceSub, Int.reduceMul, Int.reduceNeg, Int.reduceToNat, reduceCtorEq, Nat.reduceEqDiff, Nat.reduceBEq, Nat.reduceGT, h0, h1, h2, h3, hne, plenumref28_Changes_r5_eq, plenumref28_Changes_r4_eq, plenumref28_Changes_r3_eq, plenumref28_Changes_r2_eq, plenumref28_Changes_r1_eq]
  by_cases k0 : x.pf = y.pf
  rotate_left
  · have hne : ¬ x = y := fun e => k0 (by rw [e])
    rw [decide_eq_false k0] at g0
    simp (config := {maxSteps := 4000000, implicitDefEqProofs := false}) (disch := omega) only [go_sem, ↓reduceIte, Nat.reduceAdd, Nat.reduceSub, Nat.reduceMul, Nat.reduceLeDiff, Nat.reduceLT, Int.reduceEq, Int.reduceNe, Int.reduceLT, Int.reduceLE, Int.reduceAdd, Int.reduceSub, Int.reduceMul, Int.reduceNeg, Int.reduceToNat, reduceCtorEq, Nat.reduceEqDiff, Nat.reduceBEq, Nat.reduceGT, h0, h1, h2, h3, g0, hne, plenumref28_Changes_r5_eq, plenumref28_Changes_r4_eq, plenumref28_Changes_r3_eq, plenumref28_Changes_r2_eq, plenumref28_Changes_r1_eq]
  rw [decide_eq_true k0] at g0
  by_cases hle : x.cs.length = y.cs.length
  rotate_left
  · have hne : ¬ x = y := fun e => hle (by rw [e])
    have hle' : ¬ (x.cs.length : Int) = (y.cs.length : Int) := by omega
    simp (config := {maxSteps := 4000000, implicitDefEqProofs := false}) (disch := omega) only [go_sem, ↓reduceIte, Nat.reduceAdd, Nat.reduceSub, Nat.reduceMul, Nat.reduceLeDiff, Nat.reduceLT, Int.reduceEq, Int.reduceNe, Int.reduceLT, Int.reduceLE, Int.reduceAdd, Int.reduceSub, Int.reduceMul, Int.reduceNeg, Int.reduceToNat, reduceCtorEq, Nat.reduceEqDiff, Nat.reduceBEq, Nat.reduceGT, h0, h1, h2, h3, g0, hne, hle', plenumref28_Changes_r5_eq, plenumref28_Changes_r4_eq, plenumref28_Changes_r3_eq, plenumref28_Changes_r2_eq, plenumref28_Changes_r1_eq]
  have hle' : (y.cs.length : Int) = (x.cs.length : Int) := by omega
  have e : decide (x = y) = decide (x.cs = y.cs) := by
    apply decide_eq_decide.2
    refine ⟨fun q => by rw [q], fun q => ?_⟩
    cases x; cases y
    dsimp only at *
    simp only [h0, h1, h2, h3, k0, q]
  rw [e]
  simp (config := {maxSteps := 4000000, implicitDefEqProofs := false}) (disch := omega) only [go_sem, ↓reduceIte, Nat.reduceAdd, Nat.reduceSub, Nat.reduceMul, Nat.reduceLeDiff, Nat.reduceLT, Int.reduceEq, Int.reduceNe, Int.reduceLT, Int.reduceLE, Int.reduceAdd, Int.reduceSub, Int.reduceMul, Int.reduceNeg, Int.reduceToNat, reduceCtorEq, Nat.reduceEqDiff, Nat.reduceBEq, Nat.reduceGT, h0, h1, h2, h3, g0, hle', plenumref28_Changes_r5_eq, plenumref28_Changes_r4_eq, plenumref28_Changes_r3_eq, plenumref28_Changes_r2_eq, plenumref28_Changes_r1_eq]
  generalize hg : decide (x.cs = y.cs) = g
  refine iter_go (ι := {k : Nat // k ≤ x.cs.length ∧ decide (x.cs.drop k = y.cs.drop k) = g}) (fun k => ⟨[⟨1, ty_api_Change, 0, cgC x⟩, ⟨1, ty_api_Change, 0, cgC y⟩], [(2, OP 0 0), (3, OP 1 0), (5, nA k.1)]⟩) (fun k => x.cs.length - k.1) (fun _ => some (bA g, [])) ?_ ⟨0, Nat.zero_le _, hg⟩ (by dsimp only; omega)
  clear g0 e hg
  rintro kx hkx ⟨k, hk, hG⟩ kc hkc
  dsimp only at hkc hG ⊢
  rw [plenumref28_Changes_b1_eq]
  by_cases hlt : k < x.cs.length
  rotate_left
  · have hlt' : ¬ (k : Int) < (x.cs.length : Int) := by omega
    have hG2 : true = g := by rw [← hG, List.drop_of_length_le (by omega), List.drop_of_length_le (by omega)]; simp
    subst hG2
    simp (config := {maxSteps := 4000000, implicitDefEqProofs := false}) (disch := omega) only [go_sem, ↓reduceIte, Nat.reduceAdd, Nat.reduceSub, Nat.reduceMul, Nat.reduceLeDiff, Nat.reduceLT, Int.reduceEq, Int.reduceNe, Int.reduceLT, Int.reduceLE, Int.reduceAdd, Int.reduceSub, Int.reduceMul, Int.reduceNeg, Int.reduceToNat, reduceCtorEq, Nat.reduceEqDiff, Nat.reduceBEq, Nat.reduceGT, hlt', hkx, plenumref28_Changes_r5_eq, plenumref28_Changes_r4_eq, plenumref28_Changes_r3_eq, plenumref28_Changes_r2_eq, plenumref28_Changes_r1_eq]
  have hlt' : (k : Int) < (x.cs.length : Int) := by omega
  have hlt2 : k < y.cs.length := by omega
  have hlt3 : (k : Int) < (y.cs.length : Int) := by omega
  have hD := drop_eq_iff hle hlt hlt2
  have no : x.cs[k] ≠ y.cs[k] → false = g := fun hx => by rw [← hG]; symm; apply decide_eq_false; rw [hD]; exact fun q => hx q.1
  obtain ⟨v1, v2⟩ := hz.2.2.2.2 x.cs[k] (List.getElem_mem hlt)
  have g1 := rStmts_s m x.cs[k].vs y.cs[k].vs v1 v2
  generalize hp : x.cs[k] = p at *
  generalize hq : y.cs[k] = q at *
  by_cases d0 : p.sq = q.sq
  rotate_left
  · have hG2 := no (fun e => d0 (by rw [e]))
    subst hG2
    simp (config := {maxSteps := 4000000, implicitDefEqProofs := false}) (disch := omega) only [go_sem, ↓reduceIte, Nat.reduceAdd, Nat.reduceSub, Nat.reduceMul, Nat.reduceLeDiff, Nat.reduceLT, Int.reduceEq, Int.reduceNe, Int.reduceLT, Int.reduceLE, Int.reduceAdd, Int.reduceSub, Int.reduceMul, Int.reduceNeg, Int.reduceToNat, reduceCtorEq, Nat.reduceEqDiff, Nat.reduceBEq, Nat.reduceGT, hlt', hlt3, hp, hq, d0, w_i64, hkx, plenumref28_Changes_r5_eq, plenumref28_Changes_r4_eq, plenumref28_Changes_r3_eq, plenumref28_Changes_r2_eq, plenumref28_Changes_r1_eq]
  by_cases d1 : p.vw = q.vw
  rotate_left
  · have hG2 := no (fun e => d1 (by rw [e]))
    subst hG2
    simp (config := {maxSteps := 4000000, implicitDefEqProofs := false}) (disch := omega) only [go_sem, ↓reduceIte, Nat.reduceAdd, Nat.reduceSub, Nat.reduceMul, Nat.reduceLeDiff, Nat.reduceLT, Int.reduceEq, Int.reduceNe, Int.reduceLT, Int.reduceLE, Int.reduceAdd, Int.reduceSub, Int.reduceMul, Int.reduceNeg, Int.reduceToNat, reduceCtorEq, Nat.reduceEqDiff, Nat.reduceBEq, Nat.reduceGT, hlt', hlt3, hp, hq, d0, d1, w_i64, hkx, plenumref28_Changes_r5_eq, plenumref28_Changes_r4_eq, plenumref28_Changes_r3_eq, plenumref28_Changes_r2_eq, plenumref28_Changes_r1_eq]
  by_cases d2 : p.tm = q.tm
  rotate_left
  · have hG2 := no (fun e => d2 (by rw [e]))
    subst hG2
    simp (config := {maxSteps := 4000000, implicitDefEqProofs := false}) (disch := omega) only [go_sem, ↓reduceIte, Nat.reduceAdd, Nat.reduceSub, Nat.reduceMul, Nat.reduceLeDiff, Nat.reduceLT, Int.reduceEq, Int.reduceNe, Int.reduceLT, Int.reduceLE, Int.reduceAdd, Int.reduceSub, Int.reduceMul, Int.reduceNeg, Int.reduceToNat, reduceCtorEq, Nat.reduceEqDiff, Nat.reduceBEq, Nat.reduceGT, hlt', hlt3, hp, hq, d0, d1, d2, w_i64, hkx, plenumref28_Changes_r5_eq, plenumref28_Changes_r4_eq, plenumref28_Changes_r3_eq, plenumref28_Changes_r2_eq, plenumref28_Changes_r1_eq]
  by_cases d3 : p.body = q.body
  rotate_left
  · have hG2 := no (fun e => d3 (by rw [e]))
    subst hG2
    simp (config := {maxSteps := 4000000, implicitDefEqProofs := false}) (disch := omega) only [go_sem, ↓reduceIte, Nat.reduceAdd, Nat.reduceSub, Nat.reduceMul, Nat.reduceLeDiff, Nat.reduceLT, Int.reduceEq, Int.reduceNe, Int.reduceLT, Int.reduceLE, Int.reduceAdd, Int.reduceSub, Int.reduceMul, Int.reduceNeg, Int.reduceToNat, reduceCtorEq, Nat.reduceEqDiff, Nat.reduceBEq, Nat.reduceGT, hlt', hlt3, hp, hq, d0, d1, d2, d3, w_i64, hkx, plenumref28_Changes_r5_eq, plenumref28_Changes_r4_eq, plenumref28_Changes_r3_eq, plenumref28_Changes_r2_eq, plenumref28_Changes_r1_eq]
  by_cases d4 : p.vs = q.vs
  rotate_left
  · have hG2 := no (fun e => d4 (by rw [e]))
    subst hG2
    rw [decide_eq_false d4] at g1
    simp (config := {maxSteps := 4000000, implicitDefEqProofs := false}) (disch := omega) only [go_sem, ↓reduceIte, Nat.reduceAdd, Nat.reduceSub, Nat.reduceMul, Nat.reduceLeDiff, Nat.reduceLT, Int.reduceEq, Int.reduceNe, Int.reduceLT, Int.reduceLE, Int.reduceAdd, Int.reduceSub, Int.reduceMul, Int.reduceNeg, Int.reduceToNat, reduceCtorEq, Nat.reduceEqDiff, Nat.reduceBEq, Nat.reduceGT, hlt', hlt3, hp, hq, d0, d1, d2, d3, g1, w_i64, hkx, plenumref28_Changes_r5_eq, plenumref28_Changes_r4_eq, plenumref28_Changes_r3_eq, plenumref28_Changes_r2_eq, plenumref28_Changes_r1_eq]
  rw [decide_eq_true d4] at g1
  have hx : p = q := by
    cases p; cases q
    dsimp only at *
    simp only [d0, d1, d2, d3, d4]
  have step := hkc ⟨k + 1, by omega, by rw [← hG]; apply decide_eq_decide.2; rw [hD]; exact ⟨fun q => ⟨hx, q⟩, fun q => q.2⟩⟩ (by dsimp only; omega)
  simp (config := {maxSteps := 4000000, implicitDefEqProofs := false}) (disch := omega) only [go_sem, ↓reduceIte, Nat.reduceAdd, Nat.reduceSub, Nat.reduceMul, Nat.reduceLeDiff, Nat.reduceLT, Int.reduceEq, Int.reduceNe, Int.reduceLT, Int.reduceLE, Int.reduceAdd, Int.reduceSub, Int.reduceMul, Int.reduceNeg, Int.reduceToNat, reduceCtorEq, Nat.reduceEqDiff, Nat.reduceBEq, Nat.reduceGT, hlt', hlt3, hp, hq, d0, d1, d2, d3, g1, w_i64, plenumref28_Changes_r5_eq, plenumref28_Changes_r4_eq, plenumref28_Changes_r3_eq, plenumref28_Changes_r2_eq, plenumref28_Changes_r1_eq]
  exact step
set_option maxHeartbeats 2000000 in
theorem rsame_s (m : Nat) (x y : Ms) (hz : SzM m x) : plenumref28_Same m (msE x) (msE y) = some (bA (decide (x = y)), []) := by
  have g0 := rStmts_s m x.vs y.vs hz.1 hz.2.1
  have hm1 := hz.2.2.1
  have hm2 := hz.2.2.2.1
  rw [plenumref28_Same_eq, ms_it, ms_it]
  by_cases h0 : x.kd = y.kd
  rotate_left
  · have hne : ¬ x = y := fun e => h0 (by rw [e])
    simp (config := {maxSteps := 4000000, implicitDefEqProofs := false}) (disch := omega) only [go_sem, ↓reduceIte, Nat.reduceAdd, Nat.reduceSub, Nat.reduceMul, Nat.reduceLeDiff, Nat.reduceLT, Int.reduceEq, Int.reduceNe, Int.reduceLT, Int.reduceLE, Int.reduceAdd, Int.reduceSub, Int.reduceMul, Int.reduceNeg, Int.reduceToNat, reduceCtorEq, Nat.reduceEqDiff, Nat.reduceBEq, Nat.reduceGT, h0, hne, plenumref28_Same_r3_eq, plenumref28_Same_r2_eq, plenumref28_Same_r1_eq]
  by_cases h1 : x.fr = y.fr
  rotate_left
  · have hne : ¬ x = y := fun e => h1 (by rw [e])
    simp (config := {maxSteps := 4000000, implicitDefEqProofs := false}) (disch := omega) only [go_sem, ↓reduceIte, Nat.reduceAdd, Nat.reduceSub, Nat.reduceMul, Nat.reduceLeDiff, Nat.reduceLT, Int.reduceEq, Int.reduceNe, Int.reduceLT, Int.reduceLE, Int.reduceAdd, Int.reduceSub, Int.reduceMul, Int.reduceNeg, Int.reduceToNat, reduceCtorEq, Nat.reduceEqDiff, Nat.reduceBEq, Nat.reduceGT, h0, h1, hne, plenumref28_Same_r3_eq, plenumref28_Same_r2_eq, plenumref28_Same_r1_eq]
  by_cases h2 : x.vw = y.vw
  rotate_left
  · have hne : ¬ x = y := fun e => h2 (by rw [e])
    simp (config := {maxSteps := 4000000, implicitDefEqProofs := false}) (disch := omega) only [go_sem, ↓reduceIte, Nat.reduceAdd, Nat.reduceSub, Nat.reduceMul, Nat.reduceLeDiff, Nat.reduceLT, Int.reduceEq, Int.reduceNe, Int.reduceLT, Int.reduceLE, Int.reduceAdd, Int.reduceSub, Int.reduceMul, Int.reduceNeg, Int.reduceToNat, reduceCtorEq, Nat.reduceEqDiff, Nat.reduceBEq, Nat.reduceGT, h0, h1, h2, hne, plenumref28_Same_r3_eq, plenumref28_Same_r2_eq, plenumref28_Same_r1_eq]
  by_cases h3 : x.sq = y.sq
  rotate_left
  · have hne : ¬ x = y := fun e => h3 (by rw [e])
    simp (config := {maxSteps := 4000000, implicitDefEqProofs := false}) (disch := omega) only [go_sem, ↓reduceIte, Nat.reduceAdd, Nat.reduceSub, Nat.reduceMul, Nat.reduceLeDiff, Nat.reduceLT, Int.reduceEq, Int.reduceNe, Int.reduceLT, Int.reduceLE, Int.reduceAdd, Int.reduceSub, Int.reduceMul, Int.reduceNeg, Int.reduceToNat, reduceCtorEq, Nat.reduceEqDiff, Nat.reduceBEq, Nat.reduceGT, h0, h1, h2, h3, hne, plenumref28_Same_r3_eq, plenumref28_Same_r2_eq, plenumref28_Same_r1_eq]
  by_cases h4 : x.tm = y.tm
  rotate_left
  · have hne : ¬ x = y := fun e => h4 (by rw [e])
    simp (config := {maxSteps := 4000000, implicitDefEqProofs := false}) (disch := omega) only [go_sem, ↓reduceIte, Nat.reduceAdd, Nat.reduceSub, Nat.reduceMul, Nat.reduceLeDiff, Nat.reduceLT, Int.reduceEq, Int.reduceNe, Int.reduceLT, Int.reduceLE, Int.reduceAdd, Int.reduceSub, Int.reduceMul, Int.reduceNeg, Int.reduceToNat, reduceCtorEq, Nat.reduceEqDiff, Nat.reduceBEq, Nat.reduceGT, h0, h1, h2, h3, h4, hne, plenumref28_Same_r3_eq, plenumref28_Same_r2_eq, plenumref28_Same_r1_eq]
  by_cases h5 : x.body = y.body
  rotate_left
  · have hne : ¬ x = y := fun e => h5 (by rw [e])
    simp (config := {maxSteps := 4000000, implicitDefEqProofs := false}) (disch := omega) only [go_sem, ↓reduceIte, Nat.reduceAdd, Nat.reduceSub, Nat.reduceMul, Nat.reduceLeDiff, Nat.reduceLT, Int.reduceEq, Int.reduceNe, Int.reduceLT, Int.reduceLE, Int.reduceAdd, Int.reduceSub, Int.reduceMul, Int.reduceNeg, Int.reduceToNat, reduceCtorEq, Nat.reduceEqDiff, Nat.reduceBEq, Nat.reduceGT, h0, h1, h2, h3, h4, h5, hne, plenumref28_Same_r3_eq, plenumref28_Same_r2_eq, plenumref28_Same_r1_eq]
  by_cases k0 : x.vs = y.vs
  rotate_left
  · have hne : ¬ x = y := fun e => k0 (by rw [e])
    rw [decide_eq_false k0] at g0
    simp (config := {maxSteps := 4000000, implicitDefEqProofs := false}) (disch := omega) only [go_sem, ↓reduceIte, Nat.reduceAdd, Nat.reduceSub, Nat.reduceMul, Nat.reduceLeDiff, Nat.reduceLT, Int.reduceEq, Int.reduceNe, Int.reduceLT, Int.reduceLE, Int.reduceAdd, Int.reduceSub, Int.reduceMul, Int.reduceNeg, Int.reduceToNat, reduceCtorEq, Nat.reduceEqDiff, Nat.reduceBEq, Nat.reduceGT, h0, h1, h2, h3, h4, h5, g0, hne, plenumref28_Same_r3_eq, plenumref28_Same_r2_eq, plenumref28_Same_r1_eq]
  rw [decide_eq_true k0] at g0
  by_cases hle : x.chs.length = y.chs.length
  rotate_left
  · have hne : ¬ x = y := fun e => hle (by rw [e])
    have hle' : ¬ (x.chs.length : Int) = (y.chs.length : Int) := by omega
    simp (config := {maxSteps := 4000000, implicitDefEqProofs := false}) (disch := omega) only [go_sem, ↓reduceIte, Nat.reduceAdd, Nat.reduceSub, Nat.reduceMul, Nat.reduceLeDiff, Nat.reduceLT, Int.reduceEq, Int.reduceNe, Int.reduceLT, Int.reduceLE, Int.reduceAdd, Int.reduceSub, Int.reduceMul, Int.reduceNeg, Int.reduceToNat, reduceCtorEq, Nat.reduceEqDiff, Nat.reduceBEq, Nat.reduceGT, h0, h1, h2, h3, h4, h5, g0, hne, hle', plenumref28_Same_r3_eq, plenumref28_Same_r2_eq, plenumref28_Same_r1_eq]
  have hle' : (y.chs.length : Int) = (x.chs.length : Int) := by omega
  have e : decide (x = y) = decide (x.chs = y.chs) := by
    apply decide_eq_decide.2
    refine ⟨fun q => by rw [q], fun q => ?_⟩
    cases x; cases y
    dsimp only at *
    simp only [h0, h1, h2, h3, h4, h5, k0, q]
  rw [e]
  simp (config := {maxSteps := 4000000, implicitDefEqProofs := false}) (disch := omega) only [go_sem, ↓reduceIte, Nat.reduceAdd, Nat.reduceSub, Nat.reduceMul, Nat.reduceLeDiff, Nat.reduceLT, Int.reduceEq, Int.reduceNe, Int.reduceLT, Int.reduceLE, Int.reduceAdd, Int.reduceSub, Int.reduceMul, Int.reduceNeg, Int.reduceToNat, reduceCtorEq, Nat.reduceEqDiff, Nat.reduceBEq, Nat.reduceGT, h0, h1, h2, h3, h4, h5, g0, hle', plenumref28_Same_r3_eq, plenumref28_Same_r2_eq, plenumref28_Same_r1_eq]
  generalize hg : decide (x.chs = y.chs) = g
  refine iter_go (ι := {k : Nat // k ≤ x.chs.length ∧ decide (x.chs.drop k = y.chs.drop k) = g}) (fun k => ⟨[⟨1, ty_api_Msg, 0, msC x⟩, ⟨1, ty_api_Msg, 0, msC y⟩], [(2, OP 0 0), (3, OP 1 0), (5, nA k.1)]⟩) (fun k => x.chs.length - k.1) (fun _ => some (bA g, [])) ?_ ⟨0, Nat.zero_le _, hg⟩ (by dsimp only; omega)
  clear g0 e hg
  rintro kx hkx ⟨k, hk, hG⟩ kc hkc
  dsimp only at hkc hG ⊢
  rw [plenumref28_Same_b1_eq]
  by_cases hlt : k < x.chs.length
  rotate_left
  · have hlt' : ¬ (k : Int) < (x.chs.length : Int) := by omega
    have hG2 : true = g := by rw [← hG, List.drop_of_length_le (by omega), List.drop_of_length_le (by omega)]; simp
    subst hG2
    simp (config := {maxSteps := 4000000, implicitDefEqProofs := false}) (disch := omega) only [go_sem, ↓reduceIte, Nat.reduceAdd, Nat.reduceSub, Nat.reduceMul, Nat.reduceLeDiff, Nat.reduceLT, Int.reduceEq, Int.reduceNe, Int.reduceLT, Int.reduceLE, Int.reduceAdd, Int.reduceSub, Int.reduceMul, Int.reduceNeg, Int.reduceToNat, reduceCtorEq, Nat.reduceEqDiff, Nat.reduceBEq, Nat.reduceGT, hlt', hkx, plenumref28_Same_r3_eq, plenumref28_Same_r2_eq, plenumref28_Same_r1_eq]
  have hlt' : (k : Int) < (x.chs.length : Int) := by omega
  have hlt2 : k < y.chs.length := by omega
  have hlt3 : (k : Int) < (y.chs.length : Int) := by omega
  have hD := drop_eq_iff hle hlt hlt2
  have no : x.chs[k] ≠ y.chs[k] → false = g := fun hx => by rw [← hG]; symm; apply decide_eq_false; rw [hD]; exact fun q => hx q.1
  have g1 := rchanges_s m x.chs[k] y.chs[k] (hz.2.2.2.2 x.chs[k] (List.getElem_mem hlt))
  rw [cg_it, cg_it] at g1
  by_cases hx : x.chs[k] = y.chs[k]
  · rw [decide_eq_true hx] at g1
    have step := hkc ⟨k + 1, by omega, by rw [← hG]; apply decide_eq_decide.2; rw [hD]; exact ⟨fun q => ⟨hx, q⟩, fun q => q.2⟩⟩ (by dsimp only; omega)
    simp (config := {maxSteps := 4000000, implicitDefEqProofs := false}) (disch := omega) only [go_sem, ↓reduceIte, Nat.reduceAdd, Nat.reduceSub, Nat.reduceMul, Nat.reduceLeDiff, Nat.reduceLT, Int.reduceEq, Int.reduceNe, Int.reduceLT, Int.reduceLE, Int.reduceAdd, Int.reduceSub, Int.reduceMul, Int.reduceNeg, Int.reduceToNat, reduceCtorEq, Nat.reduceEqDiff, Nat.reduceBEq, Nat.reduceGT, hlt', hlt3, g1, w_i64, plenumref28_Same_r3_eq, plenumref28_Same_r2_eq, plenumref28_Same_r1_eq]
    exact step
  · rw [decide_eq_false hx] at g1
    have hG2 := no hx
    subst hG2
    simp (config := {maxSteps := 4000000, implicitDefEqProofs := false}) (disch := omega) only [go_sem, ↓reduceIte, Nat.reduceAdd, Nat.reduceSub, Nat.reduceMul, Nat.reduceLeDiff, Nat.reduceLT, Int.reduceEq, Int.reduceNe, Int.reduceLT, Int.reduceLE, Int.reduceAdd, Int.reduceSub, Int.reduceMul, Int.reduceNeg, Int.reduceToNat, reduceCtorEq, Nat.reduceEqDiff, Nat.reduceBEq, Nat.reduceGT, hlt', hlt3, g1, w_i64, hkx, plenumref28_Same_r3_eq, plenumref28_Same_r2_eq, plenumref28_Same_r1_eq]
end Go.Proofs.Ytbdbmfifclmpcaa

namespace Go.Proofs.Ytbdbmfifclmpcaa
open Go.RowKit
set_option linter.unusedVariables false
set_option linter.unusedSimpArgs false
set_option maxRecDepth 20000
attribute [local go_sem] Nat.zero_add Nat.add_zero Nat.mul_one Int.toNat_natCast Int.natCast_zero Int.cast_ofNat_Int or_false false_or or_true true_or Nat.sub_zero Int.natCast_nonneg Int.toNat_zero Bool.true_and Bool.and_true Bool.false_and Bool.and_false Bool.true_or Bool.or_true Bool.false_or Bool.or_false Bool.not_true Bool.not_false Bool.not_not true_and and_true false_and and_false not_true_eq_false not_false_eq_true eq_self decide_true decide_false ne_eq implies_true forall_const true_implies false_implies Bool.true_eq_false Bool.false_eq_true List.map_cons List.map_nil List.all_cons List.all_nil List.length_cons List.length_nil List.length_map List.length_append List.nil_append List.cons_append List.set_cons_zero List.set_cons_succ List.set_nil List.drop_zero List.drop_succ_cons List.drop_nil List.take_zero List.take_succ_cons List.take_nil Option.map_some Option.map_none Option.isSome_some List.all_append List.all_map Function.comp_def decide_eq_true_eq Bool.and_eq_true beq_self_eq_true or_self and_self ite_true ite_false Nat.le_refl Bool.not_eq_true decide_not Bool.not_eq_true' decide_eq_false_iff_not Bool.not_eq_false Bool.or_eq_true if_true if_false ite_self u_roF u_cvF u_cvC u_ceT u_ceK u_appS sm_it sm_len sm_sure sm_ltA sm_lt1 sm_all1 sm_ro sm_take sm_sl sm_set sm_noT sm_fr sm_st_fr sm_set_fr sm_kd sm_st_kd sm_set_kd sm_vw sm_st_vw sm_set_vw sm_sq sm_st_sq sm_set_sq sm_tm sm_st_tm sm_set_tm zsm_len zsm_sure zsm_lt1 zsm_sl zsm_ro zsm_setz zsm_set zsm_setr zsm_take sms_ltA sms_len ce_it ce_len ce_sure ce_ltA ce_lt1 ce_all1 ce_ro ce_take ce_sl ce_set ce_noT ce_sq ce_st_sq ce_set_sq ce_vw ce_st_vw ce_set_vw ce_tm ce_st_tm ce_set_tm ce_body ce_st_body ce_set_body ce_vs ce_st_vs ce_set_vs zce_len zce_sure zce_lt1 zce_sl zce_ro zce_setz zce_set zce_setr zce_take ces_ltA ces_len cg_it cg_len cg_sure cg_ltA cg_lt1 cg_all1 cg_ro cg_take cg_sl cg_set cg_noT cg_fr cg_st_fr cg_set_fr cg_vw cg_st_vw cg_set_vw cg_st cg_st_st cg_set_st cg_rt cg_st_rt cg_set_rt cg_pf cg_st_pf cg_set_pf cg_cs cg_st_cs cg_set_cs zcg_len zcg_sure zcg_lt1 zcg_sl zcg_ro zcg_setz zcg_set zcg_setr zcg_take cgs_ltA cgs_len ms_it ms_len ms_sure ms_ltA ms_lt1 ms_all1 ms_ro ms_take ms_sl ms_set ms_noT ms_kd ms_st_kd ms_set_kd ms_fr ms_st_fr ms_set_fr ms_vw ms_st_vw ms_set_vw ms_sq ms_st_sq ms_set_sq ms_tm ms_st_tm ms_set_tm ms_body ms_st_body ms_set_body ms_vs ms_st_vs ms_set_vs ms_chs ms_st_chs ms_set_chs zms_len zms_sure zms_lt1 zms_sl zms_ro zms_setz zms_set zms_setr zms_take mss_ltA mss_len natInt u_nthM u_bz u_bi1 u_bi2 u_bi3 u_bi4 u_bi5 u_bi6 u_bi7 bC_length ltO_o ltO_r List.take_length u_eqE
def txF (s : List UInt8) : List UInt8 := if 3000 < s.length ∧ s.length ≤ 65536 then s.take 3000 else if 65540 < s.length then s.take 65540 else s
def ceF (x : Ce) : Ce := { x with body := txF x.body, vs := x.vs.take 66 }
def cgF (x : Ch) : Ch := { x with pf := x.pf.take 66, cs := (x.cs.take 66).map ceF }
def msF (x : Ms) : Ms := { x with body := txF x.body, vs := x.vs.take 66, chs := (x.chs.take 66).map cgF }
theorem ltext_s (m : Nat) (s : List UInt8) (h : s.length ≤ 9223372036854775807) : plenumlaw28_text m (sA s) = some (sA (txF s), []) := by
  rw [plenumlaw28_text_eq]
  unfold txF
  by_cases h1 : 3000 < s.length
  · have h1' : (s.length : Int) > 3000 := by omega
    by_cases h2 : s.length ≤ 65536
    · have h2' : (s.length : Int) ≤ 65536 := by omega
      have h3' : (3000 : Int) ≤ (s.length : Int) := by omega
      simp (config := {maxSteps := 4000000, implicitDefEqProofs := false}) (disch := omega) only [go_sem, ↓reduceIte, Nat.reduceAdd, Nat.reduceSub, Nat.reduceMul, Nat.reduceLeDiff, Nat.reduceLT, Int.reduceEq, Int.reduceNe, Int.reduceLT, Int.reduceLE, Int.reduceAdd, Int.reduceSub, Int.reduceMul, Int.reduceNeg, Int.reduceToNat, reduceCtorEq, Nat.reduceEqDiff, Nat.reduceBEq, Nat.reduceGT, h1, h2, h1', h2', h3', plenumlaw28_text_r2_eq, plenumlaw28_text_r1_eq]
    · have h2' : ¬ (s.length : Int) ≤ 65536 := by omega
      by_cases h4 : 65540 < s.length
      · have h4' : (s.length : Int) > 65540 := by omega
        have h3' : (65540 : Int) ≤ (s.length : Int) := by omega
        simp (config := {maxSteps := 4000000, implicitDefEqProofs := false}) (disch := omega) only [go_sem, ↓reduceIte, Nat.reduceAdd, Nat.reduceSub, Nat.reduceMul, Nat.reduceLeDiff, Nat.reduceLT, Int.reduceEq, Int.reduceNe, Int.reduceLT, Int.reduceLE, Int.reduceAdd, Int.reduceSub, Int.reduceMul, Int.reduceNeg, Int.reduceToNat, reduceCtorEq, Nat.reduceEqDiff, Nat.reduceBEq, Nat.reduceGT, h1, h2, h1', h2', h4, h4', h3', plenumlaw28_text_r2_eq, plenumlaw28_text_r1_eq]
      · have h4' : ¬ (s.length : Int) > 65540 := by omega
        simp (config := {maxSteps := 4000000, implicitDefEqProofs := false}) (disch := omega) only [go_sem, ↓reduceIte, Nat.reduceAdd, Nat.reduceSub, Nat.reduceMul, Nat.reduceLeDiff, Nat.reduceLT, Int.reduceEq, Int.reduceNe, Int.reduceLT, Int.reduceLE, Int.reduceAdd, Int.reduceSub, Int.reduceMul, Int.reduceNeg, Int.reduceToNat, reduceCtorEq, Nat.reduceEqDiff, Nat.reduceBEq, Nat.reduceGT, h1, h2, h1', h2', h4, h4', plenumlaw28_text_r2_eq, plenumlaw28_text_r1_eq]
  · have h1' : ¬ (s.length : Int) > 3000 := by omega
    have h4 : ¬ 65540 < s.length := by omega
    have h4' : ¬ (s.length : Int) > 65540 := by omega
    simp (config := {maxSteps := 4000000, implicitDefEqProofs := false}) (disch := omega) only [go_sem, ↓reduceIte, Nat.reduceAdd, Nat.reduceSub, Nat.reduceMul, Nat.reduceLeDiff, Nat.reduceLT, Int.reduceEq, Int.reduceNe, Int.reduceLT, Int.reduceLE, Int.reduceAdd, Int.reduceSub, Int.reduceMul, Int.reduceNeg, Int.reduceToNat, reduceCtorEq, Nat.reduceEqDiff, Nat.reduceBEq, Nat.reduceGT, h1, h1', h4, h4', plenumlaw28_text_r2_eq, plenumlaw28_text_r1_eq]
theorem cutM {α : Type} {f : α → AV} {l : List α} {n : Nat} : cutE (l.map f) 0 n = (l.take n).map f := by
  unfold cutE
  simp [List.map_take]
theorem cutM66 {α : Type} {f : α → AV} {l : List α} : cutE (l.map f) 0 66 = (l.take 66).map f := cutM (n := 66)
theorem lstmts_s (m : Nat) (l : List Sm) (h : l.length ≤ 9223372036854775807) : plenumlaw28_stmts m (SL (l.map smE)) = some (SL ((l.take 66).map smE), []) := by
  rw [plenumlaw28_stmts_eq]
  by_cases h1 : 66 < l.length
  · have h1' : (l.length : Int) > 66 := by omega
    have h3' : (66 : Int) ≤ (l.length : Int) := by omega
    simp (config := {maxSteps := 4000000, implicitDefEqProofs := false}) (disch := omega) only [go_sem, ↓reduceIte, Nat.reduceAdd, Nat.reduceSub, Nat.reduceMul, Nat.reduceLeDiff, Nat.reduceLT, Int.reduceEq, Int.reduceNe, Int.reduceLT, Int.reduceLE, Int.reduceAdd, Int.reduceSub, Int.reduceMul, Int.reduceNeg, Int.reduceToNat, reduceCtorEq, Nat.reduceEqDiff, Nat.reduceBEq, Nat.reduceGT, h1', h3', cutM66]
  · have h1' : ¬ (l.length : Int) > 66 := by omega
    rw [List.take_of_length_le (show l.length ≤ 66 by omega)]
    simp (config := {maxSteps := 4000000, implicitDefEqProofs := false}) (disch := omega) only [go_sem, ↓reduceIte, Nat.reduceAdd, Nat.reduceSub, Nat.reduceMul, Nat.reduceLeDiff, Nat.reduceLT, Int.reduceEq, Int.reduceNe, Int.reduceLT, Int.reduceLE, Int.reduceAdd, Int.reduceSub, Int.reduceMul, Int.reduceNeg, Int.reduceToNat, reduceCtorEq, Nat.reduceEqDiff, Nat.reduceBEq, Nat.reduceGT, h1']
theorem ceF_it {x : Ce} : ceC ⟨x.sq, x.vw, x.tm, txF x.body, x.vs.take 66⟩ = ceC (ceF x) := rfl
theorem ro1_2 {A0 A1 : AObj} {e z m : Nat} {c : List AV} {Y : List AObj} : ro1 (A0 :: A1 :: ⟨2, e, z, c⟩ :: Y) (OW 2 m) = if m = c.length then SL c else OW 2 m := by simp [ro1]
theorem fewC1 (m : Nat) (x0 x1 x2 x3 : Int) (pf : List Sm) (cs : List Ce) (hm : 70 < m) (hc : cs.length ≤ 66) (hv : ∀ y ∈ cs, y.body.length ≤ 9223372036854775807 ∧ y.vs.length ≤ 9223372036854775807) :
    plenumlaw28_FewChange_r1 m ⟨[⟨1, ty_api_Change, 0, [nA x0, nA x1, nA x2, nA x3, SL (pf.map smE), SL (cs.map ceE)]⟩, ⟨1, ty_api_Change, 0, zc_api_Change⟩], [(1, OP 0 0), (2, OP 1 0)]⟩ = some (.agg (cgC ⟨x0, x1, x2, x3, pf, cs.map ceF⟩), []) := by
  rw [plenumlaw28_FewChange_r1_eq, cgC_it]
  simp (config := {maxSteps := 4000000, implicitDefEqProofs := false}) (disch := omega) only [go_sem, ↓reduceIte, Nat.reduceAdd, Nat.reduceSub, Nat.reduceMul, Nat.reduceLeDiff, Nat.reduceLT, Int.reduceEq, Int.reduceNe, Int.reduceLT, Int.reduceLE, Int.reduceAdd, Int.reduceSub, Int.reduceMul, Int.reduceNeg, Int.reduceToNat, reduceCtorEq, Nat.reduceEqDiff, Nat.reduceBEq, Nat.reduceGT]
  refine iter_go (m := m) (ι := {k : Nat // k ≤ cs.length}) (fun k => ⟨[⟨1, ty_api_Change, 0, [nA x0, nA x1, nA x2, nA x3, SL (pf.map smE), SL (cs.map ceE)]⟩, ⟨1, ty_api_Change, 0, zc_api_Change⟩, ⟨2, ty_api_Cert, 5, ((cs.take k.1).map ceF).map ceE⟩], [(1, OP 0 0), (2, OP 1 0), (3, OW 2 k.1), (4, nA k.1)]⟩) (fun k => cs.length - k.1) (fun _ => some (DataW.agg [nA x0, nA x1, nA x2, nA x3, SL (pf.map smE), SL ((cs.map ceF).map ceE)], [])) ?_ ⟨0, Nat.zero_le _⟩ (by dsimp only; omega)
  rintro kx hkx ⟨k, hk⟩ kc hkc
  dsimp only at hkc ⊢
  rw [plenumlaw28_FewChange_b1_eq]
  have hxs : ∀ n, (((cs.take k).map ceF).map ceE).all (ltA n) = true := fun n => by rw [List.all_map]; exact ces_ltA
  have hlen : (((cs.take k).map ceF).map ceE).length = k := by simp; omega
  by_cases hlt : k < cs.length
  · have hlt' : (k : Int) < (cs.length : Int) := by omega
    obtain ⟨v1, v2⟩ := hv cs[k] (List.getElem_mem hlt)
    have g1 := ltext_s m cs[k].body v1
    have g2 := lstmts_s m cs[k].vs v2
    have step := hkc ⟨k + 1, by omega⟩ (by dsimp only; omega)
    dsimp only at step
    rw [List.take_succ_eq_append_getElem hlt] at step
    simp only [List.map_append, List.map_cons, List.map_nil, ce_it] at step
    generalize hX : ((cs.take k).map ceF).map ceE = XS at *
    have hroom : k + 1 ≤ 34359738368 := by omega
    simp (config := {maxSteps := 4000000, implicitDefEqProofs := false}) (disch := omega) only [go_sem, ↓reduceIte, Nat.reduceAdd, Nat.reduceSub, Nat.reduceMul, Nat.reduceLeDiff, Nat.reduceLT, Int.reduceEq, Int.reduceNe, Int.reduceLT, Int.reduceLE, Int.reduceAdd, Int.reduceSub, Int.reduceMul, Int.reduceNeg, Int.reduceToNat, reduceCtorEq, Nat.reduceEqDiff, Nat.reduceBEq, Nat.reduceGT, hlt', g1, g2, ceF_it, hxs, hlen, hroom, w_i64, plenumlaw28_FewChange_r2_eq, plenumlaw28_FewChange_r1_eq]
    exact step
  · obtain rfl : k = cs.length := by omega
    have hlt' : ¬ (cs.length : Int) < (cs.length : Int) := Int.lt_irrefl _
    have hk2 : cs.take cs.length = cs := List.take_of_length_le (Nat.le_refl _)
    rw [hk2] at hxs ⊢
    simp (config := {maxSteps := 4000000, implicitDefEqProofs := false}) (disch := omega) only [go_sem, ↓reduceIte, Nat.reduceAdd, Nat.reduceSub, Nat.reduceMul, Nat.reduceLeDiff, Nat.reduceLT, Int.reduceEq, Int.reduceNe, Int.reduceLT, Int.reduceLE, Int.reduceAdd, Int.reduceSub, Int.reduceMul, Int.reduceNeg, Int.reduceToNat, reduceCtorEq, Nat.reduceEqDiff, Nat.reduceBEq, Nat.reduceGT, hlt', hkx, hxs, zcg_sete, ro1_2, plenumlaw28_FewChange_r2_eq, plenumlaw28_FewChange_r1_eq]
theorem fewChange_s (m : Nat) (x : Ch) (hm : 70 < m) (hp : x.pf.length ≤ 9223372036854775807) (hc : x.cs.length ≤ 9223372036854775807) (hv : ∀ y ∈ x.cs, y.body.length ≤ 9223372036854775807 ∧ y.vs.length ≤ 9223372036854775807) : plenumlaw28_FewChange m (cgE x) = some (cgE (cgF x), []) := by
  obtain ⟨x0, x1, x2, x3, pf, cs⟩ := x
  dsimp only at hp hc hv
  have g1 := lstmts_s m pf hp
  rw [plenumlaw28_FewChange_eq, cg_it, cg_it, cgC_it]
  unfold cgF
  dsimp only
  by_cases h1 : 66 < cs.length
  · have h1' : (cs.length : Int) > 66 := by omega
    have h3' : (66 : Int) ≤ (cs.length : Int) := by omega
    have hF := fewC1 m x0 x1 x2 x3 (pf.take 66) (cs.take 66) hm (by simp; omega) (fun y hy => hv y (List.mem_of_mem_take hy))
    simp (config := {maxSteps := 4000000, implicitDefEqProofs := false}) (disch := omega) only [go_sem, ↓reduceIte, Nat.reduceAdd, Nat.reduceSub, Nat.reduceMul, Nat.reduceLeDiff, Nat.reduceLT, Int.reduceEq, Int.reduceNe, Int.reduceLT, Int.reduceLE, Int.reduceAdd, Int.reduceSub, Int.reduceMul, Int.reduceNeg, Int.reduceToNat, reduceCtorEq, Nat.reduceEqDiff, Nat.reduceBEq, Nat.reduceGT, g1, h1', h3', cutM66, hF]
  · have h1' : ¬ (cs.length : Int) > 66 := by omega
    have hF := fewC1 m x0 x1 x2 x3 (pf.take 66) cs hm (by omega) hv
    rw [List.take_of_length_le (show cs.length ≤ 66 by omega)]
    simp (config := {maxSteps := 4000000, implicitDefEqProofs := false}) (disch := omega) only [go_sem, ↓reduceIte, Nat.reduceAdd, Nat.reduceSub, Nat.reduceMul, Nat.reduceLeDiff, Nat.reduceLT, Int.reduceEq, Int.reduceNe, Int.reduceLT, Int.reduceLE, Int.reduceAdd, Int.reduceSub, Int.reduceMul, Int.reduceNeg, Int.reduceToNat, reduceCtorEq, Nat.reduceEqDiff, Nat.reduceBEq, Nat.reduceGT, g1, h1', hF]
def BigC (x : Ch) : Prop := x.pf.length ≤ 9223372036854775807 ∧ x.cs.length ≤ 9223372036854775807 ∧ ∀ y ∈ x.cs, y.body.length ≤ 9223372036854775807 ∧ y.vs.length ≤ 9223372036854775807
def BigM (x : Ms) : Prop := x.body.length ≤ 9223372036854775807 ∧ x.vs.length ≤ 9223372036854775807 ∧ x.chs.length ≤ 9223372036854775807 ∧ ∀ y ∈ x.chs, BigC y
theorem fewM1 (m : Nat) (x0 x1 x2 x3 x4 : Int) (x5 : List UInt8) (x6 : List Sm) (cs : List Ch) (hm : 70 < m) (hc : cs.length ≤ 66) (hv : ∀ y ∈ cs, BigC y) :
    plenumlaw28_Few_r1 m ⟨[⟨1, ty_api_Msg, 0, [nA x0, nA x1, nA x2, nA x3, nA x4, sA x5, SL (x6.map smE), SL (cs.map cgE)]⟩, ⟨1, ty_api_Msg, 0, zc_api_Msg⟩], [(1, OP 0 0), (2, OP 1 0)]⟩ = some (.agg (msC ⟨x0, x1, x2, x3, x4, x5, x6, cs.map cgF⟩), []) := by
  rw [plenumlaw28_Few_r1_eq, msC_it]
  simp (config := {maxSteps := 4000000, implicitDefEqProofs := false}) (disch := omega) only [go_sem, ↓reduceIte, Nat.reduceAdd, Nat.reduceSub, Nat.reduceMul, Nat.reduceLeDiff, Nat.reduceLT, Int.reduceEq, Int.reduceNe, Int.reduceLT, Int.reduceLE, Int.reduceAdd, Int.reduceSub, Int.reduceMul, Int.reduceNeg, Int.reduceToNat, reduceCtorEq, Nat.reduceEqDiff, Nat.reduceBEq, Nat.reduceGT]
  refine iter_go (m := m) (ι := {k : Nat // k ≤ cs.length}) (fun k => ⟨[⟨1, ty_api_Msg, 0, [nA x0, nA x1, nA x2, nA x3, nA x4, sA x5, SL (x6.map smE), SL (cs.map cgE)]⟩, ⟨1, ty_api_Msg, 0, zc_api_Msg⟩, ⟨2, ty_api_Change, 6, ((cs.take k.1).map cgF).map cgE⟩], [(1, OP 0 0), (2, OP 1 0), (3, OW 2 k.1), (4, nA k.1)]⟩) (fun k => cs.length - k.1) (fun _ => some (DataW.agg [nA x0, nA x1, nA x2, nA x3, nA x4, sA x5, SL (x6.map smE), SL ((cs.map cgF).map cgE)], [])) ?_ ⟨0, Nat.zero_le _⟩ (by dsimp only; omega)
  rintro kx hkx ⟨k, hk⟩ kc hkc
  dsimp only at hkc ⊢
  rw [plenumlaw28_Few_b1_eq]
  have hxs : ∀ n, (((cs.take k).map cgF).map cgE).all (ltA n) = true := fun n => by rw [List.all_map]; exact cgs_ltA
  have hlen : (((cs.take k).map cgF).map cgE).length = k := by simp; omega
  by_cases hlt : k < cs.length
  · have hlt' : (k : Int) < (cs.length : Int) := by omega
    obtain ⟨v1, v2, v3⟩ := hv cs[k] (List.getElem_mem hlt)
    have g1 := fewChange_s m cs[k] hm v1 v2 v3
    rw [cg_it, cg_it] at g1
    have step := hkc ⟨k + 1, by omega⟩ (by dsimp only; omega)
    dsimp only at step
    rw [List.take_succ_eq_append_getElem hlt] at step
    simp only [List.map_append, List.map_cons, List.map_nil, cg_it] at step
    generalize hX : ((cs.take k).map cgF).map cgE = XS at *
    have hroom : k + 1 ≤ 34359738368 := by omega
    simp (config := {maxSteps := 4000000, implicitDefEqProofs := false}) (disch := omega) only [go_sem, ↓reduceIte, Nat.reduceAdd, Nat.reduceSub, Nat.reduceMul, Nat.reduceLeDiff, Nat.reduceLT, Int.reduceEq, Int.reduceNe, Int.reduceLT, Int.reduceLE, Int.reduceAdd, Int.reduceSub, Int.reduceMul, Int.reduceNeg, Int.reduceToNat, reduceCtorEq, Nat.reduceEqDiff, Nat.reduceBEq, Nat.reduceGT, hlt', g1, hxs, hlen, hroom, w_i64, plenumlaw28_Few_r2_eq, plenumlaw28_Few_r1_eq]
    exact step
  · obtain rfl : k = cs.length := by omega
    have hlt' : ¬ (cs.length : Int) < (cs.length : Int) := Int.lt_irrefl _
    have hk2 : cs.take cs.length = cs := List.take_of_length_le (Nat.le_refl _)
    rw [hk2] at hxs ⊢
    simp (config := {maxSteps := 4000000, implicitDefEqProofs := false}) (disch := omega) only [go_sem, ↓reduceIte, Nat.reduceAdd, Nat.reduceSub, Nat.reduceMul, Nat.reduceLeDiff, Nat.reduceLT, Int.reduceEq, Int.reduceNe, Int.reduceLT, Int.reduceLE, Int.reduceAdd, Int.reduceSub, Int.reduceMul, Int.reduceNeg, Int.reduceToNat, reduceCtorEq, Nat.reduceEqDiff, Nat.reduceBEq, Nat.reduceGT, hlt', hkx, hxs, zms_sete, ro1_2, plenumlaw28_Few_r2_eq, plenumlaw28_Few_r1_eq]
theorem few_s (m : Nat) (x : Ms) (hm : 70 < m) (hz : BigM x) : plenumlaw28_Few m (msE x) = some (msE (msF x), []) := by
  obtain ⟨x0, x1, x2, x3, x4, x5, x6, cs⟩ := x
  obtain ⟨z1, z2, z3, z4⟩ := hz
  dsimp only at z1 z2 z3 z4
  have g0 := ltext_s m x5 z1
  have g1 := lstmts_s m x6 z2
  rw [plenumlaw28_Few_eq, ms_it, ms_it, msC_it]
  unfold msF
  dsimp only
  by_cases h1 : 66 < cs.length
  · have h1' : (cs.length : Int) > 66 := by omega
    have h3' : (66 : Int) ≤ (cs.length : Int) := by omega
    have hF := fewM1 m x0 x1 x2 x3 x4 (txF x5) (x6.take 66) (cs.take 66) hm (by simp; omega) (fun y hy => z4 y (List.mem_of_mem_take hy))
    simp (config := {maxSteps := 4000000, implicitDefEqProofs := false}) (disch := omega) only [go_sem, ↓reduceIte, Nat.reduceAdd, Nat.reduceSub, Nat.reduceMul, Nat.reduceLeDiff, Nat.reduceLT, Int.reduceEq, Int.reduceNe, Int.reduceLT, Int.reduceLE, Int.reduceAdd, Int.reduceSub, Int.reduceMul, Int.reduceNeg, Int.reduceToNat, reduceCtorEq, Nat.reduceEqDiff, Nat.reduceBEq, Nat.reduceGT, g0, g1, h1', h3', cutM66, hF]
  · have h1' : ¬ (cs.length : Int) > 66 := by omega
    have hF := fewM1 m x0 x1 x2 x3 x4 (txF x5) (x6.take 66) cs hm (by omega) z4
    rw [List.take_of_length_le (show cs.length ≤ 66 by omega)]
    simp (config := {maxSteps := 4000000, implicitDefEqProofs := false}) (disch := omega) only [go_sem, ↓reduceIte, Nat.reduceAdd, Nat.reduceSub, Nat.reduceMul, Nat.reduceLeDiff, Nat.reduceLT, Int.reduceEq, Int.reduceNe, Int.reduceLT, Int.reduceLE, Int.reduceAdd, Int.reduceSub, Int.reduceMul, Int.reduceNeg, Int.reduceToNat, reduceCtorEq, Nat.reduceEqDiff, Nat.reduceBEq, Nat.reduceGT, g0, g1, h1', hF]
theorem few_sz (m : Nat) (x : Ms) (hm : 1000 < m) : SzM m (msF x) := by
  unfold msF SzM
  refine ⟨by simp; omega, by simp; omega, by simp; omega, by simp; omega, fun y hy => ?_⟩
  obtain ⟨z, _, rfl⟩ := List.mem_map.1 hy
  unfold cgF SzC
  refine ⟨by simp; omega, by simp; omega, by simp; omega, by simp; omega, fun y hy => ?_⟩
  obtain ⟨z, _, rfl⟩ := List.mem_map.1 hy
  unfold ceF
  exact ⟨by simp; omega, by simp; omega⟩
end Go.Proofs.Ytbdbmfifclmpcaa

namespace Go.Proofs.Ytbdbmfifclmpcaa
theorem toNat_of (n : Nat) (h : n < 256) : (UInt8.ofNat n).toNat = n := by simp; omega
theorem cutG_put (tail : List UInt8) (v : Nat) : ∀ i, i ≤ 9 → (i = 0 ∨ 0 < v) → v * 128 ^ i < 18446744073709551616 → cutG i (put v ++ tail) = (v, (put v).length, 0) := by
  induction v using Nat.strongRecOn with
  | _ v ih =>
    intro i hi hv h64
    by_cases hlt : v < 128
    · rw [put_lt v hlt]
      have e := toNat_of v (by omega)
      have := cutG_last i (UInt8.ofNat v) tail (by
        rw [e]; rintro ⟨rfl, h1⟩
        have e9 : (128 : Nat) ^ 9 = 9223372036854775808 := by decide
        rw [e9] at h64; omega) (by omega) (by omega)
      simpa [e] using this
    · have hp := pow128_pos i
      have hi8 : i ≤ 8 := by
        by_cases h9 : i = 9
        · subst h9
          have e9 : (128 : Nat) ^ 9 = 9223372036854775808 := by decide
          rw [e9] at h64; omega
        · omega
      rw [put_ge v (by omega)]
      have e := toNat_of (v % 128 + 128) (by omega)
      have h128 : v / 128 * 128 ^ (i + 1) ≤ v * 128 ^ i := by
        rw [Nat.pow_succ, Nat.mul_comm (128 ^ i), ← Nat.mul_assoc]
        exact Nat.mul_le_mul_right _ (Nat.div_mul_le_self v 128)
      have hr := ih (v / 128) (by omega) (i + 1) (by omega) (.inr (by omega)) (by omega)
      rw [List.cons_append, cutG, e, if_neg (by omega), if_pos (by omega), hr, if_pos rfl]
      refine Prod.ext ?_ (Prod.ext ?_ rfl)
      · simp only; omega
      · simp
theorem cut_put (v : Nat) (h : v < 18446744073709551616) (tail : List UInt8) : cut (put v ++ tail) = (v, (put v).length, 0) := cutG_put tail v 0 (by omega) (.inl rfl) (by omega)
theorem put_cutG : ∀ (l : List UInt8) (i : Nat), (cutG i l).2.2 = 0 → put (cutG i l).1 = l.take (cutG i l).2.1 ∧ (i = 0 ∨ 0 < (cutG i l).1)
  | [], i, h => by simp [cutG] at h
  | c :: r, i, h => by
    have hc := c.toNat_lt
    rw [cutG] at h ⊢
    split
    · rename_i h1; rw [if_pos h1] at h; simp at h
    · rename_i h1; rw [if_neg h1] at h
      split
      · rename_i h2; rw [if_pos h2] at h
        split
        · rename_i h3
          obtain ⟨hp, hpos⟩ := put_cutG r (i + 1) h3
          have hv : 0 < (cutG (i + 1) r).1 := by omega
          generalize cutG (i + 1) r = x at *
          refine ⟨?_, .inr (by simp only; omega)⟩
          simp only
          rw [put_ge _ (by omega), show (x.1 * 128 + c.toNat % 128) / 128 = x.1 from by omega, hp, show (x.1 * 128 + c.toNat % 128) % 128 + 128 = c.toNat from by omega]
          simp
        · rename_i h3; rw [if_neg h3] at h; exact absurd h h3
      · rename_i h2; rw [if_neg h2] at h
        split
        · rename_i h3; rw [if_pos h3] at h; simp at h
        · rename_i h3
          refine ⟨?_, by simp only; omega⟩
          simp only
          rw [put_lt _ (by omega)]
          simp
end Go.Proofs.Ytbdbmfifclmpcaa

namespace Go.Proofs.Ytbdbmfifclmpcaa
open Go.RowKit
set_option linter.unusedVariables false
theorem drop_at {b p suf : List UInt8} {a : Nat} (h : b.drop a = p ++ suf) : b.drop (a + p.length) = suf := by
  rw [← List.drop_drop, h, List.drop_left]
theorem num_at {b suf : List UInt8} {a v most : Nat} (h : b.drop a = put v ++ suf) (hv : v ≤ most) (h64 : v < 18446744073709551616) : numR b most a = .ok v (a + (put v).length) := by
  unfold numR
  rw [h, cut_put v h64 suf]
  dsimp only
  rw [if_pos rfl, if_neg (by omega)]
theorem int_at {b suf : List UInt8} {a most : Nat} {i : Int} (h : b.drop a = put i.toNat ++ suf) (h0 : 0 ≤ i) (hv : i ≤ most) (h64 : i < 9223372036854775808) : intR b most a = .ok i (a + (put i.toNat).length) := by
  unfold intR
  rw [num_at h (by omega) (by omega)]
  show RdO.ok ((i.toNat : Nat) : Int) _ = _
  rw [Int.toNat_of_nonneg h0]
theorem numB_ok {v : Int} (h : numB v = true) : 0 ≤ v ∧ v ≤ 2147483647 := by
  unfold numB at h
  simpa [Bool.and_eq_true] using h
theorem parB_ok {v : Int} (h : parB v = true) : 0 ≤ v ∧ v ≤ 63 := by
  unfold parB at h
  simpa [Bool.and_eq_true] using h
theorem i32_at {b suf : List UInt8} {a : Nat} {i : Int} (h : b.drop a = put i.toNat ++ suf) (hi : numB i = true) : intR b 2147483647 a = .ok i (a + (put i.toNat).length) := by
  obtain ⟨h0, h1⟩ := numB_ok hi
  exact int_at h h0 (by omega) (by omega)
theorem i63_at {b suf : List UInt8} {a : Nat} {i : Int} (h : b.drop a = put i.toNat ++ suf) (hi : parB i = true) : intR b 63 a = .ok i (a + (put i.toNat).length) := by
  obtain ⟨h0, h1⟩ := parB_ok hi
  exact int_at h h0 (by omega) (by omega)
theorem stmt_at {b suf : List UInt8} {a : Nat} {x : Sm} (h : b.drop a = encSm x ++ suf) (hx : smB x = true) : stmtR b a = .ok x (a + (encSm x).length) := by
  obtain ⟨x0, x1, x2, x3, x4⟩ := x
  unfold smB at hx
  simp only [Bool.and_eq_true, List.all_cons, List.all_nil, Bool.and_true] at hx
  obtain ⟨h0, h1, h2, h3, h4⟩ := hx
  unfold encSm at h ⊢
  simp only [putsL_cons, putsL_nil, List.append_nil, List.append_assoc] at h
  unfold stmtR
  rw [i63_at h h0]
  have h := drop_at h
  show RdO.bind (intR b _ _) _ = _
  rw [i32_at h h1]
  have h := drop_at h
  show RdO.bind (intR b _ _) _ = _
  rw [i32_at h h2]
  have h := drop_at h
  show RdO.bind (intR b _ _) _ = _
  rw [i32_at h h3]
  have h := drop_at h
  show RdO.bind (intR b _ _) _ = _
  rw [i32_at h h4]
  show RdO.ok _ _ = RdO.ok _ _
  simp only [putsL_cons, putsL_nil, List.append_nil, List.length_append, Nat.add_assoc]
theorem loop_at {α : Type} {b : List UInt8} {one : Nat → RdO α} {enc : α → List UInt8} {ok : α → Bool} (ho : ∀ (a : Nat) (x : α) (suf : List UInt8), b.drop a = enc x ++ suf → ok x = true → one a = .ok x (a + (enc x).length)) : ∀ (l : List α) (a : Nat) (suf : List UInt8), b.drop a = l.flatMap enc ++ suf → l.all ok = true → loopR one l.length a = .ok l (a + (l.flatMap enc).length)
  | [], a, suf, h, hl => rfl
  | x :: l, a, suf, h, hl => by
    rw [List.all_cons, Bool.and_eq_true] at hl
    rw [List.flatMap_cons, List.append_assoc] at h
    show RdO.bind (one a) _ = _
    rw [ho a x _ h hl.1]
    show RdO.bind (loopR one l.length _) _ = _
    rw [loop_at ho l _ suf (drop_at h) hl.2]
    show RdO.ok _ _ = RdO.ok _ _
    rw [List.flatMap_cons, List.length_append, Nat.add_assoc]
theorem some_at {α : Type} {b : List UInt8} {one : Nat → RdO α} {enc : α → List UInt8} {ok : α → Bool} (ho : ∀ (a : Nat) (x : α) (suf : List UInt8), b.drop a = enc x ++ suf → ok x = true → one a = .ok x (a + (enc x).length)) {l : List α} {a : Nat} {suf : List UInt8} (h : b.drop a = put l.length ++ l.flatMap enc ++ suf) (h64 : l.length ≤ 64) (hl : l.all ok = true) : someR b one a = .ok l (a + (put l.length ++ l.flatMap enc).length) := by
  rw [List.append_assoc] at h
  unfold someR
  rw [num_at h h64 (by omega)]
  show loopR one l.length _ = _
  rw [loop_at ho l _ suf (drop_at h) hl, List.length_append, Nat.add_assoc]
theorem text_at {b suf s : List UInt8} {a : Nat} (h : b.drop a = textB s ++ suf) (hs : s.length ≤ 65536) : textR b a = .ok s (a + (textB s).length) := by
  unfold textB at h ⊢
  rw [List.append_assoc] at h
  unfold textR
  rw [num_at h hs (by omega)]
  have h2 := drop_at h
  have hl : s.length ≤ b.length - (a + (put s.length).length) := by
    have := congrArg List.length h2
    rw [List.length_drop, List.length_append] at this
    omega
  show (if _ then _ else _) = _
  rw [if_neg (by omega), h2, List.take_left, List.length_append, Nat.add_assoc]
theorem stmts_at {b suf : List UInt8} {a : Nat} {l : List Sm} (h : b.drop a = encStmts l ++ suf) (hl : smsB l = true) : someR b (stmtR b) a = .ok l (a + (encStmts l).length) := by
  obtain ⟨h1, h2⟩ := smsB_ok hl
  exact some_at (ok := smB) (fun a x suf h hx => stmt_at h hx) h h1 h2
theorem cert_at {b suf : List UInt8} {a : Nat} {x : Ce} (h : b.drop a = encCe x ++ suf) (hx : ceB x = true) : certR b a = .ok x (a + (encCe x).length) := by
  obtain ⟨h1, h2, h3⟩ := ceB_ok hx
  obtain ⟨x0, x1, x2, x3, x4⟩ := x
  simp only [Bool.and_eq_true, List.all_cons, List.all_nil, Bool.and_true] at h1
  dsimp only at h2 h3
  obtain ⟨k0, k1, k2⟩ := h1
  unfold encCe at h ⊢
  simp only [putsL_cons, putsL_nil, List.append_nil, List.append_assoc] at h
  unfold certR
  rw [i32_at h k0]
  have h := drop_at h
  show RdO.bind (intR b _ _) _ = _
  rw [i32_at h k1]
  have h := drop_at h
  show RdO.bind (intR b _ _) _ = _
  rw [i32_at h k2]
  have h := drop_at h
  show RdO.bind (textR b _) _ = _
  rw [text_at h h2]
  have h := drop_at h
  show RdO.bind (someR b _ _) _ = _
  rw [stmts_at h h3]
  show RdO.ok _ _ = RdO.ok _ _
  simp only [putsL_cons, putsL_nil, List.append_nil, List.length_append, Nat.add_assoc]
theorem certs_at {b suf : List UInt8} {a : Nat} {l : List Ce} (h : b.drop a = encCerts l ++ suf) (hl : cesB l = true) : someR b (certR b) a = .ok l (a + (encCerts l).length) := by
  obtain ⟨h1, h2⟩ := cesB_ok hl
  exact some_at (ok := ceB) (fun a x suf h hx => cert_at h hx) h h1 h2
theorem change_at {b suf : List UInt8} {a : Nat} {x : Ch} (h : b.drop a = encCg x ++ suf) (hx : cgB x = true) : changeR b a = .ok x (a + (encCg x).length) := by
  obtain ⟨h0, h1, h2, h3⟩ := cgB_ok hx
  obtain ⟨x0, x1, x2, x3, x4, x5⟩ := x
  simp only [Bool.and_eq_true, List.all_cons, List.all_nil, Bool.and_true] at h1
  dsimp only at h0 h2 h3
  obtain ⟨k1, k2, k3⟩ := h1
  unfold encCg at h ⊢
  simp only [putsL_cons, putsL_nil, List.append_nil, List.append_assoc] at h
  unfold changeR
  rw [i63_at h h0]
  have h := drop_at h
  show RdO.bind (intR b _ _) _ = _
  rw [i32_at h k1]
  have h := drop_at h
  show RdO.bind (intR b _ _) _ = _
  rw [i32_at h k2]
  have h := drop_at h
  show RdO.bind (intR b _ _) _ = _
  rw [i32_at h k3]
  have h := drop_at h
  show RdO.bind (someR b _ _) _ = _
  rw [stmts_at h h2]
  have h := drop_at h
  show RdO.bind (someR b _ _) _ = _
  rw [certs_at h h3]
  show RdO.ok _ _ = RdO.ok _ _
  simp only [putsL_cons, putsL_nil, List.append_nil, List.length_append, Nat.add_assoc]
theorem changes_at {b suf : List UInt8} {a : Nat} {l : List Ch} (h : b.drop a = encChanges l ++ suf) (hl : cgsB l = true) : someR b (changeR b) a = .ok l (a + (encChanges l).length) := by
  obtain ⟨h1, h2⟩ := cgsB_ok hl
  exact some_at (ok := cgB) (fun a x suf h hx => change_at h hx) h h1 h2
theorem msg_at {suf : List UInt8} {x : Ms} (hx : msB x = true) : msgR (encMs x ++ suf) = .ok x (encMs x).length := by
  obtain ⟨g0, g1, h0, h1, h2, h3, h4⟩ := msB_ok hx
  obtain ⟨b, hb⟩ : ∃ b, b = encMs x ++ suf := ⟨_, rfl⟩
  rw [← hb]
  have h : b.drop 0 = encMs x ++ suf := hb
  obtain ⟨x0, x1, x2, x3, x4, x5, x6, x7⟩ := x
  simp only [Bool.and_eq_true, List.all_cons, List.all_nil, Bool.and_true] at h1
  dsimp only at g0 g1 h0 h2 h3 h4
  obtain ⟨k1, k2, k3⟩ := h1
  unfold encMs at h ⊢
  simp only [putsL_cons, putsL_nil, List.append_nil, List.append_assoc] at h
  unfold msgR
  rw [int_at h (by omega) (by omega) (by omega)]
  have h := drop_at h
  show RdO.bind (intR b _ _) _ = _
  rw [i63_at h h0]
  have h := drop_at h
  show RdO.bind (intR b _ _) _ = _
  rw [i32_at h k1]
  have h := drop_at h
  show RdO.bind (intR b _ _) _ = _
  rw [i32_at h k2]
  have h := drop_at h
  show RdO.bind (intR b _ _) _ = _
  rw [i32_at h k3]
  have h := drop_at h
  show RdO.bind (textR b _) _ = _
  rw [text_at h h2]
  have h := drop_at h
  show RdO.bind (someR b _ _) _ = _
  rw [stmts_at h h3]
  have h := drop_at h
  show RdO.bind (someR b _ _) _ = _
  rw [changes_at h h4]
  show RdO.ok _ _ = RdO.ok _ _
  simp only [putsL_cons, putsL_nil, List.append_nil, List.length_append, Nat.add_assoc, Nat.zero_add]
theorem dec_enc {x : Ms} (hx : msB x = true) : decW (encMs x) = (x, 0, 0) := by
  have h := msg_at (suf := []) hx
  rw [List.append_nil] at h
  unfold decW outR
  rw [h]
  obtain ⟨g0, _⟩ := msB_ok hx
  show (match (if x.kd = 0 then RdO.no 3 0 else if (encMs x).length < (encMs x).length then RdO.no 7 (encMs x).length else RdO.ok x (encMs x).length) with | .ok x _ => (x, 0, 0) | .no e a => (Ms.zero, e, a)) = _
  rw [if_neg (by omega), if_neg (Nat.lt_irrefl _)]
end Go.Proofs.Ytbdbmfifclmpcaa

namespace Go.Proofs.Ytbdbmfifclmpcaa
open Go.RowKit
set_option linter.unusedVariables false
set_option linter.unusedSimpArgs false
theorem bind_ok {α β : Type} {r : RdO α} {f : α → Nat → RdO β} {y : β} {c : Nat} (h : r.bind f = .ok y c) : ∃ x a, r = .ok x a ∧ f x a = .ok y c := by
  cases r with
  | ok x a => exact ⟨x, a, rfl, h⟩
  | no e a => cases h
theorem num_rd {b : List UInt8} {most a v c : Nat} (h : numR b most a = .ok v c) : b.drop a = put v ++ b.drop c ∧ v ≤ most := by
  refine ⟨?_, numR_most h⟩
  unfold numR at h
  split at h
  · rename_i h0
    split at h
    · cases h
    · cases h
      have h1 := (put_cutG (b.drop a) 0 h0).1
      have h1 : put (cut (b.drop a)).1 = (b.drop a).take (cut (b.drop a)).2.1 := h1
      rw [h1, ← List.drop_drop, List.take_append_drop]
  · cases h
theorem int_rd {b : List UInt8} {most a c : Nat} {i : Int} (h : intR b most a = .ok i c) : b.drop a = put i.toNat ++ b.drop c ∧ 0 ≤ i ∧ i ≤ most := by
  obtain ⟨v, a1, h1, h2⟩ := bind_ok h
  cases h2
  obtain ⟨h3, h4⟩ := num_rd h1
  exact ⟨by rw [Int.toNat_natCast]; exact h3, by omega, by omega⟩
theorem i32_rd {b : List UInt8} {a c : Nat} {i : Int} (h : intR b 2147483647 a = .ok i c) : b.drop a = put i.toNat ++ b.drop c ∧ numB i = true := by
  obtain ⟨h1, h2, h3⟩ := int_rd h
  refine ⟨h1, ?_⟩
  unfold numB
  rw [decide_eq_true (by omega), decide_eq_true (by omega)]; rfl
theorem i63_rd {b : List UInt8} {a c : Nat} {i : Int} (h : intR b 63 a = .ok i c) : b.drop a = put i.toNat ++ b.drop c ∧ parB i = true := by
  obtain ⟨h1, h2, h3⟩ := int_rd h
  refine ⟨h1, ?_⟩
  unfold parB
  rw [decide_eq_true (by omega), decide_eq_true (by omega)]; rfl
theorem text_rd {b s : List UInt8} {a c : Nat} (h : textR b a = .ok s c) : b.drop a = textB s ++ b.drop c ∧ s.length ≤ 65536 := by
  obtain ⟨n, a1, h1, h2⟩ := bind_ok h
  obtain ⟨h3, h4⟩ := num_rd h1
  try dsimp only at h2
  split at h2
  · cases h2
  · rename_i hh
    cases h2
    have hl : ((b.drop a1).take n).length = n := by rw [List.length_take, List.length_drop]; omega
    refine ⟨?_, by rw [hl]; exact h4⟩
    unfold textB
    rw [hl, h3, List.append_assoc, ← List.drop_drop, List.take_append_drop]
theorem loop_rd {α : Type} {b : List UInt8} {one : Nat → RdO α} {enc : α → List UInt8} {ok : α → Bool} (ho : ∀ (a c : Nat) (x : α), one a = .ok x c → b.drop a = enc x ++ b.drop c ∧ ok x = true) : ∀ (n a c : Nat) (l : List α), loopR one n a = .ok l c → b.drop a = l.flatMap enc ++ b.drop c ∧ l.all ok = true ∧ l.length = n
  | 0, a, c, l, h => by cases h; exact ⟨rfl, rfl, rfl⟩
  | n + 1, a, c, l, h => by
    obtain ⟨x, a1, h1, h2⟩ := bind_ok (show (one a).bind _ = _ from h)
    obtain ⟨l1, a2, h3, h4⟩ := bind_ok h2
    cases h4
    obtain ⟨e1, e2⟩ := ho _ _ _ h1
    obtain ⟨e3, e4, e5⟩ := loop_rd ho n a1 c l1 h3
    exact ⟨by rw [e1, e3, List.flatMap_cons, List.append_assoc], by rw [List.all_cons, e2, e4]; rfl, by rw [List.length_cons, e5]⟩
theorem some_rd {α : Type} {b : List UInt8} {one : Nat → RdO α} {enc : α → List UInt8} {ok : α → Bool} (ho : ∀ (a c : Nat) (x : α), one a = .ok x c → b.drop a = enc x ++ b.drop c ∧ ok x = true) {a c : Nat} {l : List α} (h : someR b one a = .ok l c) : b.drop a = (put l.length ++ l.flatMap enc) ++ b.drop c ∧ (decide (l.length ≤ 64) && l.all ok) = true := by
  obtain ⟨n, a1, h1, h2⟩ := bind_ok h
  obtain ⟨e1, e2⟩ := num_rd h1
  obtain ⟨e3, e4, e5⟩ := loop_rd ho n a1 c l h2
  refine ⟨by rw [e1, e3, e5, List.append_assoc], ?_⟩
  rw [e4, decide_eq_true (by omega)]; rfl
theorem stmt_rd {b : List UInt8} {a c : Nat} {x : Sm} (h : stmtR b a = .ok x c) : b.drop a = encSm x ++ b.drop c ∧ smB x = true := by
  unfold stmtR at h
  obtain ⟨x0, a0, r0, h⟩ := bind_ok h
  obtain ⟨d0, k0⟩ := i63_rd r0
  obtain ⟨x1, a1, r1, h⟩ := bind_ok h
  obtain ⟨d1, k1⟩ := i32_rd r1
  obtain ⟨x2, a2, r2, h⟩ := bind_ok h
  obtain ⟨d2, k2⟩ := i32_rd r2
  obtain ⟨x3, a3, r3, h⟩ := bind_ok h
  obtain ⟨d3, k3⟩ := i32_rd r3
  obtain ⟨x4, a4, r4, h⟩ := bind_ok h
  obtain ⟨d4, k4⟩ := i32_rd r4
  cases h
  refine ⟨?_, ?_⟩
  · unfold encSm
    rw [d0, d1, d2, d3, d4]
    simp only [putsL_cons, putsL_nil, List.append_nil, List.append_assoc]
  · unfold smB
    simp only [k0, k1, k2, k3, k4, List.all_cons, List.all_nil, Bool.and_true, Bool.and_self, decide_true]
theorem stmts_rd {b : List UInt8} {a c : Nat} {l : List Sm} (h : someR b (stmtR b) a = .ok l c) : b.drop a = encStmts l ++ b.drop c ∧ smsB l = true := some_rd (fun a c x h => stmt_rd h) h
theorem cert_rd {b : List UInt8} {a c : Nat} {x : Ce} (h : certR b a = .ok x c) : b.drop a = encCe x ++ b.drop c ∧ ceB x = true := by
  unfold certR at h
  obtain ⟨x0, a0, r0, h⟩ := bind_ok h
  obtain ⟨d0, k0⟩ := i32_rd r0
  obtain ⟨x1, a1, r1, h⟩ := bind_ok h
  obtain ⟨d1, k1⟩ := i32_rd r1
  obtain ⟨x2, a2, r2, h⟩ := bind_ok h
  obtain ⟨d2, k2⟩ := i32_rd r2
  obtain ⟨x3, a3, r3, h⟩ := bind_ok h
  obtain ⟨d3, k3⟩ := text_rd r3
  obtain ⟨x4, a4, r4, h⟩ := bind_ok h
  obtain ⟨d4, k4⟩ := stmts_rd r4
  cases h
  refine ⟨?_, ?_⟩
  · unfold encCe
    rw [d0, d1, d2, d3, d4]
    simp only [putsL_cons, putsL_nil, List.append_nil, List.append_assoc]
  · unfold ceB
    simp only [k0, k1, k2, k3, k4, List.all_cons, List.all_nil, Bool.and_true, Bool.and_self, decide_true]
theorem certs_rd {b : List UInt8} {a c : Nat} {l : List Ce} (h : someR b (certR b) a = .ok l c) : b.drop a = encCerts l ++ b.drop c ∧ cesB l = true := some_rd (fun a c x h => cert_rd h) h
theorem change_rd {b : List UInt8} {a c : Nat} {x : Ch} (h : changeR b a = .ok x c) : b.drop a = encCg x ++ b.drop c ∧ cgB x = true := by
  unfold changeR at h
  obtain ⟨x0, a0, r0, h⟩ := bind_ok h
  obtain ⟨d0, k0⟩ := i63_rd r0
  obtain ⟨x1, a1, r1, h⟩ := bind_ok h
  obtain ⟨d1, k1⟩ := i32_rd r1
  obtain ⟨x2, a2, r2, h⟩ := bind_ok h
  obtain ⟨d2, k2⟩ := i32_rd r2
  obtain ⟨x3, a3, r3, h⟩ := bind_ok h
  obtain ⟨d3, k3⟩ := i32_rd r3
  obtain ⟨x4, a4, r4, h⟩ := bind_ok h
  obtain ⟨d4, k4⟩ := stmts_rd r4
  obtain ⟨x5, a5, r5, h⟩ := bind_ok h
  obtain ⟨d5, k5⟩ := certs_rd r5
  cases h
  refine ⟨?_, ?_⟩
  · unfold encCg
    rw [d0, d1, d2, d3, d4, d5]
    simp only [putsL_cons, putsL_nil, List.append_nil, List.append_assoc]
  · unfold cgB
    simp only [k0, k1, k2, k3, k4, k5, List.all_cons, List.all_nil, Bool.and_true, Bool.and_self, decide_true]
theorem changes_rd {b : List UInt8} {a c : Nat} {l : List Ch} (h : someR b (changeR b) a = .ok l c) : b.drop a = encChanges l ++ b.drop c ∧ cgsB l = true := some_rd (fun a c x h => change_rd h) h
theorem enc_dec {b : List UInt8} {x : Ms} {a : Nat} (h : outR b = .ok x a) : encMs x = b ∧ msB x = true := by
  obtain ⟨y, c, h1, h2⟩ := bind_ok h
  split at h2
  · cases h2
  rename_i hk
  split at h2
  · cases h2
  rename_i hl
  cases h2
  unfold msgR at h1
  obtain ⟨x0, a0, r0, h1⟩ := bind_ok h1
  obtain ⟨d0, k0⟩ := int_rd r0
  obtain ⟨x1, a1, r1, h1⟩ := bind_ok h1
  obtain ⟨d1, k1⟩ := i63_rd r1
  obtain ⟨x2, a2, r2, h1⟩ := bind_ok h1
  obtain ⟨d2, k2⟩ := i32_rd r2
  obtain ⟨x3, a3, r3, h1⟩ := bind_ok h1
  obtain ⟨d3, k3⟩ := i32_rd r3
  obtain ⟨x4, a4, r4, h1⟩ := bind_ok h1
  obtain ⟨d4, k4⟩ := i32_rd r4
  obtain ⟨x5, a5, r5, h1⟩ := bind_ok h1
  obtain ⟨d5, k5⟩ := text_rd r5
  obtain ⟨x6, a6, r6, h1⟩ := bind_ok h1
  obtain ⟨d6, k6⟩ := stmts_rd r6
  obtain ⟨x7, a7, r7, h1⟩ := bind_ok h1
  obtain ⟨d7, k7⟩ := changes_rd r7
  cases h1
  have hz : b.drop a = [] := List.drop_of_length_le (by omega)
  refine ⟨?_, ?_⟩
  · have h0 : b = b.drop 0 := rfl
    rw [h0, d0, d1, d2, d3, d4, d5, d6, d7, hz]
    unfold encMs
    simp only [putsL_cons, putsL_nil, List.append_nil, List.append_assoc]
  · unfold msB
    dsimp only at hk
    simp only [k1, k2, k3, k4, k5, k6, k7, List.all_cons, List.all_nil, Bool.and_true, decide_true]
    rw [decide_eq_true (by omega), decide_eq_true (by omega)]; rfl
end Go.Proofs.Ytbdbmfifclmpcaa

namespace Go.Proofs.Ytbdbmfifclmpcaa
open Go.RowKit
set_option linter.unusedVariables false
set_option maxRecDepth 100000
noncomputable def wire_EncodeO_c : Code := (Try.f14.body).getD .skip
def wire_EncodeO_h : Hint := (.two .n (.two (.two .n (.two (.two .n .n) .n)) (.gh (3, 0, ty_uint8, 1) [1, 3] .n (.two .n (.two .n (.two .n (.two .n (.two .n .n))))))))
noncomputable def wire_EncodeO_env (m : Nat) : Env := [(19, .tell (wire_May_t m)), (43, .keep (wire_writer_nums_t m)), (44, .keep (wire_writer_text_t m)), (45, .keep (wire_each_Stmt_t m)), (47, .keep (wire_each_Change_t m))]
noncomputable abbrev wire_EncodeO_fin (n0 : Nat) : KO (AV × List AObj) := orwFK Try.prog n0 [.tmp 2]
noncomputable def wire_EncodeO_r1 (m : Nat) (n0k : Nat) (s : ASt) : RO := joinW Try.prog GG (wire_EncodeO_env m) m ⟨42, []⟩ (cdR (cdR (cdR wire_EncodeO_c))) wire_EncodeO_h.r.r.r s (wire_EncodeO_fin n0k)
noncomputable def wire_EncodeO (m : Nat) (t0 : AV) (H : List AObj) : RO := exec Try.prog GG (wire_EncodeO_env m) m ⟨42, []⟩ wire_EncodeO_c wire_EncodeO_h ⟨H, argsT 0 [t0]⟩ (wire_EncodeO_fin H.length)
theorem wire_EncodeO_r1_eq (m : Nat) (n0k : Nat) (H : List AObj) (t1 t3 : AV) : wire_EncodeO_r1 m n0k ⟨H, [(1, t1), (3, t3)]⟩ =
  fieldE (some (0, 1)) t1 fun t10 =>
  loadE 1 H t10 fun t11 =>
  fieldE (some (1, 1)) t1 fun t12 =>
  loadE 1 H t12 fun t13 =>
  fieldE (some (2, 1)) t1 fun t14 =>
  loadE 1 H t14 fun t15 =>
  fieldE (some (3, 1)) t1 fun t16 =>
  loadE 1 H t16 fun t17 =>
  fieldE (some (4, 1)) t1 fun t18 =>
  loadE 1 H t18 fun t19 =>
  buildSE (some (ty_int, 1)) 5 [(0, t11), (1, t13), (2, t15), (3, t17), (4, t19)] fun t20 =>
  keepE (wire_writer_nums m (ro H t3) (ro H t20) H) fun t21 H2 =>
  fieldE (some (5, 1)) t1 fun t23 =>
  loadE 1 H2 t23 fun t24 =>
  keepE (wire_writer_text m (ro H2 t3) (ro H2 t24) H2) fun t25 H3 =>
  fieldE (some (6, 1)) t1 fun t27 =>
  loadE 1 H3 t27 fun t28 =>
  whenE (([t3] : List AV).all cap0) (
  keepE (wire_each_Stmt m (ro H3 t3) (ro H3 t28) (ro H3 (CL (.func 46) 1 [t3])) H3) fun t31 H4 =>
  fieldE (some (7, 1)) t1 fun t33 =>
  loadE 1 H4 t33 fun t34 =>
  whenE (([t3] : List AV).all cap0) (
  keepE (wire_each_Change m (ro H4 t3) (ro H4 t34) (ro H4 (CL (.func 48) 1 [t3])) H4) fun t37 H5 =>
  nilE t3 fun t39 =>
  fieldE (some (0, 1)) t39 fun t40 =>
  loadE 1 H5 t40 fun t41 =>
  openK H5 t41)) := by
  refine (joinW_eq Try.prog GG (wire_EncodeO_env m) m ⟨42, []⟩ (cdR (cdR (cdR wire_EncodeO_c))) wire_EncodeO_h.r.r.r ⟨H, [(1, t1), (3, t3)]⟩ (wire_EncodeO_fin n0k)).trans ?_
  kernel_rfl
theorem wire_EncodeO_eq (m : Nat) (t0 : AV) (H : List AObj) : wire_EncodeO m t0 H =
  boxE ty_api_Msg H t0 fun t1 H2 =>
  loadE 10 H2 t1 fun t4 =>
  tellE (wire_May m (ro H2 t4)) [(ro H2 t4)] fun t5 =>
  unE .not t5 fun t6 =>
  condE t6 (
   openK H2 (V (.slice none 0 0))) (
   buildE (some pl_wire_writer) (some zc_wire_writer) [] fun t7 =>
   boxE ty_wire_writer H2 t7 fun t8 H3 =>
   wire_EncodeO_r1 m H.length (ghS 3 0 ty_uint8 1 ⟨H3, [(1, t1), (3, t8)]⟩)) := by
  refine (orwX Try.prog GG (wire_EncodeO_env m) m ⟨42, []⟩ H.length wire_EncodeO_c wire_EncodeO_h ⟨H, argsT 0 [t0]⟩ [.tmp 2]).trans ?_
  kernel_rfl
noncomputable def wire_EncodeO_t (m : Nat) : List AV → List AObj → RO | [t0], H => wire_EncodeO m t0 H | _, _ => none
theorem wire_EncodeO_ok (m : Nat) : ∀ args H X H', wire_EncodeO_t m args H = some (X, H') → AC Try.prog GG 14 args H (Is X H') := by
  intro args H X H' h
  unfold wire_EncodeO_t at h
  split at h
  · exact orw_ok (n := H.length) MIX (by
    intro f e h
    simp only [wire_EncodeO_env, Prod.mk.injEq, List.mem_cons, List.not_mem_nil, or_false] at h
    rcases h with ⟨rfl, rfl⟩ | ⟨rfl, rfl⟩ | ⟨rfl, rfl⟩ | ⟨rfl, rfl⟩ | ⟨rfl, rfl⟩
    · exact wire_May_ok m
    · exact wire_writer_nums_ok m
    · exact wire_writer_text_ok m
    · exact wire_each_Stmt_ok m
    · exact wire_each_Change_ok m) (f := 14) (c := wire_EncodeO_c) Try.func14 rfl (by kernel_rfl) _ rfl Try.ntmps14 (Nat.le_of_ble_eq_true rfl) wire_EncodeO_h h
  · cases h
end Go.Proofs.Ytbdbmfifclmpcaa

namespace Go.Proofs.Ytbdbmfifclmpcaa
open Go.RowKit
set_option linter.unusedVariables false
set_option linter.unusedSimpArgs false
set_option maxRecDepth 20000
attribute [local go_sem] Nat.zero_add Nat.add_zero Nat.mul_one Int.toNat_natCast Int.natCast_zero Int.cast_ofNat_Int or_false false_or or_true true_or Nat.sub_zero Int.natCast_nonneg Int.toNat_zero Bool.true_and Bool.and_true Bool.false_and Bool.and_false Bool.true_or Bool.or_true Bool.false_or Bool.or_false Bool.not_true Bool.not_false Bool.not_not true_and and_true false_and and_false not_true_eq_false not_false_eq_true eq_self decide_true decide_false ne_eq implies_true forall_const true_implies false_implies Bool.true_eq_false Bool.false_eq_true List.map_cons List.map_nil List.all_cons List.all_nil List.length_cons List.length_nil List.length_map List.length_append List.nil_append List.cons_append List.set_cons_zero List.set_cons_succ List.set_nil List.drop_zero List.drop_succ_cons List.drop_nil List.take_zero List.take_succ_cons List.take_nil Option.map_some Option.map_none Option.isSome_some List.all_append List.all_map Function.comp_def decide_eq_true_eq Bool.and_eq_true beq_self_eq_true or_self and_self ite_true ite_false Nat.le_refl Bool.not_eq_true decide_not Bool.not_eq_true' decide_eq_false_iff_not Bool.not_eq_false Bool.or_eq_true if_true if_false ite_self u_roF u_cvF u_cvC u_ceT u_ceK u_appS sm_it sm_len sm_sure sm_ltA sm_lt1 sm_all1 sm_ro sm_take sm_sl sm_set sm_noT sm_fr sm_st_fr sm_set_fr sm_kd sm_st_kd sm_set_kd sm_vw sm_st_vw sm_set_vw sm_sq sm_st_sq sm_set_sq sm_tm sm_st_tm sm_set_tm zsm_len zsm_sure zsm_lt1 zsm_sl zsm_ro zsm_setz zsm_set zsm_setr zsm_take sms_ltA sms_len ce_it ce_len ce_sure ce_ltA ce_lt1 ce_all1 ce_ro ce_take ce_sl ce_set ce_noT ce_sq ce_st_sq ce_set_sq ce_vw ce_st_vw ce_set_vw ce_tm ce_st_tm ce_set_tm ce_body ce_st_body ce_set_body ce_vs ce_st_vs ce_set_vs zce_len zce_sure zce_lt1 zce_sl zce_ro zce_setz zce_set zce_setr zce_take ces_ltA ces_len cg_it cg_len cg_sure cg_ltA cg_lt1 cg_all1 cg_ro cg_take cg_sl cg_set cg_noT cg_fr cg_st_fr cg_set_fr cg_vw cg_st_vw cg_set_vw cg_st cg_st_st cg_set_st cg_rt cg_st_rt cg_set_rt cg_pf cg_st_pf cg_set_pf cg_cs cg_st_cs cg_set_cs zcg_len zcg_sure zcg_lt1 zcg_sl zcg_ro zcg_setz zcg_set zcg_setr zcg_take cgs_ltA cgs_len ms_it ms_len ms_sure ms_ltA ms_lt1 ms_all1 ms_ro ms_take ms_sl ms_set ms_noT ms_kd ms_st_kd ms_set_kd ms_fr ms_st_fr ms_set_fr ms_vw ms_st_vw ms_set_vw ms_sq ms_st_sq ms_set_sq ms_tm ms_st_tm ms_set_tm ms_body ms_st_body ms_set_body ms_vs ms_st_vs ms_set_vs ms_chs ms_st_chs ms_set_chs zms_len zms_sure zms_lt1 zms_sl zms_ro zms_setz zms_set zms_setr zms_take mss_ltA mss_len natInt u_nthM u_bz u_bi1 u_bi2 u_bi3 u_bi4 u_bi5 u_bi6 u_bi7 bC_length bc_ltA bc_one nthOL ltO_o ltO_r takeL bC_append u_addS List.take_length
theorem encodeO_s (m : Nat) (x : Ms) (h : msB x = true) (hm : 70 < m) : wire_EncodeO m (msE x) [] = some (OW 2 (encMs x).length, [⟨1, ty_api_Msg, 0, msC x⟩, ⟨1, ty_wire_writer, 0, [OW 2 (encMs x).length]⟩, ⟨2, ty_uint8, 1, bC (encMs x)⟩]) := by
  have hC := may_s m x hm
  rw [ms_it] at hC
  rw [wire_EncodeO_eq, ms_it]
  rw [h] at hC
  obtain ⟨_, _, _, _, h2, h3, h4⟩ := msB_ok h
  obtain ⟨h5, h6⟩ := smsB_ok h3
  obtain ⟨h7, h8⟩ := cgsB_ok h4
  have e1 := putsL_len (msB_inI h)
  have e2 := textB_len x.body h2
  have e3 := encStmts_len h3
  simp only [List.length_cons, List.length_nil] at e1
  have hN := nums_s m ⟨1, ty_api_Msg, 0, msC x⟩ [] [] [x.kd, x.fr, x.vw, x.sq, x.tm] (fun n => rfl) (fun n => rfl) (msB_inI h) (by simp; omega) (by simp)
  have hT := text_s m ⟨1, ty_api_Msg, 0, msC x⟩ ([] ++ putsL [x.kd, x.fr, x.vw, x.sq, x.tm]) [] x.body (fun n => rfl) (fun n => rfl) hm (by rw [List.nil_append]; omega)
  have hE := eachStmt_s m ⟨1, ty_api_Msg, 0, msC x⟩ ([] ++ putsL [x.kd, x.fr, x.vw, x.sq, x.tm] ++ textB x.body) [] x.vs (fun n => rfl) (fun n => rfl) h6 h5 hm (by rw [List.nil_append, List.length_append]; omega)
  have hG := eachChange_s m ⟨1, ty_api_Msg, 0, msC x⟩ ([] ++ putsL [x.kd, x.fr, x.vw, x.sq, x.tm] ++ textB x.body ++ encStmts x.vs) [] x.chs (fun n => rfl) (fun n => rfl) h8 h7 hm (by rw [List.nil_append, List.length_append, List.length_append]; omega)
  have hz : bC [] = [] := rfl
  simp only [List.map_cons, List.map_nil, List.length_nil, List.nil_append, Nat.zero_add, hz, List.length_append, bC_append, List.append_assoc, Nat.add_assoc] at hN hT hE hG
  unfold encMs
  simp (config := {maxSteps := 4000000, implicitDefEqProofs := false}) (disch := omega) only [go_sem, ↓reduceIte, Nat.reduceAdd, Nat.reduceSub, Nat.reduceMul, Nat.reduceLeDiff, Nat.reduceLT, Int.reduceEq, Int.reduceNe, Int.reduceLT, Int.reduceLE, Int.reduceAdd, Int.reduceSub, Int.reduceMul, Int.reduceNeg, Int.reduceToNat, reduceCtorEq, Nat.reduceEqDiff, Nat.reduceBEq, Nat.reduceGT, hC, zw_b]
  rw [gh_it (by rfl), wire_EncodeO_r1_eq]
  simp (config := {maxSteps := 4000000, implicitDefEqProofs := false}) (disch := omega) only [go_sem, ↓reduceIte, Nat.reduceAdd, Nat.reduceSub, Nat.reduceMul, Nat.reduceLeDiff, Nat.reduceLT, Int.reduceEq, Int.reduceNe, Int.reduceLT, Int.reduceLE, Int.reduceAdd, Int.reduceSub, Int.reduceMul, Int.reduceNeg, Int.reduceToNat, reduceCtorEq, Nat.reduceEqDiff, Nat.reduceBEq, Nat.reduceGT, hN, hT, hE, hG, ro_cl, List.append_assoc, Nat.add_assoc]
end Go.Proofs.Ytbdbmfifclmpcaa

namespace Go.Proofs.Ytbdbmfifclmpcaa
open Go.RowKit
set_option linter.unusedVariables false
set_option linter.unusedSimpArgs false
set_option maxRecDepth 20000
noncomputable def wire_Decode_t (m : Nat) : List AV → RO := orac (ι := List UInt8) (fun l => [SL (bC l)]) (fun l => decX (decW l)) (fun l => l.length ≤ 34359738368)
theorem wire_Decode_ok (m : Nat) : ∀ args X H', wire_Decode_t m args = some (X, H') → ACp Try.prog GG 9 args X := orac_ok fun l hl => decode_acp hl
theorem wire_Decode_e (m : Nat) (l : List UInt8) (hl : l.length ≤ 34359738368) : wire_Decode_t m [SL (bC l)] = some (decX (decW l), []) := orac_eq (ι := List UInt8) (fun a b h => by rw [SLb_inj h]) (i := l) hl
end Go.Proofs.Ytbdbmfifclmpcaa

namespace Go.Proofs.Ytbdbmfifclmpcaa
open Go.RowKit
set_option linter.unusedVariables false
set_option maxRecDepth 100000
noncomputable def plenumlaw28_awake_c : Code := (Try.f8.body).getD .skip
def plenumlaw28_awake_h : Hint := (.two .n (.two .n (.two (.two .n (.two (.two .n .n) .n)) (.two .n (.two .n (.two .n .n))))))
noncomputable def plenumlaw28_awake_env (m : Nat) : Env := [(14, .keep (wire_EncodeO_t m)), (9, .tell (wire_Decode_t m))]
noncomputable abbrev plenumlaw28_awake_fin : KO (AV × List AObj) := tellFK Try.prog [.tmp 0]
noncomputable def plenumlaw28_awake (m : Nat) : RO := exec Try.prog GG (plenumlaw28_awake_env m) m ⟨42, []⟩ plenumlaw28_awake_c plenumlaw28_awake_h ⟨[], argsT 0 []⟩ (plenumlaw28_awake_fin)
theorem plenumlaw28_awake_eq (m : Nat) : plenumlaw28_awake m =
  buildE (some pl_api_Msg) (some zc_api_Msg) [(0, (V (.int .i64 3))), (1, (V (.int .i64 1))), (2, (V (.int .i64 2))), (3, (V (.int .i64 3))), (4, (V (.int .i64 4)))] fun t8 =>
  keepE (wire_EncodeO m (ro [] t8) []) fun t9 H1 =>
  convE false none true true (ro H1 t9) fun t11 =>
  binE none false false .neq t11 (V (.string ⟨#[3, 1, 2, 3, 4, 0, 0, 0]⟩)) fun t12 =>
  condE t12 (
   tellK H1 (ro H1 (V (.bool false)))) (
   sliceE false (some (ty_uint8, 1)) H1 t9 none (some (V (.int .i64 7))) fun t15 =>
   tellE (wire_Decode_t m [(ro H1 t15)]) [(ro H1 t15)] fun t16 =>
   extE t16 0 fun t17 =>
   extE t16 1 fun t18 =>
   extE t16 2 fun t19 =>
   allocE (some zc_api_Msg) ty_api_Msg H1 fun t2 H2 =>
   storeE 10 H2 t2 t17 fun H3 =>
   buildSE (some (ty_uint8, 1)) 1 [(0, (V (.int .u8 0)))] fun t22 =>
   appE (some (ty_uint8, 1)) H3 t9 t22 fun t23 H4 =>
   tellE (wire_Decode_t m [(ro H4 t23)]) [(ro H4 t23)] fun t24 =>
   extE t24 0 fun t25 =>
   extE t24 1 fun t26 =>
   extE t24 2 fun t27 =>
   allocE (some zc_api_Msg) ty_api_Msg H4 fun t5 H5 =>
   storeE 10 H5 t5 t25 fun H6 =>
   binE none false false .eql t18 (V (.int .i64 2)) fun t29 =>
   condE t29 (
    binE none false false .eql t19 (V (.int .i64 7)) fun t32 =>
    condE t32 (
    binE none false false .eql t26 (V (.int .i64 7)) fun t36 =>
    condE t36 (
    binE none false false .eql t27 (V (.int .i64 8)) fun t40 =>
    tellK H6 (ro H6 t40)) (
    tellK H6 (ro H6 (V (.bool false))))) (
    tellK H6 (ro H6 (V (.bool false))))) (
    tellK H6 (ro H6 (V (.bool false))))) := by
  refine (tellX Try.prog GG (plenumlaw28_awake_env m) m ⟨42, []⟩ plenumlaw28_awake_c plenumlaw28_awake_h ⟨[], argsT 0 []⟩ [.tmp 0]).trans ?_
  kernel_rfl
noncomputable def plenumlaw28_awake_t (m : Nat) : List AV → RO | [] => plenumlaw28_awake m | _ => none
theorem plenumlaw28_awake_ok (m : Nat) : ∀ args X H', plenumlaw28_awake_t m args = some (X, H') → ACp Try.prog GG 8 args X := by
  intro args X H' h
  unfold plenumlaw28_awake_t at h
  split at h
  · exact tell_okK MIX (by
    intro f e h
    simp only [plenumlaw28_awake_env, Prod.mk.injEq, List.mem_cons, List.not_mem_nil, or_false] at h
    rcases h with ⟨rfl, rfl⟩ | ⟨rfl, rfl⟩
    · exact wire_EncodeO_ok m
    · exact wire_Decode_ok m) (f := 8) (c := plenumlaw28_awake_c) Try.func8 rfl (by kernel_rfl) _ rfl Try.ntmps8 (Nat.le_of_ble_eq_true rfl) plenumlaw28_awake_h h
  · cases h
end Go.Proofs.Ytbdbmfifclmpcaa
