/-
  Texts laid together, part 7 of 7: laws of a walk over data, contracts of functions, each whole by itself.
-/
import Derived.Test.YtaaogcnjfkgnoaaMgf
import Derived.Test.YtaaogcnjfkgnoaaMgc
set_option maxRecDepth 100000
set_option linter.unusedVariables false
set_option linter.unusedSimpArgs false
namespace Go.Proofs.Ytaaogcnjfkgnoaa
open Go.RowKit
set_option maxHeartbeats 4000000
attribute [local go_sem] Nat.zero_add Nat.add_zero Nat.mul_one Int.toNat_natCast Int.natCast_zero Int.cast_ofNat_Int or_false false_or or_true true_or Nat.sub_zero Int.natCast_nonneg Int.toNat_zero Bool.true_and Bool.and_true Bool.false_and Bool.and_false Bool.true_or Bool.or_true Bool.false_or Bool.or_false Bool.not_true Bool.not_false Bool.not_not true_and and_true false_and and_false not_true_eq_false not_false_eq_true eq_self decide_true decide_false ne_eq implies_true forall_const true_implies false_implies Bool.true_eq_false Bool.false_eq_true List.map_cons List.map_nil List.all_cons List.all_nil List.length_cons List.length_nil List.length_map List.length_append List.nil_append List.cons_append List.set_cons_zero List.set_cons_succ List.set_nil List.drop_zero List.drop_succ_cons List.drop_nil List.take_zero List.take_succ_cons List.take_nil Option.map_some Option.map_none Option.isSome_some List.all_append List.all_map Function.comp_def decide_eq_true_eq Bool.and_eq_true beq_self_eq_true or_self and_self ite_true ite_false Nat.le_refl Bool.not_eq_true decide_not Bool.not_eq_true' decide_eq_false_iff_not Bool.not_eq_false Bool.or_eq_true if_true if_false ite_self u_roF u_cvF u_cvC u_ceT u_ceK u_appS sm_it sm_len sm_sure sm_ltA sm_lt1 sm_all1 sm_ro sm_take sm_sl sm_set sm_noT sm_fr sm_st_fr sm_set_fr sm_kd sm_st_kd sm_set_kd sm_vw sm_st_vw sm_set_vw sm_sq sm_st_sq sm_set_sq sm_tm sm_st_tm sm_set_tm zsm_len zsm_sure zsm_lt1 zsm_sl zsm_ro zsm_setz zsm_set zsm_setr zsm_take sms_ltA sms_len ce_it ce_len ce_sure ce_ltA ce_lt1 ce_all1 ce_ro ce_take ce_sl ce_set ce_noT ce_sq ce_st_sq ce_set_sq ce_vw ce_st_vw ce_set_vw ce_tm ce_st_tm ce_set_tm ce_body ce_st_body ce_set_body ce_vs ce_st_vs ce_set_vs zce_len zce_sure zce_lt1 zce_sl zce_ro zce_setz zce_set zce_setr zce_take ces_ltA ces_len cg_it cg_len cg_sure cg_ltA cg_lt1 cg_all1 cg_ro cg_take cg_sl cg_set cg_noT cg_fr cg_st_fr cg_set_fr cg_vw cg_st_vw cg_set_vw cg_st cg_st_st cg_set_st cg_rt cg_st_rt cg_set_rt cg_pf cg_st_pf cg_set_pf cg_cs cg_st_cs cg_set_cs zcg_len zcg_sure zcg_lt1 zcg_sl zcg_ro zcg_setz zcg_set zcg_setr zcg_take cgs_ltA cgs_len ms_it ms_len ms_sure ms_ltA ms_lt1 ms_all1 ms_ro ms_take ms_sl ms_set ms_noT ms_kd ms_st_kd ms_set_kd ms_fr ms_st_fr ms_set_fr ms_vw ms_st_vw ms_set_vw ms_sq ms_st_sq ms_set_sq ms_tm ms_st_tm ms_set_tm ms_body ms_st_body ms_set_body ms_vs ms_st_vs ms_set_vs ms_chs ms_st_chs ms_set_chs zms_len zms_sure zms_lt1 zms_sl zms_ro zms_setz zms_set zms_setr zms_take mss_ltA mss_len co_it co_len co_sure co_ltA co_lt1 co_all1 co_ro co_take co_sl co_set co_noT co_sq co_st_sq co_set_sq co_tm co_st_tm co_set_tm co_body co_st_body co_set_body co_nl co_st_nl co_set_nl zco_len zco_sure zco_lt1 zco_sl zco_ro zco_setz zco_set zco_setr zco_take cos_ltA cos_len sd_it sd_len sd_sure sd_ltA sd_lt1 sd_all1 sd_ro sd_take sd_sl sd_set sd_noT sd_wh sd_st_wh sd_set_wh sd_fr sd_st_fr sd_set_fr sd_kd sd_st_kd sd_set_kd sd_vw sd_st_vw sd_set_vw sd_sq sd_st_sq sd_set_sq sd_tm sd_st_tm sd_set_tm sds_ltA sds_len natInt u_nthM u_bz u_bi1 u_bi2 u_bi3 u_bi4 u_bi5 u_bi6 u_bi7 s_B0 s_Bk s_Bs0 s_Bsk s_takeY s_take s_takeK sc_len smO_lt w_0 w_Y0 w_B0 w_Bk w_Bs0 w_Bsk w_take w_takeY w_takeK sw_len wo_cells ltO_o ltO_r u_eqE u_eqSm Nat.le_add_right List.append_assoc
attribute [local go_sem_proc] Nat.reduceAdd Nat.reduceSub Nat.reduceMul Nat.reduceLeDiff Nat.reduceLT Int.reduceEq Int.reduceNe Int.reduceLT Int.reduceLE Int.reduceAdd Int.reduceSub Int.reduceMul Int.reduceNeg Int.reduceToNat reduceCtorEq Nat.reduceEqDiff Nat.reduceBEq Nat.reduceGT
attribute [local go_sem_proc ↓] reduceIte
def cut3 (x : List UInt8) : List UInt8 := if 3000 < x.length then x.take 3000 else x
def stepT (p : Sg × Wg) (x : List UInt8) : Sg × Wg := ({ p.1 with T := oqT p.1.T (cut3 x) },{ p.2 with T := oqT p.2.T (cut3 x) })
def stepR (p : Sg × Wg) (d : Sd) : Sg × Wg := ({ p.1 with R := sayR p.1 d.wh (sdS d) },{ p.2 with L := rsayL p.2.n p.2.rog p.2.L d.wh (sdS d),X := SL ((rsayL p.2.n p.2.rog p.2.L d.wh (sdS d)).map smE) })
def scn0 (rog : List Int) : Sg × Wg := (⟨[],7,bdL rog,[]⟩,⟨[],7,rog,[],V (.slice none 0 0)⟩)
def scnT (rog : List Int) (tx : List (List UInt8)) : Sg × Wg := (tx.take 80).foldl stepT (scn0 rog)
def scn (rog : List Int) (tx : List (List UInt8)) (sd : List Sd) : Sg × Wg := (sd.take 120).foldl stepR (scnT rog tx)
theorem cut3_len {x : List UInt8} (h : x.length ≤ 9223372036854775807) : (cut3 x).length ≤ 9223372036854775807 := by
 unfold cut3
 split
 ·simp;omega
 ·exact h
theorem scn0_ok {rog : List Int} (hb : ∀ p ∈ rog,inN 7 p = true) (hl : rog.length ≤ 1000000) : Scn (scn0 rog).1 (scn0 rog).2 :=
 ⟨⟨List.nodup_nil,by show ([] : List (List UInt8)).length ≤ _;simp,fun s hs=>by simp [scn0] at hs,by show (1 : Int) ≤ 7;omega,by show (7 : Int) ≤ 64;omega,bdL_64,List.nodup_nil,by show ([] : List Sm).length ≤ _;simp,fun s hs=>by simp [scn0] at hs,fun s hs=>by simp [scn0] at hs⟩,⟨by show ([] : List (List UInt8)).length ≤ _;simp,by show ([] : List Sm).length ≤ _;simp,hl, .inr ⟨rfl,rfl⟩⟩,rfl,rfl,rfl,rfl,rfl,hb⟩
theorem stepT_ok : ∀ (l : List (List UInt8)) (p : Sg × Wg),Scn p.1 p.2 → (∀ x ∈ l,x.length ≤ 9223372036854775807) → Scn (l.foldl stepT p).1 (l.foldl stepT p).2
 |[],p,h,_=>h
 |x :: l,p,h,hl=>stepT_ok l (stepT p x) (h.of (cut3_len (hl x (List.mem_cons_self ..)))) fun y hy=>hl y (List.mem_cons_of_mem _ hy)
theorem stepR_ok : ∀ (l : List Sd) (p : Sg × Wg),Scn p.1 p.2 → (∀ x ∈ l,SmI (sdS x)) → Scn (l.foldl stepR p).1 (l.foldl stepR p).2
 |[],p,h,_=>h
 |x :: l,p,h,hl=>stepR_ok l (stepR p x) (h.said x.wh (sdS x) (hl x (List.mem_cons_self ..))) fun y hy=>hl y (List.mem_cons_of_mem _ hy)
theorem scnT_ok {rog : List Int} {tx : List (List UInt8)} (hb : ∀ p ∈ rog,inN 7 p = true) (hl : rog.length ≤ 1000000) (ht : ∀ x ∈ tx,x.length ≤ 9223372036854775807) : Scn (scnT rog tx).1 (scnT rog tx).2 := stepT_ok _ _ (scn0_ok hb hl) fun x hx=>ht x (List.mem_of_mem_take hx)
theorem scn_ok {rog : List Int} {tx : List (List UInt8)} {sd : List Sd} (hb : ∀ p ∈ rog,inN 7 p = true) (hl : rog.length ≤ 1000000) (ht : ∀ x ∈ tx,x.length ≤ 9223372036854775807) (hs : ∀ x ∈ sd,SmI (sdS x)) : Scn (scn rog tx sd).1 (scn rog tx sd).2 := stepR_ok _ _ (scnT_ok hb hl ht) fun x hx=>hs x (List.mem_of_mem_take hx)
theorem fold_take {α β : Type} {f : β → α → β} {l : List α} {k : Nat} {b : β} (h : k < l.length) : (l.take (k + 1)).foldl f b = f ((l.take k).foldl f b) l[k] := by
 rw [List.take_succ_eq_append_getElem h,List.foldl_append]
 rfl
section
variable (m : Nat) (H0 : List AObj) (tx : List (List UInt8)) (bad : List Int) (sd : List Sd) (hm : 1000001 < m) (hA : GA (H0 ++ [scX tx bad sd])) (htl : tx.length ≤ 9223372036854775807) (hsl : sd.length ≤ 9223372036854775807) (ht : ∀ x ∈ tx,x.length ≤ 9223372036854775807) (hs : ∀ x ∈ sd,SmI (sdS x))
include hm hA hsl hs
theorem loopR_s (p : Sg × Wg) (h : Scn p.1 p.2) : plenumlaw32_set_r5 m H0.length ⟨hS (H0 ++ [scX tx bad sd]) p.1 p.2,[(1,OP H0.length 0),(6,OP (H0.length + 2) 0),(7,OP (H0.length + 5) 0),(9,OP (H0.length + 7) 0)]⟩ = some (TU [OP (H0.length + 2) 0,OP (H0.length + 5) 0,OP (H0.length + 7) 0,bA true],hS (H0 ++ [scX tx bad sd]) ((sd.take 120).foldl stepR p).1 ((sd.take 120).foldl stepR p).2) := by
 have hl : (H0 ++ [scX tx bad sd]).length = H0.length + 1 := by simp
 rw [plenumlaw32_set_r5_eq]
 refine iter_go (m := m) (ι := {k : Nat // k ≤ (sd.take 120).length}) (fun k=>⟨hS (H0 ++ [scX tx bad sd]) (((sd.take 120).take k.1).foldl stepR p).1 (((sd.take 120).take k.1).foldl stepR p).2,[(1,OP H0.length 0),(6,OP (H0.length + 2) 0),(7,OP (H0.length + 5) 0),(9,OP (H0.length + 7) 0),(12,nA k.1)]⟩) (fun k=>(sd.take 120).length - k.1) (fun _=>some (TU [OP (H0.length + 2) 0,OP (H0.length + 5) 0,OP (H0.length + 7) 0,bA true],hS (H0 ++ [scX tx bad sd]) ((sd.take 120).foldl stepR p).1 ((sd.take 120).foldl stepR p).2)) ?_ ⟨0,Nat.zero_le _⟩ (by dsimp only;simp;omega)
 rintro kx hkx ⟨k,hk⟩ kc hkc
 dsimp only at hkc ⊢
 have hP := stepR_ok ((sd.take 120).take k) p h fun x hx=>hs x (List.mem_of_mem_take (List.mem_of_mem_take hx))
 have hl8 : (hS (H0 ++ [scX tx bad sd]) (((sd.take 120).take k).foldl stepR p).1 (((sd.take 120).take k).foldl stepR p).2).length = H0.length + 9 := by rw [hS_len,hl]
 have hallk := hS_lt hA hP.wo (σ := (((sd.take 120).take k).foldl stepR p).1) (n := H0.length + 9) (by rw [hl];omega)
 rw [plenumlaw32_set_b2_eq]
 rw [List.length_take] at hk
 by_cases hc : k < (sd.take 120).length
 ·have hc' := hc
  rw [List.length_take] at hc'
  have h1 : k < sd.length := by omega
  have h1' : (k : Int) < (sd.length : Int) := by omega
  have h2 : (k : Int) < 120 := by omega
  have hr := said_r m H0 _ _ tx bad sd k h1 (H0.length + 9) kc kx hA hP (hs _ (List.getElem_mem h1)) hm hsl
  have step := hkc ⟨k + 1,by omega⟩ (by dsimp only;omega)
  dsimp only at step
  rw [fold_take hc,List.getElem_take] at step
  have hP2 := hP.said sd[k].wh (sdS sd[k]) (hs _ (List.getElem_mem h1))
  generalize ((sd.take 120).take k).foldl stepR p = q at *
  obtain ⟨σ,ω⟩ := q
  dsimp only at *
  have hall := hS_lt hA hP2.wo (σ := { σ with R := sayR σ sd[k].wh (sdS sd[k]) }) (n := H0.length + 9) (by rw [hl];omega)
  have hl9 : (hS (H0 ++ [scX tx bad sd]) { σ with R := sayR σ sd[k].wh (sdS sd[k]) } { ω with L := rsayL ω.n ω.rog ω.L sd[k].wh (sdS sd[k]),X := SL ((rsayL ω.n ω.rog ω.L sd[k].wh (sdS sd[k])).map smE) }).length = H0.length + 9 := by rw [hS_len,hl]
  have htk : (hS (H0 ++ [scX tx bad sd]) { σ with R := sayR σ sd[k].wh (sdS sd[k]) } { ω with L := rsayL ω.n ω.rog ω.L sd[k].wh (sdS sd[k]),X := SL ((rsayL ω.n ω.rog ω.L sd[k].wh (sdS sd[k])).map smE) }).take (H0.length + 9) = _ := List.take_of_length_le (by rw [hl9];exact Nat.le_refl _)
  have hw1 : IntKind.i64.wrap ((k : Int) + 1) = (k : Int) + 1 := w_i64 (by omega) (by omega)
  have o1 : H0.length + 2 < H0.length + 9 := by omega
  have o2 : H0.length + 5 < H0.length + 9 := by omega
  have o3 : H0.length + 7 < H0.length + 9 := by omega
  have o4 : H0.length < H0.length + 9 := by omega
  rw [hw1] at hr
  have hc0 := fun {K : AObj → RO} {σ : Sg} {o6 o7 : AObj}=>hM_0 (H0 := H0) (X := scX tx bad sd) (σ := σ) (o6 := o6) (o7 := o7) (K := K)
  have hc1 : ∀ {K : AObj → RO},nthOE (hS (H0 ++ [scX tx bad sd]) σ ω) H0.length K = K (scX tx bad sd) := fun {K}=>by rw [hS_hM];exact hM_0
  simp (config := {maxSteps := 4000000,implicitDefEqProofs := false}) (disch := omega) only [go_sem,hc1,sc_cells,sc_f2,h1',h2,hl8,hr,plenumlaw32_set_r8_eq]
  simp (config := {maxSteps := 4000000,implicitDefEqProofs := false}) (disch := omega) only [go_sem,hl9,hall,htk,o1,o2,o3,o4]
  exact step
 ·have hk2 : k = (sd.take 120).length := by rw [List.length_take] at hc ⊢;omega
  have htk : (sd.take 120).take k = sd.take 120 := by rw [hk2,List.take_length]
  rw [htk] at hl8 hallk ⊢
  have hc1 : ∀ {K : AObj → RO},nthOE (hS (H0 ++ [scX tx bad sd]) ((sd.take 120).foldl stepR p).1 ((sd.take 120).foldl stepR p).2) H0.length K = K (scX tx bad sd) := fun {K}=>by rw [hS_hM];exact hM_0
  have o1 : H0.length + 2 < H0.length + 9 := by omega
  have o2 : H0.length + 5 < H0.length + 9 := by omega
  have o3 : H0.length + 7 < H0.length + 9 := by omega
  by_cases h1 : k < sd.length
  ·have h1' : (k : Int) < (sd.length : Int) := by omega
   have h2 : ¬ (k : Int) < 120 := by rw [List.length_take] at hk2;omega
   simp (config := {maxSteps := 4000000,implicitDefEqProofs := false}) (disch := omega) only [go_sem,hc1,sc_cells,sc_f2,h1',h2,hl8,hkx,plenumlaw32_set_r8_eq,plenumlaw32_set_r7_eq,u_openK,hallk,o1,o2,o3]
  ·have h1' : ¬ (k : Int) < (sd.length : Int) := by omega
   simp (config := {maxSteps := 4000000,implicitDefEqProofs := false}) (disch := omega) only [go_sem,hc1,sc_cells,sc_f2,h1',hl8,hkx,plenumlaw32_set_r8_eq,plenumlaw32_set_r7_eq,u_openK,hallk,o1,o2,o3]
include htl ht
theorem loopT_s (rog : List Int) (hb : ∀ p ∈ rog,inN 7 p = true) (hlr : rog.length ≤ 1000000) : plenumlaw32_set_r4 m H0.length ⟨hS (H0 ++ [scX tx bad sd]) (scn0 rog).1 (scn0 rog).2,[(1,OP H0.length 0),(6,OP (H0.length + 2) 0),(7,OP (H0.length + 5) 0),(9,OP (H0.length + 7) 0)]⟩ = some (TU [OP (H0.length + 2) 0,OP (H0.length + 5) 0,OP (H0.length + 7) 0,bA true],hS (H0 ++ [scX tx bad sd]) (scn rog tx sd).1 (scn rog tx sd).2) := by
 have hl : (H0 ++ [scX tx bad sd]).length = H0.length + 1 := by simp
 have h0 := scn0_ok hb hlr
 have h5 := loopR_s m H0 tx bad sd hm hA hsl hs (scnT rog tx) (scnT_ok hb hlr ht)
 rw [show (sd.take 120).foldl stepR (scnT rog tx) = scn rog tx sd from rfl] at h5
 rw [plenumlaw32_set_r4_eq]
 refine iter_go (m := m) (ι := {k : Nat // k ≤ (tx.take 80).length}) (fun k=>⟨hS (H0 ++ [scX tx bad sd]) (((tx.take 80).take k.1).foldl stepT (scn0 rog)).1 (((tx.take 80).take k.1).foldl stepT (scn0 rog)).2,[(1,OP H0.length 0),(6,OP (H0.length + 2) 0),(7,OP (H0.length + 5) 0),(9,OP (H0.length + 7) 0),(10,nA k.1)]⟩) (fun k=>(tx.take 80).length - k.1) (fun _=>some (TU [OP (H0.length + 2) 0,OP (H0.length + 5) 0,OP (H0.length + 7) 0,bA true],hS (H0 ++ [scX tx bad sd]) (scn rog tx sd).1 (scn rog tx sd).2)) ?_ ⟨0,Nat.zero_le _⟩ (by dsimp only;simp;omega)
 rintro kx hkx ⟨k,hk⟩ kc hkc
 dsimp only at hkc ⊢
 have hP := stepT_ok ((tx.take 80).take k) (scn0 rog) h0 fun x hx=>ht x (List.mem_of_mem_take (List.mem_of_mem_take hx))
 have hl8 : (hS (H0 ++ [scX tx bad sd]) (((tx.take 80).take k).foldl stepT (scn0 rog)).1 (((tx.take 80).take k).foldl stepT (scn0 rog)).2).length = H0.length + 9 := by rw [hS_len,hl]
 rw [plenumlaw32_set_b1_eq]
 rw [List.length_take] at hk
 by_cases hc : k < (tx.take 80).length
 ·have hc' := hc
  rw [List.length_take] at hc'
  have h1 : k < tx.length := by omega
  have h1' : (k : Int) < (tx.length : Int) := by omega
  have h2 : (k : Int) < 80 := by omega
  have hx := ht _ (List.getElem_mem h1)
  have step := hkc ⟨k + 1,by omega⟩ (by dsimp only;omega)
  dsimp only at step
  rw [fold_take hc,List.getElem_take] at step
  have hP2 := hP.of (cut3_len hx)
  generalize ((tx.take 80).take k).foldl stepT (scn0 rog) = q at *
  obtain ⟨σ,ω⟩ := q
  dsimp only at *
  have hst : stepT (σ,ω) tx[k] = ({ σ with T := oqT σ.T (cut3 tx[k]) },{ ω with T := oqT ω.T (cut3 tx[k]) }) := rfl
  rw [hst] at step
  dsimp only at step
  have hr := text_r m (H0 ++ [scX tx bad sd]) σ ω (cut3 tx[k]) (OP H0.length 0) k (H0.length + 9) kc kx hA hP (cut3_len hx) hm
  rw [hl] at hr
  have e4 : H0.length + 1 + 1 = H0.length + 2 := rfl
  have e5 : H0.length + 1 + 4 = H0.length + 5 := rfl
  have e6 : H0.length + 1 + 6 = H0.length + 7 := rfl
  simp only [e4,e5,e6] at hr
  have hall := hS_lt hA hP2.wo (σ := { σ with T := oqT σ.T (cut3 tx[k]) }) (n := H0.length + 9) (by rw [hl];omega)
  have hl9 : (hS (H0 ++ [scX tx bad sd]) { σ with T := oqT σ.T (cut3 tx[k]) } { ω with T := oqT ω.T (cut3 tx[k]) }).length = H0.length + 9 := by rw [hS_len,hl]
  have htk : (hS (H0 ++ [scX tx bad sd]) { σ with T := oqT σ.T (cut3 tx[k]) } { ω with T := oqT ω.T (cut3 tx[k]) }).take (H0.length + 9) = _ := List.take_of_length_le (by rw [hl9];exact Nat.le_refl _)
  have hw1 : IntKind.i64.wrap ((k : Int) + 1) = (k : Int) + 1 := w_i64 (by omega) (by omega)
  have o1 : H0.length + 2 < H0.length + 9 := by omega
  have o2 : H0.length + 5 < H0.length + 9 := by omega
  have o3 : H0.length + 7 < H0.length + 9 := by omega
  have o4 : H0.length < H0.length + 9 := by omega
  have hc1 : ∀ {K : AObj → RO},nthOE (hS (H0 ++ [scX tx bad sd]) σ ω) H0.length K = K (scX tx bad sd) := fun {K}=>by rw [hS_hM];exact hM_0
  unfold cut3 at *
  by_cases h3 : 3000 < tx[k].length
  ·have h3' : (3000 : Int) < (tx[k].length : Int) := by omega
   have h3'' : (3000 : Int) ≤ (tx[k].length : Int) := by omega
   rw [if_pos h3] at *
   simp (config := {maxSteps := 4000000,implicitDefEqProofs := false}) (disch := omega) only [go_sem,hc1,sc_cells,sc_f0,h1,h1',h2,h3',h3'',hl8,szOf,plenumlaw32_set_r6_eq,plenumlaw32_set_r9_eq]
   simp (config := {maxSteps := 4000000,implicitDefEqProofs := false}) (disch := omega) only [go_sem,hr,hl9,hall,htk,o1,o2,o3,o4,hw1,plenumlaw32_set_r12_eq]
   exact step
  ·have h3' : ¬ (3000 : Int) < (tx[k].length : Int) := by omega
   rw [if_neg h3] at *
   simp (config := {maxSteps := 4000000,implicitDefEqProofs := false}) (disch := omega) only [go_sem,hc1,sc_cells,sc_f0,h1,h1',h2,h3',hl8,szOf,plenumlaw32_set_r6_eq,plenumlaw32_set_r9_eq]
   simp (config := {maxSteps := 4000000,implicitDefEqProofs := false}) (disch := omega) only [go_sem,hr,hl9,hall,htk,o1,o2,o3,o4,hw1,plenumlaw32_set_r12_eq]
   exact step
 ·have hk2 : k = (tx.take 80).length := by rw [List.length_take] at hc ⊢;omega
  have htk : (tx.take 80).take k = tx.take 80 := by rw [hk2,List.take_length]
  rw [htk] at hl8 ⊢
  rw [show (tx.take 80).foldl stepT (scn0 rog) = scnT rog tx from rfl] at *
  have hc1 : ∀ {K : AObj → RO},nthOE (hS (H0 ++ [scX tx bad sd]) (scnT rog tx).1 (scnT rog tx).2) H0.length K = K (scX tx bad sd) := fun {K}=>by rw [hS_hM];exact hM_0
  by_cases h1 : k < tx.length
  ·have h1' : (k : Int) < (tx.length : Int) := by omega
   have h2 : ¬ (k : Int) < 80 := by rw [List.length_take] at hk2;omega
   simp (config := {maxSteps := 4000000,implicitDefEqProofs := false}) (disch := omega) only [go_sem,hc1,sc_cells,sc_f0,h1',h2,hl8,hkx,plenumlaw32_set_r6_eq]
   exact h5
  ·have h1' : ¬ (k : Int) < (tx.length : Int) := by omega
   simp (config := {maxSteps := 4000000,implicitDefEqProofs := false}) (disch := omega) only [go_sem,hc1,sc_cells,sc_f0,h1',hl8,hkx,plenumlaw32_set_r6_eq]
   exact h5
end
end Go.Proofs.Ytaaogcnjfkgnoaa

namespace Go.Proofs.Ytaaogcnjfkgnoaa
open Go.RowKit
set_option maxHeartbeats 4000000
attribute [local go_sem] Nat.zero_add Nat.add_zero Nat.mul_one Int.toNat_natCast Int.natCast_zero Int.cast_ofNat_Int or_false false_or or_true true_or Nat.sub_zero Int.natCast_nonneg Int.toNat_zero Bool.true_and Bool.and_true Bool.false_and Bool.and_false Bool.true_or Bool.or_true Bool.false_or Bool.or_false Bool.not_true Bool.not_false Bool.not_not true_and and_true false_and and_false not_true_eq_false not_false_eq_true eq_self decide_true decide_false ne_eq implies_true forall_const true_implies false_implies Bool.true_eq_false Bool.false_eq_true List.map_cons List.map_nil List.all_cons List.all_nil List.length_cons List.length_nil List.length_map List.length_append List.nil_append List.cons_append List.set_cons_zero List.set_cons_succ List.set_nil List.drop_zero List.drop_succ_cons List.drop_nil List.take_zero List.take_succ_cons List.take_nil Option.map_some Option.map_none Option.isSome_some List.all_append List.all_map Function.comp_def decide_eq_true_eq Bool.and_eq_true beq_self_eq_true or_self and_self ite_true ite_false Nat.le_refl Bool.not_eq_true decide_not Bool.not_eq_true' decide_eq_false_iff_not Bool.not_eq_false Bool.or_eq_true if_true if_false ite_self u_roF u_cvF u_cvC u_ceT u_ceK u_appS sm_it sm_len sm_sure sm_ltA sm_lt1 sm_all1 sm_ro sm_take sm_sl sm_set sm_noT sm_fr sm_st_fr sm_set_fr sm_kd sm_st_kd sm_set_kd sm_vw sm_st_vw sm_set_vw sm_sq sm_st_sq sm_set_sq sm_tm sm_st_tm sm_set_tm zsm_len zsm_sure zsm_lt1 zsm_sl zsm_ro zsm_setz zsm_set zsm_setr zsm_take sms_ltA sms_len ce_it ce_len ce_sure ce_ltA ce_lt1 ce_all1 ce_ro ce_take ce_sl ce_set ce_noT ce_sq ce_st_sq ce_set_sq ce_vw ce_st_vw ce_set_vw ce_tm ce_st_tm ce_set_tm ce_body ce_st_body ce_set_body ce_vs ce_st_vs ce_set_vs zce_len zce_sure zce_lt1 zce_sl zce_ro zce_setz zce_set zce_setr zce_take ces_ltA ces_len cg_it cg_len cg_sure cg_ltA cg_lt1 cg_all1 cg_ro cg_take cg_sl cg_set cg_noT cg_fr cg_st_fr cg_set_fr cg_vw cg_st_vw cg_set_vw cg_st cg_st_st cg_set_st cg_rt cg_st_rt cg_set_rt cg_pf cg_st_pf cg_set_pf cg_cs cg_st_cs cg_set_cs zcg_len zcg_sure zcg_lt1 zcg_sl zcg_ro zcg_setz zcg_set zcg_setr zcg_take cgs_ltA cgs_len ms_it ms_len ms_sure ms_ltA ms_lt1 ms_all1 ms_ro ms_take ms_sl ms_set ms_noT ms_kd ms_st_kd ms_set_kd ms_fr ms_st_fr ms_set_fr ms_vw ms_st_vw ms_set_vw ms_sq ms_st_sq ms_set_sq ms_tm ms_st_tm ms_set_tm ms_body ms_st_body ms_set_body ms_vs ms_st_vs ms_set_vs ms_chs ms_st_chs ms_set_chs zms_len zms_sure zms_lt1 zms_sl zms_ro zms_setz zms_set zms_setr zms_take mss_ltA mss_len co_it co_len co_sure co_ltA co_lt1 co_all1 co_ro co_take co_sl co_set co_noT co_sq co_st_sq co_set_sq co_tm co_st_tm co_set_tm co_body co_st_body co_set_body co_nl co_st_nl co_set_nl zco_len zco_sure zco_lt1 zco_sl zco_ro zco_setz zco_set zco_setr zco_take cos_ltA cos_len sd_it sd_len sd_sure sd_ltA sd_lt1 sd_all1 sd_ro sd_take sd_sl sd_set sd_noT sd_wh sd_st_wh sd_set_wh sd_fr sd_st_fr sd_set_fr sd_kd sd_st_kd sd_set_kd sd_vw sd_st_vw sd_set_vw sd_sq sd_st_sq sd_set_sq sd_tm sd_st_tm sd_set_tm sds_ltA sds_len natInt u_nthM u_bz u_bi1 u_bi2 u_bi3 u_bi4 u_bi5 u_bi6 u_bi7 s_B0 s_Bk s_Bs0 s_Bsk s_takeY s_take s_takeK sc_len smO_lt w_0 w_Y0 w_B0 w_Bk w_Bs0 w_Bsk w_take w_takeY w_takeK sw_len wo_cells ltO_o ltO_r u_eqE u_eqSm Nat.le_add_right List.append_assoc
attribute [local go_sem_proc] Nat.reduceAdd Nat.reduceSub Nat.reduceMul Nat.reduceLeDiff Nat.reduceLT Int.reduceEq Int.reduceNe Int.reduceLT Int.reduceLE Int.reduceAdd Int.reduceSub Int.reduceMul Int.reduceNeg Int.reduceToNat reduceCtorEq Nat.reduceEqDiff Nat.reduceBEq Nat.reduceGT
attribute [local go_sem_proc ↓] reduceIte
theorem sc_sure {tx : List (List UInt8)} {bad : List Int} {sd : List Sd} : (scC tx bad sd).all sure = true := _root_.id rfl
theorem sc_put {tx : List (List UInt8)} {bad l : List Int} {sd : List Sd} {R : Type} {K : AObj → Option R} : putE (scX tx bad sd) 1 1 (SL (l.map nA)) K = K (scX tx l sd) := by
 unfold scX
 rw [u_pt1]
 rfl
theorem set_pre (m : Nat) (H0 : List AObj) (tx : List (List UInt8)) (bad : List Int) (sd : List Sd) (hb : bad.length ≤ 9223372036854775807) :
  plenumlaw32_set m (.agg (scC tx bad sd)) H0 = plenumlaw32_set_r1 m H0.length ⟨H0 ++ [scX tx (bad.take 10) sd],[(1,OP H0.length 0)]⟩ := by
 have h0 : ∀ {o : AObj} {K : AObj → RO},nthOE (H0 ++ [o]) H0.length K = K o := fun {o K}=>(nthOA H0 (k := 0))
 have hs : ∀ {o o' : AObj},(H0 ++ [o]).set H0.length o' = H0 ++ [o'] := fun {o o'}=>(setA H0 (k := 0))
 have e : (⟨1,ty_plenumlaw32_Scene,0,scC tx bad sd⟩ : AObj) = scX tx bad sd := rfl
 rw [plenumlaw32_set_eq]
 by_cases h : 10 < bad.length
 ·have h' : (10 : Int) < (bad.length : Int) := by omega
  have h'' : (10 : Int) ≤ (bad.length : Int) := by omega
  have hc : cutE (bad.map nA) 0 10 = (bad.take 10).map nA := cutM (n := 10)
  have h1 : ((bad.map nA).all fun d=>decide ((cellsOf d).length = szOf 3)) = true := by rw [List.all_map];exact List.all_eq_true.2 fun _ _=>rfl
  simp (config := {maxSteps := 4000000,implicitDefEqProofs := false}) (disch := omega) only [go_sem,sc_sure,e,h0,hs,sc_cells,sc_f1,sc_put,h',h'',hc]
 ·have h' : ¬ (10 : Int) < (bad.length : Int) := by omega
  have ht : bad.take 10 = bad := List.take_of_length_le (by omega)
  rw [ht]
  simp (config := {maxSteps := 4000000,implicitDefEqProofs := false}) (disch := omega) only [go_sem,sc_sure,e,h0,hs,sc_cells,sc_f1,h']
theorem gh_set {H0 : List AObj} {tx : List (List UInt8)} {b : List Int} {sd : List Sd} {bd : List Bool} {x7 x8 : AV} : ghS 9 0 ty_string 1 ⟨sc (H0 ++ [scX tx b sd]) [] (⟨[],7,bd,[]⟩ : Sg) ++ [⟨1,ty_plenumref32_World,0,[V (.slice none 0 0),nA 7,SL (b.map nA),V (.slice none 0 0)]⟩],[(1,OP H0.length 0),(6,OP (H0.length + 2) 0),(7,x7),(8,x8),(9,OP (H0.length + 7) 0)]⟩ = ⟨hS (H0 ++ [scX tx b sd]) (⟨[],7,bd,[]⟩ : Sg) (scn0 b).2,[(1,OP H0.length 0),(6,OP (H0.length + 2) 0),(7,x7),(8,x8),(9,OP (H0.length + 7) 0)]⟩ := by
 have hl : (H0 ++ [scX tx b sd]).length = H0.length + 1 := by simp
 have hsl2 : (sc (H0 ++ [scX tx b sd]) [] (⟨[],7,bd,[]⟩ : Sg)).length = H0.length + 7 := by rw [sc_len];unfold nAB;rw [hl];rfl
 have g1 : (sc (H0 ++ [scX tx b sd]) [] (⟨[],7,bd,[]⟩ : Sg) ++ ([⟨1,ty_plenumref32_World,0,[V (.slice none 0 0),nA 7,SL (b.map nA),V (.slice none 0 0)]⟩] : List AObj))[H0.length + 7]? = some ⟨1,ty_plenumref32_World,0,[V (.slice none 0 0),nA 7,SL (b.map nA),V (.slice none 0 0)]⟩ := by
  rw [← hsl2]
  exact (getA _ (k := 0))
 have g2 : ∀ o,(sc (H0 ++ [scX tx b sd]) [] (⟨[],7,bd,[]⟩ : Sg) ++ ([⟨1,ty_plenumref32_World,0,[V (.slice none 0 0),nA 7,SL (b.map nA),V (.slice none 0 0)]⟩] : List AObj)).set (H0.length + 7) o = sc (H0 ++ [scX tx b sd]) [] (⟨[],7,bd,[]⟩ : Sg) ++ [o] := fun o=>by
  rw [← hsl2]
  exact (setA _ (k := 0))
 unfold ghS
 show (match OP (H0.length + 7) 0 with|_=>_) = _
 dsimp only
 rw [g1]
 dsimp only
 show (⟨(sc (H0 ++ [scX tx b sd]) [] (⟨[],7,bd,[]⟩ : Sg) ++ ([⟨1,ty_plenumref32_World,0,[V (.slice none 0 0),nA 7,SL (b.map nA),V (.slice none 0 0)]⟩] : List AObj)).set (H0.length + 7) _ ++ _,_⟩ : ASt) = _
 rw [g2,List.length_append,hsl2,List.append_assoc,hS_sc]
 unfold sc scM
 rw [hl]
 simp only [List.append_assoc,List.cons_append,List.nil_append]
 rfl
theorem set_s (m : Nat) (H0 : List AObj) (tx : List (List UInt8)) (bad : List Int) (sd : List Sd) (hm : 1000001 < m) (hA : GA H0) (hbl : bad.length ≤ 9223372036854775807) (htl : tx.length ≤ 9223372036854775807) (hsl : sd.length ≤ 9223372036854775807) (ht : ∀ x ∈ tx,x.length ≤ 9223372036854775807) (hs : ∀ x ∈ sd,SmI (sdS x)) (hb : ∀ p ∈ bad.take 10,inN 7 p = true) :
  plenumlaw32_set m (.agg (scC tx bad sd)) H0 = some (TU [OP (H0.length + 2) 0,OP (H0.length + 5) 0,OP (H0.length + 7) 0,bA true],hS (H0 ++ [scX tx (bad.take 10) sd]) (scn (bad.take 10) tx sd).1 (scn (bad.take 10) tx sd).2) := by
 rw [set_pre m H0 tx bad sd hbl]
 have hbl2 : (bad.take 10).length ≤ 10 := by simp;omega
 generalize bad.take 10 = b at *
 have hl : (H0 ++ [scX tx b sd]).length = H0.length + 1 := by simp
 have hA1 : GA (H0 ++ [scX tx b sd]) := fun n hn=>by
  rw [hl] at hn
  rw [List.all_append,hA n (by omega)]
  rfl
 have h1 := tnew_s m (H0 ++ [scX tx b sd]) (fun n hn=>hA1 n hn)
 have h2 := gnew_ok m (H0 ++ [scX tx b sd]) [] 7 b (by omega) (by omega) (by omega) (by omega) (fun n hn=>hA1 n hn) hb
 have h3 := loopT_s m H0 tx b sd hm hA1 htl hsl ht hs b hb (by omega)
 rw [show (scn0 b).1 = (⟨[],7,bdL b,[]⟩ : Sg) from rfl] at h3
 rw [plenumlaw32_set_r1_eq,h1,u_keep,hl]
 have hH : H0 ++ [scX tx b sd] ++ [tmO [],ttO (H0.length + 1) [],trO []] = H0 ++ [scX tx b sd,tmO [],ttO (H0.length + 1) [],trO []] := by
  rw [List.append_assoc];rfl
 have n0 : ∀ {K : AObj → RO},nthOE (H0 ++ [scX tx b sd,tmO [],ttO (H0.length + 1) [],trO []]) H0.length K = K (scX tx b sd) := fun {K}=>(nthOA H0 (k := 0))
 have n1 : ∀ {K : AObj → RO},nthOE (sc (H0 ++ [scX tx b sd]) [] (⟨[],7,bdL b,[]⟩ : Sg)) H0.length K = K (scX tx b sd) := fun {K}=>by
  unfold sc scM
  rw [List.append_assoc];exact (nthOA H0 (k := 0))
 have hro : ro (H0 ++ [scX tx b sd,tmO [],ttO (H0.length + 1) [],trO []]) (SL (b.map nA)) = SL (b.map nA) := rfl
 have hsl2 : (sc (H0 ++ [scX tx b sd]) [] (⟨[],7,bdL b,[]⟩ : Sg)).length = H0.length + 7 := by rw [sc_len];unfold nAB;rw [hl];rfl
 simp only [List.length_append,List.length_cons,List.length_nil] at h2
 rw [hH] at h2
 have b1 : ∀ {K : AV → RO},buildE (some pl_plenumref04_Ring) (some zc_plenumref04_Ring) [(0,nA 7),(1,SL (b.map nA))] K = K (.agg [nA 7,SL (b.map nA),V (.slice none 0 0)]) := fun {K}=>rfl
 have b2 : ∀ {K : AV → RO},buildE (some pl_plenumref32_World) (some zc_plenumref32_World) [(1, .agg [nA 7,SL (b.map nA),V (.slice none 0 0)])] K = K (.agg [V (.slice none 0 0),nA 7,SL (b.map nA),V (.slice none 0 0)]) := fun {K}=>rfl
 have b3 : ∀ {K : AV → List AObj → RO} {H : List AObj},boxE ty_plenumref32_World H (.agg [V (.slice none 0 0),nA 7,SL (b.map nA),V (.slice none 0 0)]) K = K (OP H.length 0) (H ++ [⟨1,ty_plenumref32_World,0,[V (.slice none 0 0),nA 7,SL (b.map nA),V (.slice none 0 0)]⟩]) := fun {K H}=>rfl
 simp (config := {maxSteps := 4000000,implicitDefEqProofs := false}) (disch := omega) only [go_sem,n0,n1,sc_cells,sc_f1,hro,h2,b1,b2,b3,hsl2]
 rw [show H0.length + 1 + 1 = H0.length + 2 from rfl,show H0.length + 1 + 4 = H0.length + 5 from rfl,gh_set]
 simp (config := {maxSteps := 4000000,implicitDefEqProofs := false}) (disch := omega) only [go_sem,plenumlaw32_set_r2_eq,plenumlaw32_set_r3_eq,u_pe0,h3]
theorem set_no (m : Nat) (H0 : List AObj) (tx : List (List UInt8)) (bad : List Int) (sd : List Sd) (hm : 1000001 < m) (hA : GA H0) (hbl : bad.length ≤ 9223372036854775807) (htl : tx.length ≤ 9223372036854775807) (hsl : sd.length ≤ 9223372036854775807) (ht : ∀ x ∈ tx,x.length ≤ 9223372036854775807) (hs : ∀ x ∈ sd,SmI (sdS x)) (hb : ¬ ∀ p ∈ bad.take 10,inN 7 p = true) :
  ∃ bd,plenumlaw32_set m (.agg (scC tx bad sd)) H0 = some (TU [V (.pointer none),V (.pointer none),V (.pointer none),bA false],hS (H0 ++ [scX tx (bad.take 10) sd]) (⟨[],7,bd,[]⟩ : Sg) (scn0 (bad.take 10)).2) := by
 rw [set_pre m H0 tx bad sd hbl]
 have hbl2 : (bad.take 10).length ≤ 10 := by simp;omega
 generalize bad.take 10 = b at *
 have hl : (H0 ++ [scX tx b sd]).length = H0.length + 1 := by simp
 have hA1 : GA (H0 ++ [scX tx b sd]) := fun n hn=>by
  rw [hl] at hn
  rw [List.all_append,hA n (by omega)]
  rfl
 have h1 := tnew_s m (H0 ++ [scX tx b sd]) (fun n hn=>hA1 n hn)
 obtain ⟨bd,h2⟩ := gnew_no m (H0 ++ [scX tx b sd]) [] 7 b (by omega) (by omega) (by omega) (by omega) (fun n hn=>hA1 n hn) hb
 have hW : WgOk (scn0 b).2 := ⟨by show ([] : List (List UInt8)).length ≤ _;simp,by show ([] : List Sm).length ≤ _;simp,by show b.length ≤ _;omega, .inr ⟨rfl,rfl⟩⟩
 have hall := hS_lt (σ := (⟨[],7,bd,[]⟩ : Sg)) hA1 hW (n := H0.length + 9) (by rw [hl];omega)
 have hl8 : (hS (H0 ++ [scX tx b sd]) (⟨[],7,bd,[]⟩ : Sg) (scn0 b).2).length = H0.length + 9 := by rw [hS_len,hl]
 refine ⟨bd,?_⟩
 have hrp : ∀ H,ro1 H (V (.pointer none)) = V (.pointer none) := fun _=>rfl
 have hlp : ∀ n,ltA n (V (.pointer none)) = true := fun _=>rfl
 rw [plenumlaw32_set_r1_eq,h1,u_keep,hl]
 have hH : H0 ++ [scX tx b sd] ++ [tmO [],ttO (H0.length + 1) [],trO []] = H0 ++ [scX tx b sd,tmO [],ttO (H0.length + 1) [],trO []] := by
  rw [List.append_assoc];rfl
 have n0 : ∀ {K : AObj → RO},nthOE (H0 ++ [scX tx b sd,tmO [],ttO (H0.length + 1) [],trO []]) H0.length K = K (scX tx b sd) := fun {K}=>(nthOA H0 (k := 0))
 have n1 : ∀ {K : AObj → RO},nthOE (sc (H0 ++ [scX tx b sd]) [] (⟨[],7,bd,[]⟩ : Sg)) H0.length K = K (scX tx b sd) := fun {K}=>by
  unfold sc scM
  rw [List.append_assoc];exact (nthOA H0 (k := 0))
 have hro : ro (H0 ++ [scX tx b sd,tmO [],ttO (H0.length + 1) [],trO []]) (SL (b.map nA)) = SL (b.map nA) := rfl
 have hsl2 : (sc (H0 ++ [scX tx b sd]) [] (⟨[],7,bd,[]⟩ : Sg)).length = H0.length + 7 := by rw [sc_len];unfold nAB;rw [hl];rfl
 simp only [List.length_append,List.length_cons,List.length_nil] at h2
 rw [hH] at h2
 have b1 : ∀ {K : AV → RO},buildE (some pl_plenumref04_Ring) (some zc_plenumref04_Ring) [(0,nA 7),(1,SL (b.map nA))] K = K (.agg [nA 7,SL (b.map nA),V (.slice none 0 0)]) := fun {K}=>rfl
 have b2 : ∀ {K : AV → RO},buildE (some pl_plenumref32_World) (some zc_plenumref32_World) [(1, .agg [nA 7,SL (b.map nA),V (.slice none 0 0)])] K = K (.agg [V (.slice none 0 0),nA 7,SL (b.map nA),V (.slice none 0 0)]) := fun {K}=>rfl
 have b3 : ∀ {K : AV → List AObj → RO} {H : List AObj},boxE ty_plenumref32_World H (.agg [V (.slice none 0 0),nA 7,SL (b.map nA),V (.slice none 0 0)]) K = K (OP H.length 0) (H ++ [⟨1,ty_plenumref32_World,0,[V (.slice none 0 0),nA 7,SL (b.map nA),V (.slice none 0 0)]⟩]) := fun {K H}=>rfl
 simp (config := {maxSteps := 4000000,implicitDefEqProofs := false}) (disch := omega) only [go_sem,n0,n1,sc_cells,sc_f1,hro,h2,b1,b2,b3,hsl2]
 rw [show H0.length + 1 + 1 = H0.length + 2 from rfl,gh_set]
 simp (config := {maxSteps := 4000000,implicitDefEqProofs := false}) (disch := omega) only [go_sem,plenumlaw32_set_r2_eq,plenumlaw32_set_r3_eq,u_pe0,u_openK,hl8,hall,hrp,hlp]
end Go.Proofs.Ytaaogcnjfkgnoaa

namespace Go.Proofs.Ytaaogcnjfkgnoaa
open Go.RowKit
set_option maxHeartbeats 4000000
attribute [local go_sem] Nat.zero_add Nat.add_zero Nat.mul_one Int.toNat_natCast Int.natCast_zero Int.cast_ofNat_Int or_false false_or or_true true_or Nat.sub_zero Int.natCast_nonneg Int.toNat_zero Bool.true_and Bool.and_true Bool.false_and Bool.and_false Bool.true_or Bool.or_true Bool.false_or Bool.or_false Bool.not_true Bool.not_false Bool.not_not true_and and_true false_and and_false not_true_eq_false not_false_eq_true eq_self decide_true decide_false ne_eq implies_true forall_const true_implies false_implies Bool.true_eq_false Bool.false_eq_true List.map_cons List.map_nil List.all_cons List.all_nil List.length_cons List.length_nil List.length_map List.length_append List.nil_append List.cons_append List.set_cons_zero List.set_cons_succ List.set_nil List.drop_zero List.drop_succ_cons List.drop_nil List.take_zero List.take_succ_cons List.take_nil Option.map_some Option.map_none Option.isSome_some List.all_append List.all_map Function.comp_def decide_eq_true_eq Bool.and_eq_true beq_self_eq_true or_self and_self ite_true ite_false Nat.le_refl Bool.not_eq_true decide_not Bool.not_eq_true' decide_eq_false_iff_not Bool.not_eq_false Bool.or_eq_true if_true if_false ite_self u_roF u_cvF u_cvC u_ceT u_ceK u_appS sm_it sm_len sm_sure sm_ltA sm_lt1 sm_all1 sm_ro sm_take sm_sl sm_set sm_noT sm_fr sm_st_fr sm_set_fr sm_kd sm_st_kd sm_set_kd sm_vw sm_st_vw sm_set_vw sm_sq sm_st_sq sm_set_sq sm_tm sm_st_tm sm_set_tm zsm_len zsm_sure zsm_lt1 zsm_sl zsm_ro zsm_setz zsm_set zsm_setr zsm_take sms_ltA sms_len ce_it ce_len ce_sure ce_ltA ce_lt1 ce_all1 ce_ro ce_take ce_sl ce_set ce_noT ce_sq ce_st_sq ce_set_sq ce_vw ce_st_vw ce_set_vw ce_tm ce_st_tm ce_set_tm ce_body ce_st_body ce_set_body ce_vs ce_st_vs ce_set_vs zce_len zce_sure zce_lt1 zce_sl zce_ro zce_setz zce_set zce_setr zce_take ces_ltA ces_len cg_it cg_len cg_sure cg_ltA cg_lt1 cg_all1 cg_ro cg_take cg_sl cg_set cg_noT cg_fr cg_st_fr cg_set_fr cg_vw cg_st_vw cg_set_vw cg_st cg_st_st cg_set_st cg_rt cg_st_rt cg_set_rt cg_pf cg_st_pf cg_set_pf cg_cs cg_st_cs cg_set_cs zcg_len zcg_sure zcg_lt1 zcg_sl zcg_ro zcg_setz zcg_set zcg_setr zcg_take cgs_ltA cgs_len ms_it ms_len ms_sure ms_ltA ms_lt1 ms_all1 ms_ro ms_take ms_sl ms_set ms_noT ms_kd ms_st_kd ms_set_kd ms_fr ms_st_fr ms_set_fr ms_vw ms_st_vw ms_set_vw ms_sq ms_st_sq ms_set_sq ms_tm ms_st_tm ms_set_tm ms_body ms_st_body ms_set_body ms_vs ms_st_vs ms_set_vs ms_chs ms_st_chs ms_set_chs zms_len zms_sure zms_lt1 zms_sl zms_ro zms_setz zms_set zms_setr zms_take mss_ltA mss_len co_it co_len co_sure co_ltA co_lt1 co_all1 co_ro co_take co_sl co_set co_noT co_sq co_st_sq co_set_sq co_tm co_st_tm co_set_tm co_body co_st_body co_set_body co_nl co_st_nl co_set_nl zco_len zco_sure zco_lt1 zco_sl zco_ro zco_setz zco_set zco_setr zco_take cos_ltA cos_len sd_it sd_len sd_sure sd_ltA sd_lt1 sd_all1 sd_ro sd_take sd_sl sd_set sd_noT sd_wh sd_st_wh sd_set_wh sd_fr sd_st_fr sd_set_fr sd_kd sd_st_kd sd_set_kd sd_vw sd_st_vw sd_set_vw sd_sq sd_st_sq sd_set_sq sd_tm sd_st_tm sd_set_tm sds_ltA sds_len natInt u_nthM u_bz u_bi1 u_bi2 u_bi3 u_bi4 u_bi5 u_bi6 u_bi7 s_B0 s_Bk s_Bs0 s_Bsk s_takeY s_take s_takeK sc_len smO_lt w_0 w_Y0 w_B0 w_Bk w_Bs0 w_Bsk w_take w_takeY w_takeK sw_len wo_cells ltO_o ltO_r u_eqE u_eqSm Nat.le_add_right List.append_assoc
attribute [local go_sem_proc] Nat.reduceAdd Nat.reduceSub Nat.reduceMul Nat.reduceLeDiff Nat.reduceLT Int.reduceEq Int.reduceNe Int.reduceLT Int.reduceLE Int.reduceAdd Int.reduceSub Int.reduceMul Int.reduceNeg Int.reduceToNat reduceCtorEq Nat.reduceEqDiff Nat.reduceBEq Nat.reduceGT
attribute [local go_sem_proc ↓] reduceIte
def badL (l : List Int) : Bool := !l.all (inN 7)
theorem badL_iff {l : List Int} : badL l = true ↔ ¬ ∀ p ∈ l,inN 7 p = true := by
 unfold badL
 rw [← List.all_eq_true]
 cases l.all (inN 7) <;> simp
theorem badL_take {l : List Int} {k : Nat} (hk : k < l.length) : badL (l.take (k + 1)) = (badL (l.take k) || !inN 7 l[k]) := by
 unfold badL
 rw [List.take_succ_eq_append_getElem hk,List.all_append]
 simp
theorem bad_s (m : Nat) (tx : List (List UInt8)) (bad : List Int) (sd : List Sd) (hm : 1000001 < m) (hbl : bad.length ≤ 9223372036854775807) :
  plenumlaw32_bad m (.agg (scC tx bad sd)) = some (bA (badL (bad.take 10)),[]) := by
 rw [plenumlaw32_bad_eq]
 have hb : ∀ {K : AV → List AObj → RO},boxE ty_plenumlaw32_Scene [] (.agg (scC tx bad sd)) K = K (OP 0 0) [scX tx bad sd] := fun {K}=>by
  rfl
 have n0 : ∀ {K : AObj → RO},nthOE [scX tx bad sd] 0 K = K (scX tx bad sd) := fun {K}=>rfl
 rw [hb]
 refine iter_go (m := m) (ι := {k : Nat // k ≤ (bad.take 10).length ∧ badL ((bad.take 10).take k) = false}) (fun k=>⟨[scX tx bad sd],[(1,OP 0 0),(3,nA k.1)]⟩) (fun k=>(bad.take 10).length - k.1) (fun _=>some (bA (badL (bad.take 10)),[])) ?_ ⟨0,Nat.zero_le _,rfl⟩ (by dsimp only;simp;omega)
 rintro kx hkx ⟨k,hk,hq⟩ kc hkc
 dsimp only at hkc ⊢
 rw [plenumlaw32_bad_b1_eq]
 rw [List.length_take] at hk
 by_cases hc : k < (bad.take 10).length
 ·have hc' := hc
  rw [List.length_take] at hc'
  have h1 : k < bad.length := by omega
  have h1' : (k : Int) < (bad.length : Int) := by omega
  have h2 : (k : Int) < 10 := by omega
  have hw1 : IntKind.i64.wrap ((k : Int) + 1) = (k : Int) + 1 := w_i64 (by omega) (by omega)
  have he := badL_take hc
  rw [hq,Bool.false_or,List.getElem_take] at he
  have hfull : inN 7 bad[k] = false → badL (bad.take 10) = true := fun h=>by
   rw [badL_iff]
   intro hall
   have := hall _ (List.getElem_mem hc)
   rw [List.getElem_take,h] at this
   cases this
  by_cases h3 : bad[k] < 0
  ·have hin : inN 7 bad[k] = false := by unfold inN;simp;omega
   rw [hfull hin]
   simp (config := {maxSteps := 4000000,implicitDefEqProofs := false}) (disch := omega) only [go_sem,n0,sc_cells,sc_f1,h1,h1',h2,h3,hkx,plenumlaw32_bad_r2_eq,plenumlaw32_bad_r3_eq,plenumlaw32_bad_r4_eq,plenumlaw32_bad_r1_eq]
  ·have h3' : ¬ bad[k] < 0 := h3
   by_cases h4 : 6 < bad[k]
   ·have hin : inN 7 bad[k] = false := by unfold inN;simp;omega
    rw [hfull hin]
    simp (config := {maxSteps := 4000000,implicitDefEqProofs := false}) (disch := omega) only [go_sem,n0,sc_cells,sc_f1,h1,h1',h2,h3,h4,hkx,plenumlaw32_bad_r2_eq,plenumlaw32_bad_r3_eq,plenumlaw32_bad_r4_eq,plenumlaw32_bad_r1_eq]
   ·have hin : inN 7 bad[k] = true := by unfold inN;simp;omega
    have step := hkc ⟨k + 1,by rw [List.length_take];omega,by rw [he,hin];rfl⟩ (by dsimp only;omega)
    dsimp only at step
    simp (config := {maxSteps := 4000000,implicitDefEqProofs := false}) (disch := omega) only [go_sem,n0,sc_cells,sc_f1,h1,h1',h2,h3,h4,hkx,hw1,plenumlaw32_bad_r2_eq,plenumlaw32_bad_r3_eq,plenumlaw32_bad_r4_eq,plenumlaw32_bad_r5_eq,plenumlaw32_bad_r1_eq]
    exact step
 ·have hk2 : k = (bad.take 10).length := by rw [List.length_take] at hc ⊢;omega
  rw [hk2,List.take_length] at hq
  rw [hq]
  by_cases h1 : k < bad.length
  ·have h1' : (k : Int) < (bad.length : Int) := by omega
   have h2 : ¬ (k : Int) < 10 := by rw [List.length_take] at hk2;omega
   simp (config := {maxSteps := 4000000,implicitDefEqProofs := false}) (disch := omega) only [go_sem,n0,sc_cells,sc_f1,h1',h2,hkx,plenumlaw32_bad_r2_eq,plenumlaw32_bad_r1_eq]
  ·have h1' : ¬ (k : Int) < (bad.length : Int) := by omega
   simp (config := {maxSteps := 4000000,implicitDefEqProofs := false}) (disch := omega) only [go_sem,n0,sc_cells,sc_f1,h1',hkx,plenumlaw32_bad_r2_eq,plenumlaw32_bad_r1_eq]
end Go.Proofs.Ytaaogcnjfkgnoaa

namespace Go.Proofs.Ytaaogcnjfkgnoaa
open Go.RowKit
set_option maxHeartbeats 4000000
attribute [local go_sem] Nat.zero_add Nat.add_zero Nat.mul_one Int.toNat_natCast Int.natCast_zero Int.cast_ofNat_Int or_false false_or or_true true_or Nat.sub_zero Int.natCast_nonneg Int.toNat_zero Bool.true_and Bool.and_true Bool.false_and Bool.and_false Bool.true_or Bool.or_true Bool.false_or Bool.or_false Bool.not_true Bool.not_false Bool.not_not true_and and_true false_and and_false not_true_eq_false not_false_eq_true eq_self decide_true decide_false ne_eq implies_true forall_const true_implies false_implies Bool.true_eq_false Bool.false_eq_true List.map_cons List.map_nil List.all_cons List.all_nil List.length_cons List.length_nil List.length_map List.length_append List.nil_append List.cons_append List.set_cons_zero List.set_cons_succ List.set_nil List.drop_zero List.drop_succ_cons List.drop_nil List.take_zero List.take_succ_cons List.take_nil Option.map_some Option.map_none Option.isSome_some List.all_append List.all_map Function.comp_def decide_eq_true_eq Bool.and_eq_true beq_self_eq_true or_self and_self ite_true ite_false Nat.le_refl Bool.not_eq_true decide_not Bool.not_eq_true' decide_eq_false_iff_not Bool.not_eq_false Bool.or_eq_true if_true if_false ite_self u_roF u_cvF u_cvC u_ceT u_ceK u_appS sm_it sm_len sm_sure sm_ltA sm_lt1 sm_all1 sm_ro sm_take sm_sl sm_set sm_noT sm_fr sm_st_fr sm_set_fr sm_kd sm_st_kd sm_set_kd sm_vw sm_st_vw sm_set_vw sm_sq sm_st_sq sm_set_sq sm_tm sm_st_tm sm_set_tm zsm_len zsm_sure zsm_lt1 zsm_sl zsm_ro zsm_setz zsm_set zsm_setr zsm_take sms_ltA sms_len ce_it ce_len ce_sure ce_ltA ce_lt1 ce_all1 ce_ro ce_take ce_sl ce_set ce_noT ce_sq ce_st_sq ce_set_sq ce_vw ce_st_vw ce_set_vw ce_tm ce_st_tm ce_set_tm ce_body ce_st_body ce_set_body ce_vs ce_st_vs ce_set_vs zce_len zce_sure zce_lt1 zce_sl zce_ro zce_setz zce_set zce_setr zce_take ces_ltA ces_len cg_it cg_len cg_sure cg_ltA cg_lt1 cg_all1 cg_ro cg_take cg_sl cg_set cg_noT cg_fr cg_st_fr cg_set_fr cg_vw cg_st_vw cg_set_vw cg_st cg_st_st cg_set_st cg_rt cg_st_rt cg_set_rt cg_pf cg_st_pf cg_set_pf cg_cs cg_st_cs cg_set_cs zcg_len zcg_sure zcg_lt1 zcg_sl zcg_ro zcg_setz zcg_set zcg_setr zcg_take cgs_ltA cgs_len ms_it ms_len ms_sure ms_ltA ms_lt1 ms_all1 ms_ro ms_take ms_sl ms_set ms_noT ms_kd ms_st_kd ms_set_kd ms_fr ms_st_fr ms_set_fr ms_vw ms_st_vw ms_set_vw ms_sq ms_st_sq ms_set_sq ms_tm ms_st_tm ms_set_tm ms_body ms_st_body ms_set_body ms_vs ms_st_vs ms_set_vs ms_chs ms_st_chs ms_set_chs zms_len zms_sure zms_lt1 zms_sl zms_ro zms_setz zms_set zms_setr zms_take mss_ltA mss_len co_it co_len co_sure co_ltA co_lt1 co_all1 co_ro co_take co_sl co_set co_noT co_sq co_st_sq co_set_sq co_tm co_st_tm co_set_tm co_body co_st_body co_set_body co_nl co_st_nl co_set_nl zco_len zco_sure zco_lt1 zco_sl zco_ro zco_setz zco_set zco_setr zco_take cos_ltA cos_len sd_it sd_len sd_sure sd_ltA sd_lt1 sd_all1 sd_ro sd_take sd_sl sd_set sd_noT sd_wh sd_st_wh sd_set_wh sd_fr sd_st_fr sd_set_fr sd_kd sd_st_kd sd_set_kd sd_vw sd_st_vw sd_set_vw sd_sq sd_st_sq sd_set_sq sd_tm sd_st_tm sd_set_tm sds_ltA sds_len natInt u_nthM u_bz u_bi1 u_bi2 u_bi3 u_bi4 u_bi5 u_bi6 u_bi7 s_B0 s_Bk s_Bs0 s_Bsk s_takeY s_take s_takeK sc_len smO_lt w_0 w_Y0 w_B0 w_Bk w_Bs0 w_Bsk w_take w_takeY w_takeK sw_len wo_cells ltO_o ltO_r u_eqE u_eqSm Nat.le_add_right List.append_assoc
attribute [local go_sem_proc] Nat.reduceAdd Nat.reduceSub Nat.reduceMul Nat.reduceLeDiff Nat.reduceLT Int.reduceEq Int.reduceNe Int.reduceLT Int.reduceLE Int.reduceAdd Int.reduceSub Int.reduceMul Int.reduceNeg Int.reduceToNat reduceCtorEq Nat.reduceEqDiff Nat.reduceBEq Nat.reduceGT
attribute [local go_sem_proc ↓] reduceIte
def cA : Ch := ⟨0,1,0,0,[],[]⟩
def sA1 : Sm := ⟨0,6,1,0,1⟩
def σA (T : List (List UInt8)) (R : List Sm) : Sg := ⟨T,4,bdL [],R⟩
theorem aw_lt {n : Nat} : ltO n ⟨1,ty_api_Change,0,[nA 0,nA 1,nA 0,nA 0,V (.slice none 0 0),V (.slice none 0 0)]⟩ = true := _root_.id rfl
theorem cA_ok : cgB cA = true := by decide
theorem awe1 : chF [] [] cA 4 = (false,[encCg cA]) := by
 unfold chF
 have e : csF [] 4 cA.st cA.vw [] cA.st cA.cs = (true,[]) := rfl
 rw [if_pos (by decide),e,if_pos rfl]
 rfl
theorem awe_of : oqT [encCg cA] (encCg cA) = [encCg cA] := by unfold oqT;rw [if_pos (List.mem_singleton.2 rfl)]
theorem awe_oe : ofE [encCg cA] (encCg cA) = 0 := by unfold ofE;rw [if_pos (List.mem_singleton.2 rfl)]
theorem awe_on : ofN [encCg cA] (encCg cA) = 1 := by
 unfold ofN posL
 rw [if_pos (List.mem_singleton.2 rfl),if_pos (List.mem_singleton.2 rfl)]
 simp
theorem awe_cs : csSm [encCg cA] cA = sA1 := by
 unfold csSm
 rw [awe_on]
 rfl
theorem awe2 : csS [encCg cA] cA = (sA1,0,[encCg cA]) := by
 unfold csS
 rw [if_pos cA_ok,awe_oe,if_pos rfl,awe_of,awe_cs]
theorem awe3 {T : List (List UInt8)} : sayR (σA T []) 0 sA1 = [sA1] := by
 unfold sayR
 rw [if_pos ⟨rfl,by simp [σA],by simp [σA]⟩]
 rfl
theorem awe4 : chF [encCg cA] [sA1] cA 4 = (true,[encCg cA]) := by
 unfold chF
 have e : csF [sA1] 4 cA.st cA.vw [encCg cA] cA.st cA.cs = (true,[encCg cA]) := rfl
 rw [if_pos (by decide),e,if_pos rfl]
 show (decide (ofE [encCg cA] (encCg cA) = 0) && decide (csSm [encCg cA] cA ∈ [sA1]),oqT [encCg cA] (encCg cA)) = _
 rw [awe_oe,awe_cs,awe_of]
 simp
theorem σA_ok {T : List (List UInt8)} {R : List Sm} (hT : T = [] ∨ T = [encCg cA]) (hR : R = [] ∨ R = [sA1]) : SgOk (σA T R) := by
 have he : (encCg cA).length ≤ 9223372036854775807 := Nat.le_trans (encCg_len cA_ok) (by decide)
 refine ⟨?_,?_,?_,by show (1 : Int) ≤ 4;omega,by show (4 : Int) ≤ 64;omega,bdL_64,?_,?_,?_,?_⟩
 ·rcases hT with rfl|rfl <;> simp [σA]
 ·rcases hT with rfl|rfl <;> simp [σA]
 ·intro s hs;rcases hT with rfl|rfl <;> simp [σA] at hs;subst hs;exact he
 ·rcases hR with rfl|rfl <;> simp [σA]
 ·rcases hR with rfl|rfl <;> simp [σA]
 ·intro s hs;rcases hR with rfl|rfl <;> simp [σA] at hs;subst hs;exact SmI_of (by decide)
 ·intro s hs;rcases hR with rfl|rfl <;> simp [σA] at hs;subst hs;exact ⟨by decide,by show (0 : Int) < 4;omega⟩
theorem awake_s (m : Nat) (hm : 1000001 < m) : plenumlaw32_awake m = some (bA true,[]) := by
 have ht : term_New m [] = some (OP 1 0,[tmO [],ttO 0 [],trO []]) := tnew_s m [] fun n _=>rfl
 have hr : ring_New m (nA 4) (SL []) [tmO [],ttO 0 [],trO []] = some (TU [OP 4 0,nA 0],sc [] [] (σA [] [])) := gnew_ok m [] [] 4 [] (by omega) (by omega) (by simp;omega) (by simp) (fun n _=>rfl) (fun p hp=>by simp at hp)
 have hG1 : GB [] [⟨1,ty_api_Change,0,[nA 0,nA 1,nA 0,nA 0,V (.slice none 0 0),V (.slice none 0 0)]⟩] := fun n hn=>⟨rfl,by simp [aw_lt]⟩
 have hG2 : GB [] [⟨1,ty_api_Change,0,[nA 0,nA 1,nA 0,nA 0,V (.slice none 0 0),V (.slice none 0 0)]⟩,⟨1,ty_api_Stmt,0,smC sA1⟩] := fun n hn=>⟨rfl,by simp [aw_lt,smO_lt]⟩
 have h1 : view_Change m (OP 4 0) (OP 1 0) (.agg [nA 0,nA 1,nA 0,nA 0,SL [],SL []]) (nA 4) (sc [] [] (σA [] []) ++ [⟨1,ty_api_Change,0,[nA 0,nA 1,nA 0,nA 0,V (.slice none 0 0),V (.slice none 0 0)]⟩]) = some (bA false,sc [] [] (σA [encCg cA] []) ++ [⟨1,ty_api_Change,0,[nA 0,nA 1,nA 0,nA 0,V (.slice none 0 0),V (.slice none 0 0)]⟩]) := by
  have := vchange_s m [] [⟨1,ty_api_Change,0,[nA 0,nA 1,nA 0,nA 0,V (.slice none 0 0),V (.slice none 0 0)]⟩] (σA [] []) cA 4 hG1 (σA_ok (.inl rfl) (.inl rfl)) hm
  rw [show (σA [] []).T = [] from rfl,show (σA [] []).R = [] from rfl,awe1] at this
  exact this
 have h2 : view_ChangeStmt m (OP 1 0) (.agg [nA 0,nA 1,nA 0,nA 0,SL [],SL []]) (sc [] [] (σA [encCg cA] []) ++ [⟨1,ty_api_Change,0,[nA 0,nA 1,nA 0,nA 0,V (.slice none 0 0),V (.slice none 0 0)]⟩]) = some (TU [.agg (smC sA1),nA 0],sc [] [] (σA [encCg cA] []) ++ [⟨1,ty_api_Change,0,[nA 0,nA 1,nA 0,nA 0,V (.slice none 0 0),V (.slice none 0 0)]⟩]) := by
  have := changeStmt_s m [] [⟨1,ty_api_Change,0,[nA 0,nA 1,nA 0,nA 0,V (.slice none 0 0),V (.slice none 0 0)]⟩] (σA [encCg cA] []) cA hG1 (σA_ok (.inr rfl) (.inl rfl)) hm
  rw [show (σA [encCg cA] []).T = [encCg cA] from rfl,awe2] at this
  exact this
 have h3 : ∃ x,ring_Ring_Say m (OP 4 0) (nA 0) (.agg (smC sA1)) (sc [] [] (σA [encCg cA] []) ++ [⟨1,ty_api_Change,0,[nA 0,nA 1,nA 0,nA 0,V (.slice none 0 0),V (.slice none 0 0)]⟩,⟨1,ty_api_Stmt,0,smC sA1⟩]) = some (nA x,sc [] [] (σA [encCg cA] [sA1]) ++ [⟨1,ty_api_Change,0,[nA 0,nA 1,nA 0,nA 0,V (.slice none 0 0),V (.slice none 0 0)]⟩,⟨1,ty_api_Stmt,0,smC sA1⟩]) := by
  have := gsay_s m [] [⟨1,ty_api_Change,0,[nA 0,nA 1,nA 0,nA 0,V (.slice none 0 0),V (.slice none 0 0)]⟩,⟨1,ty_api_Stmt,0,smC sA1⟩] (σA [encCg cA] []) 0 sA1 hG2 (σA_ok (.inr rfl) (.inl rfl)) (SmI_of (by decide))
  rw [awe3] at this
  exact ⟨_,this⟩
 obtain ⟨x3,h3⟩ := h3
 have h4 : view_Change m (OP 4 0) (OP 1 0) (.agg [nA 0,nA 1,nA 0,nA 0,SL [],SL []]) (nA 4) (sc [] [] (σA [encCg cA] [sA1]) ++ [⟨1,ty_api_Change,0,[nA 0,nA 1,nA 0,nA 0,V (.slice none 0 0),V (.slice none 0 0)]⟩,⟨1,ty_api_Stmt,0,smC sA1⟩]) = some (bA true,sc [] [] (σA [encCg cA] [sA1]) ++ [⟨1,ty_api_Change,0,[nA 0,nA 1,nA 0,nA 0,V (.slice none 0 0),V (.slice none 0 0)]⟩,⟨1,ty_api_Stmt,0,smC sA1⟩]) := by
  have := vchange_s m [] [⟨1,ty_api_Change,0,[nA 0,nA 1,nA 0,nA 0,V (.slice none 0 0),V (.slice none 0 0)]⟩,⟨1,ty_api_Stmt,0,smC sA1⟩] (σA [encCg cA] [sA1]) cA 4 hG2 (σA_ok (.inr rfl) (.inr rfl)) hm
  rw [show (σA [encCg cA] [sA1]).T = [encCg cA] from rfl,show (σA [encCg cA] [sA1]).R = [sA1] from rfl,awe4] at this
  exact this
 have hsc : setCells zc_api_Change 0 [nA 0,nA 1,nA 0,nA 0,V (.slice none 0 0),V (.slice none 0 0)] = [nA 0,nA 1,nA 0,nA 0,V (.slice none 0 0),V (.slice none 0 0)] := rfl
 have hss : setCells zc_api_Stmt 0 (smC sA1) = smC sA1 := rfl
 have hlt := fun {T R}=>sc_lt (A := []) (B := []) (fun n hn=>⟨rfl,rfl⟩) (σ := σA T R) (n := nAB [] [] + 2) (by omega)
 have hk : sA1.kd = 6 := rfl
 have h5 : view_NewView m (OP 4 0) (OP 1 0) (.agg [nA 7,nA 0,nA 1,nA 0,nA 0,V (.string ⟨#[]⟩),SL [],SL []]) (nA 4) (sc [] [] (σA [encCg cA] [sA1]) ++ [⟨1,ty_api_Change,0,[nA 0,nA 1,nA 0,nA 0,V (.slice none 0 0),V (.slice none 0 0)]⟩,⟨1,ty_api_Stmt,0,smC sA1⟩]) = some (TU [SL [],nA 21],sc [] [] (σA [encCg cA] [sA1]) ++ [⟨1,ty_api_Change,0,[nA 0,nA 1,nA 0,nA 0,V (.slice none 0 0),V (.slice none 0 0)]⟩,⟨1,ty_api_Stmt,0,smC sA1⟩]) := by
  have hf := faults_s m 4
  have hp := primary_s m 1 4 (by omega) (by omega)
  rw [show okN 4 = true from rfl,if_pos rfl] at hf
  rw [show (if (4 : Int) < 1 then 0 else 1 % 4) = (1 : Int) from rfl] at hp
  rw [view_NewView_eq]
  simp (config := {maxSteps := 4000000,implicitDefEqProofs := false}) (disch := omega) only [go_sem,hf,hp,hlt,aw_lt,view_NewView_r1_eq]
 have bC : ∀ {K : AV → RO},buildE (some pl_api_Change) (some zc_api_Change) [(1,nA 1)] K = K (.agg [nA 0,nA 1,nA 0,nA 0,V (.slice none 0 0),V (.slice none 0 0)]) := fun {K}=>rfl
 have bM : ∀ {K : AV → RO},buildE (some pl_api_Msg) (some zc_api_Msg) [(0,nA 7),(2,nA 1)] K = K (.agg [nA 7,nA 0,nA 1,nA 0,nA 0,V (.string ⟨#[]⟩),V (.slice none 0 0),V (.slice none 0 0)]) := fun {K}=>rfl
 rw [plenumlaw32_awake_eq,ht,u_keep]
 simp (config := {maxSteps := 4000000,implicitDefEqProofs := false}) (disch := omega) only [go_sem,hsc,hss,zsmO,hr,h1,h2,h3,h4,h5,bC,bM,hk,u_pe0,hlt,plenumlaw32_awake_r1_eq,plenumlaw32_awake_r2_eq]
end Go.Proofs.Ytaaogcnjfkgnoaa

namespace Go.Proofs.Ytaaogcnjfkgnoaa
open Go.RowKit
set_option maxHeartbeats 4000000
attribute [local go_sem] Nat.zero_add Nat.add_zero Nat.mul_one Int.toNat_natCast Int.natCast_zero Int.cast_ofNat_Int or_false false_or or_true true_or Nat.sub_zero Int.natCast_nonneg Int.toNat_zero Bool.true_and Bool.and_true Bool.false_and Bool.and_false Bool.true_or Bool.or_true Bool.false_or Bool.or_false Bool.not_true Bool.not_false Bool.not_not true_and and_true false_and and_false not_true_eq_false not_false_eq_true eq_self decide_true decide_false ne_eq implies_true forall_const true_implies false_implies Bool.true_eq_false Bool.false_eq_true List.map_cons List.map_nil List.all_cons List.all_nil List.length_cons List.length_nil List.length_map List.length_append List.nil_append List.cons_append List.set_cons_zero List.set_cons_succ List.set_nil List.drop_zero List.drop_succ_cons List.drop_nil List.take_zero List.take_succ_cons List.take_nil Option.map_some Option.map_none Option.isSome_some List.all_append List.all_map Function.comp_def decide_eq_true_eq Bool.and_eq_true beq_self_eq_true or_self and_self ite_true ite_false Nat.le_refl Bool.not_eq_true decide_not Bool.not_eq_true' decide_eq_false_iff_not Bool.not_eq_false Bool.or_eq_true if_true if_false ite_self u_roF u_cvF u_cvC u_ceT u_ceK u_appS sm_it sm_len sm_sure sm_ltA sm_lt1 sm_all1 sm_ro sm_take sm_sl sm_set sm_noT sm_fr sm_st_fr sm_set_fr sm_kd sm_st_kd sm_set_kd sm_vw sm_st_vw sm_set_vw sm_sq sm_st_sq sm_set_sq sm_tm sm_st_tm sm_set_tm zsm_len zsm_sure zsm_lt1 zsm_sl zsm_ro zsm_setz zsm_set zsm_setr zsm_take sms_ltA sms_len ce_it ce_len ce_sure ce_ltA ce_lt1 ce_all1 ce_ro ce_take ce_sl ce_set ce_noT ce_sq ce_st_sq ce_set_sq ce_vw ce_st_vw ce_set_vw ce_tm ce_st_tm ce_set_tm ce_body ce_st_body ce_set_body ce_vs ce_st_vs ce_set_vs zce_len zce_sure zce_lt1 zce_sl zce_ro zce_setz zce_set zce_setr zce_take ces_ltA ces_len cg_it cg_len cg_sure cg_ltA cg_lt1 cg_all1 cg_ro cg_take cg_sl cg_set cg_noT cg_fr cg_st_fr cg_set_fr cg_vw cg_st_vw cg_set_vw cg_st cg_st_st cg_set_st cg_rt cg_st_rt cg_set_rt cg_pf cg_st_pf cg_set_pf cg_cs cg_st_cs cg_set_cs zcg_len zcg_sure zcg_lt1 zcg_sl zcg_ro zcg_setz zcg_set zcg_setr zcg_take cgs_ltA cgs_len ms_it ms_len ms_sure ms_ltA ms_lt1 ms_all1 ms_ro ms_take ms_sl ms_set ms_noT ms_kd ms_st_kd ms_set_kd ms_fr ms_st_fr ms_set_fr ms_vw ms_st_vw ms_set_vw ms_sq ms_st_sq ms_set_sq ms_tm ms_st_tm ms_set_tm ms_body ms_st_body ms_set_body ms_vs ms_st_vs ms_set_vs ms_chs ms_st_chs ms_set_chs zms_len zms_sure zms_lt1 zms_sl zms_ro zms_setz zms_set zms_setr zms_take mss_ltA mss_len co_it co_len co_sure co_ltA co_lt1 co_all1 co_ro co_take co_sl co_set co_noT co_sq co_st_sq co_set_sq co_tm co_st_tm co_set_tm co_body co_st_body co_set_body co_nl co_st_nl co_set_nl zco_len zco_sure zco_lt1 zco_sl zco_ro zco_setz zco_set zco_setr zco_take cos_ltA cos_len sd_it sd_len sd_sure sd_ltA sd_lt1 sd_all1 sd_ro sd_take sd_sl sd_set sd_noT sd_wh sd_st_wh sd_set_wh sd_fr sd_st_fr sd_set_fr sd_kd sd_st_kd sd_set_kd sd_vw sd_st_vw sd_set_vw sd_sq sd_st_sq sd_set_sq sd_tm sd_st_tm sd_set_tm sds_ltA sds_len natInt u_nthM u_bz u_bi1 u_bi2 u_bi3 u_bi4 u_bi5 u_bi6 u_bi7 s_B0 s_Bk s_Bs0 s_Bsk s_takeY s_take s_takeK sc_len smO_lt w_0 w_Y0 w_B0 w_Bk w_Bs0 w_Bsk w_take w_takeY w_takeK sw_len wo_cells ltO_o ltO_r u_eqE u_eqSm Nat.le_add_right List.append_assoc
attribute [local go_sem_proc] Nat.reduceAdd Nat.reduceSub Nat.reduceMul Nat.reduceLeDiff Nat.reduceLT Int.reduceEq Int.reduceNe Int.reduceLT Int.reduceLE Int.reduceAdd Int.reduceSub Int.reduceMul Int.reduceNeg Int.reduceToNat reduceCtorEq Nat.reduceEqDiff Nat.reduceBEq Nat.reduceGT
attribute [local go_sem_proc ↓] reduceIte
section
variable {R : Type} {a b x : AObj} {σ : Sg} {ω : Wg} {K : AObj → Option R} {Y : List AObj}
theorem q_0 : nthOE (hS [a,b,x] σ ω) 0 K = K a := _root_.id rfl
theorem q_1 : nthOE (hS [a,b,x] σ ω) 1 K = K b := _root_.id rfl
theorem q_9 : nthOE (hS [a,b,x] σ ω) 9 K = K (woO 9 ω) := _root_.id rfl
end
section
variable (m : Nat) (a b x : AObj) (σ : Sg) (ω : Wg) (Y : List AObj) (hm : 1000001 < m) (hA : GA [a,b,x]) (hY : ∀ n,Y.all (ltO n) = true) (hσ : SgOk σ) (hω : WgOk ω)
theorem hY_sc : hS [a,b,x] σ ω ++ Y = sc [a,b,x] ([woO 9 ω,trO ω.T] ++ Y) σ := by rw [sc_app];rfl
theorem hY_sw : hS [a,b,x] σ ω ++ Y = sw (sixO [a,b,x] σ) Y ω := by rw [show Y = [] ++ Y from rfl,sw_app,← hS_sw];rfl
include hm hA hY hσ hω
theorem cert3 (c : Ce) (n : Int) (hc : CeI c) : view_Cert m (OP 7 0) (OP 4 0) (ceE c) (nA n) (hS [a,b,x] σ ω ++ Y) = some (bA (ceH σ.T σ.R c n),hS [a,b,x] { σ with T := ceT σ.T c n } ω ++ Y) := by
 rw [hY_sc,hY_sc]
 exact vcert_s m [a,b,x] _ σ c n ((hA.gb hω).app hY) hσ hm hc
theorem rcert3 (c : Ce) (n : Int) (hc : CeI c) : plenumref32_World_Cert m (OP 9 0) (ceE c) (nA n) (hS [a,b,x] σ ω ++ Y) = some (bA (ceH ω.T ω.L c n),hS [a,b,x] σ { ω with T := ceT ω.T c n } ++ Y) := by
 have _ := hσ
 rw [hY_sw,hY_sw]
 exact rcert_s m (sixO [a,b,x] σ) Y ω c n ((hA.gw σ).app (B := []) hY) hω hm hc
theorem count3 : term_Table_Count m (OP 4 0) (hS [a,b,x] σ ω ++ Y) = some (nA σ.T.length,hS [a,b,x] σ ω ++ Y) := by
 have _ := hm
 have _ := hσ
 rw [hY_sc]
 exact tcount_s m [a,b,x] _ σ ((hA.gb hω).app hY)
end
structure ScI (tx : List (List UInt8)) (bad : List Int) (sd : List Sd) : Prop where
 bl : bad.length ≤ 9223372036854775807
 tl : tx.length ≤ 9223372036854775807
 sl : sd.length ≤ 9223372036854775807
 t : ∀ x ∈ tx,x.length ≤ 9223372036854775807
 s : ∀ x ∈ sd,SmI (sdS x)
theorem scC_len {tx : List (List UInt8)} {bad : List Int} {sd : List Sd} : (scC tx bad sd).length = 3 := _root_.id rfl
theorem scC_take {tx : List (List UInt8)} {bad : List Int} {sd : List Sd} : (scC tx bad sd).take 3 = scC tx bad sd := _root_.id rfl
theorem scC_ro {H : List AObj} {tx : List (List UInt8)} {bad : List Int} {sd : List Sd} : (scC tx bad sd).map (ro1 H) = scC tx bad sd := _root_.id rfl
theorem scC_lt1 {n : Nat} {tx : List (List UInt8)} {bad : List Int} {sd : List Sd} : (scC tx bad sd).all (lt1 n) = true := _root_.id rfl
theorem scB {tx : List (List UInt8)} {bad : List Int} {sd : List Sd} {K : AV → List AObj → RO} : boxE ty_plenumlaw32_Scene [] (.agg (scC tx bad sd)) K = K (OP 0 0) [scX tx bad sd] := _root_.id rfl
theorem r_0 {tx : List (List UInt8)} {bad : List Int} {sd : List Sd} {b : AObj} {K : AObj → RO} : nthOE [scX tx bad sd,b] 0 K = K (scX tx bad sd) := _root_.id rfl
theorem r_1 {a b : AObj} {K : AObj → RO} : nthOE [a,b] 1 K = K b := _root_.id rfl
theorem GA_2 {b : AObj} {tx : List (List UInt8)} {bad : List Int} {sd : List Sd} (hb : ∀ n,ltO n b = true) : GA [scX tx bad sd,b] := fun n hn=>by simp [scX_lt,hb]
theorem GA_3 {b : AObj} {tx : List (List UInt8)} {bad bad' : List Int} {sd : List Sd} (hb : ∀ n,ltO n b = true) : GA [scX tx bad sd,b,scX tx bad' sd] := fun n hn=>by simp [scX_lt,hb]
theorem set2 (m : Nat) (b : AObj) (tx : List (List UInt8)) (bad : List Int) (sd : List Sd) (hm : 1000001 < m) (hb : ∀ n,ltO n b = true) (h : ScI tx bad sd) (ho : badL (bad.take 10) = false) :
  plenumlaw32_set m (.agg (scC tx bad sd)) [scX tx bad sd,b] = some (TU [OP 4 0,OP 7 0,OP 9 0,bA true],hS [scX tx bad sd,b,scX tx (bad.take 10) sd] (scn (bad.take 10) tx sd).1 (scn (bad.take 10) tx sd).2) := by
 refine set_s m [scX tx bad sd,b] tx bad sd hm (GA_2 hb) h.bl h.tl h.sl h.t h.s ?_
 refine Classical.byContradiction fun q=>?_
 rw [badL_iff.2 q] at ho
 cases ho
theorem set2_no (m : Nat) (b : AObj) (tx : List (List UInt8)) (bad : List Int) (sd : List Sd) (hm : 1000001 < m) (hb : ∀ n,ltO n b = true) (h : ScI tx bad sd) (ho : badL (bad.take 10) = true) :
 ∃ bd,plenumlaw32_set m (.agg (scC tx bad sd)) [scX tx bad sd,b] = some (TU [V (.pointer none),V (.pointer none),V (.pointer none),bA false],hS [scX tx bad sd,b,scX tx (bad.take 10) sd] (⟨[],7,bd,[]⟩ : Sg) (scn0 (bad.take 10)).2) := set_no m [scX tx bad sd,b] tx bad sd hm (GA_2 hb) h.bl h.tl h.sl h.t h.s (badL_iff.1 ho)
theorem set2_ok {tx : List (List UInt8)} {bad : List Int} {sd : List Sd} (h : ScI tx bad sd) (ho : badL (bad.take 10) = false) : Scn (scn (bad.take 10) tx sd).1 (scn (bad.take 10) tx sd).2 := by
 refine scn_ok ?_ (by simp;omega) h.t h.s
 refine Classical.byContradiction fun q=>?_
 rw [badL_iff.2 q] at ho
 cases ho
end Go.Proofs.Ytaaogcnjfkgnoaa

namespace Go.Proofs.Ytaaogcnjfkgnoaa
open Go.RowKit
def OpSm (x : Sm) : Prop := (-9223372036854775808 ≤ x.fr ∧ x.fr < 9223372036854775808) ∧ (-9223372036854775808 ≤ x.kd ∧ x.kd < 9223372036854775808) ∧ (-9223372036854775808 ≤ x.vw ∧ x.vw < 9223372036854775808) ∧ (-9223372036854775808 ≤ x.sq ∧ x.sq < 9223372036854775808) ∧ (-9223372036854775808 ≤ x.tm ∧ x.tm < 9223372036854775808)
theorem ofT_sm {n : Nat} {ds : List AV} (h : ofT Try.prog n 41 ds) : ∃ x : Sm,ds = smC x ∧ OpSm x := by
 obtain ⟨m,a0,b0,rfl,h0,a1,b1,rfl,h1,a2,b2,rfl,h2,a3,b3,rfl,h3,a4,b4,rfl,h4,rfl⟩ := ofT_struct Try.underlying41 h
 obtain ⟨x0,rfl,q0⟩ := ofT_i64 Try.underlying3 h0
 obtain ⟨x1,rfl,q1⟩ := ofT_i64 Try.underlying3 h1
 obtain ⟨x2,rfl,q2⟩ := ofT_i64 Try.underlying3 h2
 obtain ⟨x3,rfl,q3⟩ := ofT_i64 Try.underlying3 h3
 obtain ⟨x4,rfl,q4⟩ := ofT_i64 Try.underlying3 h4
 exact ⟨⟨x0,x1,x2,x3,x4⟩,rfl,q0,q1,q2,q3,q4⟩
theorem ofT_sms {n : Nat} {ds : List AV} (h : ofT Try.prog n 27 ds) : ∃ l : List Sm,ds = [SL (l.map smE)] ∧ l.length ≤ 9223372036854775807 ∧ ∀ x ∈ l,OpSm x := by
 obtain ⟨m,es,rfl,hl,he⟩ := ofT_slice Try.underlying27 h
 obtain ⟨l,rfl,hi⟩ := list_of (f := smE) (Q := OpSm) fun x hx=>by
  obtain ⟨q1,q2⟩ := he x hx
  obtain ⟨y,hy,hi⟩ := ofT_sm q1
  exact ⟨y,by rw [cells_agg (q2.trans (by kernel_rfl)),hy];rfl,hi⟩
 exact ⟨l,rfl,by rw [List.length_map] at hl;exact hl,hi⟩
def OpCe (x : Ce) : Prop := (-9223372036854775808 ≤ x.sq ∧ x.sq < 9223372036854775808) ∧ (-9223372036854775808 ≤ x.vw ∧ x.vw < 9223372036854775808) ∧ (-9223372036854775808 ≤ x.tm ∧ x.tm < 9223372036854775808) ∧ x.body.length ≤ 9223372036854775807 ∧ x.vs.length ≤ 9223372036854775807 ∧ (∀ y ∈ x.vs,OpSm y)
theorem ofT_ce {n : Nat} {ds : List AV} (h : ofT Try.prog n 54 ds) : ∃ x : Ce,ds = ceC x ∧ OpCe x := by
 obtain ⟨m,a0,b0,rfl,h0,a1,b1,rfl,h1,a2,b2,rfl,h2,a3,b3,rfl,h3,a4,b4,rfl,h4,rfl⟩ := ofT_struct Try.underlying54 h
 obtain ⟨x0,rfl,q0⟩ := ofT_i64 Try.underlying3 h0
 obtain ⟨x1,rfl,q1⟩ := ofT_i64 Try.underlying3 h1
 obtain ⟨x2,rfl,q2⟩ := ofT_i64 Try.underlying3 h2
 obtain ⟨x3,rfl,q3⟩ := ofT_str Try.underlying9 h3
 obtain ⟨x4,rfl,q4,r4⟩ := ofT_sms h4
 exact ⟨⟨x0,x1,x2,x3,x4⟩,rfl,q0,q1,q2,q3,q4,r4⟩
theorem arg_ce {W : World} {v : Value} (h : Arg Try.prog W 54 v) : ∃ x : Ce,OpCe x ∧ rep (SW W) [] (ceE x) v := by
 obtain ⟨n,ds,h1,h2⟩ := h
 obtain ⟨t,rfl,ht⟩ := ofT_ce h1
 rw [mk_many (by kernel_rfl)] at h2
 exact ⟨t,ht,h2⟩
theorem i64_of {i : Int} (h : -9223372036854775808 ≤ i ∧ i < 9223372036854775808) : I64 i := ⟨h.1,by omega⟩
theorem OpSm.i {x : Sm} (h : OpSm x) : SmI x := ⟨i64_of h.1,i64_of h.2.1,i64_of h.2.2.1,i64_of h.2.2.2.1,i64_of h.2.2.2.2⟩
theorem ofT_sd {n : Nat} {ds : List AV} (h : ofT Try.prog n 51 ds) : ∃ x : Sd,ds = sdC x ∧ SmI (sdS x) := by
 obtain ⟨m,a0,b0,rfl,h0,a1,b1,rfl,h1,rfl⟩ := ofT_struct Try.underlying51 h
 obtain ⟨x0,rfl,q0⟩ := ofT_i64 Try.underlying3 h0
 obtain ⟨x1,rfl,q1⟩ := ofT_sm h1
 exact ⟨⟨x0,x1.fr,x1.kd,x1.vw,x1.sq,x1.tm⟩,rfl,q1.i⟩
theorem arg_scene {W : World} {v : Value} (h : Arg Try.prog W 26 v) : ∃ tx bad sd,ScI tx bad sd ∧ rep (SW W) [] (.agg (scC tx bad sd)) v := by
 obtain ⟨n,ds,h1,h2⟩ := h
 obtain ⟨m,a0,b0,rfl,h0,a1,b1,rfl,h3,a2,b2,rfl,h4,rfl⟩ := ofT_struct Try.underlying26 h1
 obtain ⟨m0,es0,rfl,hl0,he0⟩ := ofT_slice Try.underlying22 h0
 obtain ⟨tx,rfl,ht⟩ := list_of (f := sA) (Q := fun s : List UInt8=>s.length ≤ 9223372036854775807) fun x hx=>by
  obtain ⟨q1,q2⟩ := he0 x hx
  obtain ⟨s,hs,hi⟩ := ofT_str Try.underlying9 q1
  exact ⟨s,cells_lone hs (q2.trans (by kernel_rfl)),hi⟩
 obtain ⟨m1,es1,rfl,hl1,he1⟩ := ofT_slice Try.underlying23 h3
 obtain ⟨bad,rfl,hb⟩ := list_of (f := nA) (Q := fun _ : Int=>True) fun x hx=>by
  obtain ⟨q1,q2⟩ := he1 x hx
  obtain ⟨i,hi,_⟩ := ofT_i64 Try.underlying3 q1
  exact ⟨i,cells_lone hi (q2.trans (by kernel_rfl)),trivial⟩
 obtain ⟨m2,es2,rfl,hl2,he2⟩ := ofT_slice Try.underlying24 h4
 obtain ⟨sd,rfl,hs⟩ := list_of (f := sdE) (Q := fun x : Sd=>SmI (sdS x)) fun x hx=>by
  obtain ⟨q1,q2⟩ := he2 x hx
  obtain ⟨y,hy,hi⟩ := ofT_sd q1
  exact ⟨y,by rw [cells_agg (q2.trans (by kernel_rfl)),hy];rfl,hi⟩
 rw [mk_many (by kernel_rfl)] at h2
 rw [List.length_map] at hl0 hl1 hl2
 exact ⟨tx,bad,sd,⟨hl1,hl0,hl2,ht,hs⟩,h2⟩
end Go.Proofs.Ytaaogcnjfkgnoaa

namespace Go.Proofs.Ytaaogcnjfkgnoaa
open Go.RowKit
set_option maxHeartbeats 4000000
attribute [local go_sem] Nat.zero_add Nat.add_zero Nat.mul_one Int.toNat_natCast Int.natCast_zero Int.cast_ofNat_Int or_false false_or or_true true_or Nat.sub_zero Int.natCast_nonneg Int.toNat_zero Bool.true_and Bool.and_true Bool.false_and Bool.and_false Bool.true_or Bool.or_true Bool.false_or Bool.or_false Bool.not_true Bool.not_false Bool.not_not true_and and_true false_and and_false not_true_eq_false not_false_eq_true eq_self decide_true decide_false ne_eq implies_true forall_const true_implies false_implies Bool.true_eq_false Bool.false_eq_true List.map_cons List.map_nil List.all_cons List.all_nil List.length_cons List.length_nil List.length_map List.length_append List.nil_append List.cons_append List.set_cons_zero List.set_cons_succ List.set_nil List.drop_zero List.drop_succ_cons List.drop_nil List.take_zero List.take_succ_cons List.take_nil Option.map_some Option.map_none Option.isSome_some List.all_append List.all_map Function.comp_def decide_eq_true_eq Bool.and_eq_true beq_self_eq_true or_self and_self ite_true ite_false Nat.le_refl Bool.not_eq_true decide_not Bool.not_eq_true' decide_eq_false_iff_not Bool.not_eq_false Bool.or_eq_true if_true if_false ite_self u_roF u_cvF u_cvC u_ceT u_ceK u_appS sm_it sm_len sm_sure sm_ltA sm_lt1 sm_all1 sm_ro sm_take sm_sl sm_set sm_noT sm_fr sm_st_fr sm_set_fr sm_kd sm_st_kd sm_set_kd sm_vw sm_st_vw sm_set_vw sm_sq sm_st_sq sm_set_sq sm_tm sm_st_tm sm_set_tm zsm_len zsm_sure zsm_lt1 zsm_sl zsm_ro zsm_setz zsm_set zsm_setr zsm_take sms_ltA sms_len ce_it ce_len ce_sure ce_ltA ce_lt1 ce_all1 ce_ro ce_take ce_sl ce_set ce_noT ce_sq ce_st_sq ce_set_sq ce_vw ce_st_vw ce_set_vw ce_tm ce_st_tm ce_set_tm ce_body ce_st_body ce_set_body ce_vs ce_st_vs ce_set_vs zce_len zce_sure zce_lt1 zce_sl zce_ro zce_setz zce_set zce_setr zce_take ces_ltA ces_len cg_it cg_len cg_sure cg_ltA cg_lt1 cg_all1 cg_ro cg_take cg_sl cg_set cg_noT cg_fr cg_st_fr cg_set_fr cg_vw cg_st_vw cg_set_vw cg_st cg_st_st cg_set_st cg_rt cg_st_rt cg_set_rt cg_pf cg_st_pf cg_set_pf cg_cs cg_st_cs cg_set_cs zcg_len zcg_sure zcg_lt1 zcg_sl zcg_ro zcg_setz zcg_set zcg_setr zcg_take cgs_ltA cgs_len ms_it ms_len ms_sure ms_ltA ms_lt1 ms_all1 ms_ro ms_take ms_sl ms_set ms_noT ms_kd ms_st_kd ms_set_kd ms_fr ms_st_fr ms_set_fr ms_vw ms_st_vw ms_set_vw ms_sq ms_st_sq ms_set_sq ms_tm ms_st_tm ms_set_tm ms_body ms_st_body ms_set_body ms_vs ms_st_vs ms_set_vs ms_chs ms_st_chs ms_set_chs zms_len zms_sure zms_lt1 zms_sl zms_ro zms_setz zms_set zms_setr zms_take mss_ltA mss_len co_it co_len co_sure co_ltA co_lt1 co_all1 co_ro co_take co_sl co_set co_noT co_sq co_st_sq co_set_sq co_tm co_st_tm co_set_tm co_body co_st_body co_set_body co_nl co_st_nl co_set_nl zco_len zco_sure zco_lt1 zco_sl zco_ro zco_setz zco_set zco_setr zco_take cos_ltA cos_len sd_it sd_len sd_sure sd_ltA sd_lt1 sd_all1 sd_ro sd_take sd_sl sd_set sd_noT sd_wh sd_st_wh sd_set_wh sd_fr sd_st_fr sd_set_fr sd_kd sd_st_kd sd_set_kd sd_vw sd_st_vw sd_set_vw sd_sq sd_st_sq sd_set_sq sd_tm sd_st_tm sd_set_tm sds_ltA sds_len natInt u_nthM u_bz u_bi1 u_bi2 u_bi3 u_bi4 u_bi5 u_bi6 u_bi7 s_B0 s_Bk s_Bs0 s_Bsk s_takeY s_take s_takeK sc_len smO_lt w_0 w_Y0 w_B0 w_Bk w_Bs0 w_Bsk w_take w_takeY w_takeK sw_len wo_cells ltO_o ltO_r u_eqE u_eqSm Nat.le_add_right List.append_assoc
attribute [local go_sem_proc] Nat.reduceAdd Nat.reduceSub Nat.reduceMul Nat.reduceLeDiff Nat.reduceLT Int.reduceEq Int.reduceNe Int.reduceLT Int.reduceLE Int.reduceAdd Int.reduceSub Int.reduceMul Int.reduceNeg Int.reduceToNat reduceCtorEq Nat.reduceEqDiff Nat.reduceBEq Nat.reduceGT
attribute [local go_sem_proc ↓] reduceIte
structure CeJ (c : Ce) : Prop where
 vw : I64 c.vw
 body : c.body.length ≤ 9223372036854775807
 vl : c.vs.length ≤ 9223372036854775807
 vs : ∀ x ∈ c.vs,SmI x
theorem CeJ.few {c : Ce} (h : CeJ c) : CeI (ceF c) := by
 refine ⟨h.vw,?_,?_,?_⟩
 ·show (txF c.body).length ≤ _
  unfold txF
  repeat' split
  all_goals first|omega|(rw [List.length_take];omega)
 ·show (c.vs.take 66).length ≤ _
  simp;omega
 ·intro x hx
  exact h.vs x (List.mem_of_mem_take hx)
theorem ceO_lt' (c : Ce) (n : Nat) : ltO n ⟨1,ty_api_Cert,0,ceC c⟩ = true := ceO_lt
theorem viewCerts_s (m : Nat) (tx : List (List UInt8)) (bad : List Int) (sd : List Sd) (c : Ce) (n : Int) (hm : 1000001 < m) (h : ScI tx bad sd) (hc : CeJ c) :
  plenumlaw32_ViewCerts m (.agg (scC tx bad sd)) (ceE c) (nA n) = some (bA true,[]) := by
 have hf := fewChange_s m ⟨0,0,0,0,[],[c]⟩ (by omega) (by simp) (by simp) (fun y hy=>by simp at hy;subst hy;exact ⟨hc.body,hc.vl⟩)
 have hci := hc.few
 have hfe : cgE (cgF ⟨0,0,0,0,[],[c]⟩) = .agg [nA 0,nA 0,nA 0,nA 0,SL [],SL [.agg (ceC (ceF c))]] := rfl
 have hfe0 : cgE ⟨0,0,0,0,[],[c]⟩ = .agg [nA 0,nA 0,nA 0,nA 0,SL [],SL [.agg (ceC c)]] := rfl
 rw [hfe0,hfe] at hf
 have haw := awake_s m hm
 have bC : ∀ {x : AV} {K : AV → RO},buildE (some pl_api_Change) (some zc_api_Change) [(5,SL [x])] K = K (.agg [nA 0,nA 0,nA 0,nA 0,V (.slice none 0 0),SL [x]]) := fun {x K}=>rfl
 rw [plenumlaw32_ViewCerts_eq,scB,ce_it]
 cases ho : badL (bad.take 10) with
 |true =>
  obtain ⟨bd,hs⟩ := set2_no m ⟨1,ty_api_Cert,0,ceC (ceF c)⟩ tx bad sd hm (ceO_lt' (ceF c)) h ho
  have hb := bad_s m tx bad sd hm h.bl
  rw [ho] at hb
  simp (config := {maxSteps := 4000000,implicitDefEqProofs := false}) (disch := omega) only [go_sem,hf,hs,hb,haw,q_0,r_0,r_1,sc_cells,bC,scC_len,scC_take,scC_ro,scC_lt1]
 |false =>
  have hs := set2 m ⟨1,ty_api_Cert,0,ceC (ceF c)⟩ tx bad sd hm (ceO_lt' (ceF c)) h ho
  have hok := set2_ok h ho
  have hA : GA [scX tx bad sd,⟨1,ty_api_Cert,0,ceC (ceF c)⟩,scX tx (bad.take 10) sd] := GA_3 (ceO_lt' (ceF c))
  generalize scn (bad.take 10) tx sd = q at *
  obtain ⟨⟨T,n7,bd,L⟩,ω⟩ := q
  dsimp only at *
  have e1 : T = ω.T := hok.t
  have e2 : L = ω.L := hok.l
  subst e1 e2
  have h1 := cert3 m _ _ _ ⟨ω.T,n7,bd,ω.L⟩ ω [] hm hA (fun _=>rfl) hok.so hok.wo (ceF c) n hci
  have hσ2 : SgOk ⟨ceT ω.T (ceF c) n,n7,bd,ω.L⟩ := hok.so.ce (Nat.le_trans hci.body (by decide))
  have h2 := rcert3 m _ _ _ ⟨ceT ω.T (ceF c) n,n7,bd,ω.L⟩ ω [] hm hA (fun _=>rfl) hσ2 hok.wo (ceF c) n hci
  have hω2 : WgOk { ω with T := ceT ω.T (ceF c) n } := by
   have := hok.wo
   unfold ceT
   split
   ·exact this.of
   ·exact this
  have h3 := count3 m _ _ _ ⟨ceT ω.T (ceF c) n,n7,bd,ω.L⟩ { ω with T := ceT ω.T (ceF c) n } [] hm hA (fun _=>rfl) hσ2 hω2
  simp only [List.append_nil] at h1 h2 h3
  rw [ce_it] at h1 h2
  simp (config := {maxSteps := 4000000,implicitDefEqProofs := false}) (disch := omega) only [go_sem,hf,hs,haw,h1,h2,h3,q_0,q_1,q_9,r_0,r_1,sc_cells,bC,scC_len,scC_take,scC_ro,scC_lt1]
end Go.Proofs.Ytaaogcnjfkgnoaa

namespace Go.Proofs.Ytaaogcnjfkgnoaa
open Go.RowKit
theorem OpCe.j {c : Ce} (h : OpCe c) : CeJ c := ⟨i64_of h.2.1,h.2.2.2.1,h.2.2.2.2.1,fun x hx=>(h.2.2.2.2.2 x hx).i⟩
theorem walk_ViewCerts (W : World) (v0 : Value) (h0 : Arg Try.prog W 26 v0) (v1 : Value) (h1 : Arg Try.prog W 54 v1) (v2 : Value) (h2 : Arg Try.prog W 3 v2) :
  Calls Try.prog 4 #[v0,v1,v2] W fun e W'=>e = .returned (.bool true) ∧ Below W.heap.size W W' := by
 obtain ⟨tx,bad,sd,hs,r0⟩ := arg_scene h0
 obtain ⟨c,hc,r1⟩ := arg_ce h1
 obtain ⟨n,hn,r2⟩ := arg_int h2
 exact run_tells (plenumlaw32_ViewCerts_ok 1000002 [_,_,_] _ _ (viewCerts_s 1000002 tx bad sd c n (by omega) hs hc.j)) gok_nil (vs := [v0,v1,v2]) rfl (reps3 r0 r1 r2)
end Go.Proofs.Ytaaogcnjfkgnoaa

