/-
  Texts laid together, part 6 of 7: laws of a walk over data, contracts of functions, each whole by itself.
-/
import Derived.Test.YtaaogcnjfkgnoaaMge
set_option maxRecDepth 100000
set_option linter.unusedVariables false
set_option linter.unusedSimpArgs false
namespace Go.Proofs.Ytaaogcnjfkgnoaa
open Go.RowKit
attribute [local go_sem] Nat.zero_add Nat.add_zero Nat.mul_one Int.toNat_natCast Int.natCast_zero Int.cast_ofNat_Int or_false false_or or_true true_or Nat.sub_zero Int.natCast_nonneg Int.toNat_zero Bool.true_and Bool.and_true Bool.false_and Bool.and_false Bool.true_or Bool.or_true Bool.false_or Bool.or_false Bool.not_true Bool.not_false Bool.not_not true_and and_true false_and and_false not_true_eq_false not_false_eq_true eq_self decide_true decide_false ne_eq implies_true forall_const true_implies false_implies Bool.true_eq_false Bool.false_eq_true List.map_cons List.map_nil List.all_cons List.all_nil List.length_cons List.length_nil List.length_map List.length_append List.nil_append List.cons_append List.set_cons_zero List.set_cons_succ List.set_nil List.drop_zero List.drop_succ_cons List.drop_nil List.take_zero List.take_succ_cons List.take_nil Option.map_some Option.map_none Option.isSome_some List.all_append List.all_map Function.comp_def decide_eq_true_eq Bool.and_eq_true beq_self_eq_true or_self and_self ite_true ite_false Nat.le_refl Bool.not_eq_true decide_not Bool.not_eq_true' decide_eq_false_iff_not Bool.not_eq_false Bool.or_eq_true if_true if_false ite_self u_roF u_cvF u_cvC u_ceT u_ceK u_appS sm_it sm_len sm_sure sm_ltA sm_lt1 sm_all1 sm_ro sm_take sm_sl sm_set sm_noT sm_fr sm_st_fr sm_set_fr sm_kd sm_st_kd sm_set_kd sm_vw sm_st_vw sm_set_vw sm_sq sm_st_sq sm_set_sq sm_tm sm_st_tm sm_set_tm zsm_len zsm_sure zsm_lt1 zsm_sl zsm_ro zsm_setz zsm_set zsm_setr zsm_take sms_ltA sms_len ce_it ce_len ce_sure ce_ltA ce_lt1 ce_all1 ce_ro ce_take ce_sl ce_set ce_noT ce_sq ce_st_sq ce_set_sq ce_vw ce_st_vw ce_set_vw ce_tm ce_st_tm ce_set_tm ce_body ce_st_body ce_set_body ce_vs ce_st_vs ce_set_vs zce_len zce_sure zce_lt1 zce_sl zce_ro zce_setz zce_set zce_setr zce_take ces_ltA ces_len cg_it cg_len cg_sure cg_ltA cg_lt1 cg_all1 cg_ro cg_take cg_sl cg_set cg_noT cg_fr cg_st_fr cg_set_fr cg_vw cg_st_vw cg_set_vw cg_st cg_st_st cg_set_st cg_rt cg_st_rt cg_set_rt cg_pf cg_st_pf cg_set_pf cg_cs cg_st_cs cg_set_cs zcg_len zcg_sure zcg_lt1 zcg_sl zcg_ro zcg_setz zcg_set zcg_setr zcg_take cgs_ltA cgs_len ms_it ms_len ms_sure ms_ltA ms_lt1 ms_all1 ms_ro ms_take ms_sl ms_set ms_noT ms_kd ms_st_kd ms_set_kd ms_fr ms_st_fr ms_set_fr ms_vw ms_st_vw ms_set_vw ms_sq ms_st_sq ms_set_sq ms_tm ms_st_tm ms_set_tm ms_body ms_st_body ms_set_body ms_vs ms_st_vs ms_set_vs ms_chs ms_st_chs ms_set_chs zms_len zms_sure zms_lt1 zms_sl zms_ro zms_setz zms_set zms_setr zms_take mss_ltA mss_len co_it co_len co_sure co_ltA co_lt1 co_all1 co_ro co_take co_sl co_set co_noT co_sq co_st_sq co_set_sq co_tm co_st_tm co_set_tm co_body co_st_body co_set_body co_nl co_st_nl co_set_nl zco_len zco_sure zco_lt1 zco_sl zco_ro zco_setz zco_set zco_setr zco_take cos_ltA cos_len sd_it sd_len sd_sure sd_ltA sd_lt1 sd_all1 sd_ro sd_take sd_sl sd_set sd_noT sd_wh sd_st_wh sd_set_wh sd_fr sd_st_fr sd_set_fr sd_kd sd_st_kd sd_set_kd sd_vw sd_st_vw sd_set_vw sd_sq sd_st_sq sd_set_sq sd_tm sd_st_tm sd_set_tm sds_ltA sds_len natInt u_nthM u_bz u_bi1 u_bi2 u_bi3 u_bi4 u_bi5 u_bi6 u_bi7 scM_0 scM_1 scM_2 scM_3 scM_4 scM_5 scY_0 scY_1 scY_2 scY_3 scY_4 scY_5 scS_0 scS_1 scS_2 scS_3 scS_4 scS_5 scT_0 scT_1 scT_2 scT_3 scT_4 scT_5 scB_0 scB_k scBs_0 scBs_k scM_len sc_take sc_takeY List.append_assoc Nat.le_add_right ltO_o ltO_r u_eqE
attribute [local go_sem_proc] Nat.reduceAdd Nat.reduceSub Nat.reduceMul Nat.reduceLeDiff Nat.reduceLT Int.reduceEq Int.reduceNe Int.reduceLT Int.reduceLE Int.reduceAdd Int.reduceSub Int.reduceMul Int.reduceNeg Int.reduceToNat reduceCtorEq Nat.reduceEqDiff Nat.reduceBEq Nat.reduceGT
attribute [local go_sem_proc ↓] reduceIte
section
variable {R : Type} {a k : Nat} {n : Int} {bd : List Bool} {L : List Sm} {K : AV → Option R} {K1 : List AV → Option R} {K2 : AObj → Option R}
theorem rg_cells : cellsE (rgO a n bd L) K1 = K1 (rgC a n bd L) := by unfold rgO;exact u_cl1
theorem rg_0 : nthE (rgC a n bd L) 0 K = K (nA n) := _root_.id rfl
theorem rg_get (h : bd.length = 64) (hk : k < 64) : (rgC a n bd L)[1 + k]? = some (bA (bd.getD k false)) := by
 unfold rgC
 rw [show 1 + k = k + 1 by omega,List.getElem?_cons_succ,List.getElem?_append_left (by simp;omega),List.getElem?_map,List.getD_eq_getElem?_getD,List.getElem?_eq_getElem (by omega)]
 rfl
theorem rg_b (h : bd.length = 64) (hk : k < 64) : nthE (rgC a n bd L) (1 + k) K = K (bA (bd.getD k false)) := by
 have := rg_get (a := a) (n := n) (L := L) h hk
 unfold nthE
 rw [this]
theorem rg_m (h : bd.length = 64) : nthE (rgC a n bd L) 65 K = K (MP a) := by
 have : (rgC a n bd L)[65]? = some (MP a) := by
  unfold rgC
  rw [List.getElem?_cons_succ,List.getElem?_append_right (by simp;omega)]
  simp [h]
 unfold nthE
 rw [this]
theorem rg_r (h : bd.length = 64) : nthE (rgC a n bd L) 66 K = K (OW (a + 2) L.length) := by
 have : (rgC a n bd L)[66]? = some (OW (a + 2) L.length) := by
  unfold rgC
  rw [List.getElem?_cons_succ,List.getElem?_append_right (by simp;omega)]
  simp [h]
 unfold nthE
 rw [this]
theorem rgC_len (h : bd.length = 64) : (rgC a n bd L).length = 67 := by simp [rgC,h]
theorem rg_putB (h : bd.length = 64) (hk : k < 64) (b : Bool) : putE (rgO a n bd L) 1 (1 + k) (bA b) K2 = K2 (rgO a n (bd.set k b) L) := by
 unfold rgO
 rw [u_pt1]
 have h1 : setCells (rgC a n bd L) (1 + k) (cellsOf (bA b)) = rgC a n (bd.set k b) L := by
  show (rgC a n bd L).set (1 + k) (bA b) = _
  unfold rgC
  rw [show 1 + k = k + 1 by omega,List.set_cons_succ,List.set_append_left _ _ (by simp;omega),List.map_set]
 rw [h1,rgC_len h,show decide (1 + k + szOf 1 ≤ 67) = true from decide_eq_true (by simp [szOf];omega)]
 rfl
theorem rg_putR (h : bd.length = 64) (s : Sm) : putE (rgO a n bd L) 1 66 (OW (a + 2) (L.length + 1)) K2 = K2 (rgO a n bd (L ++ [s])) := by
 unfold rgO
 rw [u_pt1]
 have h1 : setCells (rgC a n bd L) 66 (cellsOf (OW (a + 2) (L.length + 1))) = rgC a n bd (L ++ [s]) := by
  show (rgC a n bd L).set 66 (OW (a + 2) (L.length + 1)) = _
  unfold rgC
  rw [List.set_cons_succ,List.set_append_right _ _ (by simp;omega)]
  simp [h]
 rw [h1,rgC_len h,show decide (66 + szOf 1 ≤ 67) = true from by decide]
 rfl
end
def badB (n : Int) (bd : List Bool) (p : Int) : Bool := decide (0 ≤ p) && decide (p < n) && bd.getD p.toNat false
theorem gis_s (m : Nat) (A B : List AObj) (σ : Sg) (p : Int) (hG : GB A B) : ring_Ring_is m (OP (A.length + 4) 0) (nA p) (sc A B σ) = some (bA (decide (0 ≤ p) && decide (p < σ.n)),sc A B σ) := by
 have hlt := fun {L : List (List UInt8)} {n : Int} {bd : List Bool} {R : List Sm}=>scM_lt hG (L := L) (n := n) (bd := bd) (R := R)
 rw [ring_Ring_is_eq]
 unfold sc
 by_cases h : 0 ≤ p
 ·simp (config := {maxSteps := 4000000,implicitDefEqProofs := false}) (disch := omega) only [go_sem,rg_cells,rg_0,hlt,h]
 ·simp (config := {maxSteps := 4000000,implicitDefEqProofs := false}) (disch := omega) only [go_sem,rg_cells,rg_0,hlt,h]
theorem gbad_s (m : Nat) (A B : List AObj) (σ : Sg) (p : Int) (hG : GB A B) (hσ : SgOk σ) : ring_Ring_Bad m (OP (A.length + 4) 0) (nA p) (sc A B σ) = some (bA (badB σ.n σ.bd p),sc A B σ) := by
 have hi := gis_s m A B σ p hG
 have hlt := fun {L : List (List UInt8)} {n : Int} {bd : List Bool} {R : List Sm}=>scM_lt hG (L := L) (n := n) (bd := bd) (R := R)
 have hn := hσ.n2
 have hb := hσ.bl
 rw [ring_Ring_Bad_eq]
 unfold badB
 by_cases h : 0 ≤ p ∧ p < σ.n
 ·have e1 : (decide (0 ≤ p) && decide (p < σ.n)) = true := by simp [h]
  rw [e1] at hi ⊢
  unfold sc at *
  have h1 := h.1
  have h2 : p < 64 := by omega
  have h3 : p.toNat < 64 := by omega
  have hr := fun (K : AV → RO)=>rg_b (a := A.length + 3) (n := σ.n) (bd := σ.bd) (L := σ.R) (k := p.toNat) (K := K) hb h3
  simp (config := {maxSteps := 4000000,implicitDefEqProofs := false}) (disch := omega) only [go_sem,hi,rg_cells,hr,hlt,h1,h2,szOf]
 ·have e1 : (decide (0 ≤ p) && decide (p < σ.n)) = false := by
   rw [Bool.eq_false_iff]
   simpa using h
  rw [e1] at hi ⊢
  unfold sc at *
  simp (config := {maxSteps := 4000000,implicitDefEqProofs := false}) (disch := omega) only [go_sem,hi,hlt]
theorem sc_get3Y {A B Y : List AObj} {o0 o1 o2 o3 o4 o5 : AObj} : (scM A B o0 o1 o2 o3 o4 o5 ++ Y)[A.length + 3]? = some o3 := by rw [← scM_app];exact sc_get3
theorem posL_pos {R : List Sm} {s : Sm} : decide ((0 : Int) < (posL R s : Int)) = decide (s ∈ R) := by
 rw [decide_eq_decide]
 unfold posL
 split
 ·simp [*]
 ·simp [*]
theorem ghas_s (m : Nat) (A B : List AObj) (σ : Sg) (s : Sm) (hG : GB A B) (hσ : SgOk σ) (hs : SmI s) : ring_Ring_Has m (OP (A.length + 4) 0) (smE s) (sc A B σ) = some (bA (decide (s ∈ σ.R)),sc A B σ) := by
 have hlt := fun {L : List (List UInt8)} {n : Int} {bd : List Bool} {R : List Sm}=>scM_lt hG (L := L) (n := n) (bd := bd) (R := R)
 have hb := hσ.bl
 have hr := fun (K : AV → RO)=>rg_m (a := A.length + 3) (n := σ.n) (bd := σ.bd) (L := σ.R) (K := K) hb
 have hl := fun (K : AV → RO)=>u_lookS (K := K) (s := s) (sc_get3Y (A := A) (B := B) (Y := [⟨1,ty_api_Stmt,0,smC s⟩]) (o0 := tmO σ.T) (o1 := ttO A.length σ.T) (o2 := trO σ.T) (o3 := rmO σ.R) (o4 := rgO (A.length + 3) σ.n σ.bd σ.R) (o5 := rrO σ.R)) hσ.rn hσ.ri hs
 rw [ring_Ring_Has_eq,sm_it]
 unfold sc
 simp (config := {maxSteps := 4000000,implicitDefEqProofs := false}) (disch := omega) only [go_sem,hl,rg_cells,hr,hlt,posL_pos]
end Go.Proofs.Ytaaogcnjfkgnoaa

namespace Go.Proofs.Ytaaogcnjfkgnoaa
open Go.RowKit
attribute [local go_sem] Nat.zero_add Nat.add_zero Nat.mul_one Int.toNat_natCast Int.natCast_zero Int.cast_ofNat_Int or_false false_or or_true true_or Nat.sub_zero Int.natCast_nonneg Int.toNat_zero Bool.true_and Bool.and_true Bool.false_and Bool.and_false Bool.true_or Bool.or_true Bool.false_or Bool.or_false Bool.not_true Bool.not_false Bool.not_not true_and and_true false_and and_false not_true_eq_false not_false_eq_true eq_self decide_true decide_false ne_eq implies_true forall_const true_implies false_implies Bool.true_eq_false Bool.false_eq_true List.map_cons List.map_nil List.all_cons List.all_nil List.length_cons List.length_nil List.length_map List.length_append List.nil_append List.cons_append List.set_cons_zero List.set_cons_succ List.set_nil List.drop_zero List.drop_succ_cons List.drop_nil List.take_zero List.take_succ_cons List.take_nil Option.map_some Option.map_none Option.isSome_some List.all_append List.all_map Function.comp_def decide_eq_true_eq Bool.and_eq_true beq_self_eq_true or_self and_self ite_true ite_false Nat.le_refl Bool.not_eq_true decide_not Bool.not_eq_true' decide_eq_false_iff_not Bool.not_eq_false Bool.or_eq_true if_true if_false ite_self u_roF u_cvF u_cvC u_ceT u_ceK u_appS sm_it sm_len sm_sure sm_ltA sm_lt1 sm_all1 sm_ro sm_take sm_sl sm_set sm_noT sm_fr sm_st_fr sm_set_fr sm_kd sm_st_kd sm_set_kd sm_vw sm_st_vw sm_set_vw sm_sq sm_st_sq sm_set_sq sm_tm sm_st_tm sm_set_tm zsm_len zsm_sure zsm_lt1 zsm_sl zsm_ro zsm_setz zsm_set zsm_setr zsm_take sms_ltA sms_len ce_it ce_len ce_sure ce_ltA ce_lt1 ce_all1 ce_ro ce_take ce_sl ce_set ce_noT ce_sq ce_st_sq ce_set_sq ce_vw ce_st_vw ce_set_vw ce_tm ce_st_tm ce_set_tm ce_body ce_st_body ce_set_body ce_vs ce_st_vs ce_set_vs zce_len zce_sure zce_lt1 zce_sl zce_ro zce_setz zce_set zce_setr zce_take ces_ltA ces_len cg_it cg_len cg_sure cg_ltA cg_lt1 cg_all1 cg_ro cg_take cg_sl cg_set cg_noT cg_fr cg_st_fr cg_set_fr cg_vw cg_st_vw cg_set_vw cg_st cg_st_st cg_set_st cg_rt cg_st_rt cg_set_rt cg_pf cg_st_pf cg_set_pf cg_cs cg_st_cs cg_set_cs zcg_len zcg_sure zcg_lt1 zcg_sl zcg_ro zcg_setz zcg_set zcg_setr zcg_take cgs_ltA cgs_len ms_it ms_len ms_sure ms_ltA ms_lt1 ms_all1 ms_ro ms_take ms_sl ms_set ms_noT ms_kd ms_st_kd ms_set_kd ms_fr ms_st_fr ms_set_fr ms_vw ms_st_vw ms_set_vw ms_sq ms_st_sq ms_set_sq ms_tm ms_st_tm ms_set_tm ms_body ms_st_body ms_set_body ms_vs ms_st_vs ms_set_vs ms_chs ms_st_chs ms_set_chs zms_len zms_sure zms_lt1 zms_sl zms_ro zms_setz zms_set zms_setr zms_take mss_ltA mss_len co_it co_len co_sure co_ltA co_lt1 co_all1 co_ro co_take co_sl co_set co_noT co_sq co_st_sq co_set_sq co_tm co_st_tm co_set_tm co_body co_st_body co_set_body co_nl co_st_nl co_set_nl zco_len zco_sure zco_lt1 zco_sl zco_ro zco_setz zco_set zco_setr zco_take cos_ltA cos_len sd_it sd_len sd_sure sd_ltA sd_lt1 sd_all1 sd_ro sd_take sd_sl sd_set sd_noT sd_wh sd_st_wh sd_set_wh sd_fr sd_st_fr sd_set_fr sd_kd sd_st_kd sd_set_kd sd_vw sd_st_vw sd_set_vw sd_sq sd_st_sq sd_set_sq sd_tm sd_st_tm sd_set_tm sds_ltA sds_len natInt u_nthM u_bz u_bi1 u_bi2 u_bi3 u_bi4 u_bi5 u_bi6 u_bi7 scM_0 scM_1 scM_2 scM_3 scM_4 scM_5 scY_0 scY_1 scY_2 scY_3 scY_4 scY_5 scS_0 scS_1 scS_2 scS_3 scS_4 scS_5 scT_0 scT_1 scT_2 scT_3 scT_4 scT_5 scB_0 scB_k scBs_0 scBs_k scM_len sc_take sc_takeY List.append_assoc Nat.le_add_right ltO_o ltO_r u_eqE
attribute [local go_sem_proc] Nat.reduceAdd Nat.reduceSub Nat.reduceMul Nat.reduceLeDiff Nat.reduceLT Int.reduceEq Int.reduceNe Int.reduceLT Int.reduceLE Int.reduceAdd Int.reduceSub Int.reduceMul Int.reduceNeg Int.reduceToNat reduceCtorEq Nat.reduceEqDiff Nat.reduceBEq Nat.reduceGT
attribute [local go_sem_proc ↓] reduceIte
def okS (n : Int) (bd : List Bool) (p : Int) (s : Sm) : Bool := (decide (0 ≤ p) && decide (p < n)) && (decide (s.fr = p) || (badB n bd p && badB n bd s.fr))
def sayR (σ : Sg) (p : Int) (s : Sm) : List Sm := if okS σ.n σ.bd p s = true ∧ s ∉ σ.R ∧ σ.R.length < 65536 then σ.R ++ [s] else σ.R
def sayE (σ : Sg) (p : Int) (s : Sm) : Int := if (decide (0 ≤ p) && decide (p < σ.n)) = false then 4 else if okS σ.n σ.bd p s = false then 19 else if s ∈ σ.R then 0 else if 65536 ≤ σ.R.length then 5 else 0
theorem rr_k {L : List Sm} : (rrO L).k = 2 := _root_.id rfl
theorem rr_e {L : List Sm} : (rrO L).e = ty_api_Stmt := _root_.id rfl
theorem rr_z {L : List Sm} : (rrO L).z = 5 := _root_.id rfl
theorem rr_c {L : List Sm} : (rrO L).c = L.map smE := _root_.id rfl
theorem rr_one {L : List Sm} {s : Sm} : (⟨2,ty_api_Stmt,5,L.map smE ++ [.agg (smC s)]⟩ : AObj) = rrO (L ++ [s]) := by simp [rrO,smE]
theorem say2_s (m : Nat) (A B : List AObj) (σ : Sg) (s : Sm) (hG : GB A B) (hσ : SgOk σ) (hs : SmI s) (hl : σ.R.length < 65536) :
  ring_Ring_Say_r2 m (nAB A B) ⟨sc A B σ ++ [⟨1,ty_api_Stmt,0,smC s⟩],[(0,OP (A.length + 4) 0),(5,OP (nAB A B) 0)]⟩ = some (nA 0,sc A B { σ with R := σ.R ++ [s] }) := by
 have hlt := fun {L : List (List UInt8)} {n : Int} {bd : List Bool} {R : List Sm}=>scM_lt hG (L := L) (n := n) (bd := bd) (R := R)
 have hb := hσ.bl
 obtain ⟨T,n,bd,R⟩ := σ
 dsimp only at *
 have hm1 := fun {L : List Sm} (K : AV → RO)=>rg_m (a := A.length + 3) (n := n) (bd := bd) (L := L) (K := K) hb
 have hr1 := fun {L : List Sm} (K : AV → RO)=>rg_r (a := A.length + 3) (n := n) (bd := bd) (L := L) (K := K) hb
 have hp1 := fun (K : AObj → RO)=>rg_putR (a := A.length + 3) (n := n) (bd := bd) (L := R) (K2 := K) hb s
 have hpu := fun (K : List AObj → RO)=>u_putS (K := K) (s := s) (sc_get3Y (A := A) (B := B) (Y := [⟨1,ty_api_Stmt,0,smC s⟩]) (o0 := tmO T) (o1 := ttO A.length T) (o2 := trO T) (o3 := rmO R) (o4 := rgO (A.length + 3) n bd (R ++ [s])) (o5 := rrO (R ++ [s]))) hs (by omega)
 have hx : (R ++ [s]).length = R.length + 1 := by simp
 have hbb : R.length + 1 ≤ 34359738368 := by omega
 have e3 : A.length + 3 + 2 = A.length + 5 := rfl
 have hp1 := fun (K : AObj → RO)=>(show putE (rgO (A.length + 3) n bd R) 1 66 (OW (A.length + 5) (R.length + 1)) K = _ from hp1 K)
 rw [ring_Ring_Say_r2_eq]
 unfold sc
 simp (config := {maxSteps := 4000000,implicitDefEqProofs := false}) (disch := omega) only [go_sem,rg_cells,hm1,hr1,e3,rr_k,rr_e,rr_z,rr_c,rr_one,hp1,hpu,hx,hbb,hlt]
theorem say1_s (m : Nat) (A B : List AObj) (σ : Sg) (s : Sm) (b : Bool) (hG : GB A B) (hσ : SgOk σ) (hs : SmI s) :
  ring_Ring_Say_r1 m (nAB A B) ⟨sc A B σ ++ [⟨1,ty_api_Stmt,0,smC s⟩],[(0,OP (A.length + 4) 0),(5,OP (nAB A B) 0),(12,bA b)]⟩ = some (nA (if b = true then 19 else if s ∈ σ.R then 0 else if 65536 ≤ σ.R.length then 5 else 0),sc A B { σ with R := if b = false ∧ s ∉ σ.R ∧ σ.R.length < 65536 then σ.R ++ [s] else σ.R }) := by
 have hk := fun (X : AV) h=>sc_keepY (A := A) (B := B) (Y := [⟨1,ty_api_Stmt,0,smC s⟩]) (σ := σ) (X := X) hG h
 have hh := ghas_s m A (B ++ [⟨1,ty_api_Stmt,0,smC s⟩]) σ s (hG.app fun n=>by simp [sm_ltA,ltO]) hσ hs
 rw [sc_app] at hh
 have hlt := fun {L : List (List UInt8)} {n : Int} {bd : List Bool} {R : List Sm}=>scM_lt hG (L := L) (n := n) (bd := bd) (R := R)
 have hb := hσ.bl
 have hr1 := fun {L : List Sm} (K : AV → RO)=>rg_r (a := A.length + 3) (n := σ.n) (bd := σ.bd) (L := L) (K := K) hb
 have e3 : A.length + 3 + 2 = A.length + 5 := rfl
 rw [ring_Ring_Say_r1_eq]
 cases b with
 |true =>
  unfold sc at *
  simp (config := {maxSteps := 4000000,implicitDefEqProofs := false}) (disch := omega) only [go_sem,hlt]
 |false =>
  rw [sm_it] at hh
  by_cases h1 : s ∈ σ.R
  ·have h1' : decide (s ∈ σ.R) = true := decide_eq_true h1
   rw [h1'] at hh
   unfold sc at *
   simp (config := {maxSteps := 4000000,implicitDefEqProofs := false}) (disch := omega) only [go_sem,hh,h1,hlt]
  ·have h1' : decide (s ∈ σ.R) = false := decide_eq_false h1
   rw [h1'] at hh
   by_cases h2 : 65536 ≤ σ.R.length
   ·have h2' : (65536 : Int) ≤ (σ.R.length : Int) := by omega
    have h3 : ¬ σ.R.length < 65536 := by omega
    unfold sc at *
    simp (config := {maxSteps := 4000000,implicitDefEqProofs := false}) (disch := omega) only [go_sem,hh,h1,h2,h2',h3,rg_cells,hr1,e3,hlt]
   ·have h2' : ¬ (65536 : Int) ≤ (σ.R.length : Int) := by omega
    have h3 : σ.R.length < 65536 := by omega
    have h4 := say2_s m A B σ s hG hσ hs h3
    unfold sc at *
    simp (config := {maxSteps := 4000000,implicitDefEqProofs := false}) (disch := omega) only [go_sem,hh,h1,h2,h2',h3,h4,rg_cells,hr1,e3,hlt]
theorem gsay_s (m : Nat) (A B : List AObj) (σ : Sg) (p : Int) (s : Sm) (hG : GB A B) (hσ : SgOk σ) (hs : SmI s) :
  ring_Ring_Say m (OP (A.length + 4) 0) (nA p) (smE s) (sc A B σ) = some (nA (sayE σ p s),sc A B { σ with R := sayR σ p s }) := by
 have hG1 : GB A (B ++ [⟨1,ty_api_Stmt,0,smC s⟩]) := hG.app fun n=>by simp [sm_ltA,ltO]
 have hi := gis_s m A (B ++ [⟨1,ty_api_Stmt,0,smC s⟩]) σ p hG1
 have hb1 := gbad_s m A (B ++ [⟨1,ty_api_Stmt,0,smC s⟩]) σ p hG1 hσ
 have hb2 := gbad_s m A (B ++ [⟨1,ty_api_Stmt,0,smC s⟩]) σ s.fr hG1 hσ
 rw [sc_app] at hi hb1 hb2
 have h19 := fun b=>say1_s m A B σ s b hG hσ hs
 have hlt := fun {L : List (List UInt8)} {n : Int} {bd : List Bool} {R : List Sm}=>scM_lt hG (L := L) (n := n) (bd := bd) (R := R)
 rw [ring_Ring_Say_eq,sm_it]
 unfold sayE sayR okS
 cases h1 : (decide (0 ≤ p) && decide (p < σ.n)) with
 |false =>
  rw [h1] at hi
  unfold sc at *
  simp (config := {maxSteps := 4000000,implicitDefEqProofs := false}) (disch := omega) only [go_sem,hi,hlt]
 |true =>
  rw [h1] at hi
  by_cases h2 : s.fr = p
  ·have := h19 false
   unfold sc at *
   simp (config := {maxSteps := 4000000,implicitDefEqProofs := false}) (disch := omega) only [go_sem,hi,h2,this,hlt]
  ·cases h3 : badB σ.n σ.bd p with
   |false =>
    rw [h3] at hb1
    have := h19 true
    unfold sc at *
    simp (config := {maxSteps := 4000000,implicitDefEqProofs := false}) (disch := omega) only [go_sem,hi,h2,hb1,this,hlt]
   |true =>
    rw [h3] at hb1
    cases h4 : badB σ.n σ.bd s.fr with
    |false =>
     rw [h4] at hb2
     have := h19 true
     unfold sc at *
     simp (config := {maxSteps := 4000000,implicitDefEqProofs := false}) (disch := omega) only [go_sem,hi,h2,hb1,hb2,this,hlt]
    |true =>
     rw [h4] at hb2
     have := h19 false
     unfold sc at *
     simp (config := {maxSteps := 4000000,implicitDefEqProofs := false}) (disch := omega) only [go_sem,hi,h2,hb1,hb2,this,hlt]
end Go.Proofs.Ytaaogcnjfkgnoaa

namespace Go.Proofs.Ytaaogcnjfkgnoaa
open Go.RowKit
attribute [local go_sem] Nat.zero_add Nat.add_zero Nat.mul_one Int.toNat_natCast Int.natCast_zero Int.cast_ofNat_Int or_false false_or or_true true_or Nat.sub_zero Int.natCast_nonneg Int.toNat_zero Bool.true_and Bool.and_true Bool.false_and Bool.and_false Bool.true_or Bool.or_true Bool.false_or Bool.or_false Bool.not_true Bool.not_false Bool.not_not true_and and_true false_and and_false not_true_eq_false not_false_eq_true eq_self decide_true decide_false ne_eq implies_true forall_const true_implies false_implies Bool.true_eq_false Bool.false_eq_true List.map_cons List.map_nil List.all_cons List.all_nil List.length_cons List.length_nil List.length_map List.length_append List.nil_append List.cons_append List.set_cons_zero List.set_cons_succ List.set_nil List.drop_zero List.drop_succ_cons List.drop_nil List.take_zero List.take_succ_cons List.take_nil Option.map_some Option.map_none Option.isSome_some List.all_append List.all_map Function.comp_def decide_eq_true_eq Bool.and_eq_true beq_self_eq_true or_self and_self ite_true ite_false Nat.le_refl Bool.not_eq_true decide_not Bool.not_eq_true' decide_eq_false_iff_not Bool.not_eq_false Bool.or_eq_true if_true if_false ite_self u_roF u_cvF u_cvC u_ceT u_ceK u_appS sm_it sm_len sm_sure sm_ltA sm_lt1 sm_all1 sm_ro sm_take sm_sl sm_set sm_noT sm_fr sm_st_fr sm_set_fr sm_kd sm_st_kd sm_set_kd sm_vw sm_st_vw sm_set_vw sm_sq sm_st_sq sm_set_sq sm_tm sm_st_tm sm_set_tm zsm_len zsm_sure zsm_lt1 zsm_sl zsm_ro zsm_setz zsm_set zsm_setr zsm_take sms_ltA sms_len ce_it ce_len ce_sure ce_ltA ce_lt1 ce_all1 ce_ro ce_take ce_sl ce_set ce_noT ce_sq ce_st_sq ce_set_sq ce_vw ce_st_vw ce_set_vw ce_tm ce_st_tm ce_set_tm ce_body ce_st_body ce_set_body ce_vs ce_st_vs ce_set_vs zce_len zce_sure zce_lt1 zce_sl zce_ro zce_setz zce_set zce_setr zce_take ces_ltA ces_len cg_it cg_len cg_sure cg_ltA cg_lt1 cg_all1 cg_ro cg_take cg_sl cg_set cg_noT cg_fr cg_st_fr cg_set_fr cg_vw cg_st_vw cg_set_vw cg_st cg_st_st cg_set_st cg_rt cg_st_rt cg_set_rt cg_pf cg_st_pf cg_set_pf cg_cs cg_st_cs cg_set_cs zcg_len zcg_sure zcg_lt1 zcg_sl zcg_ro zcg_setz zcg_set zcg_setr zcg_take cgs_ltA cgs_len ms_it ms_len ms_sure ms_ltA ms_lt1 ms_all1 ms_ro ms_take ms_sl ms_set ms_noT ms_kd ms_st_kd ms_set_kd ms_fr ms_st_fr ms_set_fr ms_vw ms_st_vw ms_set_vw ms_sq ms_st_sq ms_set_sq ms_tm ms_st_tm ms_set_tm ms_body ms_st_body ms_set_body ms_vs ms_st_vs ms_set_vs ms_chs ms_st_chs ms_set_chs zms_len zms_sure zms_lt1 zms_sl zms_ro zms_setz zms_set zms_setr zms_take mss_ltA mss_len co_it co_len co_sure co_ltA co_lt1 co_all1 co_ro co_take co_sl co_set co_noT co_sq co_st_sq co_set_sq co_tm co_st_tm co_set_tm co_body co_st_body co_set_body co_nl co_st_nl co_set_nl zco_len zco_sure zco_lt1 zco_sl zco_ro zco_setz zco_set zco_setr zco_take cos_ltA cos_len sd_it sd_len sd_sure sd_ltA sd_lt1 sd_all1 sd_ro sd_take sd_sl sd_set sd_noT sd_wh sd_st_wh sd_set_wh sd_fr sd_st_fr sd_set_fr sd_kd sd_st_kd sd_set_kd sd_vw sd_st_vw sd_set_vw sd_sq sd_st_sq sd_set_sq sd_tm sd_st_tm sd_set_tm sds_ltA sds_len natInt u_nthM u_bz u_bi1 u_bi2 u_bi3 u_bi4 u_bi5 u_bi6 u_bi7 scM_0 scM_1 scM_2 scM_3 scM_4 scM_5 scY_0 scY_1 scY_2 scY_3 scY_4 scY_5 scS_0 scS_1 scS_2 scS_3 scS_4 scS_5 scT_0 scT_1 scT_2 scT_3 scT_4 scT_5 scB_0 scB_k scBs_0 scBs_k scM_len sc_take sc_takeY List.append_assoc Nat.le_add_right ltO_o ltO_r u_eqE
attribute [local go_sem_proc] Nat.reduceAdd Nat.reduceSub Nat.reduceMul Nat.reduceLeDiff Nat.reduceLT Int.reduceEq Int.reduceNe Int.reduceLT Int.reduceLE Int.reduceAdd Int.reduceSub Int.reduceMul Int.reduceNeg Int.reduceToNat reduceCtorEq Nat.reduceEqDiff Nat.reduceBEq Nat.reduceGT
attribute [local go_sem_proc ↓] reduceIte
theorem u_eqSm {R : Type} {x y : Sm} {isB sl : Bool} {K1 : AV → Option R} : binE (some [.i .i64, .i .i64, .i .i64, .i .i64, .i .i64]) isB sl .eql (.agg (smC x)) (.agg (smC y)) K1 = K1 (bA (decide (x = y))) := by
 show K1 (bA (decide (x.fr = y.fr) && (decide (x.kd = y.kd) && (decide (x.vw = y.vw) && (decide (x.sq = y.sq) && (decide (x.tm = y.tm) && true)))))) = _
 congr 2
 obtain ⟨a,b,c,d,e⟩ := x
 obtain ⟨a',b',c',d',e'⟩ := y
 rw [Bool.eq_iff_iff]
 simp [and_assoc]
def hitB (w : Sm) (R : List Sm) (x : Sm) : Bool := decide (x = { w with fr := x.fr }) && decide (x ∈ R)
def spS (w : Sm) (R : List Sm) (b : List Bool) (x : Sm) : List Bool := if hitB w R x = true then b.set x.fr.toNat true else b
def spL (w : Sm) (R : List Sm) (l : List Sm) : List Bool := l.foldl (spS w R) (List.replicate 64 false)
theorem spS_len {w : Sm} {R : List Sm} {b : List Bool} {x : Sm} : (spS w R b x).length = b.length := by
 unfold spS
 split <;> simp
theorem spL_len {w : Sm} {R : List Sm} : ∀ (l : List Sm) (b : List Bool),(l.foldl (spS w R) b).length = b.length
 |[],b=>rfl
 |x :: l,b=>by
  show (l.foldl (spS w R) (spS w R b x)).length = _
  rw [spL_len l,spS_len]
theorem spL_64 {w : Sm} {R : List Sm} {l : List Sm} : (spL w R l).length = 64 := by unfold spL;rw [spL_len];simp
theorem spL_snoc {w : Sm} {R : List Sm} {l : List Sm} {k : Nat} (h : k < l.length) : spL w R (l.take (k + 1)) = spS w R (spL w R (l.take k)) l[k] := by
 unfold spL
 rw [List.take_succ_eq_append_getElem h,List.foldl_append]
 rfl
def wK (w : Sm) (l : List Sm) : Nat → Sm
 |0=>w
 |k + 1=>{ w with fr := (l.getD k Sm.zero).fr }
theorem wK_set {w : Sm} {l : List Sm} : ∀ k : Nat,({ wK w l k with fr := (l.getD k Sm.zero).fr } : Sm) = wK w l (k + 1)
 |0=>rfl
 |k + 1=>rfl
def vA (b : List Bool) : AObj := ⟨1,ty_a64_bool,0,b.map bA⟩
theorem vA_cells {R : Type} {b : List Bool} {K : List AV → Option R} : cellsE (vA b) K = K (b.map bA) := by unfold vA;exact u_cl1
theorem vA_put {R : Type} {b : List Bool} (hb : b.length = 64) {k : Nat} (hk : k < 64) {K : AObj → Option R} {x : Bool} : putE (vA b) 1 k (bA x) K = K (vA (b.set k x)) := by
 unfold vA
 rw [u_pt1]
 have h1 : setCells (b.map bA) k (cellsOf (bA x)) = (b.set k x).map bA := by
  show (b.map bA).set k (bA x) = _
  rw [List.map_set]
 rw [h1,List.length_map,hb,show decide (k + szOf 1 ≤ 64) = true from decide_eq_true (by simp [szOf];omega)]
 rfl
theorem bA_ltA {n : Nat} {b : List Bool} : (b.map bA).all (ltA n) = true := by rw [List.all_map];exact List.all_eq_true.2 fun _ _=>rfl
theorem vA_lt {n : Nat} {b : List Bool} : ltO n (vA b) = true := by
 show ((1 : Nat) == 0 || (b.map bA).all (ltA n)) = true
 rw [bA_ltA];rfl
theorem smO_lt {n : Nat} {s : Sm} : ltO n ⟨1,ty_api_Stmt,0,smC s⟩ = true := by
 show ((1 : Nat) == 0 || (smC s).all (ltA n)) = true
 rw [sm_ltA];rfl
theorem zc_bool : (⟨1,ty_a64_bool,0,zc_a64_bool⟩ : AObj) = vA (List.replicate 64 false) := by
 unfold vA zc_a64_bool
 rfl
def outL (b : List Bool) (k : Nat) : List Int := ((List.range k).filter fun p=>b.getD p false).map fun p=>((p : Nat) : Int)
theorem outL_succ {b : List Bool} {k : Nat} : outL b (k + 1) = if b.getD k false = true then outL b k ++ [(k : Int)] else outL b k := by
 unfold outL
 rw [List.range_succ,List.filter_append,List.map_append]
 cases h : b.getD k false with
 |true=>simp only [List.filter_cons,List.filter_nil,h];rfl
 |false=>simp only [List.filter_cons,List.filter_nil,h];simp
theorem outL_len {b : List Bool} {k : Nat} : (outL b k).length ≤ k := by
 unfold outL
 rw [List.length_map]
 exact Nat.le_trans (List.length_filter_le ..) (by simp)
theorem loop2_s (m : Nat) (A B : List AObj) (σ : Sg) (w : Sm) (b : List Bool) (hb : b.length = 64) (hG : GB A B) (hm : 70 < m) :
  ring_Ring_Voices_r1 m (nAB A B) ⟨sc A B σ ++ [⟨1,ty_api_Stmt,0,smC w⟩,vA b],[(7,OP (nAB A B + 1) 0)]⟩ = some (SL ((outL b 64).map nA),sc A B σ) := by
 have hlt := sc_lt (σ := σ) hG (Nat.le_refl _)
 rw [ring_Ring_Voices_r1_eq]
 have hd : (b.map bA).take 64 = b.map bA := by rw [List.take_of_length_le (by simp [hb])]
 simp (config := {maxSteps := 4000000,implicitDefEqProofs := false}) (disch := omega) only [go_sem,s_B0,s_Bk,vA_cells,hb,hd,sc_len]
 refine iter_go (m := m) (ι := {k : Nat // k ≤ 64}) (fun k=>⟨sc A B σ ++ [⟨1,ty_api_Stmt,0,smC w⟩,vA b,⟨2,ty_int,1,(outL b k.1).map nA⟩],[(10,OW (nAB A B + 2) (outL b k.1).length),(34, .agg (b.map bA)),(35,nA k.1)]⟩) (fun k=>64 - k.1) (fun _=>some (SL ((outL b 64).map nA),sc A B σ)) ?_ ⟨0,Nat.zero_le _⟩ (by dsimp only;omega)
 rintro kx hkx ⟨k,hk⟩ kc hkc
 dsimp only at hkc ⊢
 rw [ring_Ring_Voices_b2_eq]
 by_cases h : k < 64
 ·have h' : (k : Int) < 64 := by omega
  have step := hkc ⟨k + 1,by omega⟩ (by dsimp only;omega)
  dsimp only at step
  have ho := outL_succ (b := b) (k := k)
  have hg : ∀ K : AV → RO,nthE (b.map bA) k K = K (bA (b.getD k false)) := fun K=>by
   unfold nthE
   rw [List.getElem?_map,List.getD_eq_getElem?_getD,List.getElem?_eq_getElem (by omega)]
   rfl
  have hol := outL_len (b := b) (k := k)
  have hB := fun n=>smO_lt (n := n) (s := w)
  have hV := fun n=>vA_lt (n := n) (b := b)
  have hlt3 := sc_lt (σ := σ) hG (n := nAB A B + 3) (by omega)
  have hw : IntKind.i64.wrap ((k : Int) + 1) = (k : Int) + 1 := w_i64 (by omega) (by omega)
  have hl2 : (outL b k).length ≤ 34359738367 := by omega
  have hbt : ∀ n,(b.map bA).all (lt1 n) = true := fun n=>by rw [List.all_map];exact List.all_eq_true.2 fun _ _=>rfl
  cases hbk : b.getD k false with
  |true =>
   rw [hbk,if_pos rfl] at ho
   rw [hbk] at hg
   rw [ho] at step
   have hr : (⟨2,ty_int,1,(outL b k).map nA ++ [nA k]⟩ : AObj) = ⟨2,ty_int,1,(outL b k ++ [(k : Int)]).map nA⟩ := by simp
   simp (config := {maxSteps := 4000000,implicitDefEqProofs := false}) (disch := omega) only [go_sem,h,h',hg,szOf,s_B0,s_Bk,s_Bsk,s_takeK,hlt3,hB,hV,hl2,hr,hw,Nat.add_lt_add_iff_left,sc_len,ring_Ring_Voices_r4_eq]
   simpa using step
  |false =>
   rw [hbk,if_neg (by decide)] at ho
   rw [hbk] at hg
   rw [ho] at step
   simp (config := {maxSteps := 4000000,implicitDefEqProofs := false}) (disch := omega) only [go_sem,h,h',hg,szOf,s_B0,s_Bk,s_Bsk,s_takeK,hlt3,hB,hV,nas_ltA,hw,Nat.add_lt_add_iff_left,sc_len,ring_Ring_Voices_r4_eq]
   simpa using step
 ·obtain rfl : k = 64 := by omega
  have hro : ro1 (sc A B σ ++ [⟨1,ty_api_Stmt,0,smC w⟩,vA b,⟨2,ty_int,1,(outL b 64).map nA⟩]) (OW (nAB A B + 2) (outL b 64).length) = SL ((outL b 64).map nA) := ro1W s_get (by simp)
  simp (config := {maxSteps := 4000000,implicitDefEqProofs := false}) (disch := omega) only [go_sem,h,hkx,ring_Ring_Voices_r3_eq,s_B0,s_Bk,sc_len,s_takeY,hlt,hro,nas_lt]
end Go.Proofs.Ytaaogcnjfkgnoaa

namespace Go.Proofs.Ytaaogcnjfkgnoaa
open Go.RowKit
attribute [local go_sem] Nat.zero_add Nat.add_zero Nat.mul_one Int.toNat_natCast Int.natCast_zero Int.cast_ofNat_Int or_false false_or or_true true_or Nat.sub_zero Int.natCast_nonneg Int.toNat_zero Bool.true_and Bool.and_true Bool.false_and Bool.and_false Bool.true_or Bool.or_true Bool.false_or Bool.or_false Bool.not_true Bool.not_false Bool.not_not true_and and_true false_and and_false not_true_eq_false not_false_eq_true eq_self decide_true decide_false ne_eq implies_true forall_const true_implies false_implies Bool.true_eq_false Bool.false_eq_true List.map_cons List.map_nil List.all_cons List.all_nil List.length_cons List.length_nil List.length_map List.length_append List.nil_append List.cons_append List.set_cons_zero List.set_cons_succ List.set_nil List.drop_zero List.drop_succ_cons List.drop_nil List.take_zero List.take_succ_cons List.take_nil Option.map_some Option.map_none Option.isSome_some List.all_append List.all_map Function.comp_def decide_eq_true_eq Bool.and_eq_true beq_self_eq_true or_self and_self ite_true ite_false Nat.le_refl Bool.not_eq_true decide_not Bool.not_eq_true' decide_eq_false_iff_not Bool.not_eq_false Bool.or_eq_true if_true if_false ite_self u_roF u_cvF u_cvC u_ceT u_ceK u_appS sm_it sm_len sm_sure sm_ltA sm_lt1 sm_all1 sm_ro sm_take sm_sl sm_set sm_noT sm_fr sm_st_fr sm_set_fr sm_kd sm_st_kd sm_set_kd sm_vw sm_st_vw sm_set_vw sm_sq sm_st_sq sm_set_sq sm_tm sm_st_tm sm_set_tm zsm_len zsm_sure zsm_lt1 zsm_sl zsm_ro zsm_setz zsm_set zsm_setr zsm_take sms_ltA sms_len ce_it ce_len ce_sure ce_ltA ce_lt1 ce_all1 ce_ro ce_take ce_sl ce_set ce_noT ce_sq ce_st_sq ce_set_sq ce_vw ce_st_vw ce_set_vw ce_tm ce_st_tm ce_set_tm ce_body ce_st_body ce_set_body ce_vs ce_st_vs ce_set_vs zce_len zce_sure zce_lt1 zce_sl zce_ro zce_setz zce_set zce_setr zce_take ces_ltA ces_len cg_it cg_len cg_sure cg_ltA cg_lt1 cg_all1 cg_ro cg_take cg_sl cg_set cg_noT cg_fr cg_st_fr cg_set_fr cg_vw cg_st_vw cg_set_vw cg_st cg_st_st cg_set_st cg_rt cg_st_rt cg_set_rt cg_pf cg_st_pf cg_set_pf cg_cs cg_st_cs cg_set_cs zcg_len zcg_sure zcg_lt1 zcg_sl zcg_ro zcg_setz zcg_set zcg_setr zcg_take cgs_ltA cgs_len ms_it ms_len ms_sure ms_ltA ms_lt1 ms_all1 ms_ro ms_take ms_sl ms_set ms_noT ms_kd ms_st_kd ms_set_kd ms_fr ms_st_fr ms_set_fr ms_vw ms_st_vw ms_set_vw ms_sq ms_st_sq ms_set_sq ms_tm ms_st_tm ms_set_tm ms_body ms_st_body ms_set_body ms_vs ms_st_vs ms_set_vs ms_chs ms_st_chs ms_set_chs zms_len zms_sure zms_lt1 zms_sl zms_ro zms_setz zms_set zms_setr zms_take mss_ltA mss_len co_it co_len co_sure co_ltA co_lt1 co_all1 co_ro co_take co_sl co_set co_noT co_sq co_st_sq co_set_sq co_tm co_st_tm co_set_tm co_body co_st_body co_set_body co_nl co_st_nl co_set_nl zco_len zco_sure zco_lt1 zco_sl zco_ro zco_setz zco_set zco_setr zco_take cos_ltA cos_len sd_it sd_len sd_sure sd_ltA sd_lt1 sd_all1 sd_ro sd_take sd_sl sd_set sd_noT sd_wh sd_st_wh sd_set_wh sd_fr sd_st_fr sd_set_fr sd_kd sd_st_kd sd_set_kd sd_vw sd_st_vw sd_set_vw sd_sq sd_st_sq sd_set_sq sd_tm sd_st_tm sd_set_tm sds_ltA sds_len natInt u_nthM u_bz u_bi1 u_bi2 u_bi3 u_bi4 u_bi5 u_bi6 u_bi7 scM_0 scM_1 scM_2 scM_3 scM_4 scM_5 scY_0 scY_1 scY_2 scY_3 scY_4 scY_5 scS_0 scS_1 scS_2 scS_3 scS_4 scS_5 scT_0 scT_1 scT_2 scT_3 scT_4 scT_5 scB_0 scB_k scBs_0 scBs_k scM_len sc_take sc_takeY List.append_assoc Nat.le_add_right ltO_o ltO_r u_eqE
attribute [local go_sem_proc] Nat.reduceAdd Nat.reduceSub Nat.reduceMul Nat.reduceLeDiff Nat.reduceLT Int.reduceEq Int.reduceNe Int.reduceLT Int.reduceLE Int.reduceAdd Int.reduceSub Int.reduceMul Int.reduceNeg Int.reduceToNat reduceCtorEq Nat.reduceEqDiff Nat.reduceBEq Nat.reduceGT
attribute [local go_sem_proc ↓] reduceIte
theorem gvoices_s (m : Nat) (A B : List AObj) (σ : Sg) (l : List Sm) (w : Sm) (hG : GB A B) (hσ : SgOk σ) (hm : 70 < m) (hlm : l.length < m) (hll : l.length ≤ 1000000) (hli : ∀ x ∈ l,SmI x) :
  ring_Ring_Voices m (OP (A.length + 4) 0) (SL (l.map smE)) (smE w) (sc A B σ) = some (SL ((outL (spL w σ.R l) 64).map nA),sc A B σ) := by
 rw [ring_Ring_Voices_eq,sm_it]
 have hn2 := hσ.n2
 simp (config := {maxSteps := 4000000,implicitDefEqProofs := false}) (disch := omega) only [go_sem,sc_len,zc_bool]
 refine iter_go (m := m) (ι := {k : Nat // k ≤ l.length}) (fun k=>⟨sc A B σ ++ [⟨1,ty_api_Stmt,0,smC (wK w l k.1)⟩,vA (spL w σ.R (l.take k.1))],[(0,OP (A.length + 4) 0),(5,OP (nAB A B) 0),(7,OP (nAB A B + 1) 0),(13,SL (l.map smE)),(14,nA l.length),(15,nA k.1)]⟩) (fun k=>l.length - k.1) (fun _=>some (SL ((outL (spL w σ.R l) 64).map nA),sc A B σ)) ?_ ⟨0,Nat.zero_le _⟩ (by dsimp only;omega)
 rintro kx hkx ⟨k,hk⟩ kc hkc
 dsimp only at hkc ⊢
 rw [ring_Ring_Voices_b1_eq]
 have hW := fun n=>smO_lt (n := n) (s := wK w l k)
 by_cases h : k < l.length
 ·have h' : (k : Int) < (l.length : Int) := by omega
  have step := hkc ⟨k + 1,by omega⟩ (by dsimp only;omega)
  dsimp only at step
  rw [spL_snoc h] at step
  have hgk : l.getD k Sm.zero = l[k] := by simp [List.getD,h]
  have hset := wK_set (w := w) (l := l) k
  rw [hgk] at hset
  have hV := fun {b : List Bool} n=>vA_lt (n := n) (b := b)
  have hlt2 := sc_lt (σ := σ) hG (n := nAB A B + 2) (by omega)
  have hsi := hli l[k] (List.getElem_mem h)
  have h4 : A.length + 4 < nAB A B + 2 := by unfold nAB;omega
  have hw1 : IntKind.i64.wrap ((k : Int) + 1) = (k : Int) + 1 := w_i64 (by omega) (by omega)
  have h64 := spL_64 (w := w) (R := σ.R) (l := l.take k)
  generalize hb : spL w σ.R (l.take k) = b at *
  have hW2 := fun n=>smO_lt (n := n) (s := wK w l (k + 1))
  have hS := fun n=>smO_lt (n := n) (s := l[k])
  have hhas := ghas_s m A (B ++ [⟨1,ty_api_Stmt,0,smC (wK w l (k + 1))⟩,vA b,⟨1,ty_api_Stmt,0,smC l[k]⟩]) σ l[k] (hG.app fun n=>by simp [hW2,hV,hS]) hσ hsi
  rw [sc_app,sm_it] at hhas
  have hwk : wK w l (k + 1) = { w with fr := l[k].fr } := by show ({ w with fr := (l.getD k Sm.zero).fr } : Sm) = _;rw [hgk]
  by_cases h1 : l[k] = wK w l (k + 1)
  ·have h1' : decide (l[k] = wK w l (k + 1)) = true := decide_eq_true h1
   by_cases h2 : l[k] ∈ σ.R
   ·have h2' : decide (l[k] ∈ σ.R) = true := decide_eq_true h2
    rw [h2'] at hhas
    obtain ⟨f0,f1⟩ := hσ.rf _ h2
    have f2 : l[k].fr < 64 := by omega
    have f3 : l[k].fr.toNat < 64 := by omega
    have hp := fun (K : AObj → RO)=>vA_put (b := b) h64 f3 (K := K) (x := true)
    have hsp : spS w σ.R b l[k] = b.set l[k].fr.toNat true := by
     unfold spS hitB
     rw [← hwk,h1',h2']
     rfl
    rw [hsp] at step
    simp (config := {maxSteps := 4000000,implicitDefEqProofs := false}) (disch := omega) only [go_sem,h,h',hset,s_B0,s_Bk,s_Bs0,s_Bsk,s_takeK,hlt2,hW2,hV,hS,h1',hhas,hp,f0,f2,szOf,u_eqSm,hw1,h4,Nat.add_lt_add_iff_left,sc_len,ring_Ring_Voices_r2_eq,ring_Ring_Voices_r5_eq]
    exact step
   ·have h2' : decide (l[k] ∈ σ.R) = false := decide_eq_false h2
    rw [h2'] at hhas
    have hsp : spS w σ.R b l[k] = b := by
     unfold spS hitB
     rw [h2',Bool.and_false]
     rfl
    rw [hsp] at step
    simp (config := {maxSteps := 4000000,implicitDefEqProofs := false}) (disch := omega) only [go_sem,h,h',hset,s_B0,s_Bk,s_Bs0,s_Bsk,s_takeK,hlt2,hW2,hV,hS,h1',hhas,szOf,u_eqSm,hw1,h4,Nat.add_lt_add_iff_left,sc_len,ring_Ring_Voices_r2_eq,ring_Ring_Voices_r5_eq]
    exact step
  ·have h1' : decide (l[k] = wK w l (k + 1)) = false := decide_eq_false h1
   have hsp : spS w σ.R b l[k] = b := by
    unfold spS hitB
    rw [← hwk,h1']
    rfl
   rw [hsp] at step
   simp (config := {maxSteps := 4000000,implicitDefEqProofs := false}) (disch := omega) only [go_sem,h,h',hset,s_B0,s_Bk,s_Bs0,s_Bsk,s_takeK,hlt2,hW2,hV,hS,h1',szOf,u_eqSm,hw1,h4,Nat.add_lt_add_iff_left,sc_len,ring_Ring_Voices_r2_eq,ring_Ring_Voices_r5_eq]
   exact step
 ·obtain rfl : k = l.length := by omega
  have h' : ¬ (l.length : Int) < (l.length : Int) := Int.lt_irrefl _
  have hr1 := loop2_s m A B σ (wK w l l.length) (spL w σ.R l) spL_64 hG hm
  have ht : l.take l.length = l := List.take_length
  simp (config := {maxSteps := 4000000,implicitDefEqProofs := false}) (disch := omega) only [go_sem,h,h',hkx,ht,hr1]
end Go.Proofs.Ytaaogcnjfkgnoaa

namespace Go.Proofs.Ytaaogcnjfkgnoaa
open Go.RowKit
attribute [local go_sem] Nat.zero_add Nat.add_zero Nat.mul_one Int.toNat_natCast Int.natCast_zero Int.cast_ofNat_Int or_false false_or or_true true_or Nat.sub_zero Int.natCast_nonneg Int.toNat_zero Bool.true_and Bool.and_true Bool.false_and Bool.and_false Bool.true_or Bool.or_true Bool.false_or Bool.or_false Bool.not_true Bool.not_false Bool.not_not true_and and_true false_and and_false not_true_eq_false not_false_eq_true eq_self decide_true decide_false ne_eq implies_true forall_const true_implies false_implies Bool.true_eq_false Bool.false_eq_true List.map_cons List.map_nil List.all_cons List.all_nil List.length_cons List.length_nil List.length_map List.length_append List.nil_append List.cons_append List.set_cons_zero List.set_cons_succ List.set_nil List.drop_zero List.drop_succ_cons List.drop_nil List.take_zero List.take_succ_cons List.take_nil Option.map_some Option.map_none Option.isSome_some List.all_append List.all_map Function.comp_def decide_eq_true_eq Bool.and_eq_true beq_self_eq_true or_self and_self ite_true ite_false Nat.le_refl Bool.not_eq_true decide_not Bool.not_eq_true' decide_eq_false_iff_not Bool.not_eq_false Bool.or_eq_true if_true if_false ite_self u_roF u_cvF u_cvC u_ceT u_ceK u_appS sm_it sm_len sm_sure sm_ltA sm_lt1 sm_all1 sm_ro sm_take sm_sl sm_set sm_noT sm_fr sm_st_fr sm_set_fr sm_kd sm_st_kd sm_set_kd sm_vw sm_st_vw sm_set_vw sm_sq sm_st_sq sm_set_sq sm_tm sm_st_tm sm_set_tm zsm_len zsm_sure zsm_lt1 zsm_sl zsm_ro zsm_setz zsm_set zsm_setr zsm_take sms_ltA sms_len ce_it ce_len ce_sure ce_ltA ce_lt1 ce_all1 ce_ro ce_take ce_sl ce_set ce_noT ce_sq ce_st_sq ce_set_sq ce_vw ce_st_vw ce_set_vw ce_tm ce_st_tm ce_set_tm ce_body ce_st_body ce_set_body ce_vs ce_st_vs ce_set_vs zce_len zce_sure zce_lt1 zce_sl zce_ro zce_setz zce_set zce_setr zce_take ces_ltA ces_len cg_it cg_len cg_sure cg_ltA cg_lt1 cg_all1 cg_ro cg_take cg_sl cg_set cg_noT cg_fr cg_st_fr cg_set_fr cg_vw cg_st_vw cg_set_vw cg_st cg_st_st cg_set_st cg_rt cg_st_rt cg_set_rt cg_pf cg_st_pf cg_set_pf cg_cs cg_st_cs cg_set_cs zcg_len zcg_sure zcg_lt1 zcg_sl zcg_ro zcg_setz zcg_set zcg_setr zcg_take cgs_ltA cgs_len ms_it ms_len ms_sure ms_ltA ms_lt1 ms_all1 ms_ro ms_take ms_sl ms_set ms_noT ms_kd ms_st_kd ms_set_kd ms_fr ms_st_fr ms_set_fr ms_vw ms_st_vw ms_set_vw ms_sq ms_st_sq ms_set_sq ms_tm ms_st_tm ms_set_tm ms_body ms_st_body ms_set_body ms_vs ms_st_vs ms_set_vs ms_chs ms_st_chs ms_set_chs zms_len zms_sure zms_lt1 zms_sl zms_ro zms_setz zms_set zms_setr zms_take mss_ltA mss_len co_it co_len co_sure co_ltA co_lt1 co_all1 co_ro co_take co_sl co_set co_noT co_sq co_st_sq co_set_sq co_tm co_st_tm co_set_tm co_body co_st_body co_set_body co_nl co_st_nl co_set_nl zco_len zco_sure zco_lt1 zco_sl zco_ro zco_setz zco_set zco_setr zco_take cos_ltA cos_len sd_it sd_len sd_sure sd_ltA sd_lt1 sd_all1 sd_ro sd_take sd_sl sd_set sd_noT sd_wh sd_st_wh sd_set_wh sd_fr sd_st_fr sd_set_fr sd_kd sd_st_kd sd_set_kd sd_vw sd_st_vw sd_set_vw sd_sq sd_st_sq sd_set_sq sd_tm sd_st_tm sd_set_tm sds_ltA sds_len natInt u_nthM u_bz u_bi1 u_bi2 u_bi3 u_bi4 u_bi5 u_bi6 u_bi7 scM_0 scM_1 scM_2 scM_3 scM_4 scM_5 scY_0 scY_1 scY_2 scY_3 scY_4 scY_5 scS_0 scS_1 scS_2 scS_3 scS_4 scS_5 scT_0 scT_1 scT_2 scT_3 scT_4 scT_5 scB_0 scB_k scBs_0 scBs_k scM_len sc_take sc_takeY List.append_assoc Nat.le_add_right ltO_o ltO_r u_eqE
attribute [local go_sem_proc] Nat.reduceAdd Nat.reduceSub Nat.reduceMul Nat.reduceLeDiff Nat.reduceLT Int.reduceEq Int.reduceNe Int.reduceLT Int.reduceLE Int.reduceAdd Int.reduceSub Int.reduceMul Int.reduceNeg Int.reduceToNat reduceCtorEq Nat.reduceEqDiff Nat.reduceBEq Nat.reduceGT
attribute [local go_sem_proc ↓] reduceIte
def inN (n p : Int) : Bool := decide (0 ≤ p) && decide (p < n)
def bdL (l : List Int) : List Bool := l.foldl (fun b p=>b.set p.toNat true) (List.replicate 64 false)
theorem bdL_len : ∀ (l : List Int) (b : List Bool),(l.foldl (fun b p=>b.set p.toNat true) b).length = b.length
 |[],b=>rfl
 |p :: l,b=>by
  show (l.foldl _ (b.set p.toNat true)).length = _
  rw [bdL_len l];simp
theorem bdL_64 {l : List Int} : (bdL l).length = 64 := by unfold bdL;rw [bdL_len];simp
theorem bdL_snoc {l : List Int} {k : Nat} (h : k < l.length) : bdL (l.take (k + 1)) = (bdL (l.take k)).set l[k].toNat true := by
 unfold bdL
 rw [List.take_succ_eq_append_getElem h,List.foldl_append]
 rfl
theorem mapT_S : mapT Try.prog 116 = some (41,3) := by unfold mapT;rw [Try.underlying116]
theorem GB_nil {A : List AObj} (hA : ∀ n,A.length ≤ n → A.all (ltO n) = true) : GB A [] := fun n hn=>⟨hA n (by unfold nAB at hn;simp at hn;omega),rfl⟩
theorem round_s (m : Nat) (A : List AObj) (T : List (List UInt8)) (n : Int) (bad : List Int) (hn2 : n ≤ 64) (hll : bad.length ≤ 1000000) (hG : GB A []) (k : Nat) (h : k < bad.length) (hp : inN n bad[k] = true) (kc : ASt → RO) (kx : KO (AV × List AObj)) :
  ring_New_b1 m ⟨sc A [] ⟨T,n,bdL (bad.take k),[]⟩,[(6,OP (A.length + 4) 0),(19,SL (bad.map nA)),(20,nA bad.length),(21,nA k)]⟩ kc kx = kc ⟨sc A [] ⟨T,n,bdL (bad.take (k + 1)),[]⟩,[(6,OP (A.length + 4) 0),(19,SL (bad.map nA)),(20,nA bad.length),(21,nA (k + 1 : Nat))]⟩ := by
 have hi := gis_s m A [] ⟨T,n,bdL (bad.take k),[]⟩ bad[k] hG
 have h64 := bdL_64 (l := bad.take k)
 rw [bdL_snoc h]
 generalize bdL (bad.take k) = b at *
 have h1 := hp
 unfold inN at h1
 dsimp only at hi
 rw [h1] at hi
 rw [Bool.and_eq_true,decide_eq_true_eq,decide_eq_true_eq] at h1
 obtain ⟨f0,f1⟩ := h1
 have f2 : bad[k] < 64 := by omega
 have f3 : bad[k].toNat < 64 := by omega
 have h' : (k : Int) < (bad.length : Int) := by omega
 have hw1 : IntKind.i64.wrap ((k : Int) + 1) = (k : Int) + 1 := w_i64 (by omega) (by omega)
 have h4 : A.length + 4 < nAB A [] := by unfold nAB;simp
 have hpu := fun (K : AObj → RO)=>rg_putB (a := A.length + 3) (n := n) (bd := b) (L := ([] : List Sm)) (K2 := K) h64 f3 true
 have hlt := fun {L : List (List UInt8)} {n : Int} {bd : List Bool} {R : List Sm}=>scM_lt hG (L := L) (n := n) (bd := bd) (R := R)
 rw [ring_New_b1_eq]
 unfold sc at *
 simp (config := {maxSteps := 4000000,implicitDefEqProofs := false}) (disch := omega) only [go_sem,h,h',hi,f0,f2,szOf,hw1,h4,hpu,hlt]
 rfl
theorem gnew_pre (m : Nat) (A : List AObj) (T : List (List UInt8)) (n : Int) (bad : List Int) (hn1 : 1 ≤ n) (hn2 : n ≤ 64) :
  ring_New m (nA n) (SL (bad.map nA)) (A ++ [tmO T,ttO A.length T,trO T]) = ring_New_r3 m (A.length + 3) ⟨sc A [] ⟨T,n,bdL [],[]⟩,[(1,SL (bad.map nA)),(6,OP (A.length + 4) 0)]⟩ := by
 have c1 : ¬ n < 1 := by omega
 have c2 : ¬ 64 < n := by omega
 have hH : (A ++ [tmO T,ttO A.length T,trO T]).length = A.length + 3 := by simp
 generalize hH0 : A ++ [tmO T,ttO A.length T,trO T] = H0 at *
 have e1 : ∀ K : AV → List AObj → RO,makeE (mapT Try.prog 116) H0 K = K (MP (A.length + 3)) (H0 ++ [rmO []]) := fun K=>by rw [mapT_S,← hH];rfl
 have e2 : ∀ (K : AV → RO),buildE (some pl_ring_Ring) (some zc_ring_Ring) [(0,nA n),(2,MP (A.length + 3))] K = K (.agg (nA n :: ((List.replicate 64 false).map bA ++ [MP (A.length + 3),V (.slice none 0 0)]))) := fun K=>_root_.id rfl
 have e3 : ∀ (K : AV → List AObj → RO),boxE ty_ring_Ring (H0 ++ [rmO []]) (.agg (nA n :: ((List.replicate 64 false).map bA ++ [MP (A.length + 3),V (.slice none 0 0)]))) K = K (OP (A.length + 4) 0) (H0 ++ [rmO [],⟨1,ty_ring_Ring,0,nA n :: ((List.replicate 64 false).map bA ++ [MP (A.length + 3),V (.slice none 0 0)])⟩]) := fun K=>by
  have : (H0 ++ [rmO []]).length = A.length + 4 := by rw [List.length_append,hH];rfl
  rw [u_box,this,List.append_assoc]
  rfl
 have e4 : ghS 6 66 ty_api_Stmt 5 ⟨H0 ++ [rmO [],⟨1,ty_ring_Ring,0,nA n :: ((List.replicate 64 false).map bA ++ [MP (A.length + 3),V (.slice none 0 0)])⟩],[(1,SL (bad.map nA)),(6,OP (A.length + 4) 0)]⟩ = ⟨sc A [] ⟨T,n,bdL [],[]⟩,[(1,SL (bad.map nA)),(6,OP (A.length + 4) 0)]⟩ := by
  have h1 : (H0 ++ [rmO [],⟨1,ty_ring_Ring,0,nA n :: ((List.replicate 64 false).map bA ++ [MP (A.length + 3),V (.slice none 0 0)])⟩])[A.length + 4]? = some ⟨1,ty_ring_Ring,0,nA n :: ((List.replicate 64 false).map bA ++ [MP (A.length + 3),V (.slice none 0 0)])⟩ := by
   rw [show A.length + 4 = H0.length + 1 by omega,getA];rfl
  unfold ghS
  show (match OP (A.length + 4) 0 with|_=>_) = _
  dsimp only
  rw [h1]
  dsimp only
  have h2 : ∀ o,(H0 ++ [rmO [],⟨1,ty_ring_Ring,0,nA n :: ((List.replicate 64 false).map bA ++ [MP (A.length + 3),V (.slice none 0 0)])⟩]).set (A.length + 4) o = H0 ++ [rmO [],o] := fun o=>by
   rw [show A.length + 4 = H0.length + 1 by omega,setA];rfl
  have h3 : (nA n :: ((List.replicate 64 false).map bA ++ [MP (A.length + 3),V (.slice none 0 0)]))[66]? = some (V (.slice none 0 0)) := rfl
  rw [h3]
  try dsimp only
  rw [h2,List.append_assoc,List.length_append,hH]
  unfold sc scM
  rw [← hH0]
  simp only [List.append_assoc,List.cons_append,List.nil_append]
  rfl
 rw [ring_New_eq]
 simp (config := {maxSteps := 4000000,implicitDefEqProofs := false}) (disch := omega) only [go_sem,c1,c2,ring_New_r1_eq]
 rw [ring_New_r2_eq,e1,e2,e3,e4,hH]
theorem gnew_ok (m : Nat) (A : List AObj) (T : List (List UInt8)) (n : Int) (bad : List Int) (hn1 : 1 ≤ n) (hn2 : n ≤ 64) (hlm : bad.length < m) (hll : bad.length ≤ 1000000) (hA : ∀ n,A.length ≤ n → A.all (ltO n) = true) (hb : ∀ p ∈ bad,inN n p = true) :
  ring_New m (nA n) (SL (bad.map nA)) (A ++ [tmO T,ttO A.length T,trO T]) = some (TU [OP (A.length + 4) 0,nA 0],sc A [] ⟨T,n,bdL bad,[]⟩) := by
 have hG := GB_nil hA
 rw [gnew_pre m A T n bad hn1 hn2,ring_New_r3_eq]
 simp (config := {maxSteps := 4000000,implicitDefEqProofs := false}) (disch := omega) only [go_sem,]
 refine iter_go (m := m) (ι := {k : Nat // k ≤ bad.length}) (fun k=>⟨sc A [] ⟨T,n,bdL (bad.take k.1),[]⟩,[(6,OP (A.length + 4) 0),(19,SL (bad.map nA)),(20,nA bad.length),(21,nA k.1)]⟩) (fun k=>bad.length - k.1) (fun _=>some (TU [OP (A.length + 4) 0,nA 0],sc A [] ⟨T,n,bdL bad,[]⟩)) ?_ ⟨0,Nat.zero_le _⟩ (by dsimp only;omega)
 rintro kx hkx ⟨k,hk⟩ kc hkc
 dsimp only at hkc ⊢
 by_cases h : k < bad.length
 ·rw [round_s m A T n bad hn2 hll hG k h (hb _ (List.getElem_mem h))]
  exact hkc ⟨k + 1,by omega⟩ (by dsimp only;omega)
 ·obtain rfl : k = bad.length := by omega
  have h' : ¬ (bad.length : Int) < (bad.length : Int) := Int.lt_irrefl _
  have hlt := sc_lt (σ := ⟨T,n,bdL bad,[]⟩) hG (Nat.le_refl _)
  have ht : bad.take bad.length = bad := List.take_length
  have h4 : A.length + 4 < nAB A [] := by unfold nAB;simp
  rw [ring_New_b1_eq]
  simp (config := {maxSteps := 4000000,implicitDefEqProofs := false}) (disch := omega) only [go_sem,h,h',hkx,ht,ring_New_r4_eq,sc_len,hlt,h4]
theorem gnew_no (m : Nat) (A : List AObj) (T : List (List UInt8)) (n : Int) (bad : List Int) (hn1 : 1 ≤ n) (hn2 : n ≤ 64) (hlm : bad.length < m) (hll : bad.length ≤ 1000000) (hA : ∀ n,A.length ≤ n → A.all (ltO n) = true) (hb : ¬ ∀ p ∈ bad,inN n p = true) :
  ∃ bd,ring_New m (nA n) (SL (bad.map nA)) (A ++ [tmO T,ttO A.length T,trO T]) = some (TU [V (.pointer none),nA 1],sc A [] ⟨T,n,bd,[]⟩) := by
 have hG := GB_nil hA
 obtain ⟨i,hi,hp,hq⟩ : ∃ i,∃ h : i < bad.length,(∀ k (hk : k < i),inN n bad[k] = true) ∧ inN n bad[i] = false := by
  have h0 : bad.findIdx (fun p=>!inN n p) < bad.length := by
   rw [List.findIdx_lt_length]
   refine Classical.byContradiction fun q=>hb fun p hp=>?_
   cases h : inN n p with
   |true=>rfl
   |false=>exact absurd ⟨p,hp,by simp [h]⟩ q
  refine ⟨_,h0,fun k hk=>?_,?_⟩
  ·have := List.not_of_lt_findIdx hk
   simpa using this
  ·have := List.findIdx_getElem (w := h0)
   simpa using this
 refine ⟨bdL (bad.take i),?_⟩
 rw [gnew_pre m A T n bad hn1 hn2,ring_New_r3_eq]
 simp (config := {maxSteps := 4000000,implicitDefEqProofs := false}) (disch := omega) only [go_sem,]
 refine iter_go (m := m) (ι := {k : Nat // k ≤ i}) (fun k=>⟨sc A [] ⟨T,n,bdL (bad.take k.1),[]⟩,[(6,OP (A.length + 4) 0),(19,SL (bad.map nA)),(20,nA bad.length),(21,nA k.1)]⟩) (fun k=>i - k.1) (fun _=>some (TU [V (.pointer none),nA 1],sc A [] ⟨T,n,bdL (bad.take i),[]⟩)) ?_ ⟨0,Nat.zero_le _⟩ (by dsimp only;omega)
 rintro kx hkx ⟨k,hk⟩ kc hkc
 dsimp only at hkc ⊢
 by_cases h : k < i
 ·rw [round_s m A T n bad hn2 hll hG k (by omega) (hp k h)]
  exact hkc ⟨k + 1,by omega⟩ (by dsimp only;omega)
 ·obtain rfl : k = i := by omega
  have h' : (k : Int) < (bad.length : Int) := by omega
  have hlt := sc_lt (σ := ⟨T,n,bdL (bad.take k),[]⟩) hG (Nat.le_refl _)
  have hi2 := gis_s m A [] ⟨T,n,bdL (bad.take k),[]⟩ bad[k] hG
  unfold inN at hq
  dsimp only at hi2
  rw [hq] at hi2
  rw [ring_New_b1_eq]
  simp (config := {maxSteps := 4000000,implicitDefEqProofs := false}) (disch := omega) only [go_sem,hi,h',hi2,hkx,sc_len,hlt,szOf]
  rfl
end Go.Proofs.Ytaaogcnjfkgnoaa

namespace Go.Proofs.Ytaaogcnjfkgnoaa
open Go.RowKit
attribute [local go_sem] Nat.zero_add Nat.add_zero Nat.mul_one Int.toNat_natCast Int.natCast_zero Int.cast_ofNat_Int or_false false_or or_true true_or Nat.sub_zero Int.natCast_nonneg Int.toNat_zero Bool.true_and Bool.and_true Bool.false_and Bool.and_false Bool.true_or Bool.or_true Bool.false_or Bool.or_false Bool.not_true Bool.not_false Bool.not_not true_and and_true false_and and_false not_true_eq_false not_false_eq_true eq_self decide_true decide_false ne_eq implies_true forall_const true_implies false_implies Bool.true_eq_false Bool.false_eq_true List.map_cons List.map_nil List.all_cons List.all_nil List.length_cons List.length_nil List.length_map List.length_append List.nil_append List.cons_append List.set_cons_zero List.set_cons_succ List.set_nil List.drop_zero List.drop_succ_cons List.drop_nil List.take_zero List.take_succ_cons List.take_nil Option.map_some Option.map_none Option.isSome_some List.all_append List.all_map Function.comp_def decide_eq_true_eq Bool.and_eq_true beq_self_eq_true or_self and_self ite_true ite_false Nat.le_refl Bool.not_eq_true decide_not Bool.not_eq_true' decide_eq_false_iff_not Bool.not_eq_false Bool.or_eq_true if_true if_false ite_self u_roF u_cvF u_cvC u_ceT u_ceK u_appS sm_it sm_len sm_sure sm_ltA sm_lt1 sm_all1 sm_ro sm_take sm_sl sm_set sm_noT sm_fr sm_st_fr sm_set_fr sm_kd sm_st_kd sm_set_kd sm_vw sm_st_vw sm_set_vw sm_sq sm_st_sq sm_set_sq sm_tm sm_st_tm sm_set_tm zsm_len zsm_sure zsm_lt1 zsm_sl zsm_ro zsm_setz zsm_set zsm_setr zsm_take sms_ltA sms_len ce_it ce_len ce_sure ce_ltA ce_lt1 ce_all1 ce_ro ce_take ce_sl ce_set ce_noT ce_sq ce_st_sq ce_set_sq ce_vw ce_st_vw ce_set_vw ce_tm ce_st_tm ce_set_tm ce_body ce_st_body ce_set_body ce_vs ce_st_vs ce_set_vs zce_len zce_sure zce_lt1 zce_sl zce_ro zce_setz zce_set zce_setr zce_take ces_ltA ces_len cg_it cg_len cg_sure cg_ltA cg_lt1 cg_all1 cg_ro cg_take cg_sl cg_set cg_noT cg_fr cg_st_fr cg_set_fr cg_vw cg_st_vw cg_set_vw cg_st cg_st_st cg_set_st cg_rt cg_st_rt cg_set_rt cg_pf cg_st_pf cg_set_pf cg_cs cg_st_cs cg_set_cs zcg_len zcg_sure zcg_lt1 zcg_sl zcg_ro zcg_setz zcg_set zcg_setr zcg_take cgs_ltA cgs_len ms_it ms_len ms_sure ms_ltA ms_lt1 ms_all1 ms_ro ms_take ms_sl ms_set ms_noT ms_kd ms_st_kd ms_set_kd ms_fr ms_st_fr ms_set_fr ms_vw ms_st_vw ms_set_vw ms_sq ms_st_sq ms_set_sq ms_tm ms_st_tm ms_set_tm ms_body ms_st_body ms_set_body ms_vs ms_st_vs ms_set_vs ms_chs ms_st_chs ms_set_chs zms_len zms_sure zms_lt1 zms_sl zms_ro zms_setz zms_set zms_setr zms_take mss_ltA mss_len co_it co_len co_sure co_ltA co_lt1 co_all1 co_ro co_take co_sl co_set co_noT co_sq co_st_sq co_set_sq co_tm co_st_tm co_set_tm co_body co_st_body co_set_body co_nl co_st_nl co_set_nl zco_len zco_sure zco_lt1 zco_sl zco_ro zco_setz zco_set zco_setr zco_take cos_ltA cos_len sd_it sd_len sd_sure sd_ltA sd_lt1 sd_all1 sd_ro sd_take sd_sl sd_set sd_noT sd_wh sd_st_wh sd_set_wh sd_fr sd_st_fr sd_set_fr sd_kd sd_st_kd sd_set_kd sd_vw sd_st_vw sd_set_vw sd_sq sd_st_sq sd_set_sq sd_tm sd_st_tm sd_set_tm sds_ltA sds_len natInt u_nthM u_bz u_bi1 u_bi2 u_bi3 u_bi4 u_bi5 u_bi6 u_bi7 ltO_o ltO_r u_eqE u_eqSm Nat.le_add_right List.append_assoc
attribute [local go_sem_proc] Nat.reduceAdd Nat.reduceSub Nat.reduceMul Nat.reduceLeDiff Nat.reduceLT Int.reduceEq Int.reduceNe Int.reduceLT Int.reduceLE Int.reduceAdd Int.reduceSub Int.reduceMul Int.reduceNeg Int.reduceToNat reduceCtorEq Nat.reduceEqDiff Nat.reduceBEq Nat.reduceGT
attribute [local go_sem_proc ↓] reduceIte
def rrC (n : Int) (rog : List Int) (L : List Sm) : List AV := [nA n,SL (rog.map nA),SL (L.map smE)]
def rrA (n : Int) (rog : List Int) (L : List Sm) : AV := .agg (rrC n rog L)
theorem rrA_it {n : Int} {rog : List Int} {L : List Sm} : rrA n rog L = .agg (rrC n rog L) := _root_.id rfl
section
variable {R : Type} {n : Int} {rog : List Int} {L : List Sm} {K : AV → Option R} {H : List AObj} {k : Nat}
theorem rr_f0 : nthE (rrC n rog L) 0 K = K (nA n) := _root_.id rfl
theorem rr_f1 : nthE (rrC n rog L) 1 K = K (SL (rog.map nA)) := _root_.id rfl
theorem rr_f2 : nthE (rrC n rog L) 2 K = K (SL (L.map smE)) := _root_.id rfl
theorem rr_len : (rrC n rog L).length = 3 := _root_.id rfl
theorem rr_sure : (rrC n rog L).all sure = true := _root_.id rfl
theorem rr_ltA : (rrC n rog L).all (ltA k) = true := _root_.id rfl
theorem rr_lt1 : (rrC n rog L).all (lt1 k) = true := _root_.id rfl
theorem rr_ro : (rrC n rog L).map (ro1 H) = rrC n rog L := _root_.id rfl
theorem rr_take : (rrC n rog L).take 3 = rrC n rog L := _root_.id rfl
theorem rr_noT : noT (.agg (rrC n rog L)) = .agg (rrC n rog L) := _root_.id rfl
theorem rr_all1 : ((rrC n rog L).all fun y=>lt1 k (ro1 H y)) = true := _root_.id rfl
end
theorem mem_take_not {α : Type} {l : List α} {k : Nat} {s : α} (h : k < l.length) (h1 : s ∉ l.take k) (h2 : l[k] ≠ s) : s ∉ l.take (k + 1) := by
 rw [List.take_succ_eq_append_getElem h,List.mem_append,List.mem_singleton]
 exact fun q=>q.elim h1 (fun e=>h2 e.symm)
theorem rbad_s (m : Nat) (n : Int) (rog : List Int) (L : List Sm) (p : Int) (hm : rog.length < m) (hl : rog.length ≤ 1000000) : plenumref04_Ring_Bad m (rrA n rog L) (nA p) = some (bA (decide (p ∈ rog)),[]) := by
 rw [plenumref04_Ring_Bad_eq,rrA_it]
 simp (config := {maxSteps := 4000000,implicitDefEqProofs := false}) (disch := omega) only [go_sem,rr_sure]
 refine iter_go (m := m) (ι := {k : Nat // k ≤ rog.length ∧ p ∉ rog.take k}) (fun k=>⟨[⟨1,ty_plenumref04_Ring,0,rrC n rog L⟩],[(1,nA p),(2,OP 0 0),(5,nA k.1)]⟩) (fun k=>rog.length - k.1) (fun _=>some (bA (decide (p ∈ rog)),[])) ?_ ⟨0,Nat.zero_le _,by simp⟩ (by dsimp only;omega)
 rintro kx hkx ⟨k,hk,hno⟩ kc hkc
 dsimp only at hkc ⊢
 rw [plenumref04_Ring_Bad_b1_eq]
 by_cases h : k < rog.length
 ·have h' : (k : Int) < (rog.length : Int) := by omega
  have hw1 : IntKind.i64.wrap ((k : Int) + 1) = (k : Int) + 1 := w_i64 (by omega) (by omega)
  by_cases h1 : rog[k] = p
  ·have hp : p ∈ rog := h1 ▸ List.getElem_mem h
   simp (config := {maxSteps := 4000000,implicitDefEqProofs := false}) (disch := omega) only [go_sem,h,h',h1,hp,hkx,rr_f1,rr_ltA,szOf]
  ·have step := hkc ⟨k + 1,by omega,mem_take_not h hno h1⟩ (by dsimp only;omega)
   dsimp only at step
   simp (config := {maxSteps := 4000000,implicitDefEqProofs := false}) (disch := omega) only [go_sem,h,h',h1,hw1,rr_f1,rr_ltA,szOf]
   exact step
 ·obtain rfl : k = rog.length := by omega
  have h' : ¬ (rog.length : Int) < (rog.length : Int) := Int.lt_irrefl _
  rw [List.take_length] at hno
  simp (config := {maxSteps := 4000000,implicitDefEqProofs := false}) (disch := omega) only [go_sem,h,h',hno,hkx,rr_f1,plenumref04_Ring_Bad_r1_eq]
theorem rghas_s (m : Nat) (n : Int) (rog : List Int) (L : List Sm) (s : Sm) (hm : L.length < m) (hl : L.length ≤ 1000000) : plenumref04_Ring_Has m (rrA n rog L) (smE s) = some (bA (decide (s ∈ L)),[]) := by
 rw [plenumref04_Ring_Has_eq,rrA_it,sm_it]
 simp (config := {maxSteps := 4000000,implicitDefEqProofs := false}) (disch := omega) only [go_sem,rr_sure]
 refine iter_go (m := m) (ι := {k : Nat // k ≤ L.length ∧ s ∉ L.take k}) (fun k=>⟨[⟨1,ty_plenumref04_Ring,0,rrC n rog L⟩,⟨1,ty_api_Stmt,0,smC s⟩],[(2,OP 0 0),(3,OP 1 0),(5,nA k.1)]⟩) (fun k=>L.length - k.1) (fun _=>some (bA (decide (s ∈ L)),[])) ?_ ⟨0,Nat.zero_le _,by simp⟩ (by dsimp only;omega)
 rintro kx hkx ⟨k,hk,hno⟩ kc hkc
 dsimp only at hkc ⊢
 rw [plenumref04_Ring_Has_b1_eq]
 by_cases h : k < L.length
 ·have h' : (k : Int) < (L.length : Int) := by omega
  have hw1 : IntKind.i64.wrap ((k : Int) + 1) = (k : Int) + 1 := w_i64 (by omega) (by omega)
  by_cases h1 : L[k] = s
  ·have hp : s ∈ L := h1 ▸ List.getElem_mem h
   have h1' : decide (L[k] = s) = true := decide_eq_true h1
   simp (config := {maxSteps := 4000000,implicitDefEqProofs := false}) (disch := omega) only [go_sem,h,h',h1',hp,hkx,rr_f2,rr_ltA,szOf]
  ·have step := hkc ⟨k + 1,by omega,mem_take_not h hno h1⟩ (by dsimp only;omega)
   dsimp only at step
   have h1' : decide (L[k] = s) = false := decide_eq_false h1
   simp (config := {maxSteps := 4000000,implicitDefEqProofs := false}) (disch := omega) only [go_sem,h,h',h1',hw1,rr_f2,rr_ltA,szOf]
   exact step
 ·obtain rfl : k = L.length := by omega
  have h' : ¬ (L.length : Int) < (L.length : Int) := Int.lt_irrefl _
  rw [List.take_length] at hno
  simp (config := {maxSteps := 4000000,implicitDefEqProofs := false}) (disch := omega) only [go_sem,h,h',hno,hkx,rr_f2,plenumref04_Ring_Has_r1_eq]
theorem posL_at {α : Type} [DecidableEq α] {T : List α} {s : α} {k : Nat} (h : k < T.length) (hno : s ∉ T.take k) (h1 : T[k] = s) : posL T s = k + 1 := by
 unfold posL
 rw [if_pos (h1 ▸ List.getElem_mem h)]
 have hs : T = T.take k ++ s :: T.drop (k + 1) := by rw [← h1,← List.drop_eq_getElem_cons h,List.take_append_drop]
 rw [hs,List.idxOf_append,if_neg hno,List.idxOf_cons_self,List.length_take]
 omega
theorem rthas_s (m : Nat) (T : List (List UInt8)) (s : List UInt8) (hm : T.length < m) (hl : T.length ≤ 1000000) : plenumref02_Has m (SL (T.map sA)) (sA s) = some (nA (posL T s),[]) := by
 rw [plenumref02_Has_eq]
 refine iter_go (m := m) (ι := {k : Nat // k ≤ T.length ∧ s ∉ T.take k}) (fun k=>⟨[],[(0,SL (T.map sA)),(1,sA s),(5,nA k.1)]⟩) (fun k=>T.length - k.1) (fun _=>some (nA (posL T s),[])) ?_ ⟨0,Nat.zero_le _,by simp⟩ (by dsimp only;omega)
 rintro kx hkx ⟨k,hk,hno⟩ kc hkc
 dsimp only at hkc ⊢
 rw [plenumref02_Has_b1_eq]
 by_cases h : k < T.length
 ·have h' : (k : Int) < (T.length : Int) := by omega
  have hw1 : IntKind.i64.wrap ((k : Int) + 1) = (k : Int) + 1 := w_i64 (by omega) (by omega)
  by_cases h1 : T[k] = s
  ·have hp : posL T s = k + 1 := posL_at h hno h1
   rw [hp]
   simp (config := {maxSteps := 4000000,implicitDefEqProofs := false}) (disch := omega) only [go_sem,h,h',h1,hkx,hw1,szOf]
   rfl
  ·have step := hkc ⟨k + 1,by omega,mem_take_not h hno h1⟩ (by dsimp only;omega)
   dsimp only at step
   simp (config := {maxSteps := 4000000,implicitDefEqProofs := false}) (disch := omega) only [go_sem,h,h',h1,hw1,szOf]
   exact step
 ·obtain rfl : k = T.length := by omega
  have h' : ¬ (T.length : Int) < (T.length : Int) := Int.lt_irrefl _
  rw [List.take_length] at hno
  have hp : posL T s = 0 := by unfold posL;rw [if_neg hno]
  rw [hp]
  simp (config := {maxSteps := 4000000,implicitDefEqProofs := false}) (disch := omega) only [go_sem,h,h',hkx,plenumref02_Has_r1_eq]
end Go.Proofs.Ytaaogcnjfkgnoaa

namespace Go.Proofs.Ytaaogcnjfkgnoaa
open Go.RowKit
attribute [local go_sem] Nat.zero_add Nat.add_zero Nat.mul_one Int.toNat_natCast Int.natCast_zero Int.cast_ofNat_Int or_false false_or or_true true_or Nat.sub_zero Int.natCast_nonneg Int.toNat_zero Bool.true_and Bool.and_true Bool.false_and Bool.and_false Bool.true_or Bool.or_true Bool.false_or Bool.or_false Bool.not_true Bool.not_false Bool.not_not true_and and_true false_and and_false not_true_eq_false not_false_eq_true eq_self decide_true decide_false ne_eq implies_true forall_const true_implies false_implies Bool.true_eq_false Bool.false_eq_true List.map_cons List.map_nil List.all_cons List.all_nil List.length_cons List.length_nil List.length_map List.length_append List.nil_append List.cons_append List.set_cons_zero List.set_cons_succ List.set_nil List.drop_zero List.drop_succ_cons List.drop_nil List.take_zero List.take_succ_cons List.take_nil Option.map_some Option.map_none Option.isSome_some List.all_append List.all_map Function.comp_def decide_eq_true_eq Bool.and_eq_true beq_self_eq_true or_self and_self ite_true ite_false Nat.le_refl Bool.not_eq_true decide_not Bool.not_eq_true' decide_eq_false_iff_not Bool.not_eq_false Bool.or_eq_true if_true if_false ite_self u_roF u_cvF u_cvC u_ceT u_ceK u_appS sm_it sm_len sm_sure sm_ltA sm_lt1 sm_all1 sm_ro sm_take sm_sl sm_set sm_noT sm_fr sm_st_fr sm_set_fr sm_kd sm_st_kd sm_set_kd sm_vw sm_st_vw sm_set_vw sm_sq sm_st_sq sm_set_sq sm_tm sm_st_tm sm_set_tm zsm_len zsm_sure zsm_lt1 zsm_sl zsm_ro zsm_setz zsm_set zsm_setr zsm_take sms_ltA sms_len ce_it ce_len ce_sure ce_ltA ce_lt1 ce_all1 ce_ro ce_take ce_sl ce_set ce_noT ce_sq ce_st_sq ce_set_sq ce_vw ce_st_vw ce_set_vw ce_tm ce_st_tm ce_set_tm ce_body ce_st_body ce_set_body ce_vs ce_st_vs ce_set_vs zce_len zce_sure zce_lt1 zce_sl zce_ro zce_setz zce_set zce_setr zce_take ces_ltA ces_len cg_it cg_len cg_sure cg_ltA cg_lt1 cg_all1 cg_ro cg_take cg_sl cg_set cg_noT cg_fr cg_st_fr cg_set_fr cg_vw cg_st_vw cg_set_vw cg_st cg_st_st cg_set_st cg_rt cg_st_rt cg_set_rt cg_pf cg_st_pf cg_set_pf cg_cs cg_st_cs cg_set_cs zcg_len zcg_sure zcg_lt1 zcg_sl zcg_ro zcg_setz zcg_set zcg_setr zcg_take cgs_ltA cgs_len ms_it ms_len ms_sure ms_ltA ms_lt1 ms_all1 ms_ro ms_take ms_sl ms_set ms_noT ms_kd ms_st_kd ms_set_kd ms_fr ms_st_fr ms_set_fr ms_vw ms_st_vw ms_set_vw ms_sq ms_st_sq ms_set_sq ms_tm ms_st_tm ms_set_tm ms_body ms_st_body ms_set_body ms_vs ms_st_vs ms_set_vs ms_chs ms_st_chs ms_set_chs zms_len zms_sure zms_lt1 zms_sl zms_ro zms_setz zms_set zms_setr zms_take mss_ltA mss_len co_it co_len co_sure co_ltA co_lt1 co_all1 co_ro co_take co_sl co_set co_noT co_sq co_st_sq co_set_sq co_tm co_st_tm co_set_tm co_body co_st_body co_set_body co_nl co_st_nl co_set_nl zco_len zco_sure zco_lt1 zco_sl zco_ro zco_setz zco_set zco_setr zco_take cos_ltA cos_len sd_it sd_len sd_sure sd_ltA sd_lt1 sd_all1 sd_ro sd_take sd_sl sd_set sd_noT sd_wh sd_st_wh sd_set_wh sd_fr sd_st_fr sd_set_fr sd_kd sd_st_kd sd_set_kd sd_vw sd_st_vw sd_set_vw sd_sq sd_st_sq sd_set_sq sd_tm sd_st_tm sd_set_tm sds_ltA sds_len natInt u_nthM u_bz u_bi1 u_bi2 u_bi3 u_bi4 u_bi5 u_bi6 u_bi7 ltO_o ltO_r u_eqE u_eqSm Nat.le_add_right List.append_assoc
attribute [local go_sem_proc] Nat.reduceAdd Nat.reduceSub Nat.reduceMul Nat.reduceLeDiff Nat.reduceLT Int.reduceEq Int.reduceNe Int.reduceLT Int.reduceLE Int.reduceAdd Int.reduceSub Int.reduceMul Int.reduceNeg Int.reduceToNat reduceCtorEq Nat.reduceEqDiff Nat.reduceBEq Nat.reduceGT
attribute [local go_sem_proc ↓] reduceIte
def rokS (n : Int) (rog : List Int) (p : Int) (s : Sm) : Bool := (decide (0 ≤ p) && decide (p < n)) && (decide (s.fr = p) || (decide (p ∈ rog) && decide (s.fr ∈ rog)))
def rsayL (n : Int) (rog : List Int) (L : List Sm) (p : Int) (s : Sm) : List Sm := if rokS n rog p s = true ∧ s ∉ L ∧ L.length < 65536 then L ++ [s] else L
theorem ro1_3 {A0 A1 A2 : AObj} {e z m : Nat} {c : List AV} {Y : List AObj} : ro1 (A0 :: A1 :: A2 :: ⟨2,e,z,c⟩ :: Y) (OW 3 m) = if m = c.length then SL c else OW 3 m := by simp [ro1]
section
variable {R : Type} {n n' : Int} {rog rog' : List Int} {L L' : List Sm} {K : AV → Option R}
theorem rr_setz : setCells zc_plenumref04_Ring 0 (rrC n rog L) = rrC n rog L := _root_.id rfl
theorem zrr_set3 {a b c : AV} : ((zc_plenumref04_Ring.set 0 a).set 1 b).set 2 c = [a,b,c] := _root_.id rfl
theorem zrr_len : zc_plenumref04_Ring.length = 3 := _root_.id rfl
end
section
variable (m : Nat) (n : Int) (rog : List Int) (L : List Sm) (p : Int) (s : Sm) (hm : L.length < m) (hl : L.length ≤ 65536) (hm2 : rog.length < m) (hl2 : rog.length ≤ 1000000)
include hm hl
theorem rsay4_s : ∃ e : Int,plenumref04_Ring_Say_r4 m ⟨[⟨1,ty_plenumref04_Ring,0,rrC n rog L⟩,⟨1,ty_api_Stmt,0,smC s⟩,⟨1,ty_plenumref04_Ring,0,zc_plenumref04_Ring⟩],[(3,OP 0 0),(5,OP 1 0),(6,OP 2 0)]⟩ = some (TU [rrA n rog (if s ∉ L ∧ L.length < 65536 then L ++ [s] else L),nA e],[]) := by
 have hh := rghas_s m n rog L s hm (by omega)
 rw [rrA_it,sm_it] at hh
 rw [plenumref04_Ring_Say_r4_eq]
 by_cases h1 : s ∈ L
 ·have h1' : decide (s ∈ L) = true := decide_eq_true h1
  rw [h1'] at hh
  refine ⟨0,?_⟩
  rw [if_neg (fun q=>q.1 h1),rrA_it]
  simp (config := {maxSteps := 4000000,implicitDefEqProofs := false}) (disch := omega) only [go_sem,hh,rr_len,rr_take,rr_ro,rr_ltA,rr_lt1,rr_sure,rr_setz,zrr_len,rr_noT,rr_all1,szOf]
 ·have h1' : decide (s ∈ L) = false := decide_eq_false h1
  rw [h1'] at hh
  by_cases h2 : 65536 ≤ L.length
  ·have h2' : (65536 : Int) ≤ (L.length : Int) := by omega
   refine ⟨5,?_⟩
   rw [if_neg (fun q=>by omega),rrA_it]
   simp (config := {maxSteps := 4000000,implicitDefEqProofs := false}) (disch := omega) only [go_sem,hh,h2',rr_f2,rr_len,rr_take,rr_ro,rr_ltA,rr_lt1,rr_sure,rr_setz,zrr_len,rr_noT,rr_all1,szOf]
  ·have h2' : ¬ (65536 : Int) ≤ (L.length : Int) := by omega
   have hb1 : L.length ≤ 34359738368 := by omega
   have hb2 : L.length + 1 ≤ 34359738368 := by omega
   refine ⟨0,?_⟩
   rw [if_pos ⟨h1,by omega⟩,rrA_it]
   have hc : rrC n rog L = [nA n,SL (rog.map nA),SL (L.map smE)] := rfl
   have hc2 : rrC n rog (L ++ [s]) = [nA n,SL (rog.map nA),SL (L.map smE ++ [.agg (smC s)])] := by simp [rrC,smE]
   rw [hc2]
   rw [hc] at hh ⊢
   simp (config := {maxSteps := 4000000,implicitDefEqProofs := false}) (disch := omega) only [go_sem,hh,h2',hb1,hb2,rr_len,rr_take,rr_ro,rr_ltA,rr_lt1,rr_sure,rr_setz,zrr_len,rr_noT,rr_all1,ro1_3,zrr_set3,szOf]
theorem rsay3_s (b : Bool) : ∃ e : Int,plenumref04_Ring_Say_r3 m ⟨[⟨1,ty_plenumref04_Ring,0,rrC n rog L⟩,⟨1,ty_api_Stmt,0,smC s⟩,⟨1,ty_plenumref04_Ring,0,zc_plenumref04_Ring⟩],[(3,OP 0 0),(5,OP 1 0),(6,OP 2 0),(33,bA b)]⟩ = some (TU [rrA n rog (if b = false ∧ s ∉ L ∧ L.length < 65536 then L ++ [s] else L),nA e],[]) := by
 rw [plenumref04_Ring_Say_r3_eq]
 cases b with
 |true =>
  refine ⟨19,?_⟩
  rw [if_neg (fun q=>by cases q.1),rrA_it]
  simp (config := {maxSteps := 4000000,implicitDefEqProofs := false}) (disch := omega) only [go_sem,rr_len,rr_take,rr_ro,rr_ltA,rr_lt1,rr_sure,rr_setz,zrr_len,rr_noT,rr_all1,szOf]
 |false =>
  obtain ⟨e,he⟩ := rsay4_s m n rog L s hm hl
  refine ⟨e,?_⟩
  rw [u_condF,he]
  simp only [true_and]
include hm2 hl2
theorem rsay_s : ∃ e : Int,plenumref04_Ring_Say m (rrA n rog L) (nA p) (smE s) = some (TU [rrA n rog (rsayL n rog L p s),nA e],[]) := by
 have b1 := rbad_s m n rog L p hm2 hl2
 have b2 := rbad_s m n rog L s.fr hm2 hl2
 simp only [rrA_it] at b1 b2
 rw [plenumref04_Ring_Say_eq]
 unfold rsayL rokS
 by_cases c1 : 0 ≤ p ∧ p < n
 ·have e1 : ¬ p < 0 := by omega
  have e2 : ¬ n ≤ p := by omega
  have e3 : (decide (0 ≤ p) && decide (p < n)) = true := by simp [c1]
  rw [e3,Bool.true_and]
  by_cases c2 : s.fr = p
  ·obtain ⟨e,he⟩ := rsay3_s m n rog L s hm hl false
   refine ⟨e,?_⟩
   simp only [rrA_it,sm_it]
   simp only [rrA_it] at he
   simp (config := {maxSteps := 4000000,implicitDefEqProofs := false}) (disch := omega) only [go_sem,e1,e2,c2,rr_f0,rr_sure,he,plenumref04_Ring_Say_r1_eq,plenumref04_Ring_Say_r2_eq]
  ·by_cases c3 : p ∈ rog
   ·have c3' : decide (p ∈ rog) = true := decide_eq_true c3
    rw [c3'] at b1
    by_cases c4 : s.fr ∈ rog
    ·have c4' : decide (s.fr ∈ rog) = true := decide_eq_true c4
     rw [c4'] at b2
     obtain ⟨e,he⟩ := rsay3_s m n rog L s hm hl false
     refine ⟨e,?_⟩
     simp only [rrA_it,sm_it]
     simp only [rrA_it] at he
     simp (config := {maxSteps := 4000000,implicitDefEqProofs := false}) (disch := omega) only [go_sem,e1,e2,c2,c3,c4,b1,b2,rr_f0,rr_sure,rr_len,rr_take,rr_ro,rr_ltA,rr_lt1,he,plenumref04_Ring_Say_r1_eq,plenumref04_Ring_Say_r2_eq]
    ·have c4' : decide (s.fr ∈ rog) = false := decide_eq_false c4
     rw [c4'] at b2
     obtain ⟨e,he⟩ := rsay3_s m n rog L s hm hl true
     refine ⟨e,?_⟩
     simp only [rrA_it,sm_it]
     simp only [rrA_it] at he
     simp (config := {maxSteps := 4000000,implicitDefEqProofs := false}) (disch := omega) only [go_sem,e1,e2,c2,c3,c4,b1,b2,rr_f0,rr_sure,rr_len,rr_take,rr_ro,rr_ltA,rr_lt1,he,plenumref04_Ring_Say_r1_eq,plenumref04_Ring_Say_r2_eq]
   ·have c3' : decide (p ∈ rog) = false := decide_eq_false c3
    rw [c3'] at b1
    obtain ⟨e,he⟩ := rsay3_s m n rog L s hm hl true
    refine ⟨e,?_⟩
    simp only [rrA_it,sm_it]
    simp only [rrA_it] at he
    simp (config := {maxSteps := 4000000,implicitDefEqProofs := false}) (disch := omega) only [go_sem,e1,e2,c2,c3,b1,rr_f0,rr_sure,rr_len,rr_take,rr_ro,rr_ltA,rr_lt1,he,plenumref04_Ring_Say_r1_eq,plenumref04_Ring_Say_r2_eq]
 ·have e3 : (decide (0 ≤ p) && decide (p < n)) = false := by rw [Bool.eq_false_iff];simpa using c1
  rw [e3,Bool.false_and]
  refine ⟨4,?_⟩
  rw [if_neg (fun q=>by cases q.1)]
  simp only [rrA_it,sm_it]
  by_cases e1 : p < 0
  ·simp (config := {maxSteps := 4000000,implicitDefEqProofs := false}) (disch := omega) only [go_sem,e1,rr_len,rr_take,rr_ro,rr_ltA,rr_lt1,rr_sure,rr_setz,zrr_len,rr_noT,rr_all1,szOf,plenumref04_Ring_Say_r1_eq]
  ·have e2 : n ≤ p := by omega
   simp (config := {maxSteps := 4000000,implicitDefEqProofs := false}) (disch := omega) only [go_sem,e1,e2,rr_f0,rr_len,rr_take,rr_ro,rr_ltA,rr_lt1,rr_sure,rr_setz,zrr_len,rr_noT,rr_all1,szOf,plenumref04_Ring_Say_r1_eq]
end
theorem rtof_s (m : Nat) (A B : List AObj) (T : List (List UInt8)) (s : List UInt8) (hA : ∀ n,A.length + (1 + B.length) ≤ n → A.all (ltO n) = true ∧ B.all (ltO n) = true) (hm : T.length < m) (hl : T.length ≤ 65536) :
  plenumref02_Of m (OW A.length T.length) (sA s) (A ++ trO T :: B) = some (TU [OW A.length (oqT T s).length,nA (ofN T s),nA (ofE T s)],A ++ trO (oqT T s) :: B) := by
 have hh := rthas_s m T s hm (by omega)
 have hro : ro1 (A ++ trO T :: B) (OW A.length T.length) = SL (T.map sA) := ro1W (e := ty_string) (z := 1) (by rw [show A.length = A.length + 0 from rfl,getA];rfl) (by simp)
 have hn0 : ∀ {o : AObj} (K : AObj → RO),nthOE (A ++ o :: B) A.length K = K o := fun {o} K=>(nthOA A (k := 0))
 have hs0 : ∀ {o o' : AObj},(A ++ o :: B).set A.length o' = A ++ o' :: B := fun {o o'}=>(setA A (k := 0))
 have hlen : ∀ {o : AObj},(A ++ o :: B).length = A.length + (1 + B.length) := fun {o}=>by simp;omega
 obtain ⟨h1,h2⟩ := hA (A.length + (1 + B.length)) (Nat.le_refl _)
 have hall : ∀ L,(A ++ trO L :: B).all (ltO (A.length + (1 + B.length))) = true := fun L=>by rw [List.all_append,h1,List.all_cons,trO_lt,h2];rfl
 have hlt : A.length < A.length + (1 + B.length) := by omega
 have hlts : ((T.map sA).all fun x=>ltA 0 x) = true := by rw [List.all_map];exact List.all_eq_true.2 fun _ _=>rfl
 have hlts' : (T.map sA).all (ltA 0) = true := hlts
 rw [plenumref02_Of_eq]
 unfold oqT ofN ofE
 by_cases c1 : s ∈ T
 ·have c2 : (0 : Int) < (posL T s : Int) := by unfold posL;rw [if_pos c1];omega
  simp (config := {maxSteps := 4000000,implicitDefEqProofs := false}) (disch := omega) only [go_sem,hh,hro,c1,c2,hlen,hall,hlt]
 ·have c2 : ¬ (0 : Int) < (posL T s : Int) := by unfold posL;rw [if_neg c1];omega
  by_cases c3 : 65536 ≤ T.length
  ·have c3' : (65536 : Int) ≤ (T.length : Int) := by omega
   simp (config := {maxSteps := 4000000,implicitDefEqProofs := false}) (disch := omega) only [go_sem,hh,hro,c1,c2,c3,c3',hlen,hall,hlt]
  ·have c3' : ¬ (65536 : Int) ≤ (T.length : Int) := by omega
   have hb : T.length + 1 ≤ 34359738368 := by omega
   simp (config := {maxSteps := 4000000,implicitDefEqProofs := false}) (disch := omega) only [go_sem,hh,hro,c1,c2,c3,c3',hn0,hs0,tr_k,tr_e,tr_z,tr_c,tr_one,hb,hlen,hall,h1,h2,hlt]
end Go.Proofs.Ytaaogcnjfkgnoaa

namespace Go.Proofs.Ytaaogcnjfkgnoaa
open Go.RowKit
def swM (A B : List AObj) (o0 o1 : AObj) : List AObj := A ++ (o0 :: o1 :: B)
def nSW (A B : List AObj) : Nat := A.length + (B.length + 2)
section
variable {R : Type} {A B Y : List AObj} {o0 o1 o : AObj} {K : AObj → Option R} {k : Nat}
theorem swM_len : (swM A B o0 o1).length = nSW A B := by simp [swM,nSW]
theorem swM_app : swM A (B ++ Y) o0 o1 = swM A B o0 o1 ++ Y := by simp [swM]
theorem nSW_app : nSW A (B ++ Y) = nSW A B + Y.length := by simp [nSW];omega
theorem swM_0 : nthOE (swM A B o0 o1) A.length K = K o0 := (nthOA A (k := 0))
theorem swY_0 : nthOE (swM A B o0 o1 ++ Y) A.length K = K o0 := by rw [← swM_app];exact swM_0
theorem swB_k : nthOE (swM A B o0 o1 ++ Y) (nSW A B + k) K = nthOE Y k K := by
 rw [← swM_len (o0 := o0) (o1 := o1)];exact nthOA _
theorem swB_0 : nthOE (swM A B o0 o1 ++ Y) (nSW A B) K = nthOE Y 0 K := swB_k (k := 0)
theorem swBs_k : (swM A B o0 o1 ++ Y).set (nSW A B + k) o = swM A B o0 o1 ++ Y.set k o := by
 rw [← swM_len (o0 := o0) (o1 := o1)];exact setA _
theorem swBs_0 : (swM A B o0 o1 ++ Y).set (nSW A B) o = swM A B o0 o1 ++ Y.set 0 o := swBs_k (k := 0)
theorem sw_take : (swM A B o0 o1).take (nSW A B) = swM A B o0 o1 := by
 rw [← swM_len (o0 := o0) (o1 := o1)];exact List.take_length
theorem sw_takeK : (swM A B o0 o1 ++ Y).take (nSW A B + k) = swM A B o0 o1 ++ Y.take k := by
 rw [← swM_len (o0 := o0) (o1 := o1)];exact List.take_length_add_append ..
theorem sw_takeY : (swM A B o0 o1 ++ Y).take (nSW A B) = swM A B o0 o1 := by
 rw [← swM_len (o0 := o0) (o1 := o1)];exact List.take_left
end
def GW (A B : List AObj) : Prop := ∀ n,nSW A B ≤ n → A.all (ltO n) = true ∧ B.all (ltO n) = true
theorem GW.app {A B Y : List AObj} (h : GW A B) (hY : ∀ n,Y.all (ltO n) = true) : GW A (B ++ Y) := fun n hn=>by
 rw [nSW_app] at hn
 obtain ⟨h1,h2⟩ := h n (by omega)
 exact ⟨h1,by rw [List.all_append,h2,hY];rfl⟩
structure Wg where
 T : List (List UInt8)
 n : Int
 rog : List Int
 L : List Sm
 X : AV
def woO (a : Nat) (ω : Wg) : AObj := ⟨1,ty_plenumref32_World,0,[OW (a + 1) ω.T.length,nA ω.n,SL (ω.rog.map nA),ω.X]⟩
def sw (A B : List AObj) (ω : Wg) : List AObj := swM A B (woO A.length ω) (trO ω.T)
structure WgOk (ω : Wg) : Prop where
 tl : ω.T.length ≤ 65536
 ll : ω.L.length ≤ 65536
 rl : ω.rog.length ≤ 1000000
 lx : ω.X = SL (ω.L.map smE) ∨ (ω.L = [] ∧ ω.X = V (.slice none 0 0))
theorem WgOk.ro {ω : Wg} (h : WgOk ω) (H : List AObj) : ro1 H ω.X = SL (ω.L.map smE) := by
 rcases h.lx with e|⟨e,e2⟩
 ·rw [e];rfl
 ·rw [e2,e];rfl
theorem WgOk.lt {ω : Wg} (h : WgOk ω) (n : Nat) : ltA n ω.X = true ∧ lt1 n ω.X = true ∧ sure ω.X = true := by
 rcases h.lx with e|⟨e,e2⟩
 ·rw [e];exact ⟨rfl,rfl,rfl⟩
 ·rw [e2];exact ⟨rfl,rfl,rfl⟩
theorem woO_lt {n a : Nat} {ω : Wg} (hω : WgOk ω) (h : a + 1 < n) : ltO n (woO a ω) = true := by
 obtain ⟨h1,h2,_⟩ := hω.lt n
 show ((1 : Nat) == 0 || ([OW (a + 1) ω.T.length,nA ω.n,SL (ω.rog.map nA),ω.X] : List AV).all (ltA n)) = true
 rw [List.all_cons,List.all_cons,List.all_cons,List.all_cons,h1,show ltA n (OW (a + 1) ω.T.length) = true from decide_eq_true h,show ltA n (nA ω.n) = true from rfl,show ltA n (SL (ω.rog.map nA)) = true from rfl]
 rfl
theorem sw_len {A B : List AObj} {ω : Wg} : (sw A B ω).length = nSW A B := swM_len
section
variable {R : Type} {A B Y : List AObj} {ω : Wg} {K : AObj → Option R} {k : Nat} {o : AObj}
theorem w_0 : nthOE (sw A B ω) A.length K = K (woO A.length ω) := swM_0
theorem w_Y0 : nthOE (sw A B ω ++ Y) A.length K = K (woO A.length ω) := swY_0
theorem w_B0 : nthOE (sw A B ω ++ Y) (nSW A B) K = nthOE Y 0 K := swB_0
theorem w_Bk : nthOE (sw A B ω ++ Y) (nSW A B + k) K = nthOE Y k K := swB_k
theorem w_Bs0 : (sw A B ω ++ Y).set (nSW A B) o = sw A B ω ++ Y.set 0 o := swBs_0
theorem w_Bsk : (sw A B ω ++ Y).set (nSW A B + k) o = sw A B ω ++ Y.set k o := swBs_k
theorem w_take : (sw A B ω).take (nSW A B) = sw A B ω := sw_take
theorem w_takeY : (sw A B ω ++ Y).take (nSW A B) = sw A B ω := sw_takeY
theorem w_takeK : (sw A B ω ++ Y).take (nSW A B + k) = sw A B ω ++ Y.take k := sw_takeK
theorem wo_cells {R : Type} {a : Nat} {K : List AV → Option R} : cellsE (woO a ω) K = K [OW (a + 1) ω.T.length,nA ω.n,SL (ω.rog.map nA),ω.X] := by unfold woO;exact u_cl1
end
attribute [local go_sem] Nat.zero_add Nat.add_zero Nat.mul_one Int.toNat_natCast Int.natCast_zero Int.cast_ofNat_Int or_false false_or or_true true_or Nat.sub_zero Int.natCast_nonneg Int.toNat_zero Bool.true_and Bool.and_true Bool.false_and Bool.and_false Bool.true_or Bool.or_true Bool.false_or Bool.or_false Bool.not_true Bool.not_false Bool.not_not true_and and_true false_and and_false not_true_eq_false not_false_eq_true eq_self decide_true decide_false ne_eq implies_true forall_const true_implies false_implies Bool.true_eq_false Bool.false_eq_true List.map_cons List.map_nil List.all_cons List.all_nil List.length_cons List.length_nil List.length_map List.length_append List.nil_append List.cons_append List.set_cons_zero List.set_cons_succ List.set_nil List.drop_zero List.drop_succ_cons List.drop_nil List.take_zero List.take_succ_cons List.take_nil Option.map_some Option.map_none Option.isSome_some List.all_append List.all_map Function.comp_def decide_eq_true_eq Bool.and_eq_true beq_self_eq_true or_self and_self ite_true ite_false Nat.le_refl Bool.not_eq_true decide_not Bool.not_eq_true' decide_eq_false_iff_not Bool.not_eq_false Bool.or_eq_true if_true if_false ite_self u_roF u_cvF u_cvC u_ceT u_ceK u_appS sm_it sm_len sm_sure sm_ltA sm_lt1 sm_all1 sm_ro sm_take sm_sl sm_set sm_noT sm_fr sm_st_fr sm_set_fr sm_kd sm_st_kd sm_set_kd sm_vw sm_st_vw sm_set_vw sm_sq sm_st_sq sm_set_sq sm_tm sm_st_tm sm_set_tm zsm_len zsm_sure zsm_lt1 zsm_sl zsm_ro zsm_setz zsm_set zsm_setr zsm_take sms_ltA sms_len ce_it ce_len ce_sure ce_ltA ce_lt1 ce_all1 ce_ro ce_take ce_sl ce_set ce_noT ce_sq ce_st_sq ce_set_sq ce_vw ce_st_vw ce_set_vw ce_tm ce_st_tm ce_set_tm ce_body ce_st_body ce_set_body ce_vs ce_st_vs ce_set_vs zce_len zce_sure zce_lt1 zce_sl zce_ro zce_setz zce_set zce_setr zce_take ces_ltA ces_len cg_it cg_len cg_sure cg_ltA cg_lt1 cg_all1 cg_ro cg_take cg_sl cg_set cg_noT cg_fr cg_st_fr cg_set_fr cg_vw cg_st_vw cg_set_vw cg_st cg_st_st cg_set_st cg_rt cg_st_rt cg_set_rt cg_pf cg_st_pf cg_set_pf cg_cs cg_st_cs cg_set_cs zcg_len zcg_sure zcg_lt1 zcg_sl zcg_ro zcg_setz zcg_set zcg_setr zcg_take cgs_ltA cgs_len ms_it ms_len ms_sure ms_ltA ms_lt1 ms_all1 ms_ro ms_take ms_sl ms_set ms_noT ms_kd ms_st_kd ms_set_kd ms_fr ms_st_fr ms_set_fr ms_vw ms_st_vw ms_set_vw ms_sq ms_st_sq ms_set_sq ms_tm ms_st_tm ms_set_tm ms_body ms_st_body ms_set_body ms_vs ms_st_vs ms_set_vs ms_chs ms_st_chs ms_set_chs zms_len zms_sure zms_lt1 zms_sl zms_ro zms_setz zms_set zms_setr zms_take mss_ltA mss_len co_it co_len co_sure co_ltA co_lt1 co_all1 co_ro co_take co_sl co_set co_noT co_sq co_st_sq co_set_sq co_tm co_st_tm co_set_tm co_body co_st_body co_set_body co_nl co_st_nl co_set_nl zco_len zco_sure zco_lt1 zco_sl zco_ro zco_setz zco_set zco_setr zco_take cos_ltA cos_len sd_it sd_len sd_sure sd_ltA sd_lt1 sd_all1 sd_ro sd_take sd_sl sd_set sd_noT sd_wh sd_st_wh sd_set_wh sd_fr sd_st_fr sd_set_fr sd_kd sd_st_kd sd_set_kd sd_vw sd_st_vw sd_set_vw sd_sq sd_st_sq sd_set_sq sd_tm sd_st_tm sd_set_tm sds_ltA sds_len natInt u_nthM u_bz u_bi1 u_bi2 u_bi3 u_bi4 u_bi5 u_bi6 u_bi7 ltO_o ltO_r u_eqE u_eqSm Nat.le_add_right List.append_assoc w_0 w_Y0 w_B0 w_Bk w_Bs0 w_Bsk w_take w_takeY w_takeK sw_len wo_cells
attribute [local go_sem_proc] Nat.reduceAdd Nat.reduceSub Nat.reduceMul Nat.reduceLeDiff Nat.reduceLT Int.reduceEq Int.reduceNe Int.reduceLT Int.reduceLE Int.reduceAdd Int.reduceSub Int.reduceMul Int.reduceNeg Int.reduceToNat reduceCtorEq Nat.reduceEqDiff Nat.reduceBEq Nat.reduceGT
attribute [local go_sem_proc ↓] reduceIte
end Go.Proofs.Ytaaogcnjfkgnoaa

namespace Go.Proofs.Ytaaogcnjfkgnoaa
open Go.RowKit
attribute [local go_sem] Nat.zero_add Nat.add_zero Nat.mul_one Int.toNat_natCast Int.natCast_zero Int.cast_ofNat_Int or_false false_or or_true true_or Nat.sub_zero Int.natCast_nonneg Int.toNat_zero Bool.true_and Bool.and_true Bool.false_and Bool.and_false Bool.true_or Bool.or_true Bool.false_or Bool.or_false Bool.not_true Bool.not_false Bool.not_not true_and and_true false_and and_false not_true_eq_false not_false_eq_true eq_self decide_true decide_false ne_eq implies_true forall_const true_implies false_implies Bool.true_eq_false Bool.false_eq_true List.map_cons List.map_nil List.all_cons List.all_nil List.length_cons List.length_nil List.length_map List.length_append List.nil_append List.cons_append List.set_cons_zero List.set_cons_succ List.set_nil List.drop_zero List.drop_succ_cons List.drop_nil List.take_zero List.take_succ_cons List.take_nil Option.map_some Option.map_none Option.isSome_some List.all_append List.all_map Function.comp_def decide_eq_true_eq Bool.and_eq_true beq_self_eq_true or_self and_self ite_true ite_false Nat.le_refl Bool.not_eq_true decide_not Bool.not_eq_true' decide_eq_false_iff_not Bool.not_eq_false Bool.or_eq_true if_true if_false ite_self u_roF u_cvF u_cvC u_ceT u_ceK u_appS sm_it sm_len sm_sure sm_ltA sm_lt1 sm_all1 sm_ro sm_take sm_sl sm_set sm_noT sm_fr sm_st_fr sm_set_fr sm_kd sm_st_kd sm_set_kd sm_vw sm_st_vw sm_set_vw sm_sq sm_st_sq sm_set_sq sm_tm sm_st_tm sm_set_tm zsm_len zsm_sure zsm_lt1 zsm_sl zsm_ro zsm_setz zsm_set zsm_setr zsm_take sms_ltA sms_len ce_it ce_len ce_sure ce_ltA ce_lt1 ce_all1 ce_ro ce_take ce_sl ce_set ce_noT ce_sq ce_st_sq ce_set_sq ce_vw ce_st_vw ce_set_vw ce_tm ce_st_tm ce_set_tm ce_body ce_st_body ce_set_body ce_vs ce_st_vs ce_set_vs zce_len zce_sure zce_lt1 zce_sl zce_ro zce_setz zce_set zce_setr zce_take ces_ltA ces_len cg_it cg_len cg_sure cg_ltA cg_lt1 cg_all1 cg_ro cg_take cg_sl cg_set cg_noT cg_fr cg_st_fr cg_set_fr cg_vw cg_st_vw cg_set_vw cg_st cg_st_st cg_set_st cg_rt cg_st_rt cg_set_rt cg_pf cg_st_pf cg_set_pf cg_cs cg_st_cs cg_set_cs zcg_len zcg_sure zcg_lt1 zcg_sl zcg_ro zcg_setz zcg_set zcg_setr zcg_take cgs_ltA cgs_len ms_it ms_len ms_sure ms_ltA ms_lt1 ms_all1 ms_ro ms_take ms_sl ms_set ms_noT ms_kd ms_st_kd ms_set_kd ms_fr ms_st_fr ms_set_fr ms_vw ms_st_vw ms_set_vw ms_sq ms_st_sq ms_set_sq ms_tm ms_st_tm ms_set_tm ms_body ms_st_body ms_set_body ms_vs ms_st_vs ms_set_vs ms_chs ms_st_chs ms_set_chs zms_len zms_sure zms_lt1 zms_sl zms_ro zms_setz zms_set zms_setr zms_take mss_ltA mss_len co_it co_len co_sure co_ltA co_lt1 co_all1 co_ro co_take co_sl co_set co_noT co_sq co_st_sq co_set_sq co_tm co_st_tm co_set_tm co_body co_st_body co_set_body co_nl co_st_nl co_set_nl zco_len zco_sure zco_lt1 zco_sl zco_ro zco_setz zco_set zco_setr zco_take cos_ltA cos_len sd_it sd_len sd_sure sd_ltA sd_lt1 sd_all1 sd_ro sd_take sd_sl sd_set sd_noT sd_wh sd_st_wh sd_set_wh sd_fr sd_st_fr sd_set_fr sd_kd sd_st_kd sd_set_kd sd_vw sd_st_vw sd_set_vw sd_sq sd_st_sq sd_set_sq sd_tm sd_st_tm sd_set_tm sds_ltA sds_len natInt u_nthM u_bz u_bi1 u_bi2 u_bi3 u_bi4 u_bi5 u_bi6 u_bi7 ltO_o ltO_r u_eqE u_eqSm Nat.le_add_right List.append_assoc w_0 w_Y0 w_B0 w_Bk w_Bs0 w_Bsk w_take w_takeY w_takeK sw_len wo_cells
attribute [local go_sem_proc] Nat.reduceAdd Nat.reduceSub Nat.reduceMul Nat.reduceLeDiff Nat.reduceLT Int.reduceEq Int.reduceNe Int.reduceLT Int.reduceLE Int.reduceAdd Int.reduceSub Int.reduceMul Int.reduceNeg Int.reduceToNat reduceCtorEq Nat.reduceEqDiff Nat.reduceBEq Nat.reduceGT
attribute [local go_sem_proc ↓] reduceIte
def voB (w : Sm) (l L : List Sm) (p : Int) : Bool := decide (({ w with fr := p } : Sm) ∈ l) && decide (({ w with fr := p } : Sm) ∈ L)
def manyN (w : Sm) (l L : List Sm) (but : Int) (k : Nat) : Nat := ((List.range k).filter fun (p : Nat)=>decide ((p : Int) ≠ but) && voB w l L (p : Int)).length
end Go.Proofs.Ytaaogcnjfkgnoaa

namespace Go.Proofs.Ytaaogcnjfkgnoaa
open Go.RowKit
theorem without_s (m s : Nat) (n : Int) (h : s < 2 ^ 64) : quorum_Without m (qA s) (nA n) = some (qA (s &&& (18446744073709551615 - qb n)),[]) := by
 have hb := bit_s m n
 have ha := u64_andNot_nat s (qb n) h (qb_lt n)
 rw [quorum_Without_eq]
 simp (config := {maxSteps := 4000000,implicitDefEqProofs := false}) only [go_sem,↓reduceIte,Nat.reduceAdd,Nat.reduceSub,Nat.reduceMul,Nat.reduceLeDiff,Nat.reduceLT,Int.reduceEq,Int.reduceNe,Int.reduceLT,Int.reduceLE,Int.reduceAdd,Int.reduceSub,Int.reduceMul,Int.reduceNeg,Nat.zero_add,Nat.add_zero,Nat.mul_one,Int.toNat_natCast,Int.natCast_zero,Int.cast_ofNat_Int,or_false,false_or,or_true,true_or,Int.reduceToNat,Nat.sub_zero,Int.natCast_nonneg,Int.toNat_zero,Bool.true_and,Bool.and_true,Bool.false_and,Bool.and_false,Bool.true_or,Bool.or_true,Bool.false_or,Bool.or_false,Bool.not_true,Bool.not_false,Bool.not_not,true_and,and_true,false_and,and_false,not_true_eq_false,not_false_eq_true,eq_self,decide_true,decide_false,ne_eq,implies_true,forall_const,true_implies,false_implies,Bool.true_eq_false,Bool.false_eq_true,reduceCtorEq,List.map_cons,List.map_nil,List.all_cons,List.all_nil,List.length_cons,List.length_nil,List.length_map,List.length_append,List.nil_append,List.cons_append,List.set_cons_zero,List.set_cons_succ,List.set_nil,List.drop_zero,List.drop_succ_cons,List.drop_nil,List.take_zero,List.take_succ_cons,List.take_nil,Option.map_some,Option.map_none,Option.isSome_some,Nat.reduceEqDiff,Nat.reduceBEq,Nat.reduceGT,List.all_append,List.all_map,Function.comp_def,decide_eq_true_eq,Bool.and_eq_true,beq_self_eq_true,or_self,and_self,ite_true,ite_false,Nat.le_refl,Bool.not_eq_true,decide_not,Bool.not_eq_true',decide_eq_false_iff_not,Bool.not_eq_false,Bool.or_eq_true,if_true,if_false,ite_self,u_roF,u_cvF,u_cvC,u_ceT,u_ceK,u_appS,hb,ha]
theorem primary_s (m : Nat) (v n : Int) (hv : -9223372036854775808 ≤ v ∧ v < 9223372036854775808) (hn : n < 9223372036854775808) : quorum_Primary m (nA v) (nA n) = some (nA (if n < 1 then 0 else v % n),[]) := by
 rw [quorum_Primary_eq]
 by_cases h1 : n < 1
 ·simp (config := {maxSteps := 4000000,implicitDefEqProofs := false}) only [go_sem,↓reduceIte,Nat.reduceAdd,Nat.reduceSub,Nat.reduceMul,Nat.reduceLeDiff,Nat.reduceLT,Int.reduceEq,Int.reduceNe,Int.reduceLT,Int.reduceLE,Int.reduceAdd,Int.reduceSub,Int.reduceMul,Int.reduceNeg,Nat.zero_add,Nat.add_zero,Nat.mul_one,Int.toNat_natCast,Int.natCast_zero,Int.cast_ofNat_Int,or_false,false_or,or_true,true_or,Int.reduceToNat,Nat.sub_zero,Int.natCast_nonneg,Int.toNat_zero,Bool.true_and,Bool.and_true,Bool.false_and,Bool.and_false,Bool.true_or,Bool.or_true,Bool.false_or,Bool.or_false,Bool.not_true,Bool.not_false,Bool.not_not,true_and,and_true,false_and,and_false,not_true_eq_false,not_false_eq_true,eq_self,decide_true,decide_false,ne_eq,implies_true,forall_const,true_implies,false_implies,Bool.true_eq_false,Bool.false_eq_true,reduceCtorEq,List.map_cons,List.map_nil,List.all_cons,List.all_nil,List.length_cons,List.length_nil,List.length_map,List.length_append,List.nil_append,List.cons_append,List.set_cons_zero,List.set_cons_succ,List.set_nil,List.drop_zero,List.drop_succ_cons,List.drop_nil,List.take_zero,List.take_succ_cons,List.take_nil,Option.map_some,Option.map_none,Option.isSome_some,Nat.reduceEqDiff,Nat.reduceBEq,Nat.reduceGT,List.all_append,List.all_map,Function.comp_def,decide_eq_true_eq,Bool.and_eq_true,beq_self_eq_true,or_self,and_self,ite_true,ite_false,Nat.le_refl,Bool.not_eq_true,decide_not,Bool.not_eq_true',decide_eq_false_iff_not,Bool.not_eq_false,Bool.or_eq_true,if_true,if_false,ite_self,u_roF,u_cvF,u_cvC,u_ceT,u_ceK,u_appS,h1]
 ·have h0 : ¬ n = 0 := by omega
  have hm : v.tmod n = if v.tmod n < 0 then v % n - n else v % n := by
   have e1 := Int.emod_nonneg v h0
   have e2 := Int.emod_lt_of_pos v (show 0 < n by omega)
   by_cases hp : 0 ≤ v
   ·rw [Int.tmod_eq_emod_of_nonneg hp,if_neg (by omega)]
   ·have e3 := Int.tmod_eq_emod (a := v) (b := n)
    have e4 : v.tmod n = if n ∣ v then v % n else v % n - n := by
     rw [e3]
     by_cases hd : n ∣ v
     ·rw [if_pos (.inr hd),if_pos hd];omega
     ·rw [if_neg (by simp [hd,hp]),if_neg hd]
      have : (n.natAbs : Int) = n := by omega
      omega
    by_cases hd : n ∣ v
    ·have : v % n = 0 := Int.emod_eq_zero_of_dvd hd
     rw [if_pos hd] at e4
     rw [e4,if_neg (by omega)]
    ·rw [if_neg hd] at e4
     rw [e4,if_pos (by omega)]
  by_cases h2 : v.tmod n < 0
  ·rw [if_pos h2] at hm
   have e : IntKind.i64.wrap (v.tmod n + n) = v % n := by
    rw [hm] at h2 ⊢
    have e1 := Int.emod_nonneg v h0
    have e2 := Int.emod_lt_of_pos v (show 0 < n by omega)
    rw [show v % n - n + n = v % n by omega]
    exact w_i64 (by omega) (by omega)
   simp (config := {maxSteps := 4000000,implicitDefEqProofs := false}) only [go_sem,↓reduceIte,Nat.reduceAdd,Nat.reduceSub,Nat.reduceMul,Nat.reduceLeDiff,Nat.reduceLT,Int.reduceEq,Int.reduceNe,Int.reduceLT,Int.reduceLE,Int.reduceAdd,Int.reduceSub,Int.reduceMul,Int.reduceNeg,Nat.zero_add,Nat.add_zero,Nat.mul_one,Int.toNat_natCast,Int.natCast_zero,Int.cast_ofNat_Int,or_false,false_or,or_true,true_or,Int.reduceToNat,Nat.sub_zero,Int.natCast_nonneg,Int.toNat_zero,Bool.true_and,Bool.and_true,Bool.false_and,Bool.and_false,Bool.true_or,Bool.or_true,Bool.false_or,Bool.or_false,Bool.not_true,Bool.not_false,Bool.not_not,true_and,and_true,false_and,and_false,not_true_eq_false,not_false_eq_true,eq_self,decide_true,decide_false,ne_eq,implies_true,forall_const,true_implies,false_implies,Bool.true_eq_false,Bool.false_eq_true,reduceCtorEq,List.map_cons,List.map_nil,List.all_cons,List.all_nil,List.length_cons,List.length_nil,List.length_map,List.length_append,List.nil_append,List.cons_append,List.set_cons_zero,List.set_cons_succ,List.set_nil,List.drop_zero,List.drop_succ_cons,List.drop_nil,List.take_zero,List.take_succ_cons,List.take_nil,Option.map_some,Option.map_none,Option.isSome_some,Nat.reduceEqDiff,Nat.reduceBEq,Nat.reduceGT,List.all_append,List.all_map,Function.comp_def,decide_eq_true_eq,Bool.and_eq_true,beq_self_eq_true,or_self,and_self,ite_true,ite_false,Nat.le_refl,Bool.not_eq_true,decide_not,Bool.not_eq_true',decide_eq_false_iff_not,Bool.not_eq_false,Bool.or_eq_true,if_true,if_false,ite_self,u_roF,u_cvF,u_cvC,u_ceT,u_ceK,u_appS,h1,h0,h2,e]
  ·rw [if_neg h2] at hm
   rw [if_neg h1]
   simp (config := {maxSteps := 4000000,implicitDefEqProofs := false}) only [go_sem,↓reduceIte,Nat.reduceAdd,Nat.reduceSub,Nat.reduceMul,Nat.reduceLeDiff,Nat.reduceLT,Int.reduceEq,Int.reduceNe,Int.reduceLT,Int.reduceLE,Int.reduceAdd,Int.reduceSub,Int.reduceMul,Int.reduceNeg,Nat.zero_add,Nat.add_zero,Nat.mul_one,Int.toNat_natCast,Int.natCast_zero,Int.cast_ofNat_Int,or_false,false_or,or_true,true_or,Int.reduceToNat,Nat.sub_zero,Int.natCast_nonneg,Int.toNat_zero,Bool.true_and,Bool.and_true,Bool.false_and,Bool.and_false,Bool.true_or,Bool.or_true,Bool.false_or,Bool.or_false,Bool.not_true,Bool.not_false,Bool.not_not,true_and,and_true,false_and,and_false,not_true_eq_false,not_false_eq_true,eq_self,decide_true,decide_false,ne_eq,implies_true,forall_const,true_implies,false_implies,Bool.true_eq_false,Bool.false_eq_true,reduceCtorEq,List.map_cons,List.map_nil,List.all_cons,List.all_nil,List.length_cons,List.length_nil,List.length_map,List.length_append,List.nil_append,List.cons_append,List.set_cons_zero,List.set_cons_succ,List.set_nil,List.drop_zero,List.drop_succ_cons,List.drop_nil,List.take_zero,List.take_succ_cons,List.take_nil,Option.map_some,Option.map_none,Option.isSome_some,Nat.reduceEqDiff,Nat.reduceBEq,Nat.reduceGT,List.all_append,List.all_map,Function.comp_def,decide_eq_true_eq,Bool.and_eq_true,beq_self_eq_true,or_self,and_self,ite_true,ite_false,Nat.le_refl,Bool.not_eq_true,decide_not,Bool.not_eq_true',decide_eq_false_iff_not,Bool.not_eq_false,Bool.or_eq_true,if_true,if_false,ite_self,u_roF,u_cvF,u_cvC,u_ceT,u_ceK,u_appS,h1,h0,h2]
   rw [hm]
theorem of_s (m : Nat) (l : List Int) (hl : l.length < 34359738369) (hm : l.length < m) : quorum_Of m (SL (l.map nA)) = some (qA (l.foldl (fun s i=>s ||| qb i) 0),[]) := by
 rw [quorum_Of_eq]
 simp (config := {maxSteps := 4000000,implicitDefEqProofs := false}) only [go_sem,↓reduceIte,Nat.reduceAdd,Nat.reduceSub,Nat.reduceMul,Nat.reduceLeDiff,Nat.reduceLT,Int.reduceEq,Int.reduceNe,Int.reduceLT,Int.reduceLE,Int.reduceAdd,Int.reduceSub,Int.reduceMul,Int.reduceNeg,Nat.zero_add,Nat.add_zero,Nat.mul_one,Int.toNat_natCast,Int.natCast_zero,Int.cast_ofNat_Int,or_false,false_or,or_true,true_or,Int.reduceToNat,Nat.sub_zero,Int.natCast_nonneg,Int.toNat_zero,Bool.true_and,Bool.and_true,Bool.false_and,Bool.and_false,Bool.true_or,Bool.or_true,Bool.false_or,Bool.or_false,Bool.not_true,Bool.not_false,Bool.not_not,true_and,and_true,false_and,and_false,not_true_eq_false,not_false_eq_true,eq_self,decide_true,decide_false,ne_eq,implies_true,forall_const,true_implies,false_implies,Bool.true_eq_false,Bool.false_eq_true,reduceCtorEq,List.map_cons,List.map_nil,List.all_cons,List.all_nil,List.length_cons,List.length_nil,List.length_map,List.length_append,List.nil_append,List.cons_append,List.set_cons_zero,List.set_cons_succ,List.set_nil,List.drop_zero,List.drop_succ_cons,List.drop_nil,List.take_zero,List.take_succ_cons,List.take_nil,Option.map_some,Option.map_none,Option.isSome_some,Nat.reduceEqDiff,Nat.reduceBEq,Nat.reduceGT,List.all_append,List.all_map,Function.comp_def,decide_eq_true_eq,Bool.and_eq_true,beq_self_eq_true,or_self,and_self,ite_true,ite_false,Nat.le_refl,Bool.not_eq_true,decide_not,Bool.not_eq_true',decide_eq_false_iff_not,Bool.not_eq_false,Bool.or_eq_true,if_true,if_false,ite_self,u_roF,u_cvF,u_cvC,u_ceT,u_ceK,u_appS]
 have hlt : ∀ k : List Int,k.foldl (fun s i=>s ||| qb i) 0 < 2 ^ 64 := by
  have : ∀ (k : List Int) (s : Nat),s < 2 ^ 64 → k.foldl (fun s i=>s ||| qb i) s < 2 ^ 64 := by
   intro k
   induction k with
   |nil=>intro s h;exact h
   |cons a k ih=>intro s h;exact ih _ (Nat.or_lt_two_pow h (qb_lt a))
  exact fun k=>this k 0 (by decide)
 refine iter_ind (ι := {k : Nat // k ≤ l.length}) (fun k=>⟨[],[(3,qA ((l.take k.1).foldl (fun s i=>s ||| qb i) 0)),(6,SL (l.map nA)),(7,nA l.length),(8,nA k.1)]⟩) (fun k=>l.length - k.1) (fun _=>some (qA (l.foldl (fun s i=>s ||| qb i) 0),[])) ?_ ⟨0,Nat.zero_le _⟩ (by dsimp only;omega)
 rintro ⟨k,hk⟩ kc hkc
 dsimp only at hkc ⊢
 rw [quorum_Of_b1_eq]
 by_cases hlt2 : k < l.length
 ·have hlt' : (k : Int) < (l.length : Int) := by omega
  have hw := with_s m ((l.take k).foldl (fun s i=>s ||| qb i) 0) l[k] (hlt _)
  have hs := hkc ⟨k + 1,by omega⟩ (by dsimp only;omega)
  dsimp only at hs
  rw [List.take_succ_eq_append_getElem hlt2,List.foldl_append] at hs
  simp (config := {maxSteps := 4000000,implicitDefEqProofs := false}) (disch := omega) only [go_sem,↓reduceIte,Nat.reduceAdd,Nat.reduceSub,Nat.reduceMul,Nat.reduceLeDiff,Nat.reduceLT,Int.reduceEq,Int.reduceNe,Int.reduceLT,Int.reduceLE,Int.reduceAdd,Int.reduceSub,Int.reduceMul,Int.reduceNeg,Nat.zero_add,Nat.add_zero,Nat.mul_one,Int.toNat_natCast,Int.natCast_zero,Int.cast_ofNat_Int,or_false,false_or,or_true,true_or,Int.reduceToNat,Nat.sub_zero,Int.natCast_nonneg,Int.toNat_zero,Bool.true_and,Bool.and_true,Bool.false_and,Bool.and_false,Bool.true_or,Bool.or_true,Bool.false_or,Bool.or_false,Bool.not_true,Bool.not_false,Bool.not_not,true_and,and_true,false_and,and_false,not_true_eq_false,not_false_eq_true,eq_self,decide_true,decide_false,ne_eq,implies_true,forall_const,true_implies,false_implies,Bool.true_eq_false,Bool.false_eq_true,reduceCtorEq,List.map_cons,List.map_nil,List.all_cons,List.all_nil,List.length_cons,List.length_nil,List.length_map,List.length_append,List.nil_append,List.cons_append,List.set_cons_zero,List.set_cons_succ,List.set_nil,List.drop_zero,List.drop_succ_cons,List.drop_nil,List.take_zero,List.take_succ_cons,List.take_nil,Option.map_some,Option.map_none,Option.isSome_some,Nat.reduceEqDiff,Nat.reduceBEq,Nat.reduceGT,List.all_append,List.all_map,Function.comp_def,decide_eq_true_eq,Bool.and_eq_true,beq_self_eq_true,or_self,and_self,ite_true,ite_false,Nat.le_refl,Bool.not_eq_true,decide_not,Bool.not_eq_true',decide_eq_false_iff_not,Bool.not_eq_false,Bool.or_eq_true,if_true,if_false,ite_self,u_roF,u_cvF,u_cvC,u_ceT,u_ceK,u_appS,hlt',u_nthM,hw,w_i64]
  exact hs
 ·have hlt' : ¬ (k : Int) < (l.length : Int) := by omega
  simp (config := {maxSteps := 4000000,implicitDefEqProofs := false}) only [go_sem,↓reduceIte,Nat.reduceAdd,Nat.reduceSub,Nat.reduceMul,Nat.reduceLeDiff,Nat.reduceLT,Int.reduceEq,Int.reduceNe,Int.reduceLT,Int.reduceLE,Int.reduceAdd,Int.reduceSub,Int.reduceMul,Int.reduceNeg,Nat.zero_add,Nat.add_zero,Nat.mul_one,Int.toNat_natCast,Int.natCast_zero,Int.cast_ofNat_Int,or_false,false_or,or_true,true_or,Int.reduceToNat,Nat.sub_zero,Int.natCast_nonneg,Int.toNat_zero,Bool.true_and,Bool.and_true,Bool.false_and,Bool.and_false,Bool.true_or,Bool.or_true,Bool.false_or,Bool.or_false,Bool.not_true,Bool.not_false,Bool.not_not,true_and,and_true,false_and,and_false,not_true_eq_false,not_false_eq_true,eq_self,decide_true,decide_false,ne_eq,implies_true,forall_const,true_implies,false_implies,Bool.true_eq_false,Bool.false_eq_true,reduceCtorEq,List.map_cons,List.map_nil,List.all_cons,List.all_nil,List.length_cons,List.length_nil,List.length_map,List.length_append,List.nil_append,List.cons_append,List.set_cons_zero,List.set_cons_succ,List.set_nil,List.drop_zero,List.drop_succ_cons,List.drop_nil,List.take_zero,List.take_succ_cons,List.take_nil,Option.map_some,Option.map_none,Option.isSome_some,Nat.reduceEqDiff,Nat.reduceBEq,Nat.reduceGT,List.all_append,List.all_map,Function.comp_def,decide_eq_true_eq,Bool.and_eq_true,beq_self_eq_true,or_self,and_self,ite_true,ite_false,Nat.le_refl,Bool.not_eq_true,decide_not,Bool.not_eq_true',decide_eq_false_iff_not,Bool.not_eq_false,Bool.or_eq_true,if_true,if_false,ite_self,u_roF,u_cvF,u_cvC,u_ceT,u_ceK,u_appS,hlt']
  rw [quorum_Of_r1_eq,List.take_of_length_le (by omega)]
  simp (config := {maxSteps := 4000000,implicitDefEqProofs := false}) only [go_sem,↓reduceIte,Nat.reduceAdd,Nat.reduceSub,Nat.reduceMul,Nat.reduceLeDiff,Nat.reduceLT,Int.reduceEq,Int.reduceNe,Int.reduceLT,Int.reduceLE,Int.reduceAdd,Int.reduceSub,Int.reduceMul,Int.reduceNeg,Nat.zero_add,Nat.add_zero,Nat.mul_one,Int.toNat_natCast,Int.natCast_zero,Int.cast_ofNat_Int,or_false,false_or,or_true,true_or,Int.reduceToNat,Nat.sub_zero,Int.natCast_nonneg,Int.toNat_zero,Bool.true_and,Bool.and_true,Bool.false_and,Bool.and_false,Bool.true_or,Bool.or_true,Bool.false_or,Bool.or_false,Bool.not_true,Bool.not_false,Bool.not_not,true_and,and_true,false_and,and_false,not_true_eq_false,not_false_eq_true,eq_self,decide_true,decide_false,ne_eq,implies_true,forall_const,true_implies,false_implies,Bool.true_eq_false,Bool.false_eq_true,reduceCtorEq,List.map_cons,List.map_nil,List.all_cons,List.all_nil,List.length_cons,List.length_nil,List.length_map,List.length_append,List.nil_append,List.cons_append,List.set_cons_zero,List.set_cons_succ,List.set_nil,List.drop_zero,List.drop_succ_cons,List.drop_nil,List.take_zero,List.take_succ_cons,List.take_nil,Option.map_some,Option.map_none,Option.isSome_some,Nat.reduceEqDiff,Nat.reduceBEq,Nat.reduceGT,List.all_append,List.all_map,Function.comp_def,decide_eq_true_eq,Bool.and_eq_true,beq_self_eq_true,or_self,and_self,ite_true,ite_false,Nat.le_refl,Bool.not_eq_true,decide_not,Bool.not_eq_true',decide_eq_false_iff_not,Bool.not_eq_false,Bool.or_eq_true,if_true,if_false,ite_self,u_roF,u_cvF,u_cvC,u_ceT,u_ceK,u_appS]
end Go.Proofs.Ytaaogcnjfkgnoaa

namespace Go.Proofs.Ytaaogcnjfkgnoaa
open Go.RowKit
theorem fold_lt : ∀ (l : List Int) (s : Nat),s < 2 ^ 64 → l.foldl (fun s i=>s ||| qb i) s < 2 ^ 64
 |[],s,h=>h
 |i :: l,s,h=>fold_lt l _ (Nat.or_lt_two_pow h (qb_lt i))
theorem fold_bit {j : Nat} (hj : j < 64) : ∀ (l : List Int) (s : Nat),(l.foldl (fun s i=>s ||| qb i) s).testBit j = (s.testBit j || decide ((j : Int) ∈ l))
 |[],s=>by simp
 |i :: l,s=>by
  show (l.foldl _ (s ||| qb i)).testBit j = _
  rw [fold_bit hj l,bitw hj]
  by_cases h : i = (j : Int)
  ·simp [h]
  ·have : ¬ (j : Int) = i := fun e=>h e.symm
   simp [h,this]
def setV (w : Sm) (R l : List Sm) (n : Int) : Nat := (outL (spL w R l) 64).foldl (fun s i=>s ||| qb i) 0 &&& allN n
theorem setV_lt {w : Sm} {R l : List Sm} {n : Int} : setV w R l n < 2 ^ 64 := Nat.lt_of_le_of_lt Nat.and_le_left (fold_lt _ 0 (by decide))
theorem spL_at {w : Sm} {R : List Sm} (hR : ∀ x ∈ R,0 ≤ x.fr ∧ x.fr < 64) {j : Nat} (hj : j < 64) : ∀ (l : List Sm) (b : List Bool),b.length = 64 → (l.foldl (spS w R) b).getD j false = (b.getD j false || voB w l R j)
 |[],b,hb=>by simp [voB]
 |x :: l,b,hb=>by
  show (l.foldl (spS w R) (spS w R b x)).getD j false = _
  rw [spL_at hR hj l _ (by rw [spS_len,hb])]
  have hv : voB w (x :: l) R j = ((decide (x = ({ w with fr := (j : Int) } : Sm)) && decide (x ∈ R)) || voB w l R j) := by
   unfold voB
   by_cases h : x = ({ w with fr := (j : Int) } : Sm)
   ·subst h
    simp
   ·have h' : ¬ ({ w with fr := (j : Int) } : Sm) = x := fun e=>h e.symm
    simp [h,h']
  rw [hv,← Bool.or_assoc]
  congr 1
  unfold spS hitB
  by_cases h1 : x = { w with fr := x.fr }
  ·by_cases h2 : x ∈ R
   ·obtain ⟨f0,f1⟩ := hR x h2
    rw [if_pos (by rw [decide_eq_true h1,decide_eq_true h2];rfl)]
    by_cases h3 : x.fr = (j : Int)
    ·have e : decide (x = ({ w with fr := (j : Int) } : Sm)) = true := decide_eq_true (by rw [← h3];exact h1)
     rw [e,decide_eq_true h2,h3,Int.toNat_natCast]
     simp [List.getD_eq_getElem?_getD,hb,hj]
    ·have e : decide (x = ({ w with fr := (j : Int) } : Sm)) = false := decide_eq_false (fun q=>h3 (by rw [q]))
     rw [e]
     have : x.fr.toNat ≠ j := by omega
     simp [List.getD_eq_getElem?_getD,List.getElem?_set_ne this]
   ·rw [if_neg (by rw [decide_eq_false h2,Bool.and_false];decide),decide_eq_false h2]
    simp
  ·have e : decide (x = ({ w with fr := (j : Int) } : Sm)) = false := decide_eq_false (fun q=>h1 (by rw [q]))
   rw [if_neg (by rw [decide_eq_false h1,Bool.false_and];decide),e]
   simp
theorem setV_bit {w : Sm} {R l : List Sm} {n : Int} (hR : ∀ x ∈ R,0 ≤ x.fr ∧ x.fr < 64) {j : Nat} (hj : j < 64) : (setV w R l n).testBit j = (voB w l R j && decide ((j : Int) < n)) := by
 unfold setV
 rw [Nat.testBit_and,fold_bit hj,allN_bit hj,Nat.zero_testBit,Bool.false_or]
 congr 1
 have h := spL_at (w := w) hR hj l (List.replicate 64 false) (by simp)
 rw [show (List.replicate 64 false).getD j false = false by rw [List.getD_eq_getElem?_getD,List.getElem?_replicate,if_pos hj];rfl,Bool.false_or] at h
 rw [← h]
 unfold outL spL
 rw [Bool.eq_iff_iff,decide_eq_true_eq]
 constructor
 ·intro q
  obtain ⟨p,hp,e⟩ := List.mem_map.1 q
  have : p = j := by omega
  subst this
  exact (List.mem_filter.1 hp).2
 ·intro q
  exact List.mem_map.2 ⟨j,List.mem_filter.2 ⟨List.mem_range.2 hj,q⟩,rfl⟩
theorem manyN_cP {w : Sm} {l L : List Sm} {but : Int} {k : Nat} (hk : k ≤ 64) : manyN w l L but k = cP fun i=>(decide ((i : Int) ≠ but) && voB w l L i) && decide (i < k) := by
 unfold manyN cP
 obtain ⟨d,hd⟩ : ∃ d,64 = k + d := ⟨64 - k,by omega⟩
 rw [hd,range_add,List.filter_append,List.length_append]
 have h1 : ((List.range k).filter fun (i : Nat)=>(decide ((i : Int) ≠ but) && voB w l L i) && decide (i < k)) = (List.range k).filter fun (p : Nat)=>decide ((p : Int) ≠ but) && voB w l L (p : Int) := by
  refine List.filter_congr fun i hi=>?_
  rw [decide_eq_true (List.mem_range.1 hi),Bool.and_true]
 have h2 : (((List.range d).map (k + ·)).filter fun (i : Nat)=>(decide ((i : Int) ≠ but) && voB w l L i) && decide (i < k)) = [] := by
  rw [List.filter_eq_nil_iff]
  intro i hi
  obtain ⟨a,_,rfl⟩ := List.mem_map.1 hi
  simp
 rw [h1,h2]
 rfl
theorem has_set {w : Sm} {R l : List Sm} {n p : Int} (hR : ∀ x ∈ R,0 ≤ x.fr ∧ x.fr < 64) (hp0 : 0 ≤ p) (hp : p < n) (hn : n ≤ 64) : (!decide ((setV w R l n &&& qb p : Nat) = 0)) = voB w l R p := by
 obtain ⟨k,rfl⟩ : ∃ k : Nat,p = k := ⟨p.toNat,by omega⟩
 have hk : k < 64 := by omega
 have h1 := setV_bit (w := w) (l := l) (n := n) hR hk
 rw [decide_eq_true hp,Bool.and_true] at h1
 rw [← h1]
 have hq : qb (k : Int) = 2 ^ k := by unfold qb;rw [if_pos (by omega)];simp
 rw [hq]
 generalize setV w R l n = S
 rw [Bool.eq_iff_iff,Bool.not_eq_true',decide_eq_false_iff_not]
 constructor
 ·intro h
  cases hb : S.testBit k with
  |true=>rfl
  |false =>
   refine absurd (Nat.eq_of_testBit_eq fun i=>?_) h
   rw [Nat.testBit_and,Nat.testBit_two_pow,Nat.zero_testBit]
   by_cases e : k = i
   ·subst e;simp [hb]
   ·simp [e]
 ·intro h e
  have := congrArg (fun x=>x.testBit k) e
  simp [h] at this
theorem cnt_without {w : Sm} {R l : List Sm} {n p : Int} (hR : ∀ x ∈ R,0 ≤ x.fr ∧ x.fr < 64) (hp0 : 0 ≤ p) (hp : p < n) (hn0 : 0 ≤ n) (hn : n ≤ 64) : cntS (setV w R l n &&& (18446744073709551615 - qb p)) = manyN w l R p n.toNat := by
 rw [cnt_P,manyN_cP (by omega)]
 refine cP_ext fun i hi=>?_
 rw [Nat.testBit_and,setV_bit hR hi,not_bit (qb_lt p) hi]
 have h0 := bitw (s := 0) (i := p) hi
 rw [Nat.zero_or,Nat.zero_testBit,Bool.false_or] at h0
 rw [h0]
 have e1 : decide ((i : Int) < n) = decide (i < n.toNat) := by rw [decide_eq_decide];omega
 have e2 : (!decide (p = (i : Int))) = decide ((i : Int) ≠ p) := by
  rw [← decide_not,decide_eq_decide]
  constructor <;> intro h e <;> exact h e.symm
 rw [e1,e2]
 cases voB w l R i <;> cases decide (i < n.toNat) <;> cases decide ((i : Int) ≠ p) <;> rfl
theorem cnt_all' {w : Sm} {R l : List Sm} {n : Int} (hR : ∀ x ∈ R,0 ≤ x.fr ∧ x.fr < 64) (hn0 : 0 ≤ n) (hn : n ≤ 64) : cntS (setV w R l n &&& allN n) = manyN w l R (-1) n.toNat := by
 rw [cnt_all,manyN_cP (by omega)]
 refine cP_ext fun i hi=>?_
 rw [setV_bit hR hi]
 have e1 : decide ((i : Int) < n) = decide (i < n.toNat) := by rw [decide_eq_decide];omega
 have e2 : decide ((i : Int) ≠ -1) = true := decide_eq_true (by omega)
 rw [e1,e2]
 cases voB w l R i <;> cases decide (i < n.toNat) <;> rfl
end Go.Proofs.Ytaaogcnjfkgnoaa

namespace Go.Proofs.Ytaaogcnjfkgnoaa
open Go.RowKit
attribute [local go_sem] Nat.zero_add Nat.add_zero Nat.mul_one Int.toNat_natCast Int.natCast_zero Int.cast_ofNat_Int or_false false_or or_true true_or Nat.sub_zero Int.natCast_nonneg Int.toNat_zero Bool.true_and Bool.and_true Bool.false_and Bool.and_false Bool.true_or Bool.or_true Bool.false_or Bool.or_false Bool.not_true Bool.not_false Bool.not_not true_and and_true false_and and_false not_true_eq_false not_false_eq_true eq_self decide_true decide_false ne_eq implies_true forall_const true_implies false_implies Bool.true_eq_false Bool.false_eq_true List.map_cons List.map_nil List.all_cons List.all_nil List.length_cons List.length_nil List.length_map List.length_append List.nil_append List.cons_append List.set_cons_zero List.set_cons_succ List.set_nil List.drop_zero List.drop_succ_cons List.drop_nil List.take_zero List.take_succ_cons List.take_nil Option.map_some Option.map_none Option.isSome_some List.all_append List.all_map Function.comp_def decide_eq_true_eq Bool.and_eq_true beq_self_eq_true or_self and_self ite_true ite_false Nat.le_refl Bool.not_eq_true decide_not Bool.not_eq_true' decide_eq_false_iff_not Bool.not_eq_false Bool.or_eq_true if_true if_false ite_self u_roF u_cvF u_cvC u_ceT u_ceK u_appS sm_it sm_len sm_sure sm_ltA sm_lt1 sm_all1 sm_ro sm_take sm_sl sm_set sm_noT sm_fr sm_st_fr sm_set_fr sm_kd sm_st_kd sm_set_kd sm_vw sm_st_vw sm_set_vw sm_sq sm_st_sq sm_set_sq sm_tm sm_st_tm sm_set_tm zsm_len zsm_sure zsm_lt1 zsm_sl zsm_ro zsm_setz zsm_set zsm_setr zsm_take sms_ltA sms_len ce_it ce_len ce_sure ce_ltA ce_lt1 ce_all1 ce_ro ce_take ce_sl ce_set ce_noT ce_sq ce_st_sq ce_set_sq ce_vw ce_st_vw ce_set_vw ce_tm ce_st_tm ce_set_tm ce_body ce_st_body ce_set_body ce_vs ce_st_vs ce_set_vs zce_len zce_sure zce_lt1 zce_sl zce_ro zce_setz zce_set zce_setr zce_take ces_ltA ces_len cg_it cg_len cg_sure cg_ltA cg_lt1 cg_all1 cg_ro cg_take cg_sl cg_set cg_noT cg_fr cg_st_fr cg_set_fr cg_vw cg_st_vw cg_set_vw cg_st cg_st_st cg_set_st cg_rt cg_st_rt cg_set_rt cg_pf cg_st_pf cg_set_pf cg_cs cg_st_cs cg_set_cs zcg_len zcg_sure zcg_lt1 zcg_sl zcg_ro zcg_setz zcg_set zcg_setr zcg_take cgs_ltA cgs_len ms_it ms_len ms_sure ms_ltA ms_lt1 ms_all1 ms_ro ms_take ms_sl ms_set ms_noT ms_kd ms_st_kd ms_set_kd ms_fr ms_st_fr ms_set_fr ms_vw ms_st_vw ms_set_vw ms_sq ms_st_sq ms_set_sq ms_tm ms_st_tm ms_set_tm ms_body ms_st_body ms_set_body ms_vs ms_st_vs ms_set_vs ms_chs ms_st_chs ms_set_chs zms_len zms_sure zms_lt1 zms_sl zms_ro zms_setz zms_set zms_setr zms_take mss_ltA mss_len co_it co_len co_sure co_ltA co_lt1 co_all1 co_ro co_take co_sl co_set co_noT co_sq co_st_sq co_set_sq co_tm co_st_tm co_set_tm co_body co_st_body co_set_body co_nl co_st_nl co_set_nl zco_len zco_sure zco_lt1 zco_sl zco_ro zco_setz zco_set zco_setr zco_take cos_ltA cos_len sd_it sd_len sd_sure sd_ltA sd_lt1 sd_all1 sd_ro sd_take sd_sl sd_set sd_noT sd_wh sd_st_wh sd_set_wh sd_fr sd_st_fr sd_set_fr sd_kd sd_st_kd sd_set_kd sd_vw sd_st_vw sd_set_vw sd_sq sd_st_sq sd_set_sq sd_tm sd_st_tm sd_set_tm sds_ltA sds_len natInt u_nthM u_bz u_bi1 u_bi2 u_bi3 u_bi4 u_bi5 u_bi6 u_bi7 ltO_o ltO_r u_eqE u_eqSm Nat.le_add_right List.append_assoc s_B0 s_Bk s_Bs0 s_Bsk s_takeY s_take s_takeK sc_len smO_lt
attribute [local go_sem_proc] Nat.reduceAdd Nat.reduceSub Nat.reduceMul Nat.reduceLeDiff Nat.reduceLT Int.reduceEq Int.reduceNe Int.reduceLT Int.reduceLE Int.reduceAdd Int.reduceSub Int.reduceMul Int.reduceNeg Int.reduceToNat reduceCtorEq Nat.reduceEqDiff Nat.reduceBEq Nat.reduceGT
attribute [local go_sem_proc ↓] reduceIte
theorem SgOk.rr {σ : Sg} (h : SgOk σ) : ∀ x ∈ σ.R,0 ≤ x.fr ∧ x.fr < 64 := fun x hx=>by
 obtain ⟨h1,h2⟩ := h.rf x hx
 have := h.n2
 exact ⟨h1,by omega⟩
theorem voices_s (m : Nat) (A B : List AObj) (σ : Sg) (l : List Sm) (w : Sm) (n : Int) (hG : GB A B) (hσ : SgOk σ) (hm : 70 < m) (hlm : l.length < m) (hll : l.length ≤ 1000000) (hli : ∀ x ∈ l,SmI x) :
  view_voices m (OP (A.length + 4) 0) (SL (l.map smE)) (smE w) (nA n) (sc A B σ) = some (qA (setV w σ.R l n),sc A B σ) := by
 have hv := gvoices_s m A (B ++ [⟨1,ty_api_Stmt,0,smC w⟩]) σ l w (hG.app fun n=>by simp [smO_lt]) hσ hm hlm hll hli
 rw [sc_app,sm_it] at hv
 have hol := outL_len (b := spL w σ.R l) (k := 64)
 have ho := of_s m (outL (spL w σ.R l) 64) (by omega) (by omega)
 have ha := all_s m n
 have hand := bits_and_u64_nat ((outL (spL w σ.R l) 64).foldl (fun s i=>s ||| qb i) 0) (allN n) (fold_lt _ 0 (by decide)) (allN_lt n)
 have hlt := sc_lt hG (σ := σ) (Nat.le_refl _)
 rw [view_voices_eq,sm_it]
 unfold setV
 simp (config := {maxSteps := 4000000,implicitDefEqProofs := false}) (disch := omega) only [go_sem,hv,ho,ha,hand,hlt]
theorem st_b {R : Type} {a b c d : Int} {K : AV → Option R} : buildE (some pl_api_Stmt) (some zc_api_Stmt) [(1,nA a),(2,nA b),(3,nA c),(4,nA d)] K = K (.agg (smC ⟨0,a,b,c,d⟩)) := _root_.id rfl
def okC (T : List (List UInt8)) (s : List UInt8) (tm : Int) : Bool := decide (ofN T s ≠ 0) && decide ((ofN T s : Int) = tm)
theorem ofE_N {T : List (List UInt8)} {s : List UInt8} : ofE T s = 0 ↔ ofN T s ≠ 0 := by
 unfold ofE ofN posL
 split
 ·simp [*]
 ·split
  ·simp
  ·simp
def wPre (c : Ce) : Sm := ⟨0,2,c.vw,c.sq,c.tm⟩
def wPrep (c : Ce) : Sm := ⟨0,3,c.vw,c.sq,c.tm⟩
def prN (v n : Int) : Int := if n < 1 then 0 else v % n
def ceH (T : List (List UInt8)) (R : List Sm) (c : Ce) (n : Int) : Bool :=
 okN n && (okC T c.body c.tm && (voB (wPre c) c.vs R (prN c.vw n) && decide (2 * fN n ≤ manyN (wPrep c) c.vs R (prN c.vw n) n.toNat)))
def ceT (T : List (List UInt8)) (c : Ce) (n : Int) : List (List UInt8) := if okN n = true then oqT T c.body else T
theorem okN_rng {n : Int} (h : okN n = true) : 4 ≤ n ∧ n ≤ 16 := by rcases okN_iff.1 h with h|h|h|h|h <;> omega
theorem prN_rng {v n : Int} (h : okN n = true) : 0 ≤ prN v n ∧ prN v n < n := by
 obtain ⟨h1,h2⟩ := okN_rng h
 unfold prN
 rw [if_neg (by omega)]
 exact ⟨Int.emod_nonneg _ (by omega),Int.emod_lt_of_pos _ (by omega)⟩
structure CeI (c : Ce) : Prop where
 vw : I64 c.vw
 body : c.body.length ≤ 1000000
 vl : c.vs.length ≤ 1000000
 vs : ∀ x ∈ c.vs,SmI x
theorem SgOk.of {σ : Sg} (h : SgOk σ) {s : List UInt8} (hs : s.length ≤ 9223372036854775807) : SgOk { σ with T := oqT σ.T s } := by
 refine ⟨?_,?_,?_,h.n1,h.n2,h.bl,h.rn,h.rl,h.ri,h.rf⟩
 ·show (oqT σ.T s).Nodup
  unfold oqT
  split
  ·exact h.tn
  ·split
   ·exact h.tn
   ·rename_i h1 _
    exact List.nodup_append.2 ⟨h.tn,by simp,fun a ha b hb=>by simp at hb;subst hb;exact fun e=>h1 (e ▸ ha)⟩
 ·show (oqT σ.T s).length ≤ 65536
  have := h.tl
  unfold oqT
  split
  ·exact h.tl
  ·split
   ·exact h.tl
   ·simp;omega
 ·show ∀ x ∈ oqT σ.T s,_
  unfold oqT
  split
  ·exact h.ts
  ·split
   ·exact h.ts
   ·intro x hx
    rcases List.mem_append.1 hx with q|q
    ·exact h.ts x q
    ·simp at q;subst q;exact hs
theorem vcert2_s (m : Nat) (A B : List AObj) (σ : Sg) (c : Ce) (n : Int) (hG : GB A B) (hσ : SgOk σ) (hm : 1000001 < m) (hc : CeI c) (hn : okN n = true) :
  view_Cert_r2 m (nAB A B) ⟨sc A B σ ++ [⟨1,ty_api_Cert,0,ceC c⟩],[(0,OP (A.length + 4) 0),(3,nA n),(6,OP (nAB A B) 0),(9,nA (fN n))]⟩ = some (bA (voB (wPre c) c.vs σ.R (prN c.vw n) && decide (2 * fN n ≤ manyN (wPrep c) c.vs σ.R (prN c.vw n) n.toNat)),sc A B σ) := by
 obtain ⟨n1,n2⟩ := okN_rng hn
 obtain ⟨p1,p2⟩ := prN_rng (v := c.vw) hn
 have hvl := hc.vl
 have hC : ∀ n,ltO n ⟨1,ty_api_Cert,0,ceC c⟩ = true := fun n=>by
  show ((1 : Nat) == 0 || (ceC c).all (ltA n)) = true
  rw [ce_ltA];rfl
 have hY : ∀ (w : Sm) n,([⟨1,ty_api_Cert,0,ceC c⟩,⟨1,ty_api_Stmt,0,smC w⟩] : List AObj).all (ltO n) = true := fun w n=>by simp [hC,smO_lt]
 have v1 := voices_s m A (B ++ [⟨1,ty_api_Cert,0,ceC c⟩,⟨1,ty_api_Stmt,0,smC (wPre c)⟩]) σ c.vs (wPre c) n (hG.app (hY _)) hσ (by omega) (by omega) hvl hc.vs
 have v2 := voices_s m A (B ++ [⟨1,ty_api_Cert,0,ceC c⟩,⟨1,ty_api_Stmt,0,smC (wPrep c)⟩]) σ c.vs (wPrep c) n (hG.app (hY _)) hσ (by omega) (by omega) hvl hc.vs
 rw [sc_app,sm_it] at v1 v2
 have pr := primary_s m c.vw n ⟨hc.vw.1,by have := hc.vw.2;omega⟩ (by omega)
 rw [show (if n < 1 then 0 else c.vw % n) = prN c.vw n from rfl] at pr
 have hh := has_s m (setV (wPre c) σ.R c.vs n) (prN c.vw n) setV_lt
 rw [has_set hσ.rr p1 p2 (by omega)] at hh
 have hw := without_s m (setV (wPrep c) σ.R c.vs n) (prN c.vw n) setV_lt
 have hcn := count_s m (setV (wPrep c) σ.R c.vs n &&& (18446744073709551615 - qb (prN c.vw n))) (Nat.lt_of_le_of_lt Nat.and_le_left setV_lt)
 rw [cnt_without hσ.rr p1 p2 (by omega) (by omega)] at hcn
 have hlt := sc_lt hG (σ := σ) (Nat.le_refl _)
 have hf := fN_le n
 have hw2 : IntKind.i64.wrap (2 * (fN n : Int)) = 2 * (fN n : Int) := w_i64 (by omega) (by omega)
 have hst : ∀ {K : AV → RO},buildE (some pl_api_Stmt) (some zc_api_Stmt) [(1,nA 2),(2,nA c.vw),(3,nA c.sq),(4,nA c.tm)] K = K (.agg (smC (wPre c))) := st_b
 have hkd : setCells (smC (wPre c)) 1 [nA 3] = smC (wPrep c) := rfl
 have hdd : decide ((2 : Int) * (fN n : Int) ≤ (manyN (wPrep c) c.vs σ.R (prN c.vw n) n.toNat : Int)) = decide (2 * fN n ≤ manyN (wPrep c) c.vs σ.R (prN c.vw n) n.toNat) := by rw [decide_eq_decide];omega
 rw [view_Cert_r2_eq]
 generalize prN c.vw n = p at *
 cases hv : voB (wPre c) c.vs σ.R p with
 |true =>
  rw [hv] at hh
  simp (config := {maxSteps := 4000000,implicitDefEqProofs := false}) (disch := omega) only [go_sem,pr,hst,v1,v2,hkd,hh,hw,hcn,hw2,hlt,hdd]
 |false =>
  rw [hv] at hh
  simp (config := {maxSteps := 4000000,implicitDefEqProofs := false}) (disch := omega) only [go_sem,pr,hst,v1,v2,hkd,hh,hw,hcn,hw2,hlt,hdd]
theorem vcert_s (m : Nat) (A B : List AObj) (σ : Sg) (c : Ce) (n : Int) (hG : GB A B) (hσ : SgOk σ) (hm : 1000001 < m) (hc : CeI c) :
  view_Cert m (OP (A.length + 4) 0) (OP (A.length + 1) 0) (ceE c) (nA n) (sc A B σ) = some (bA (ceH σ.T σ.R c n),sc A B { σ with T := ceT σ.T c n }) := by
 have hf := faults_s m n
 have hC : ∀ n,([⟨1,ty_api_Cert,0,ceC c⟩] : List AObj).all (ltO n) = true := fun n=>by
  rw [List.all_cons,List.all_nil,Bool.and_true]
  show ((1 : Nat) == 0 || (ceC c).all (ltA n)) = true
  rw [ce_ltA];rfl
 have hb := hc.body
 have ht := tof_s m A (B ++ [⟨1,ty_api_Cert,0,ceC c⟩]) σ c.body (hG.app hC) hσ (by omega)
 rw [sc_app,sc_app] at ht
 have hσ2 := hσ.of (s := c.body) (by omega)
 have hlt := fun {σ : Sg}=>sc_lt hG (σ := σ) (Nat.le_refl _)
 rw [view_Cert_eq,ce_it]
 unfold ceH ceT
 cases hn : okN n with
 |false =>
  rw [hn] at hf
  simp (config := {maxSteps := 4000000,implicitDefEqProofs := false}) (disch := omega) only [go_sem,hf,hlt]
 |true =>
  rw [hn] at hf
  have h2 := vcert2_s m A B _ c n hG hσ2 hm hc hn
  dsimp only at h2
  rw [if_pos rfl,Bool.true_and]
  unfold okC
  by_cases c1 : ofE σ.T c.body = 0
  ·have c1' := ofE_N.1 c1
   by_cases c2 : (ofN σ.T c.body : Int) = c.tm
   ·rw [decide_eq_true c1',decide_eq_true c2,Bool.true_and,Bool.true_and,← h2]
    simp (config := {maxSteps := 4000000,implicitDefEqProofs := false}) (disch := omega) only [go_sem,hf,ht,c1,c2,hlt,view_Cert_r1_eq]
   ·rw [decide_eq_false c2,Bool.and_false,Bool.false_and]
    simp (config := {maxSteps := 4000000,implicitDefEqProofs := false}) (disch := omega) only [go_sem,hf,ht,c1,c2,hlt,view_Cert_r1_eq]
  ·have c1' : ¬ ofN σ.T c.body ≠ 0 := fun q=>c1 (ofE_N.2 q)
   rw [decide_eq_false c1',Bool.false_and,Bool.false_and]
   simp (config := {maxSteps := 4000000,implicitDefEqProofs := false}) (disch := omega) only [go_sem,hf,ht,c1,hlt,view_Cert_r1_eq]
theorem WgOk.of {ω : Wg} (h : WgOk ω) {s : List UInt8} : WgOk { ω with T := oqT ω.T s } := ⟨by
 show (oqT ω.T s).length ≤ 65536
 have := h.tl
 unfold oqT
 split
 ·exact h.tl
 ·split
  ·exact h.tl
  ·simp;omega,h.ll,h.rl,h.lx⟩
end Go.Proofs.Ytaaogcnjfkgnoaa

namespace Go.Proofs.Ytaaogcnjfkgnoaa
open Go.RowKit
attribute [local go_sem] Nat.zero_add Nat.add_zero Nat.mul_one Int.toNat_natCast Int.natCast_zero Int.cast_ofNat_Int or_false false_or or_true true_or Nat.sub_zero Int.natCast_nonneg Int.toNat_zero Bool.true_and Bool.and_true Bool.false_and Bool.and_false Bool.true_or Bool.or_true Bool.false_or Bool.or_false Bool.not_true Bool.not_false Bool.not_not true_and and_true false_and and_false not_true_eq_false not_false_eq_true eq_self decide_true decide_false ne_eq implies_true forall_const true_implies false_implies Bool.true_eq_false Bool.false_eq_true List.map_cons List.map_nil List.all_cons List.all_nil List.length_cons List.length_nil List.length_map List.length_append List.nil_append List.cons_append List.set_cons_zero List.set_cons_succ List.set_nil List.drop_zero List.drop_succ_cons List.drop_nil List.take_zero List.take_succ_cons List.take_nil Option.map_some Option.map_none Option.isSome_some List.all_append List.all_map Function.comp_def decide_eq_true_eq Bool.and_eq_true beq_self_eq_true or_self and_self ite_true ite_false Nat.le_refl Bool.not_eq_true decide_not Bool.not_eq_true' decide_eq_false_iff_not Bool.not_eq_false Bool.or_eq_true if_true if_false ite_self u_roF u_cvF u_cvC u_ceT u_ceK u_appS sm_it sm_len sm_sure sm_ltA sm_lt1 sm_all1 sm_ro sm_take sm_sl sm_set sm_noT sm_fr sm_st_fr sm_set_fr sm_kd sm_st_kd sm_set_kd sm_vw sm_st_vw sm_set_vw sm_sq sm_st_sq sm_set_sq sm_tm sm_st_tm sm_set_tm zsm_len zsm_sure zsm_lt1 zsm_sl zsm_ro zsm_setz zsm_set zsm_setr zsm_take sms_ltA sms_len ce_it ce_len ce_sure ce_ltA ce_lt1 ce_all1 ce_ro ce_take ce_sl ce_set ce_noT ce_sq ce_st_sq ce_set_sq ce_vw ce_st_vw ce_set_vw ce_tm ce_st_tm ce_set_tm ce_body ce_st_body ce_set_body ce_vs ce_st_vs ce_set_vs zce_len zce_sure zce_lt1 zce_sl zce_ro zce_setz zce_set zce_setr zce_take ces_ltA ces_len cg_it cg_len cg_sure cg_ltA cg_lt1 cg_all1 cg_ro cg_take cg_sl cg_set cg_noT cg_fr cg_st_fr cg_set_fr cg_vw cg_st_vw cg_set_vw cg_st cg_st_st cg_set_st cg_rt cg_st_rt cg_set_rt cg_pf cg_st_pf cg_set_pf cg_cs cg_st_cs cg_set_cs zcg_len zcg_sure zcg_lt1 zcg_sl zcg_ro zcg_setz zcg_set zcg_setr zcg_take cgs_ltA cgs_len ms_it ms_len ms_sure ms_ltA ms_lt1 ms_all1 ms_ro ms_take ms_sl ms_set ms_noT ms_kd ms_st_kd ms_set_kd ms_fr ms_st_fr ms_set_fr ms_vw ms_st_vw ms_set_vw ms_sq ms_st_sq ms_set_sq ms_tm ms_st_tm ms_set_tm ms_body ms_st_body ms_set_body ms_vs ms_st_vs ms_set_vs ms_chs ms_st_chs ms_set_chs zms_len zms_sure zms_lt1 zms_sl zms_ro zms_setz zms_set zms_setr zms_take mss_ltA mss_len co_it co_len co_sure co_ltA co_lt1 co_all1 co_ro co_take co_sl co_set co_noT co_sq co_st_sq co_set_sq co_tm co_st_tm co_set_tm co_body co_st_body co_set_body co_nl co_st_nl co_set_nl zco_len zco_sure zco_lt1 zco_sl zco_ro zco_setz zco_set zco_setr zco_take cos_ltA cos_len sd_it sd_len sd_sure sd_ltA sd_lt1 sd_all1 sd_ro sd_take sd_sl sd_set sd_noT sd_wh sd_st_wh sd_set_wh sd_fr sd_st_fr sd_set_fr sd_kd sd_st_kd sd_set_kd sd_vw sd_st_vw sd_set_vw sd_sq sd_st_sq sd_set_sq sd_tm sd_st_tm sd_set_tm sds_ltA sds_len natInt u_nthM u_bz u_bi1 u_bi2 u_bi3 u_bi4 u_bi5 u_bi6 u_bi7 s_B0 s_Bk s_Bs0 s_Bsk s_takeY s_take s_takeK sc_len smO_lt w_0 w_Y0 w_B0 w_Bk w_Bs0 w_Bsk w_take w_takeY w_takeK sw_len wo_cells ltO_o ltO_r u_eqE u_eqSm Nat.le_add_right List.append_assoc
attribute [local go_sem_proc] Nat.reduceAdd Nat.reduceSub Nat.reduceMul Nat.reduceLeDiff Nat.reduceLT Int.reduceEq Int.reduceNe Int.reduceLT Int.reduceLE Int.reduceAdd Int.reduceSub Int.reduceMul Int.reduceNeg Int.reduceToNat reduceCtorEq Nat.reduceEqDiff Nat.reduceBEq Nat.reduceGT
attribute [local go_sem_proc ↓] reduceIte
def wSt (c : Ch) : Sm := ⟨0,5,0,c.st,c.rt⟩
def stH (R : List Sm) (c : Ch) (n : Int) : Bool :=
 if c.st = 0 then decide (c.rt = 0) && decide (c.pf.length = 0) else dueB c.st && decide (2 * fN n + 1 ≤ manyN (wSt c) c.pf R (-1) n.toNat)
structure ChI (c : Ch) : Prop where
 fr : I64 c.fr
 vw : 0 ≤ c.vw ∧ c.vw ≤ 2147483647
 st : 0 ≤ c.st ∧ c.st ≤ 2147483647
 rt : 0 ≤ c.rt ∧ c.rt ≤ 2147483647
 pl : c.pf.length ≤ 64
 pf : ∀ x ∈ c.pf,SmI x
 cl : c.cs.length ≤ 64
 cs : ∀ x ∈ c.cs,CeI x ∧ 0 ≤ x.sq ∧ x.sq ≤ 2147483647
theorem SmI_of {x : Sm} (h : smB x = true) : SmI x := by
 have h1 := smB_inI h
 have g : ∀ v ∈ [x.fr,x.kd,x.vw,x.sq,x.tm],I64 v := fun v hv=>by
  obtain ⟨a,b⟩ := h1 v hv
  exact ⟨by omega,by omega⟩
 exact ⟨g _ (by simp),g _ (by simp),g _ (by simp),g _ (by simp),g _ (by simp)⟩
theorem num_rng {v : Int} (h : numB v = true) : 0 ≤ v ∧ v ≤ 2147483647 := by
 unfold numB at h
 simpa using h
theorem CeI_of {x : Ce} (h : ceB x = true) : CeI x ∧ 0 ≤ x.sq ∧ x.sq ≤ 2147483647 := by
 obtain ⟨h1,h2,h3⟩ := ceB_ok h
 obtain ⟨h4,h5⟩ := smsB_ok h3
 simp only [List.all_cons,List.all_nil,Bool.and_true,Bool.and_eq_true] at h1
 obtain ⟨a1,a2⟩ := num_rng h1.1
 obtain ⟨b1,b2⟩ := num_rng h1.2.1
 exact ⟨⟨⟨by omega,by omega⟩,by omega,by omega,fun y hy=>SmI_of (List.all_eq_true.1 h5 y hy)⟩,a1,a2⟩
theorem ChI_of {c : Ch} (h : cgB c = true) : ChI c := by
 obtain ⟨h1,h2,h3,h4⟩ := cgB_ok h
 obtain ⟨h5,h6⟩ := smsB_ok h3
 obtain ⟨h7,h8⟩ := cesB_ok h4
 simp only [List.all_cons,List.all_nil,Bool.and_true,Bool.and_eq_true] at h2
 have h9 := num_rng (parB_num h1)
 exact ⟨⟨by omega,by omega⟩,num_rng h2.1,num_rng h2.2.1,num_rng h2.2.2,h5,fun y hy=>SmI_of (List.all_eq_true.1 h6 y hy),h7,fun y hy=>CeI_of (List.all_eq_true.1 h8 y hy)⟩
theorem cgO_lt {n : Nat} {c : Ch} : ltO n ⟨1,ty_api_Change,0,cgC c⟩ = true := by
 show ((1 : Nat) == 0 || (cgC c).all (ltA n)) = true
 rw [cg_ltA];rfl
theorem ceO_lt {n : Nat} {c : Ce} : ltO n ⟨1,ty_api_Cert,0,ceC c⟩ = true := by
 show ((1 : Nat) == 0 || (ceC c).all (ltA n)) = true
 rw [ce_ltA];rfl
theorem st5_b {R : Type} {a b c : Int} {K : AV → Option R} : buildE (some pl_api_Stmt) (some zc_api_Stmt) [(1,nA a),(3,nA b),(4,nA c)] K = K (.agg (smC ⟨0,a,0,b,c⟩)) := _root_.id rfl
theorem stable_s (m : Nat) (A B : List AObj) (σ : Sg) (c : Ch) (n : Int) (hG : GB A B) (hσ : SgOk σ) (hm : 1000001 < m) (hc : ChI c) (hn : okN n = true) :
  view_stable m (OP (A.length + 4) 0) (cgE c) (nA n) (sc A B σ) = some (bA (stH σ.R c n),sc A B σ) := by
 obtain ⟨n1,n2⟩ := okN_rng hn
 have hpl := hc.pl
 have v1 := voices_s m A (B ++ [⟨1,ty_api_Change,0,cgC c⟩,⟨1,ty_api_Stmt,0,smC (wSt c)⟩]) σ c.pf (wSt c) n (hG.app fun n=>by simp [cgO_lt,smO_lt]) hσ (by omega) (by omega) (by omega) hc.pf
 rw [sc_app,sm_it] at v1
 have hd := due_s m c.st
 have hs := isStrong_s m (setV (wSt c) σ.R c.pf n) n setV_lt
 rw [hn,cnt_all' hσ.rr (by omega) (by omega),Bool.true_and] at hs
 have hdd : decide ((2 : Int) * (fN n : Int) + 1 ≤ (manyN (wSt c) c.pf σ.R (-1) n.toNat : Int)) = decide (2 * fN n + 1 ≤ manyN (wSt c) c.pf σ.R (-1) n.toNat) := by rw [decide_eq_decide];omega
 rw [hdd] at hs
 have hst : ∀ {K : AV → RO},buildE (some pl_api_Stmt) (some zc_api_Stmt) [(1,nA 5),(3,nA c.st),(4,nA c.rt)] K = K (.agg (smC (wSt c))) := st5_b
 have hlt := sc_lt hG (σ := σ) (Nat.le_refl _)
 rw [view_stable_eq,cg_it]
 unfold stH
 by_cases c1 : c.st = 0
 ·rw [if_pos c1]
  by_cases c2 : c.rt = 0
  ·have e1 : decide ((c.pf.length : Int) = 0) = decide (c.pf.length = 0) := by rw [decide_eq_decide];omega
   simp (config := {maxSteps := 4000000,implicitDefEqProofs := false}) (disch := omega) only [go_sem,c1,c2,e1,hlt]
  ·simp (config := {maxSteps := 4000000,implicitDefEqProofs := false}) (disch := omega) only [go_sem,c1,c2,hlt]
 ·rw [if_neg c1]
  cases hdu : dueB c.st with
  |false =>
   rw [hdu] at hd
   simp (config := {maxSteps := 4000000,implicitDefEqProofs := false}) (disch := omega) only [go_sem,c1,hd,hst,hlt]
  |true =>
   rw [hdu] at hd
   simp (config := {maxSteps := 4000000,implicitDefEqProofs := false}) (disch := omega) only [go_sem,c1,hd,hst,v1,hs,hlt]
def ceSeq (st vw last : Int) (x : Ce) : Bool := decide (last < x.sq) && (decide (x.sq ≤ st + 16) && decide (x.vw < vw))
def csF (R : List Sm) (n st vw : Int) : List (List UInt8) → Int → List Ce → Bool × List (List UInt8)
 |T,_,[]=>(true,T)
 |T,last,x :: r=>if ceSeq st vw last x = true then (if ceH T R x n = true then csF R n st vw (ceT T x n) x.sq r else (false,ceT T x n)) else (false,T)
theorem SgOk.ce {σ : Sg} (h : SgOk σ) {c : Ce} {n : Int} (hs : c.body.length ≤ 9223372036854775807) : SgOk { σ with T := ceT σ.T c n } := by
 unfold ceT
 split
 ·exact h.of hs
 ·exact h
theorem vcerts_s (m : Nat) (A B : List AObj) (σ : Sg) (c : Ch) (n : Int) (hG : GB A B) (hσ : SgOk σ) (hm : 1000001 < m) (hc : ChI c) :
  view_certs m (OP (A.length + 4) 0) (OP (A.length + 1) 0) (cgE c) (nA n) (sc A B σ) = some (bA (csF σ.R n c.st c.vw σ.T c.st c.cs).1,sc A B { σ with T := (csF σ.R n c.st c.vw σ.T c.st c.cs).2 }) := by
 have hcl := hc.cl
 obtain ⟨s1,s2⟩ := hc.st
 have h14 : A.length + 4 < nAB A B + 1 ∧ A.length + 1 < nAB A B + 1 := by unfold nAB;omega
 have hB1 : nAB A B < nAB A B + 1 := Nat.lt_succ_self _
 rw [view_certs_eq,cg_it]
 simp (config := {maxSteps := 4000000,implicitDefEqProofs := false}) (disch := omega) only [go_sem,]
 refine iter_go (m := m) (ι := {p : Nat × List (List UInt8) × Int // p.1 ≤ c.cs.length ∧ SgOk { σ with T := p.2.1 } ∧ csF σ.R n c.st c.vw σ.T c.st c.cs = csF σ.R n c.st c.vw p.2.1 p.2.2 (c.cs.drop p.1)}) (fun p=>⟨sc A B { σ with T := p.1.2.1 } ++ [⟨1,ty_api_Change,0,cgC c⟩],[(0,OP (A.length + 4) 0),(1,OP (A.length + 1) 0),(3,nA n),(6,OP (nAB A B) 0),(9,nA p.1.2.2),(15,SL (c.cs.map ceE)),(16,nA c.cs.length),(17,nA p.1.1)]⟩) (fun p=>c.cs.length - p.1.1) (fun _=>some (bA (csF σ.R n c.st c.vw σ.T c.st c.cs).1,sc A B { σ with T := (csF σ.R n c.st c.vw σ.T c.st c.cs).2 })) ?_ ⟨(0,σ.T,c.st),Nat.zero_le _,hσ,rfl⟩ (by dsimp only;omega)
 rintro kx hkx ⟨⟨k,T,last⟩,hk,hT,hF⟩ kc hkc
 dsimp only at hkc hk hT hF ⊢
 rw [view_certs_b1_eq]
 by_cases h : k < c.cs.length
 ·have h' : (k : Int) < (c.cs.length : Int) := by omega
  have hw1 : IntKind.i64.wrap ((k : Int) + 1) = (k : Int) + 1 := w_i64 (by omega) (by omega)
  rw [List.drop_eq_getElem_cons h] at hF
  obtain ⟨hx,x1,x2⟩ := hc.cs _ (List.getElem_mem h)
  have hxb := hx.body
  generalize hxe : c.cs[k] = x at *
  have hv := vcert_s m A (B ++ [⟨1,ty_api_Change,0,cgC c⟩,⟨1,ty_api_Cert,0,ceC x⟩]) { σ with T := T } x n (hG.app fun n=>by simp [cgO_lt,ceO_lt]) hT hm hx
  rw [sc_app,sc_app,ce_it] at hv
  dsimp only at hv
  have hT2 := hT.ce (c := x) (n := n) (by omega)
  have hlt := fun {σ : Sg}=>sc_lt hG (σ := σ) (n := nAB A B + 1) (by omega)
  have hw2 : IntKind.i64.wrap (x.sq - c.st) = x.sq - c.st := w_i64 (by omega) (by omega)
  simp only [csF] at hF
  by_cases c1 : last < x.sq ∧ x.sq ≤ c.st + 16 ∧ x.vw < c.vw
  ·have e0 : ceSeq c.st c.vw last x = true := by unfold ceSeq;simp [c1]
   rw [if_pos e0] at hF
   have e1 : ¬ x.sq ≤ last := by omega
   have e2 : ¬ 16 < x.sq - c.st := by omega
   have e3 : ¬ c.vw ≤ x.vw := by omega
   cases hb : ceH T σ.R x n with
   |true =>
    rw [if_pos hb] at hF
    rw [hb] at hv
    have step := hkc ⟨(k + 1,ceT T x n,x.sq),by dsimp only;omega,hT2,hF⟩ (by dsimp only;omega)
    dsimp only at step
    simp (config := {maxSteps := 4000000,implicitDefEqProofs := false}) (disch := omega) only [go_sem,h,h',hxe,e1,e2,e3,hv,hw1,hw2,hlt,h14,hB1,cgO_lt,view_certs_r5_eq,view_certs_r4_eq,view_certs_r3_eq,view_certs_r2_eq,view_certs_r1_eq,szOf]
    exact step
   |false =>
    rw [if_neg (by rw [hb];decide)] at hF
    rw [hb] at hv
    have hlt := fun {σ : Sg}=>sc_lt hG (σ := σ) (Nat.le_refl _)
    simp (config := {maxSteps := 4000000,implicitDefEqProofs := false}) (disch := omega) only [go_sem,h,h',hxe,e1,e2,e3,hv,hw1,hw2,hlt,hkx,hF,view_certs_r5_eq,view_certs_r4_eq,view_certs_r3_eq,view_certs_r2_eq,view_certs_r1_eq,szOf]
  ·have e0 : ¬ ceSeq c.st c.vw last x = true := by unfold ceSeq;simp;omega
   rw [if_neg e0] at hF
   have hlt := fun {σ : Sg}=>sc_lt hG (σ := σ) (Nat.le_refl _)
   by_cases e1 : x.sq ≤ last
   ·simp (config := {maxSteps := 4000000,implicitDefEqProofs := false}) (disch := omega) only [go_sem,h,h',hxe,e1,hlt,hkx,hF,view_certs_r5_eq,view_certs_r4_eq,view_certs_r3_eq,view_certs_r2_eq,view_certs_r1_eq,szOf]
   ·by_cases e2 : 16 < x.sq - c.st
    ·simp (config := {maxSteps := 4000000,implicitDefEqProofs := false}) (disch := omega) only [go_sem,h,h',hxe,e1,e2,hw2,hlt,hkx,hF,view_certs_r5_eq,view_certs_r4_eq,view_certs_r3_eq,view_certs_r2_eq,view_certs_r1_eq,szOf]
    ·have e3 : c.vw ≤ x.vw := by omega
     simp (config := {maxSteps := 4000000,implicitDefEqProofs := false}) (disch := omega) only [go_sem,h,h',hxe,e1,e2,e3,hw2,hlt,hkx,hF,view_certs_r5_eq,view_certs_r4_eq,view_certs_r3_eq,view_certs_r2_eq,view_certs_r1_eq,szOf]
 ·obtain rfl : k = c.cs.length := by omega
  have h' : ¬ (c.cs.length : Int) < (c.cs.length : Int) := Int.lt_irrefl _
  rw [List.drop_length] at hF
  simp only [csF] at hF
  have hlt := fun {σ : Sg}=>sc_lt hG (σ := σ) (Nat.le_refl _)
  simp (config := {maxSteps := 4000000,implicitDefEqProofs := false}) (disch := omega) only [go_sem,h,h',hlt,hkx,hF,view_certs_r5_eq,view_certs_r4_eq,view_certs_r3_eq,view_certs_r2_eq,view_certs_r1_eq]
end Go.Proofs.Ytaaogcnjfkgnoaa

namespace Go.Proofs.Ytaaogcnjfkgnoaa
open Go.RowKit
attribute [local go_sem] Nat.zero_add Nat.add_zero Nat.mul_one Int.toNat_natCast Int.natCast_zero Int.cast_ofNat_Int or_false false_or or_true true_or Nat.sub_zero Int.natCast_nonneg Int.toNat_zero Bool.true_and Bool.and_true Bool.false_and Bool.and_false Bool.true_or Bool.or_true Bool.false_or Bool.or_false Bool.not_true Bool.not_false Bool.not_not true_and and_true false_and and_false not_true_eq_false not_false_eq_true eq_self decide_true decide_false ne_eq implies_true forall_const true_implies false_implies Bool.true_eq_false Bool.false_eq_true List.map_cons List.map_nil List.all_cons List.all_nil List.length_cons List.length_nil List.length_map List.length_append List.nil_append List.cons_append List.set_cons_zero List.set_cons_succ List.set_nil List.drop_zero List.drop_succ_cons List.drop_nil List.take_zero List.take_succ_cons List.take_nil Option.map_some Option.map_none Option.isSome_some List.all_append List.all_map Function.comp_def decide_eq_true_eq Bool.and_eq_true beq_self_eq_true or_self and_self ite_true ite_false Nat.le_refl Bool.not_eq_true decide_not Bool.not_eq_true' decide_eq_false_iff_not Bool.not_eq_false Bool.or_eq_true if_true if_false ite_self u_roF u_cvF u_cvC u_ceT u_ceK u_appS sm_it sm_len sm_sure sm_ltA sm_lt1 sm_all1 sm_ro sm_take sm_sl sm_set sm_noT sm_fr sm_st_fr sm_set_fr sm_kd sm_st_kd sm_set_kd sm_vw sm_st_vw sm_set_vw sm_sq sm_st_sq sm_set_sq sm_tm sm_st_tm sm_set_tm zsm_len zsm_sure zsm_lt1 zsm_sl zsm_ro zsm_setz zsm_set zsm_setr zsm_take sms_ltA sms_len ce_it ce_len ce_sure ce_ltA ce_lt1 ce_all1 ce_ro ce_take ce_sl ce_set ce_noT ce_sq ce_st_sq ce_set_sq ce_vw ce_st_vw ce_set_vw ce_tm ce_st_tm ce_set_tm ce_body ce_st_body ce_set_body ce_vs ce_st_vs ce_set_vs zce_len zce_sure zce_lt1 zce_sl zce_ro zce_setz zce_set zce_setr zce_take ces_ltA ces_len cg_it cg_len cg_sure cg_ltA cg_lt1 cg_all1 cg_ro cg_take cg_sl cg_set cg_noT cg_fr cg_st_fr cg_set_fr cg_vw cg_st_vw cg_set_vw cg_st cg_st_st cg_set_st cg_rt cg_st_rt cg_set_rt cg_pf cg_st_pf cg_set_pf cg_cs cg_st_cs cg_set_cs zcg_len zcg_sure zcg_lt1 zcg_sl zcg_ro zcg_setz zcg_set zcg_setr zcg_take cgs_ltA cgs_len ms_it ms_len ms_sure ms_ltA ms_lt1 ms_all1 ms_ro ms_take ms_sl ms_set ms_noT ms_kd ms_st_kd ms_set_kd ms_fr ms_st_fr ms_set_fr ms_vw ms_st_vw ms_set_vw ms_sq ms_st_sq ms_set_sq ms_tm ms_st_tm ms_set_tm ms_body ms_st_body ms_set_body ms_vs ms_st_vs ms_set_vs ms_chs ms_st_chs ms_set_chs zms_len zms_sure zms_lt1 zms_sl zms_ro zms_setz zms_set zms_setr zms_take mss_ltA mss_len co_it co_len co_sure co_ltA co_lt1 co_all1 co_ro co_take co_sl co_set co_noT co_sq co_st_sq co_set_sq co_tm co_st_tm co_set_tm co_body co_st_body co_set_body co_nl co_st_nl co_set_nl zco_len zco_sure zco_lt1 zco_sl zco_ro zco_setz zco_set zco_setr zco_take cos_ltA cos_len sd_it sd_len sd_sure sd_ltA sd_lt1 sd_all1 sd_ro sd_take sd_sl sd_set sd_noT sd_wh sd_st_wh sd_set_wh sd_fr sd_st_fr sd_set_fr sd_kd sd_st_kd sd_set_kd sd_vw sd_st_vw sd_set_vw sd_sq sd_st_sq sd_set_sq sd_tm sd_st_tm sd_set_tm sds_ltA sds_len natInt u_nthM u_bz u_bi1 u_bi2 u_bi3 u_bi4 u_bi5 u_bi6 u_bi7 s_B0 s_Bk s_Bs0 s_Bsk s_takeY s_take s_takeK sc_len smO_lt w_0 w_Y0 w_B0 w_Bk w_Bs0 w_Bsk w_take w_takeY w_takeK sw_len wo_cells ltO_o ltO_r u_eqE u_eqSm Nat.le_add_right List.append_assoc
attribute [local go_sem_proc] Nat.reduceAdd Nat.reduceSub Nat.reduceMul Nat.reduceLeDiff Nat.reduceLT Int.reduceEq Int.reduceNe Int.reduceLT Int.reduceLE Int.reduceAdd Int.reduceSub Int.reduceMul Int.reduceNeg Int.reduceToNat reduceCtorEq Nat.reduceEqDiff Nat.reduceBEq Nat.reduceGT
attribute [local go_sem_proc ↓] reduceIte
def csSm (T : List (List UInt8)) (c : Ch) : Sm := ⟨c.fr,6,c.vw,c.st,ofN T (encCg c)⟩
def csS (T : List (List UInt8)) (c : Ch) : Sm × Int × List (List UInt8) :=
 if cgB c = true then (if ofE T (encCg c) = 0 then (csSm T c,0,oqT T (encCg c)) else (Sm.zero,5,oqT T (encCg c))) else (Sm.zero,1,T)
theorem encCg_pos (c : Ch) : 0 < (encCg c).length := by
 have := put_pos c.fr.toNat
 unfold encCg putsL
 simp only [List.flatMap_cons,List.length_append]
 omega
theorem ofE_5 {T : List (List UInt8)} {s : List UInt8} (h : ofE T s ≠ 0) : ofE T s = 5 := by
 unfold ofE at h ⊢
 split at h
 ·exact absurd rfl h
 ·split at h
  ·rename_i h1 h2;rw [if_neg h1,if_pos h2]
  ·exact absurd rfl h
theorem st6_b {R : Type} {a b c d e : Int} {K : AV → Option R} : buildE (some pl_api_Stmt) (some zc_api_Stmt) [(0,nA a),(1,nA b),(2,nA c),(3,nA d),(4,nA e)] K = K (.agg (smC ⟨a,b,c,d,e⟩)) := _root_.id rfl
theorem st0_b {R : Type} {K : AV → Option R} : buildE (some pl_api_Stmt) (some zc_api_Stmt) [] K = K (.agg (smC Sm.zero)) := _root_.id rfl
theorem zsmO : (⟨1,ty_api_Stmt,0,zc_api_Stmt⟩ : AObj) = ⟨1,ty_api_Stmt,0,smC Sm.zero⟩ := _root_.id rfl
theorem u_bytes {R : Type} {s : List UInt8} {K : AV → Option R} (h : s.length ≤ 34359738368) : convE false none true true false (SL (bC s)) K = K (sA s) := by
 show whenE true (match bytesOf (bC s) with|some l=>K (V (.string ⟨l.toArray⟩))|none=>none) = _
 rw [bytesOf_bC]
 exact whenE_t
theorem changeStmt_s (m : Nat) (A B : List AObj) (σ : Sg) (c : Ch) (hG : GB A B) (hσ : SgOk σ) (hm : 1000001 < m) :
  view_ChangeStmt m (OP (A.length + 1) 0) (cgE c) (sc A B σ) = some (TU [smE (csS σ.T c).1,nA (csS σ.T c).2.1],sc A B { σ with T := (csS σ.T c).2.2 }) := by
 have hen := encodeChange_s m c (by omega)
 rw [cg_it] at hen
 have hlt := fun {σ : Sg}=>sc_lt hG (σ := σ) (Nat.le_refl _)
 rw [view_ChangeStmt_eq,cg_it]
 unfold csS
 cases hB : cgB c with
 |false =>
  rw [hB,if_neg (by decide)] at hen
  rw [if_neg (by decide),sm_it]
  simp (config := {maxSteps := 4000000,implicitDefEqProofs := false}) (disch := omega) only [go_sem,zsmO,hen,st0_b,hlt,bC_length]
 |true =>
  rw [hB,if_pos rfl] at hen
  have hl := encCg_len hB
  have hp := encCg_pos c
  have hp' : ¬ ((encCg c).length : Int) = 0 := by omega
  have ht := tof_s m A (B ++ [⟨1,ty_api_Change,0,cgC c⟩,⟨1,ty_api_Stmt,0,smC Sm.zero⟩]) σ (encCg c) (hG.app fun n=>by simp [cgO_lt,smO_lt]) hσ (by omega)
  rw [sc_app,sc_app] at ht
  have hu := fun (K : AV → RO)=>u_bytes (K := K) (s := encCg c) (by omega)
  by_cases h0 : ofE σ.T (encCg c) = 0
  ·rw [if_pos rfl,if_pos h0,sm_it]
   simp (config := {maxSteps := 4000000,implicitDefEqProofs := false}) (disch := omega) only [go_sem,zsmO,hen,hu,ht,h0,hp',st6_b,hlt,bC_length]
   rfl
  ·have h5 := ofE_5 h0
   rw [if_pos rfl,if_neg h0,sm_it]
   rw [h5] at ht
   simp (config := {maxSteps := 4000000,implicitDefEqProofs := false}) (disch := omega) only [go_sem,zsmO,hen,hu,ht,h0,hp',st0_b,hlt,bC_length]
def chF (T : List (List UInt8)) (R : List Sm) (c : Ch) (n : Int) : Bool × List (List UInt8) :=
  if (okN n && (cgB c && (decide (c.fr < n) && (decide (1 ≤ c.vw) && stH R c n)))) = true then
    (if (csF R n c.st c.vw T c.st c.cs).1 = true then
      (decide (ofE (csF R n c.st c.vw T c.st c.cs).2 (encCg c) = 0) && decide (csSm (csF R n c.st c.vw T c.st c.cs).2 c ∈ R), oqT (csF R n c.st c.vw T c.st c.cs).2 (encCg c))
    else (false, (csF R n c.st c.vw T c.st c.cs).2))
  else (false, T)
theorem csF_ok {σ : Sg} {n st vw : Int} : ∀ (l : List Ce) (T : List (List UInt8)) (last : Int),SgOk { σ with T := T } → (∀ x ∈ l,CeI x) → SgOk { σ with T := (csF σ.R n st vw T last l).2 }
 |[],T,last,h,_=>h
 |x :: l,T,last,h,hl=>by
  have hx := hl x (List.mem_cons_self ..)
  have hb := hx.body
  have h2 := h.ce (c := x) (n := n) (by omega)
  simp only [csF]
  split
  ·split
   ·exact csF_ok l _ _ h2 fun y hy=>hl y (List.mem_cons_of_mem _ hy)
   ·exact h2
  ·exact h
theorem posL_le {α : Type} [DecidableEq α] {L : List α} {s : α} : posL L s ≤ L.length := by
 unfold posL
 split
 ·rename_i hs
  exact List.idxOf_lt_length_of_mem hs
 ·omega
theorem ofN_le {T : List (List UInt8)} {s : List UInt8} (h : T.length ≤ 65536) : ofN T s ≤ 65537 := by
 have := posL_le (L := T) (s := s)
 unfold ofN
 split
 ·omega
 ·split <;> omega
theorem csSm_I {T : List (List UInt8)} {c : Ch} (hT : T.length ≤ 65536) (hc : ChI c) : SmI (csSm T c) := by
 have := ofN_le (s := encCg c) hT
 obtain ⟨v1,v2⟩ := hc.vw
 obtain ⟨s1,s2⟩ := hc.st
 exact ⟨hc.fr,⟨by show _ ≤ (6 : Int);omega,by show (6 : Int) ≤ _;omega⟩,⟨by show _ ≤ c.vw;omega,by show c.vw ≤ _;omega⟩,⟨by show _ ≤ c.st;omega,by show c.st ≤ _;omega⟩,⟨by show _ ≤ ((ofN T (encCg c) : Nat) : Int);omega,by show ((ofN T (encCg c) : Nat) : Int) ≤ _;omega⟩⟩
theorem change4_s (m : Nat) (A B : List AObj) (σ : Sg) (c : Ch) (hG : GB A B) (hσ : SgOk σ) (hm : 1000001 < m) (hB : cgB c = true) :
  view_Change_r4 m (nAB A B) ⟨sc A B σ ++ [⟨1,ty_api_Change,0,cgC c⟩],[(0,OP (A.length + 4) 0),(1,OP (A.length + 1) 0),(6,OP (nAB A B) 0)]⟩ = some (bA (decide (ofE σ.T (encCg c) = 0) && decide (csSm σ.T c ∈ σ.R)),sc A B { σ with T := oqT σ.T (encCg c) }) := by
 have hc := ChI_of hB
 have hst := changeStmt_s m A (B ++ [⟨1,ty_api_Change,0,cgC c⟩]) σ c (hG.app fun n=>by simp [cgO_lt]) hσ hm
 rw [sc_app,sc_app] at hst
 have hl := encCg_len hB
 have hσ2 := hσ.of (s := encCg c) (by omega)
 have hlt := fun {σ : Sg}=>sc_lt hG (σ := σ) (Nat.le_refl _)
 rw [view_Change_r4_eq]
 unfold csS at hst
 rw [if_pos hB] at hst
 by_cases h0 : ofE σ.T (encCg c) = 0
 ·rw [if_pos h0] at hst
  have hh := ghas_s m A (B ++ [⟨1,ty_api_Change,0,cgC c⟩,⟨1,ty_api_Stmt,0,smC (csSm σ.T c)⟩]) { σ with T := oqT σ.T (encCg c) } (csSm σ.T c) (hG.app fun n=>by simp [cgO_lt,smO_lt]) hσ2 (csSm_I hσ.tl hc)
  rw [sc_app] at hh
  dsimp only at hst hh
  rw [cg_it,sm_it] at hst
  rw [sm_it] at hh
  rw [decide_eq_true h0,Bool.true_and]
  simp (config := {maxSteps := 4000000,implicitDefEqProofs := false}) (disch := omega) only [go_sem,zsmO,hst,hh,hlt]
 ·rw [if_neg h0] at hst
  dsimp only at hst
  rw [cg_it,sm_it] at hst
  rw [decide_eq_false h0,Bool.false_and]
  simp (config := {maxSteps := 4000000,implicitDefEqProofs := false}) (disch := omega) only [go_sem,zsmO,hst,hlt]
theorem vchange_s (m : Nat) (A B : List AObj) (σ : Sg) (c : Ch) (n : Int) (hG : GB A B) (hσ : SgOk σ) (hm : 1000001 < m) :
  view_Change m (OP (A.length + 4) 0) (OP (A.length + 1) 0) (cgE c) (nA n) (sc A B σ) = some (bA (chF σ.T σ.R c n).1,sc A B { σ with T := (chF σ.T σ.R c n).2 }) := by
 have hen := encodeChange_s m c (by omega)
 rw [cg_it] at hen
 have hf := faults_s m n
 have hlt := fun {σ : Sg}=>sc_lt hG (σ := σ) (Nat.le_refl _)
 rw [view_Change_eq,cg_it]
 unfold chF
 cases hn : okN n with
 |false =>
  rw [hn] at hf
  rw [if_neg (by simp)]
  simp (config := {maxSteps := 4000000,implicitDefEqProofs := false}) (disch := omega) only [go_sem,hf,hlt,view_Change_r1_eq]
 |true =>
  rw [hn] at hf
  cases hB : cgB c with
  |false =>
   rw [hB,if_neg (by decide)] at hen
   rw [if_neg (by simp)]
   simp (config := {maxSteps := 4000000,implicitDefEqProofs := false}) (disch := omega) only [go_sem,hf,hen,hlt,bC_length,view_Change_r1_eq]
  |true =>
   rw [hB,if_pos rfl] at hen
   have hc := ChI_of hB
   have hp := encCg_pos c
   have hp' : ¬ ((encCg c).length : Int) = 0 := by omega
   by_cases c1 : c.fr < n
   ·have c1' : ¬ n ≤ c.fr := by omega
    by_cases c2 : 1 ≤ c.vw
    ·have c2' : ¬ c.vw < 1 := by omega
     have hs := stable_s m A (B ++ [⟨1,ty_api_Change,0,cgC c⟩]) σ c n (hG.app fun n=>by simp [cgO_lt]) hσ hm hc hn
     rw [sc_app,cg_it] at hs
     rw [decide_eq_true c1,decide_eq_true c2]
     cases h1 : stH σ.R c n with
     |false =>
      rw [h1] at hs
      rw [if_neg (by decide)]
      simp (config := {maxSteps := 4000000,implicitDefEqProofs := false}) (disch := omega) only [go_sem,hf,hen,hs,c1',c2',hp',hlt,bC_length,view_Change_r1_eq,view_Change_r2_eq,view_Change_r3_eq]
     |true =>
      rw [h1] at hs
      rw [if_pos (by decide)]
      have hcs := vcerts_s m A (B ++ [⟨1,ty_api_Change,0,cgC c⟩]) σ c n (hG.app fun n=>by simp [cgO_lt]) hσ hm hc
      rw [sc_app,sc_app,cg_it] at hcs
      have hσ3 := csF_ok (σ := σ) (n := n) (st := c.st) (vw := c.vw) c.cs σ.T c.st hσ fun x hx=>(hc.cs x hx).1
      have h4 := change4_s m A B _ c hG hσ3 hm hB
      generalize csF σ.R n c.st c.vw σ.T c.st c.cs = F at *
      obtain ⟨b,T'⟩ := F
      dsimp only at *
      cases b with
      |true =>
       rw [if_pos rfl,← h4]
       simp (config := {maxSteps := 4000000,implicitDefEqProofs := false}) (disch := omega) only [go_sem,hf,hen,hs,hcs,c1',c2',hp',hlt,bC_length,view_Change_r1_eq,view_Change_r2_eq,view_Change_r3_eq]
      |false =>
       rw [if_neg (by decide)]
       simp (config := {maxSteps := 4000000,implicitDefEqProofs := false}) (disch := omega) only [go_sem,hf,hen,hs,hcs,c1',c2',hp',hlt,bC_length,view_Change_r1_eq,view_Change_r2_eq,view_Change_r3_eq]
    ·have c2' : c.vw < 1 := by omega
     rw [decide_eq_false c2,decide_eq_true c1,if_neg (by simp)]
     simp (config := {maxSteps := 4000000,implicitDefEqProofs := false}) (disch := omega) only [go_sem,hf,hen,c1',c2',hp',hlt,bC_length,view_Change_r1_eq,view_Change_r2_eq,view_Change_r3_eq]
   ·have c1' : n ≤ c.fr := by omega
    rw [decide_eq_false c1,if_neg (by simp)]
    simp (config := {maxSteps := 4000000,implicitDefEqProofs := false}) (disch := omega) only [go_sem,hf,hen,c1',hp',hlt,bC_length,view_Change_r1_eq,view_Change_r2_eq,view_Change_r3_eq]
end Go.Proofs.Ytaaogcnjfkgnoaa

namespace Go.Proofs.Ytaaogcnjfkgnoaa
open Go.RowKit
set_option maxHeartbeats 4000000
attribute [local go_sem] Nat.zero_add Nat.add_zero Nat.mul_one Int.toNat_natCast Int.natCast_zero Int.cast_ofNat_Int or_false false_or or_true true_or Nat.sub_zero Int.natCast_nonneg Int.toNat_zero Bool.true_and Bool.and_true Bool.false_and Bool.and_false Bool.true_or Bool.or_true Bool.false_or Bool.or_false Bool.not_true Bool.not_false Bool.not_not true_and and_true false_and and_false not_true_eq_false not_false_eq_true eq_self decide_true decide_false ne_eq implies_true forall_const true_implies false_implies Bool.true_eq_false Bool.false_eq_true List.map_cons List.map_nil List.all_cons List.all_nil List.length_cons List.length_nil List.length_map List.length_append List.nil_append List.cons_append List.set_cons_zero List.set_cons_succ List.set_nil List.drop_zero List.drop_succ_cons List.drop_nil List.take_zero List.take_succ_cons List.take_nil Option.map_some Option.map_none Option.isSome_some List.all_append List.all_map Function.comp_def decide_eq_true_eq Bool.and_eq_true beq_self_eq_true or_self and_self ite_true ite_false Nat.le_refl Bool.not_eq_true decide_not Bool.not_eq_true' decide_eq_false_iff_not Bool.not_eq_false Bool.or_eq_true if_true if_false ite_self u_roF u_cvF u_cvC u_ceT u_ceK u_appS sm_it sm_len sm_sure sm_ltA sm_lt1 sm_all1 sm_ro sm_take sm_sl sm_set sm_noT sm_fr sm_st_fr sm_set_fr sm_kd sm_st_kd sm_set_kd sm_vw sm_st_vw sm_set_vw sm_sq sm_st_sq sm_set_sq sm_tm sm_st_tm sm_set_tm zsm_len zsm_sure zsm_lt1 zsm_sl zsm_ro zsm_setz zsm_set zsm_setr zsm_take sms_ltA sms_len ce_it ce_len ce_sure ce_ltA ce_lt1 ce_all1 ce_ro ce_take ce_sl ce_set ce_noT ce_sq ce_st_sq ce_set_sq ce_vw ce_st_vw ce_set_vw ce_tm ce_st_tm ce_set_tm ce_body ce_st_body ce_set_body ce_vs ce_st_vs ce_set_vs zce_len zce_sure zce_lt1 zce_sl zce_ro zce_setz zce_set zce_setr zce_take ces_ltA ces_len cg_it cg_len cg_sure cg_ltA cg_lt1 cg_all1 cg_ro cg_take cg_sl cg_set cg_noT cg_fr cg_st_fr cg_set_fr cg_vw cg_st_vw cg_set_vw cg_st cg_st_st cg_set_st cg_rt cg_st_rt cg_set_rt cg_pf cg_st_pf cg_set_pf cg_cs cg_st_cs cg_set_cs zcg_len zcg_sure zcg_lt1 zcg_sl zcg_ro zcg_setz zcg_set zcg_setr zcg_take cgs_ltA cgs_len ms_it ms_len ms_sure ms_ltA ms_lt1 ms_all1 ms_ro ms_take ms_sl ms_set ms_noT ms_kd ms_st_kd ms_set_kd ms_fr ms_st_fr ms_set_fr ms_vw ms_st_vw ms_set_vw ms_sq ms_st_sq ms_set_sq ms_tm ms_st_tm ms_set_tm ms_body ms_st_body ms_set_body ms_vs ms_st_vs ms_set_vs ms_chs ms_st_chs ms_set_chs zms_len zms_sure zms_lt1 zms_sl zms_ro zms_setz zms_set zms_setr zms_take mss_ltA mss_len co_it co_len co_sure co_ltA co_lt1 co_all1 co_ro co_take co_sl co_set co_noT co_sq co_st_sq co_set_sq co_tm co_st_tm co_set_tm co_body co_st_body co_set_body co_nl co_st_nl co_set_nl zco_len zco_sure zco_lt1 zco_sl zco_ro zco_setz zco_set zco_setr zco_take cos_ltA cos_len sd_it sd_len sd_sure sd_ltA sd_lt1 sd_all1 sd_ro sd_take sd_sl sd_set sd_noT sd_wh sd_st_wh sd_set_wh sd_fr sd_st_fr sd_set_fr sd_kd sd_st_kd sd_set_kd sd_vw sd_st_vw sd_set_vw sd_sq sd_st_sq sd_set_sq sd_tm sd_st_tm sd_set_tm sds_ltA sds_len natInt u_nthM u_bz u_bi1 u_bi2 u_bi3 u_bi4 u_bi5 u_bi6 u_bi7 s_B0 s_Bk s_Bs0 s_Bsk s_takeY s_take s_takeK sc_len smO_lt w_0 w_Y0 w_B0 w_Bk w_Bs0 w_Bsk w_take w_takeY w_takeK sw_len wo_cells ltO_o ltO_r u_eqE u_eqSm Nat.le_add_right List.append_assoc
attribute [local go_sem_proc] Nat.reduceAdd Nat.reduceSub Nat.reduceMul Nat.reduceLeDiff Nat.reduceLT Int.reduceEq Int.reduceNe Int.reduceLT Int.reduceLE Int.reduceAdd Int.reduceSub Int.reduceMul Int.reduceNeg Int.reduceToNat reduceCtorEq Nat.reduceEqDiff Nat.reduceBEq Nat.reduceGT
attribute [local go_sem_proc ↓] reduceIte
structure ChS (c : Ch) : Prop where
 pl : c.pf.length ≤ 1000000
 cl : c.cs.length ≤ 1000000
 vl : ∀ y ∈ c.cs,y.vs.length ≤ 1000000
end Go.Proofs.Ytaaogcnjfkgnoaa

namespace Go.Proofs.Ytaaogcnjfkgnoaa
open Go.RowKit
set_option maxHeartbeats 4000000
attribute [local go_sem] Nat.zero_add Nat.add_zero Nat.mul_one Int.toNat_natCast Int.natCast_zero Int.cast_ofNat_Int or_false false_or or_true true_or Nat.sub_zero Int.natCast_nonneg Int.toNat_zero Bool.true_and Bool.and_true Bool.false_and Bool.and_false Bool.true_or Bool.or_true Bool.false_or Bool.or_false Bool.not_true Bool.not_false Bool.not_not true_and and_true false_and and_false not_true_eq_false not_false_eq_true eq_self decide_true decide_false ne_eq implies_true forall_const true_implies false_implies Bool.true_eq_false Bool.false_eq_true List.map_cons List.map_nil List.all_cons List.all_nil List.length_cons List.length_nil List.length_map List.length_append List.nil_append List.cons_append List.set_cons_zero List.set_cons_succ List.set_nil List.drop_zero List.drop_succ_cons List.drop_nil List.take_zero List.take_succ_cons List.take_nil Option.map_some Option.map_none Option.isSome_some List.all_append List.all_map Function.comp_def decide_eq_true_eq Bool.and_eq_true beq_self_eq_true or_self and_self ite_true ite_false Nat.le_refl Bool.not_eq_true decide_not Bool.not_eq_true' decide_eq_false_iff_not Bool.not_eq_false Bool.or_eq_true if_true if_false ite_self u_roF u_cvF u_cvC u_ceT u_ceK u_appS sm_it sm_len sm_sure sm_ltA sm_lt1 sm_all1 sm_ro sm_take sm_sl sm_set sm_noT sm_fr sm_st_fr sm_set_fr sm_kd sm_st_kd sm_set_kd sm_vw sm_st_vw sm_set_vw sm_sq sm_st_sq sm_set_sq sm_tm sm_st_tm sm_set_tm zsm_len zsm_sure zsm_lt1 zsm_sl zsm_ro zsm_setz zsm_set zsm_setr zsm_take sms_ltA sms_len ce_it ce_len ce_sure ce_ltA ce_lt1 ce_all1 ce_ro ce_take ce_sl ce_set ce_noT ce_sq ce_st_sq ce_set_sq ce_vw ce_st_vw ce_set_vw ce_tm ce_st_tm ce_set_tm ce_body ce_st_body ce_set_body ce_vs ce_st_vs ce_set_vs zce_len zce_sure zce_lt1 zce_sl zce_ro zce_setz zce_set zce_setr zce_take ces_ltA ces_len cg_it cg_len cg_sure cg_ltA cg_lt1 cg_all1 cg_ro cg_take cg_sl cg_set cg_noT cg_fr cg_st_fr cg_set_fr cg_vw cg_st_vw cg_set_vw cg_st cg_st_st cg_set_st cg_rt cg_st_rt cg_set_rt cg_pf cg_st_pf cg_set_pf cg_cs cg_st_cs cg_set_cs zcg_len zcg_sure zcg_lt1 zcg_sl zcg_ro zcg_setz zcg_set zcg_setr zcg_take cgs_ltA cgs_len ms_it ms_len ms_sure ms_ltA ms_lt1 ms_all1 ms_ro ms_take ms_sl ms_set ms_noT ms_kd ms_st_kd ms_set_kd ms_fr ms_st_fr ms_set_fr ms_vw ms_st_vw ms_set_vw ms_sq ms_st_sq ms_set_sq ms_tm ms_st_tm ms_set_tm ms_body ms_st_body ms_set_body ms_vs ms_st_vs ms_set_vs ms_chs ms_st_chs ms_set_chs zms_len zms_sure zms_lt1 zms_sl zms_ro zms_setz zms_set zms_setr zms_take mss_ltA mss_len co_it co_len co_sure co_ltA co_lt1 co_all1 co_ro co_take co_sl co_set co_noT co_sq co_st_sq co_set_sq co_tm co_st_tm co_set_tm co_body co_st_body co_set_body co_nl co_st_nl co_set_nl zco_len zco_sure zco_lt1 zco_sl zco_ro zco_setz zco_set zco_setr zco_take cos_ltA cos_len sd_it sd_len sd_sure sd_ltA sd_lt1 sd_all1 sd_ro sd_take sd_sl sd_set sd_noT sd_wh sd_st_wh sd_set_wh sd_fr sd_st_fr sd_set_fr sd_kd sd_st_kd sd_set_kd sd_vw sd_st_vw sd_set_vw sd_sq sd_st_sq sd_set_sq sd_tm sd_st_tm sd_set_tm sds_ltA sds_len natInt u_nthM u_bz u_bi1 u_bi2 u_bi3 u_bi4 u_bi5 u_bi6 u_bi7 s_B0 s_Bk s_Bs0 s_Bsk s_takeY s_take s_takeK sc_len smO_lt w_0 w_Y0 w_B0 w_Bk w_Bs0 w_Bsk w_take w_takeY w_takeK sw_len wo_cells ltO_o ltO_r u_eqE u_eqSm Nat.le_add_right List.append_assoc
attribute [local go_sem_proc] Nat.reduceAdd Nat.reduceSub Nat.reduceMul Nat.reduceLeDiff Nat.reduceLT Int.reduceEq Int.reduceNe Int.reduceLT Int.reduceLE Int.reduceAdd Int.reduceSub Int.reduceMul Int.reduceNeg Int.reduceToNat reduceCtorEq Nat.reduceEqDiff Nat.reduceBEq Nat.reduceGT
attribute [local go_sem_proc ↓] reduceIte
end Go.Proofs.Ytaaogcnjfkgnoaa

namespace Go.Proofs.Ytaaogcnjfkgnoaa
open Go.RowKit
set_option maxHeartbeats 4000000
attribute [local go_sem] Nat.zero_add Nat.add_zero Nat.mul_one Int.toNat_natCast Int.natCast_zero Int.cast_ofNat_Int or_false false_or or_true true_or Nat.sub_zero Int.natCast_nonneg Int.toNat_zero Bool.true_and Bool.and_true Bool.false_and Bool.and_false Bool.true_or Bool.or_true Bool.false_or Bool.or_false Bool.not_true Bool.not_false Bool.not_not true_and and_true false_and and_false not_true_eq_false not_false_eq_true eq_self decide_true decide_false ne_eq implies_true forall_const true_implies false_implies Bool.true_eq_false Bool.false_eq_true List.map_cons List.map_nil List.all_cons List.all_nil List.length_cons List.length_nil List.length_map List.length_append List.nil_append List.cons_append List.set_cons_zero List.set_cons_succ List.set_nil List.drop_zero List.drop_succ_cons List.drop_nil List.take_zero List.take_succ_cons List.take_nil Option.map_some Option.map_none Option.isSome_some List.all_append List.all_map Function.comp_def decide_eq_true_eq Bool.and_eq_true beq_self_eq_true or_self and_self ite_true ite_false Nat.le_refl Bool.not_eq_true decide_not Bool.not_eq_true' decide_eq_false_iff_not Bool.not_eq_false Bool.or_eq_true if_true if_false ite_self u_roF u_cvF u_cvC u_ceT u_ceK u_appS sm_it sm_len sm_sure sm_ltA sm_lt1 sm_all1 sm_ro sm_take sm_sl sm_set sm_noT sm_fr sm_st_fr sm_set_fr sm_kd sm_st_kd sm_set_kd sm_vw sm_st_vw sm_set_vw sm_sq sm_st_sq sm_set_sq sm_tm sm_st_tm sm_set_tm zsm_len zsm_sure zsm_lt1 zsm_sl zsm_ro zsm_setz zsm_set zsm_setr zsm_take sms_ltA sms_len ce_it ce_len ce_sure ce_ltA ce_lt1 ce_all1 ce_ro ce_take ce_sl ce_set ce_noT ce_sq ce_st_sq ce_set_sq ce_vw ce_st_vw ce_set_vw ce_tm ce_st_tm ce_set_tm ce_body ce_st_body ce_set_body ce_vs ce_st_vs ce_set_vs zce_len zce_sure zce_lt1 zce_sl zce_ro zce_setz zce_set zce_setr zce_take ces_ltA ces_len cg_it cg_len cg_sure cg_ltA cg_lt1 cg_all1 cg_ro cg_take cg_sl cg_set cg_noT cg_fr cg_st_fr cg_set_fr cg_vw cg_st_vw cg_set_vw cg_st cg_st_st cg_set_st cg_rt cg_st_rt cg_set_rt cg_pf cg_st_pf cg_set_pf cg_cs cg_st_cs cg_set_cs zcg_len zcg_sure zcg_lt1 zcg_sl zcg_ro zcg_setz zcg_set zcg_setr zcg_take cgs_ltA cgs_len ms_it ms_len ms_sure ms_ltA ms_lt1 ms_all1 ms_ro ms_take ms_sl ms_set ms_noT ms_kd ms_st_kd ms_set_kd ms_fr ms_st_fr ms_set_fr ms_vw ms_st_vw ms_set_vw ms_sq ms_st_sq ms_set_sq ms_tm ms_st_tm ms_set_tm ms_body ms_st_body ms_set_body ms_vs ms_st_vs ms_set_vs ms_chs ms_st_chs ms_set_chs zms_len zms_sure zms_lt1 zms_sl zms_ro zms_setz zms_set zms_setr zms_take mss_ltA mss_len co_it co_len co_sure co_ltA co_lt1 co_all1 co_ro co_take co_sl co_set co_noT co_sq co_st_sq co_set_sq co_tm co_st_tm co_set_tm co_body co_st_body co_set_body co_nl co_st_nl co_set_nl zco_len zco_sure zco_lt1 zco_sl zco_ro zco_setz zco_set zco_setr zco_take cos_ltA cos_len sd_it sd_len sd_sure sd_ltA sd_lt1 sd_all1 sd_ro sd_take sd_sl sd_set sd_noT sd_wh sd_st_wh sd_set_wh sd_fr sd_st_fr sd_set_fr sd_kd sd_st_kd sd_set_kd sd_vw sd_st_vw sd_set_vw sd_sq sd_st_sq sd_set_sq sd_tm sd_st_tm sd_set_tm sds_ltA sds_len natInt u_nthM u_bz u_bi1 u_bi2 u_bi3 u_bi4 u_bi5 u_bi6 u_bi7 s_B0 s_Bk s_Bs0 s_Bsk s_takeY s_take s_takeK sc_len smO_lt w_0 w_Y0 w_B0 w_Bk w_Bs0 w_Bsk w_take w_takeY w_takeK sw_len wo_cells ltO_o ltO_r u_eqE u_eqSm Nat.le_add_right List.append_assoc
attribute [local go_sem_proc] Nat.reduceAdd Nat.reduceSub Nat.reduceMul Nat.reduceLeDiff Nat.reduceLT Int.reduceEq Int.reduceNe Int.reduceLT Int.reduceLE Int.reduceAdd Int.reduceSub Int.reduceMul Int.reduceNeg Int.reduceToNat reduceCtorEq Nat.reduceEqDiff Nat.reduceBEq Nat.reduceGT
attribute [local go_sem_proc ↓] reduceIte
theorem u_pe0 {R : Type} {i j : Nat} {K : AV → Option R} : ptrE .eql (OP i j) (V (.pointer none)) K = K (V (.bool false)) := _root_.id rfl
def hS (A : List AObj) (σ : Sg) (ω : Wg) : List AObj := A ++ (tmO σ.T :: ttO A.length σ.T :: trO σ.T :: rmO σ.R :: rgO (A.length + 3) σ.n σ.bd σ.R :: rrO σ.R :: woO (A.length + 6) ω :: trO ω.T :: [])
theorem hS_sc {A : List AObj} {σ : Sg} {ω : Wg} : hS A σ ω = sc A [woO (A.length + 6) ω,trO ω.T] σ := rfl
def sixO (A : List AObj) (σ : Sg) : List AObj := A ++ [tmO σ.T,ttO A.length σ.T,trO σ.T,rmO σ.R,rgO (A.length + 3) σ.n σ.bd σ.R,rrO σ.R]
theorem sixO_len {A : List AObj} {σ : Sg} : (sixO A σ).length = A.length + 6 := by simp [sixO]
theorem hS_len {A : List AObj} {σ : Sg} {ω : Wg} : (hS A σ ω).length = A.length + 8 := by unfold hS;simp
def GA (A : List AObj) : Prop := ∀ n,A.length ≤ n → A.all (ltO n) = true
theorem GA.gb {A : List AObj} (h : GA A) {ω : Wg} (hω : WgOk ω) : GB A [woO (A.length + 6) ω,trO ω.T] := fun n hn=>by
 have h2 : A.length + 8 ≤ n := by unfold nAB at hn;simp at hn;omega
 refine ⟨h n (by omega),?_⟩
 simp only [List.all_cons,List.all_nil,woO_lt hω (show A.length + 6 + 1 < n by omega),trO_lt,Bool.and_true]
theorem GA.gw {A : List AObj} (h : GA A) (σ : Sg) : GW (sixO A σ) [] := fun n hn=>by
 have h2 : A.length + 8 ≤ n := by unfold nSW at hn;rw [sixO_len] at hn;simp at hn;omega
 refine ⟨?_,rfl⟩
 unfold sixO
 rw [List.all_append,h n (by omega)]
 simp only [List.all_cons,List.all_nil,tmO_lt,ttO_lt (show A.length + 2 < n by omega),trO_lt,rmO_lt,rgO_lt (show A.length + 3 + 2 < n by omega),rrO_lt,Bool.and_self]
theorem hS_lt {A : List AObj} {σ : Sg} {ω : Wg} (h : GA A) (hω : WgOk ω) {n : Nat} (hn : A.length + 8 ≤ n) : (hS A σ ω).all (ltO n) = true := by
 rw [hS_sc]
 exact sc_lt (h.gb hω) (by unfold nAB;simp;omega)
structure Scn (σ : Sg) (ω : Wg) : Prop where
 so : SgOk σ
 wo : WgOk ω
 t : σ.T = ω.T
 l : σ.R = ω.L
 n : σ.n = 7
 n' : ω.n = 7
 bd : σ.bd = bdL ω.rog
 rg : ∀ p ∈ ω.rog,inN 7 p = true
theorem bdL_at {j : Nat} (hj : j < 64) : ∀ (l : List Int),(∀ p ∈ l,0 ≤ p ∧ p < 64) → ∀ (b : List Bool),b.length = 64 → (l.foldl (fun b p=>b.set p.toNat true) b).getD j false = (b.getD j false || decide ((j : Int) ∈ l))
 |[],_,b,hb=>by simp
 |p :: l,hl,b,hb=>by
  show (l.foldl _ (b.set p.toNat true)).getD j false = _
  rw [bdL_at hj l (fun q hq=>hl q (List.mem_cons_of_mem _ hq)) _ (by simp [hb])]
  obtain ⟨p0,p1⟩ := hl p (List.mem_cons_self ..)
  by_cases h : p = (j : Int)
  ·subst h
   simp [List.getD_eq_getElem?_getD,hb,hj]
  ·have h1 : p.toNat ≠ j := by omega
   have h2 : ¬ (j : Int) = p := fun e=>h e.symm
   simp [List.getD_eq_getElem?_getD,List.getElem?_set_ne h1,h2]
theorem Scn.bad {σ : Sg} {ω : Wg} (h : Scn σ ω) (p : Int) : badB σ.n σ.bd p = (inN 7 p && decide (p ∈ ω.rog)) := by
 unfold badB
 rw [h.n,h.bd]
 show (inN 7 p && _) = _
 cases hp : inN 7 p with
 |false=>rfl
 |true =>
  unfold inN at hp
  rw [Bool.and_eq_true,decide_eq_true_eq,decide_eq_true_eq] at hp
  obtain ⟨j,rfl⟩ : ∃ j : Nat,p = j := ⟨p.toNat,by omega⟩
  have := bdL_at (j := j) (by omega) ω.rog (fun q hq=>by
   have := h.rg q hq
   unfold inN at this
   rw [Bool.and_eq_true,decide_eq_true_eq,decide_eq_true_eq] at this
   omega) (List.replicate 64 false) (by simp)
  rw [show (List.replicate 64 false).getD j false = false by rw [List.getD_eq_getElem?_getD,List.getElem?_replicate,if_pos (by omega)];rfl,Bool.false_or] at this
  rw [Int.toNat_natCast]
  unfold bdL
  rw [this]
theorem Scn.ok {σ : Sg} {ω : Wg} (h : Scn σ ω) (p : Int) (s : Sm) : okS σ.n σ.bd p s = rokS ω.n ω.rog p s := by
 unfold okS rokS
 rw [h.bad,h.bad,h.n,h.n']
 have e : ∀ p,(inN 7 p && decide (p ∈ ω.rog)) = decide (p ∈ ω.rog) := fun p=>by
  cases hp : decide (p ∈ ω.rog) with
  |false=>simp
  |true =>
   rw [h.rg p (by simpa using hp)];rfl
 rw [e,e]
theorem Scn.say {σ : Sg} {ω : Wg} (h : Scn σ ω) (p : Int) (s : Sm) : sayR σ p s = rsayL ω.n ω.rog ω.L p s := by
 unfold sayR rsayL
 rw [h.ok,h.l]
theorem Scn.okf {σ : Sg} {ω : Wg} (h : Scn σ ω) {p : Int} {s : Sm} (hs : okS σ.n σ.bd p s = true) : 0 ≤ s.fr ∧ s.fr < σ.n := by
 unfold okS at hs
 simp only [Bool.and_eq_true,Bool.or_eq_true,decide_eq_true_eq] at hs
 obtain ⟨⟨h1,h2⟩,h3|⟨_,h3⟩⟩ := hs
 ·rw [h3];exact ⟨h1,h2⟩
 ·rw [h.bad,Bool.and_eq_true] at h3
  have := h3.1
  unfold inN at this
  rw [Bool.and_eq_true,decide_eq_true_eq,decide_eq_true_eq] at this
  rw [h.n]
  exact this
theorem Scn.said {σ : Sg} {ω : Wg} (h : Scn σ ω) (p : Int) (s : Sm) (hs : SmI s) : Scn { σ with R := sayR σ p s } { ω with L := rsayL ω.n ω.rog ω.L p s,X := SL ((rsayL ω.n ω.rog ω.L p s).map smE) } := by
 have hsay := h.say p s
 have hll := h.wo.ll
 have hso : SgOk { σ with R := sayR σ p s } := by
  have ho := h.so
  have hrl := ho.rl
  unfold sayR
  split
  ·rename_i hc
   refine ⟨ho.tn,ho.tl,ho.ts,ho.n1,ho.n2,ho.bl,?_,?_,?_,?_⟩
   ·exact List.nodup_append.2 ⟨ho.rn,by simp,fun a ha b hb=>by simp at hb;subst hb;exact fun e=>hc.2.1 (e ▸ ha)⟩
   ·simp;omega
   ·intro x hx
    rcases List.mem_append.1 hx with q|q
    ·exact ho.ri x q
    ·simp at q;subst q;exact hs
   ·intro x hx
    rcases List.mem_append.1 hx with q|q
    ·exact ho.rf x q
    ·simp at q;subst q;exact h.okf hc.1
  ·exact ho
 refine ⟨hso,⟨h.wo.tl,?_,h.wo.rl, .inl rfl⟩,h.t,hsay,h.n,h.n',h.bd,h.rg⟩
 show (rsayL ω.n ω.rog ω.L p s).length ≤ 65536
 rw [← hsay]
 exact hso.rl
theorem Scn.of {σ : Sg} {ω : Wg} (h : Scn σ ω) {s : List UInt8} (hs : s.length ≤ 9223372036854775807) : Scn { σ with T := oqT σ.T s } { ω with T := oqT ω.T s } :=
 ⟨h.so.of hs,h.wo.of,by show oqT σ.T s = oqT ω.T s;rw [h.t],h.l,h.n,h.n',h.bd,h.rg⟩
end Go.Proofs.Ytaaogcnjfkgnoaa

namespace Go.Proofs.Ytaaogcnjfkgnoaa
open Go.RowKit
set_option maxHeartbeats 4000000
attribute [local go_sem] Nat.zero_add Nat.add_zero Nat.mul_one Int.toNat_natCast Int.natCast_zero Int.cast_ofNat_Int or_false false_or or_true true_or Nat.sub_zero Int.natCast_nonneg Int.toNat_zero Bool.true_and Bool.and_true Bool.false_and Bool.and_false Bool.true_or Bool.or_true Bool.false_or Bool.or_false Bool.not_true Bool.not_false Bool.not_not true_and and_true false_and and_false not_true_eq_false not_false_eq_true eq_self decide_true decide_false ne_eq implies_true forall_const true_implies false_implies Bool.true_eq_false Bool.false_eq_true List.map_cons List.map_nil List.all_cons List.all_nil List.length_cons List.length_nil List.length_map List.length_append List.nil_append List.cons_append List.set_cons_zero List.set_cons_succ List.set_nil List.drop_zero List.drop_succ_cons List.drop_nil List.take_zero List.take_succ_cons List.take_nil Option.map_some Option.map_none Option.isSome_some List.all_append List.all_map Function.comp_def decide_eq_true_eq Bool.and_eq_true beq_self_eq_true or_self and_self ite_true ite_false Nat.le_refl Bool.not_eq_true decide_not Bool.not_eq_true' decide_eq_false_iff_not Bool.not_eq_false Bool.or_eq_true if_true if_false ite_self u_roF u_cvF u_cvC u_ceT u_ceK u_appS sm_it sm_len sm_sure sm_ltA sm_lt1 sm_all1 sm_ro sm_take sm_sl sm_set sm_noT sm_fr sm_st_fr sm_set_fr sm_kd sm_st_kd sm_set_kd sm_vw sm_st_vw sm_set_vw sm_sq sm_st_sq sm_set_sq sm_tm sm_st_tm sm_set_tm zsm_len zsm_sure zsm_lt1 zsm_sl zsm_ro zsm_setz zsm_set zsm_setr zsm_take sms_ltA sms_len ce_it ce_len ce_sure ce_ltA ce_lt1 ce_all1 ce_ro ce_take ce_sl ce_set ce_noT ce_sq ce_st_sq ce_set_sq ce_vw ce_st_vw ce_set_vw ce_tm ce_st_tm ce_set_tm ce_body ce_st_body ce_set_body ce_vs ce_st_vs ce_set_vs zce_len zce_sure zce_lt1 zce_sl zce_ro zce_setz zce_set zce_setr zce_take ces_ltA ces_len cg_it cg_len cg_sure cg_ltA cg_lt1 cg_all1 cg_ro cg_take cg_sl cg_set cg_noT cg_fr cg_st_fr cg_set_fr cg_vw cg_st_vw cg_set_vw cg_st cg_st_st cg_set_st cg_rt cg_st_rt cg_set_rt cg_pf cg_st_pf cg_set_pf cg_cs cg_st_cs cg_set_cs zcg_len zcg_sure zcg_lt1 zcg_sl zcg_ro zcg_setz zcg_set zcg_setr zcg_take cgs_ltA cgs_len ms_it ms_len ms_sure ms_ltA ms_lt1 ms_all1 ms_ro ms_take ms_sl ms_set ms_noT ms_kd ms_st_kd ms_set_kd ms_fr ms_st_fr ms_set_fr ms_vw ms_st_vw ms_set_vw ms_sq ms_st_sq ms_set_sq ms_tm ms_st_tm ms_set_tm ms_body ms_st_body ms_set_body ms_vs ms_st_vs ms_set_vs ms_chs ms_st_chs ms_set_chs zms_len zms_sure zms_lt1 zms_sl zms_ro zms_setz zms_set zms_setr zms_take mss_ltA mss_len co_it co_len co_sure co_ltA co_lt1 co_all1 co_ro co_take co_sl co_set co_noT co_sq co_st_sq co_set_sq co_tm co_st_tm co_set_tm co_body co_st_body co_set_body co_nl co_st_nl co_set_nl zco_len zco_sure zco_lt1 zco_sl zco_ro zco_setz zco_set zco_setr zco_take cos_ltA cos_len sd_it sd_len sd_sure sd_ltA sd_lt1 sd_all1 sd_ro sd_take sd_sl sd_set sd_noT sd_wh sd_st_wh sd_set_wh sd_fr sd_st_fr sd_set_fr sd_kd sd_st_kd sd_set_kd sd_vw sd_st_vw sd_set_vw sd_sq sd_st_sq sd_set_sq sd_tm sd_st_tm sd_set_tm sds_ltA sds_len natInt u_nthM u_bz u_bi1 u_bi2 u_bi3 u_bi4 u_bi5 u_bi6 u_bi7 s_B0 s_Bk s_Bs0 s_Bsk s_takeY s_take s_takeK sc_len smO_lt w_0 w_Y0 w_B0 w_Bk w_Bs0 w_Bsk w_take w_takeY w_takeK sw_len wo_cells ltO_o ltO_r u_eqE u_eqSm Nat.le_add_right List.append_assoc
attribute [local go_sem_proc] Nat.reduceAdd Nat.reduceSub Nat.reduceMul Nat.reduceLeDiff Nat.reduceLT Int.reduceEq Int.reduceNe Int.reduceLT Int.reduceLE Int.reduceAdd Int.reduceSub Int.reduceMul Int.reduceNeg Int.reduceToNat reduceCtorEq Nat.reduceEqDiff Nat.reduceBEq Nat.reduceGT
attribute [local go_sem_proc ↓] reduceIte
def scC (tx : List (List UInt8)) (bad : List Int) (sd : List Sd) : List AV := [SL (tx.map sA),SL (bad.map nA),SL (sd.map sdE)]
def scX (tx : List (List UInt8)) (bad : List Int) (sd : List Sd) : AObj := ⟨1,ty_plenumlaw32_Scene,0,scC tx bad sd⟩
def sdS (x : Sd) : Sm := ⟨x.fr,x.kd,x.vw,x.sq,x.tm⟩
def hM (A : List AObj) (σ : Sg) (o6 o7 : AObj) : List AObj := A ++ (tmO σ.T :: ttO A.length σ.T :: trO σ.T :: rmO σ.R :: rgO (A.length + 3) σ.n σ.bd σ.R :: rrO σ.R :: o6 :: o7 :: [])
section
variable {R : Type} {A H0 : List AObj} {X : AObj} {σ : Sg} {ω : Wg} {o6 o7 o : AObj} {K : AObj → Option R} {K1 : List AV → Option R} {tx : List (List UInt8)} {bad : List Int} {sd : List Sd}
theorem hS_hM : hS A σ ω = hM A σ (woO (A.length + 6) ω) (trO ω.T) := _root_.id rfl
theorem hM_6 : nthOE (hM A σ o6 o7) (A.length + 6) K = K o6 := (nthOA A (k := 6))
theorem hM_s6 : (hM A σ o6 o7).set (A.length + 6) o = hM A σ o o7 := (setA A (k := 6))
theorem hM_0 : nthOE (hM (H0 ++ [X]) σ o6 o7) H0.length K = K X := by
 unfold hM
 rw [List.append_assoc]
 exact (nthOA H0 (k := 0))
theorem sc_cells : cellsE (scX tx bad sd) K1 = K1 (scC tx bad sd) := by unfold scX;exact u_cl1
theorem sc_f0 {K : AV → Option R} : nthE (scC tx bad sd) 0 K = K (SL (tx.map sA)) := _root_.id rfl
theorem sc_f1 {K : AV → Option R} : nthE (scC tx bad sd) 1 K = K (SL (bad.map nA)) := _root_.id rfl
theorem sc_f2 {K : AV → Option R} : nthE (scC tx bad sd) 2 K = K (SL (sd.map sdE)) := _root_.id rfl
theorem scX_lt {n : Nat} : ltO n (scX tx bad sd) = true := _root_.id rfl
theorem sd_sub {x : Sd} : ((sdC x).drop 1).take 5 = smC (sdS x) := _root_.id rfl
theorem wo_put {a n : Nat} {K : AObj → Option R} : putE (woO a ω) 1 0 (OW (a + 1) n) K = K ⟨1,ty_plenumref32_World,0,[OW (a + 1) n,nA ω.n,SL (ω.rog.map nA),ω.X]⟩ := by
 unfold woO
 rw [u_pt1]
 rfl
theorem wo_put5 {a : Nat} {L : List Sm} {K : AObj → Option R} : putE (woO a ω) 5 1 (.agg [nA ω.n,SL (ω.rog.map nA),SL (L.map smE)]) K = K (woO a { ω with L := L,X := SL (L.map smE) }) := by
 unfold woO
 rw [u_pt1]
 rfl
end
theorem text_r (m : Nat) (A : List AObj) (σ : Sg) (ω : Wg) (x : List UInt8) (t1 : AV) (k : Nat) (n0 : Nat) (kc : ASt → RO) (kx : KO (AV × List AObj)) (hA : GA A) (h : Scn σ ω) (hx : x.length ≤ 9223372036854775807) (hm : 1000001 < m) :
  plenumlaw32_set_r11 m n0 kc kx ⟨hS A σ ω,[(1,t1),(6,OP (A.length + 1) 0),(7,OP (A.length + 4) 0),(9,OP (A.length + 6) 0),(10,nA k),(11,sA x)]⟩ = plenumlaw32_set_r12 m n0 kc kx ⟨hS A { σ with T := oqT σ.T x } { ω with T := oqT ω.T x },[(1,t1),(6,OP (A.length + 1) 0),(7,OP (A.length + 4) 0),(9,OP (A.length + 6) 0),(10,nA k)]⟩ := by
 have ht := tof_s m A _ σ x (hA.gb h.wo) h.so hx
 rw [← hS_sc,← hS_sc] at ht
 have htl := h.wo.tl
 have hr := rtof_s m (sixO A { σ with T := oqT σ.T x } ++ [woO (A.length + 6) ω]) [] ω.T x (fun n hn=>by
  refine ⟨?_,rfl⟩
  rw [List.length_append,sixO_len] at hn
  have h2 := hA.gw { σ with T := oqT σ.T x } (n := n) (by unfold nSW;rw [sixO_len];simp at hn ⊢;omega)
  rw [List.all_append,h2.1]
  simp at hn
  simp only [List.all_cons,List.all_nil,woO_lt h.wo (show A.length + 6 + 1 < n by omega),Bool.and_true]) (by omega) htl
 have e1 : ∀ T,sixO A { σ with T := oqT σ.T x } ++ [woO (A.length + 6) ω] ++ trO T :: [] = hM A { σ with T := oqT σ.T x } (woO (A.length + 6) ω) (trO T) := fun T=>by
  unfold sixO hM
  simp only [List.append_assoc,List.cons_append,List.nil_append]
 have e2 : (sixO A { σ with T := oqT σ.T x } ++ [woO (A.length + 6) ω]).length = A.length + 7 := by rw [List.length_append,sixO_len];rfl
 rw [e1,e1,e2] at hr
 have e3 : A.length + 6 + 1 = A.length + 7 := rfl
 have hwo : (⟨1,ty_plenumref32_World,0,[OW (A.length + 7) (oqT ω.T x).length,nA ω.n,SL (ω.rog.map nA),ω.X]⟩ : AObj) = woO (A.length + 6) { ω with T := oqT ω.T x } := rfl
 have hp := fun {n : Nat} {K : AObj → RO}=>(show putE (woO (A.length + 6) ω) 1 0 (OW (A.length + 7) n) K = K ⟨1,ty_plenumref32_World,0,[OW (A.length + 7) n,nA ω.n,SL (ω.rog.map nA),ω.X]⟩ from wo_put)
 rw [plenumlaw32_set_r11_eq]
 rw [hS_hM] at ht
 rw [hS_hM,hS_hM]
 rw [hS_hM] at ht
 simp (config := {maxSteps := 4000000,implicitDefEqProofs := false}) (disch := omega) only [go_sem,ht,hM_6,e3,hr,hp,hM_s6,hwo]
theorem said_r (m : Nat) (H0 : List AObj) (σ : Sg) (ω : Wg) (tx : List (List UInt8)) (bad : List Int) (sd : List Sd) (k : Nat) (hk : k < sd.length) (n0 : Nat) (kc : ASt → RO) (kx : KO (AV × List AObj)) (hA : GA (H0 ++ [scX tx bad sd])) (h : Scn σ ω) (hs : SmI (sdS sd[k])) (hm : 1000001 < m) (hsd : sd.length ≤ 9223372036854775807) :
  plenumlaw32_set_r10 m n0 kc kx ⟨hS (H0 ++ [scX tx bad sd]) σ ω,[(1,OP H0.length 0),(6,OP (H0.length + 2) 0),(7,OP (H0.length + 5) 0),(9,OP (H0.length + 7) 0),(12,nA k)]⟩ = backE n0 (hS (H0 ++ [scX tx bad sd]) { σ with R := sayR σ sd[k].wh (sdS sd[k]) } { ω with L := rsayL ω.n ω.rog ω.L sd[k].wh (sdS sd[k]),X := SL ((rsayL ω.n ω.rog ω.L sd[k].wh (sdS sd[k])).map smE) }) [(1,OP H0.length 0),(6,OP (H0.length + 2) 0),(7,OP (H0.length + 5) 0),(9,OP (H0.length + 7) 0),(12,nA (IntKind.i64.wrap ((k : Int) + 1)))] kc := by
 have hh := h.said sd[k].wh (sdS sd[k]) hs
 have hy := gsay_s m (H0 ++ [scX tx bad sd]) _ σ sd[k].wh (sdS sd[k]) (hA.gb h.wo) h.so hs
 rw [← hS_sc,← hS_sc] at hy
 have hll := h.wo.ll
 have hrl := h.wo.rl
 obtain ⟨e,hr⟩ := rsay_s m ω.n ω.rog ω.L sd[k].wh (sdS sd[k]) (by omega) hll (by omega) hrl
 unfold rrA rrC at hr
 have hX := fun H=>h.wo.ro H
 have hX2 := fun n=>(h.wo.lt n).2.1
 have hl : (H0 ++ [scX tx bad sd]).length = H0.length + 1 := by simp
 have h6 := fun {σ : Sg} {o6 o7 : AObj} {K : AObj → RO}=>hM_6 (A := H0 ++ [scX tx bad sd]) (σ := σ) (o6 := o6) (o7 := o7) (K := K)
 have hs6 := fun {σ : Sg} {o6 o7 o : AObj}=>hM_s6 (A := H0 ++ [scX tx bad sd]) (σ := σ) (o6 := o6) (o7 := o7) (o := o)
 rw [hl] at hy
 simp only [hl] at h6 hs6
 rw [sm_it] at hy hr
 rw [plenumlaw32_set_r10_eq]
 rw [hS_hM] at hy
 rw [hS_hM,hS_hM]
 rw [hS_hM] at hy
 rw [hl] at hy ⊢
 have e3 : H0.length + 1 + 6 = H0.length + 7 := rfl
 have e4 : H0.length + 1 + 4 = H0.length + 5 := rfl
 simp only [e3,e4] at hy h6 hs6 ⊢
 have hk' : (k : Int) < (sd.length : Int) := by omega
 simp (config := {maxSteps := 4000000,implicitDefEqProofs := false}) (disch := omega) only [go_sem,hk,hM_0,sc_cells,sc_f2,sd_sub,hy,h6,hs6,hX,hX2,hr,wo_put5,szOf]
end Go.Proofs.Ytaaogcnjfkgnoaa

namespace Go.Proofs.Ytaaogcnjfkgnoaa
open Go.RowKit
set_option maxHeartbeats 4000000
attribute [local go_sem] Nat.zero_add Nat.add_zero Nat.mul_one Int.toNat_natCast Int.natCast_zero Int.cast_ofNat_Int or_false false_or or_true true_or Nat.sub_zero Int.natCast_nonneg Int.toNat_zero Bool.true_and Bool.and_true Bool.false_and Bool.and_false Bool.true_or Bool.or_true Bool.false_or Bool.or_false Bool.not_true Bool.not_false Bool.not_not true_and and_true false_and and_false not_true_eq_false not_false_eq_true eq_self decide_true decide_false ne_eq implies_true forall_const true_implies false_implies Bool.true_eq_false Bool.false_eq_true List.map_cons List.map_nil List.all_cons List.all_nil List.length_cons List.length_nil List.length_map List.length_append List.nil_append List.cons_append List.set_cons_zero List.set_cons_succ List.set_nil List.drop_zero List.drop_succ_cons List.drop_nil List.take_zero List.take_succ_cons List.take_nil Option.map_some Option.map_none Option.isSome_some List.all_append List.all_map Function.comp_def decide_eq_true_eq Bool.and_eq_true beq_self_eq_true or_self and_self ite_true ite_false Nat.le_refl Bool.not_eq_true decide_not Bool.not_eq_true' decide_eq_false_iff_not Bool.not_eq_false Bool.or_eq_true if_true if_false ite_self u_roF u_cvF u_cvC u_ceT u_ceK u_appS sm_it sm_len sm_sure sm_ltA sm_lt1 sm_all1 sm_ro sm_take sm_sl sm_set sm_noT sm_fr sm_st_fr sm_set_fr sm_kd sm_st_kd sm_set_kd sm_vw sm_st_vw sm_set_vw sm_sq sm_st_sq sm_set_sq sm_tm sm_st_tm sm_set_tm zsm_len zsm_sure zsm_lt1 zsm_sl zsm_ro zsm_setz zsm_set zsm_setr zsm_take sms_ltA sms_len ce_it ce_len ce_sure ce_ltA ce_lt1 ce_all1 ce_ro ce_take ce_sl ce_set ce_noT ce_sq ce_st_sq ce_set_sq ce_vw ce_st_vw ce_set_vw ce_tm ce_st_tm ce_set_tm ce_body ce_st_body ce_set_body ce_vs ce_st_vs ce_set_vs zce_len zce_sure zce_lt1 zce_sl zce_ro zce_setz zce_set zce_setr zce_take ces_ltA ces_len cg_it cg_len cg_sure cg_ltA cg_lt1 cg_all1 cg_ro cg_take cg_sl cg_set cg_noT cg_fr cg_st_fr cg_set_fr cg_vw cg_st_vw cg_set_vw cg_st cg_st_st cg_set_st cg_rt cg_st_rt cg_set_rt cg_pf cg_st_pf cg_set_pf cg_cs cg_st_cs cg_set_cs zcg_len zcg_sure zcg_lt1 zcg_sl zcg_ro zcg_setz zcg_set zcg_setr zcg_take cgs_ltA cgs_len ms_it ms_len ms_sure ms_ltA ms_lt1 ms_all1 ms_ro ms_take ms_sl ms_set ms_noT ms_kd ms_st_kd ms_set_kd ms_fr ms_st_fr ms_set_fr ms_vw ms_st_vw ms_set_vw ms_sq ms_st_sq ms_set_sq ms_tm ms_st_tm ms_set_tm ms_body ms_st_body ms_set_body ms_vs ms_st_vs ms_set_vs ms_chs ms_st_chs ms_set_chs zms_len zms_sure zms_lt1 zms_sl zms_ro zms_setz zms_set zms_setr zms_take mss_ltA mss_len co_it co_len co_sure co_ltA co_lt1 co_all1 co_ro co_take co_sl co_set co_noT co_sq co_st_sq co_set_sq co_tm co_st_tm co_set_tm co_body co_st_body co_set_body co_nl co_st_nl co_set_nl zco_len zco_sure zco_lt1 zco_sl zco_ro zco_setz zco_set zco_setr zco_take cos_ltA cos_len sd_it sd_len sd_sure sd_ltA sd_lt1 sd_all1 sd_ro sd_take sd_sl sd_set sd_noT sd_wh sd_st_wh sd_set_wh sd_fr sd_st_fr sd_set_fr sd_kd sd_st_kd sd_set_kd sd_vw sd_st_vw sd_set_vw sd_sq sd_st_sq sd_set_sq sd_tm sd_st_tm sd_set_tm sds_ltA sds_len natInt u_nthM u_bz u_bi1 u_bi2 u_bi3 u_bi4 u_bi5 u_bi6 u_bi7 s_B0 s_Bk s_Bs0 s_Bsk s_takeY s_take s_takeK sc_len smO_lt w_0 w_Y0 w_B0 w_Bk w_Bs0 w_Bsk w_take w_takeY w_takeK sw_len wo_cells ltO_o ltO_r u_eqE u_eqSm Nat.le_add_right List.append_assoc
attribute [local go_sem_proc] Nat.reduceAdd Nat.reduceSub Nat.reduceMul Nat.reduceLeDiff Nat.reduceLT Int.reduceEq Int.reduceNe Int.reduceLT Int.reduceLE Int.reduceAdd Int.reduceSub Int.reduceMul Int.reduceNeg Int.reduceToNat reduceCtorEq Nat.reduceEqDiff Nat.reduceBEq Nat.reduceGT
attribute [local go_sem_proc ↓] reduceIte
def cut3 (x : List UInt8) : List UInt8 := if 3000 < x.length then x.take 3000 else x
def stepT (p : Sg × Wg) (x : List UInt8) : Sg × Wg := ({ p.1 with T := oqT p.1.T (cut3 x) },{ p.2 with T := oqT p.2.T (cut3 x) })
def stepR (p : Sg × Wg) (d : Sd) : Sg × Wg := ({ p.1 with R := sayR p.1 d.wh (sdS d) },{ p.2 with L := rsayL p.2.n p.2.rog p.2.L d.wh (sdS d),X := SL ((rsayL p.2.n p.2.rog p.2.L d.wh (sdS d)).map smE) })
def scn0 (rog : List Int) : Sg × Wg := (⟨[],7,bdL rog,[]⟩,⟨[],7,rog,[],V (.slice none 0 0)⟩)
def scnT (rog : List Int) (tx : List (List UInt8)) : Sg × Wg := (tx.take 80).foldl stepT (scn0 rog)
def scn (rog : List Int) (tx : List (List UInt8)) (sd : List Sd) : Sg × Wg := (sd.take 120).foldl stepR (scnT rog tx)
theorem cut3_len {x : List UInt8} (h : x.length ≤ 9223372036854775807) : (cut3 x).length ≤ 9223372036854775807 := by
 unfold cut3
 split
 ·simp;omega
 ·exact h
theorem scn0_ok {rog : List Int} (hb : ∀ p ∈ rog,inN 7 p = true) (hl : rog.length ≤ 1000000) : Scn (scn0 rog).1 (scn0 rog).2 :=
 ⟨⟨List.nodup_nil,by show ([] : List (List UInt8)).length ≤ _;simp,fun s hs=>by simp [scn0] at hs,by show (1 : Int) ≤ 7;omega,by show (7 : Int) ≤ 64;omega,bdL_64,List.nodup_nil,by show ([] : List Sm).length ≤ _;simp,fun s hs=>by simp [scn0] at hs,fun s hs=>by simp [scn0] at hs⟩,⟨by show ([] : List (List UInt8)).length ≤ _;simp,by show ([] : List Sm).length ≤ _;simp,hl, .inr ⟨rfl,rfl⟩⟩,rfl,rfl,rfl,rfl,rfl,hb⟩
theorem stepT_ok : ∀ (l : List (List UInt8)) (p : Sg × Wg),Scn p.1 p.2 → (∀ x ∈ l,x.length ≤ 9223372036854775807) → Scn (l.foldl stepT p).1 (l.foldl stepT p).2
 |[],p,h,_=>h
 |x :: l,p,h,hl=>stepT_ok l (stepT p x) (h.of (cut3_len (hl x (List.mem_cons_self ..)))) fun y hy=>hl y (List.mem_cons_of_mem _ hy)
theorem stepR_ok : ∀ (l : List Sd) (p : Sg × Wg),Scn p.1 p.2 → (∀ x ∈ l,SmI (sdS x)) → Scn (l.foldl stepR p).1 (l.foldl stepR p).2
 |[],p,h,_=>h
 |x :: l,p,h,hl=>stepR_ok l (stepR p x) (h.said x.wh (sdS x) (hl x (List.mem_cons_self ..))) fun y hy=>hl y (List.mem_cons_of_mem _ hy)
theorem scnT_ok {rog : List Int} {tx : List (List UInt8)} (hb : ∀ p ∈ rog,inN 7 p = true) (hl : rog.length ≤ 1000000) (ht : ∀ x ∈ tx,x.length ≤ 9223372036854775807) : Scn (scnT rog tx).1 (scnT rog tx).2 := stepT_ok _ _ (scn0_ok hb hl) fun x hx=>ht x (List.mem_of_mem_take hx)
theorem scn_ok {rog : List Int} {tx : List (List UInt8)} {sd : List Sd} (hb : ∀ p ∈ rog,inN 7 p = true) (hl : rog.length ≤ 1000000) (ht : ∀ x ∈ tx,x.length ≤ 9223372036854775807) (hs : ∀ x ∈ sd,SmI (sdS x)) : Scn (scn rog tx sd).1 (scn rog tx sd).2 := stepR_ok _ _ (scnT_ok hb hl ht) fun x hx=>hs x (List.mem_of_mem_take hx)
theorem fold_take {α β : Type} {f : β → α → β} {l : List α} {k : Nat} {b : β} (h : k < l.length) : (l.take (k + 1)).foldl f b = f ((l.take k).foldl f b) l[k] := by
 rw [List.take_succ_eq_append_getElem h,List.foldl_append]
 rfl
section
variable (m : Nat) (H0 : List AObj) (tx : List (List UInt8)) (bad : List Int) (sd : List Sd) (hm : 1000001 < m) (hA : GA (H0 ++ [scX tx bad sd])) (htl : tx.length ≤ 9223372036854775807) (hsl : sd.length ≤ 9223372036854775807) (ht : ∀ x ∈ tx,x.length ≤ 9223372036854775807) (hs : ∀ x ∈ sd,SmI (sdS x))
include hm hA hsl hs
theorem loopR_s (p : Sg × Wg) (h : Scn p.1 p.2) : plenumlaw32_set_r5 m H0.length ⟨hS (H0 ++ [scX tx bad sd]) p.1 p.2,[(1,OP H0.length 0),(6,OP (H0.length + 2) 0),(7,OP (H0.length + 5) 0),(9,OP (H0.length + 7) 0)]⟩ = some (TU [OP (H0.length + 2) 0,OP (H0.length + 5) 0,OP (H0.length + 7) 0,bA true],hS (H0 ++ [scX tx bad sd]) ((sd.take 120).foldl stepR p).1 ((sd.take 120).foldl stepR p).2) := by
 have hl : (H0 ++ [scX tx bad sd]).length = H0.length + 1 := by simp
 rw [plenumlaw32_set_r5_eq]
 refine iter_go (m := m) (ι := {k : Nat // k ≤ (sd.take 120).length}) (fun k=>⟨hS (H0 ++ [scX tx bad sd]) (((sd.take 120).take k.1).foldl stepR p).1 (((sd.take 120).take k.1).foldl stepR p).2,[(1,OP H0.length 0),(6,OP (H0.length + 2) 0),(7,OP (H0.length + 5) 0),(9,OP (H0.length + 7) 0),(12,nA k.1)]⟩) (fun k=>(sd.take 120).length - k.1) (fun _=>some (TU [OP (H0.length + 2) 0,OP (H0.length + 5) 0,OP (H0.length + 7) 0,bA true],hS (H0 ++ [scX tx bad sd]) ((sd.take 120).foldl stepR p).1 ((sd.take 120).foldl stepR p).2)) ?_ ⟨0,Nat.zero_le _⟩ (by dsimp only;simp;omega)
 rintro kx hkx ⟨k,hk⟩ kc hkc
 dsimp only at hkc ⊢
 have hP := stepR_ok ((sd.take 120).take k) p h fun x hx=>hs x (List.mem_of_mem_take (List.mem_of_mem_take hx))
 have hl8 : (hS (H0 ++ [scX tx bad sd]) (((sd.take 120).take k).foldl stepR p).1 (((sd.take 120).take k).foldl stepR p).2).length = H0.length + 9 := by rw [hS_len,hl]
 have hallk := hS_lt hA hP.wo (σ := (((sd.take 120).take k).foldl stepR p).1) (n := H0.length + 9) (by rw [hl];omega)
 rw [plenumlaw32_set_b2_eq]
 rw [List.length_take] at hk
 by_cases hc : k < (sd.take 120).length
 ·have hc' := hc
  rw [List.length_take] at hc'
  have h1 : k < sd.length := by omega
  have h1' : (k : Int) < (sd.length : Int) := by omega
  have h2 : (k : Int) < 120 := by omega
  have hr := said_r m H0 _ _ tx bad sd k h1 (H0.length + 9) kc kx hA hP (hs _ (List.getElem_mem h1)) hm hsl
  have step := hkc ⟨k + 1,by omega⟩ (by dsimp only;omega)
  dsimp only at step
  rw [fold_take hc,List.getElem_take] at step
  have hP2 := hP.said sd[k].wh (sdS sd[k]) (hs _ (List.getElem_mem h1))
  generalize ((sd.take 120).take k).foldl stepR p = q at *
  obtain ⟨σ,ω⟩ := q
  dsimp only at *
  have hall := hS_lt hA hP2.wo (σ := { σ with R := sayR σ sd[k].wh (sdS sd[k]) }) (n := H0.length + 9) (by rw [hl];omega)
  have hl9 : (hS (H0 ++ [scX tx bad sd]) { σ with R := sayR σ sd[k].wh (sdS sd[k]) } { ω with L := rsayL ω.n ω.rog ω.L sd[k].wh (sdS sd[k]),X := SL ((rsayL ω.n ω.rog ω.L sd[k].wh (sdS sd[k])).map smE) }).length = H0.length + 9 := by rw [hS_len,hl]
  have htk : (hS (H0 ++ [scX tx bad sd]) { σ with R := sayR σ sd[k].wh (sdS sd[k]) } { ω with L := rsayL ω.n ω.rog ω.L sd[k].wh (sdS sd[k]),X := SL ((rsayL ω.n ω.rog ω.L sd[k].wh (sdS sd[k])).map smE) }).take (H0.length + 9) = _ := List.take_of_length_le (by rw [hl9];exact Nat.le_refl _)
  have hw1 : IntKind.i64.wrap ((k : Int) + 1) = (k : Int) + 1 := w_i64 (by omega) (by omega)
  have o1 : H0.length + 2 < H0.length + 9 := by omega
  have o2 : H0.length + 5 < H0.length + 9 := by omega
  have o3 : H0.length + 7 < H0.length + 9 := by omega
  have o4 : H0.length < H0.length + 9 := by omega
  rw [hw1] at hr
  have hc0 := fun {K : AObj → RO} {σ : Sg} {o6 o7 : AObj}=>hM_0 (H0 := H0) (X := scX tx bad sd) (σ := σ) (o6 := o6) (o7 := o7) (K := K)
  have hc1 : ∀ {K : AObj → RO},nthOE (hS (H0 ++ [scX tx bad sd]) σ ω) H0.length K = K (scX tx bad sd) := fun {K}=>by rw [hS_hM];exact hM_0
  simp (config := {maxSteps := 4000000,implicitDefEqProofs := false}) (disch := omega) only [go_sem,hc1,sc_cells,sc_f2,h1',h2,hl8,hr,plenumlaw32_set_r8_eq]
  simp (config := {maxSteps := 4000000,implicitDefEqProofs := false}) (disch := omega) only [go_sem,hl9,hall,htk,o1,o2,o3,o4]
  exact step
 ·have hk2 : k = (sd.take 120).length := by rw [List.length_take] at hc ⊢;omega
  have htk : (sd.take 120).take k = sd.take 120 := by rw [hk2,List.take_length]
  rw [htk] at hl8 hallk ⊢
  have hc1 : ∀ {K : AObj → RO},nthOE (hS (H0 ++ [scX tx bad sd]) ((sd.take 120).foldl stepR p).1 ((sd.take 120).foldl stepR p).2) H0.length K = K (scX tx bad sd) := fun {K}=>by rw [hS_hM];exact hM_0
  have o1 : H0.length + 2 < H0.length + 9 := by omega
  have o2 : H0.length + 5 < H0.length + 9 := by omega
  have o3 : H0.length + 7 < H0.length + 9 := by omega
  by_cases h1 : k < sd.length
  ·have h1' : (k : Int) < (sd.length : Int) := by omega
   have h2 : ¬ (k : Int) < 120 := by rw [List.length_take] at hk2;omega
   simp (config := {maxSteps := 4000000,implicitDefEqProofs := false}) (disch := omega) only [go_sem,hc1,sc_cells,sc_f2,h1',h2,hl8,hkx,plenumlaw32_set_r8_eq,plenumlaw32_set_r7_eq,u_openK,hallk,o1,o2,o3]
  ·have h1' : ¬ (k : Int) < (sd.length : Int) := by omega
   simp (config := {maxSteps := 4000000,implicitDefEqProofs := false}) (disch := omega) only [go_sem,hc1,sc_cells,sc_f2,h1',hl8,hkx,plenumlaw32_set_r8_eq,plenumlaw32_set_r7_eq,u_openK,hallk,o1,o2,o3]
include htl ht
theorem loopT_s (rog : List Int) (hb : ∀ p ∈ rog,inN 7 p = true) (hlr : rog.length ≤ 1000000) : plenumlaw32_set_r4 m H0.length ⟨hS (H0 ++ [scX tx bad sd]) (scn0 rog).1 (scn0 rog).2,[(1,OP H0.length 0),(6,OP (H0.length + 2) 0),(7,OP (H0.length + 5) 0),(9,OP (H0.length + 7) 0)]⟩ = some (TU [OP (H0.length + 2) 0,OP (H0.length + 5) 0,OP (H0.length + 7) 0,bA true],hS (H0 ++ [scX tx bad sd]) (scn rog tx sd).1 (scn rog tx sd).2) := by
 have hl : (H0 ++ [scX tx bad sd]).length = H0.length + 1 := by simp
 have h0 := scn0_ok hb hlr
 have h5 := loopR_s m H0 tx bad sd hm hA hsl hs (scnT rog tx) (scnT_ok hb hlr ht)
 rw [show (sd.take 120).foldl stepR (scnT rog tx) = scn rog tx sd from rfl] at h5
 rw [plenumlaw32_set_r4_eq]
 refine iter_go (m := m) (ι := {k : Nat // k ≤ (tx.take 80).length}) (fun k=>⟨hS (H0 ++ [scX tx bad sd]) (((tx.take 80).take k.1).foldl stepT (scn0 rog)).1 (((tx.take 80).take k.1).foldl stepT (scn0 rog)).2,[(1,OP H0.length 0),(6,OP (H0.length + 2) 0),(7,OP (H0.length + 5) 0),(9,OP (H0.length + 7) 0),(10,nA k.1)]⟩) (fun k=>(tx.take 80).length - k.1) (fun _=>some (TU [OP (H0.length + 2) 0,OP (H0.length + 5) 0,OP (H0.length + 7) 0,bA true],hS (H0 ++ [scX tx bad sd]) (scn rog tx sd).1 (scn rog tx sd).2)) ?_ ⟨0,Nat.zero_le _⟩ (by dsimp only;simp;omega)
 rintro kx hkx ⟨k,hk⟩ kc hkc
 dsimp only at hkc ⊢
 have hP := stepT_ok ((tx.take 80).take k) (scn0 rog) h0 fun x hx=>ht x (List.mem_of_mem_take (List.mem_of_mem_take hx))
 have hl8 : (hS (H0 ++ [scX tx bad sd]) (((tx.take 80).take k).foldl stepT (scn0 rog)).1 (((tx.take 80).take k).foldl stepT (scn0 rog)).2).length = H0.length + 9 := by rw [hS_len,hl]
 rw [plenumlaw32_set_b1_eq]
 rw [List.length_take] at hk
 by_cases hc : k < (tx.take 80).length
 ·have hc' := hc
  rw [List.length_take] at hc'
  have h1 : k < tx.length := by omega
  have h1' : (k : Int) < (tx.length : Int) := by omega
  have h2 : (k : Int) < 80 := by omega
  have hx := ht _ (List.getElem_mem h1)
  have step := hkc ⟨k + 1,by omega⟩ (by dsimp only;omega)
  dsimp only at step
  rw [fold_take hc,List.getElem_take] at step
  have hP2 := hP.of (cut3_len hx)
  generalize ((tx.take 80).take k).foldl stepT (scn0 rog) = q at *
  obtain ⟨σ,ω⟩ := q
  dsimp only at *
  have hst : stepT (σ,ω) tx[k] = ({ σ with T := oqT σ.T (cut3 tx[k]) },{ ω with T := oqT ω.T (cut3 tx[k]) }) := rfl
  rw [hst] at step
  dsimp only at step
  have hr := text_r m (H0 ++ [scX tx bad sd]) σ ω (cut3 tx[k]) (OP H0.length 0) k (H0.length + 9) kc kx hA hP (cut3_len hx) hm
  rw [hl] at hr
  have e4 : H0.length + 1 + 1 = H0.length + 2 := rfl
  have e5 : H0.length + 1 + 4 = H0.length + 5 := rfl
  have e6 : H0.length + 1 + 6 = H0.length + 7 := rfl
  simp only [e4,e5,e6] at hr
  have hall := hS_lt hA hP2.wo (σ := { σ with T := oqT σ.T (cut3 tx[k]) }) (n := H0.length + 9) (by rw [hl];omega)
  have hl9 : (hS (H0 ++ [scX tx bad sd]) { σ with T := oqT σ.T (cut3 tx[k]) } { ω with T := oqT ω.T (cut3 tx[k]) }).length = H0.length + 9 := by rw [hS_len,hl]
  have htk : (hS (H0 ++ [scX tx bad sd]) { σ with T := oqT σ.T (cut3 tx[k]) } { ω with T := oqT ω.T (cut3 tx[k]) }).take (H0.length + 9) = _ := List.take_of_length_le (by rw [hl9];exact Nat.le_refl _)
  have hw1 : IntKind.i64.wrap ((k : Int) + 1) = (k : Int) + 1 := w_i64 (by omega) (by omega)
  have o1 : H0.length + 2 < H0.length + 9 := by omega
  have o2 : H0.length + 5 < H0.length + 9 := by omega
  have o3 : H0.length + 7 < H0.length + 9 := by omega
  have o4 : H0.length < H0.length + 9 := by omega
  have hc1 : ∀ {K : AObj → RO},nthOE (hS (H0 ++ [scX tx bad sd]) σ ω) H0.length K = K (scX tx bad sd) := fun {K}=>by rw [hS_hM];exact hM_0
  unfold cut3 at *
  by_cases h3 : 3000 < tx[k].length
  ·have h3' : (3000 : Int) < (tx[k].length : Int) := by omega
   have h3'' : (3000 : Int) ≤ (tx[k].length : Int) := by omega
   rw [if_pos h3] at *
   simp (config := {maxSteps := 4000000,implicitDefEqProofs := false}) (disch := omega) only [go_sem,hc1,sc_cells,sc_f0,h1,h1',h2,h3',h3'',hl8,szOf,plenumlaw32_set_r6_eq,plenumlaw32_set_r9_eq]
   simp (config := {maxSteps := 4000000,implicitDefEqProofs := false}) (disch := omega) only [go_sem,hr,hl9,hall,htk,o1,o2,o3,o4,hw1,plenumlaw32_set_r12_eq]
   exact step
  ·have h3' : ¬ (3000 : Int) < (tx[k].length : Int) := by omega
   rw [if_neg h3] at *
   simp (config := {maxSteps := 4000000,implicitDefEqProofs := false}) (disch := omega) only [go_sem,hc1,sc_cells,sc_f0,h1,h1',h2,h3',hl8,szOf,plenumlaw32_set_r6_eq,plenumlaw32_set_r9_eq]
   simp (config := {maxSteps := 4000000,implicitDefEqProofs := false}) (disch := omega) only [go_sem,hr,hl9,hall,htk,o1,o2,o3,o4,hw1,plenumlaw32_set_r12_eq]
   exact step
 ·have hk2 : k = (tx.take 80).length := by rw [List.length_take] at hc ⊢;omega
  have htk : (tx.take 80).take k = tx.take 80 := by rw [hk2,List.take_length]
  rw [htk] at hl8 ⊢
  rw [show (tx.take 80).foldl stepT (scn0 rog) = scnT rog tx from rfl] at *
  have hc1 : ∀ {K : AObj → RO},nthOE (hS (H0 ++ [scX tx bad sd]) (scnT rog tx).1 (scnT rog tx).2) H0.length K = K (scX tx bad sd) := fun {K}=>by rw [hS_hM];exact hM_0
  by_cases h1 : k < tx.length
  ·have h1' : (k : Int) < (tx.length : Int) := by omega
   have h2 : ¬ (k : Int) < 80 := by rw [List.length_take] at hk2;omega
   simp (config := {maxSteps := 4000000,implicitDefEqProofs := false}) (disch := omega) only [go_sem,hc1,sc_cells,sc_f0,h1',h2,hl8,hkx,plenumlaw32_set_r6_eq]
   exact h5
  ·have h1' : ¬ (k : Int) < (tx.length : Int) := by omega
   simp (config := {maxSteps := 4000000,implicitDefEqProofs := false}) (disch := omega) only [go_sem,hc1,sc_cells,sc_f0,h1',hl8,hkx,plenumlaw32_set_r6_eq]
   exact h5
end
end Go.Proofs.Ytaaogcnjfkgnoaa

namespace Go.Proofs.Ytaaogcnjfkgnoaa
open Go.RowKit
set_option maxHeartbeats 4000000
attribute [local go_sem] Nat.zero_add Nat.add_zero Nat.mul_one Int.toNat_natCast Int.natCast_zero Int.cast_ofNat_Int or_false false_or or_true true_or Nat.sub_zero Int.natCast_nonneg Int.toNat_zero Bool.true_and Bool.and_true Bool.false_and Bool.and_false Bool.true_or Bool.or_true Bool.false_or Bool.or_false Bool.not_true Bool.not_false Bool.not_not true_and and_true false_and and_false not_true_eq_false not_false_eq_true eq_self decide_true decide_false ne_eq implies_true forall_const true_implies false_implies Bool.true_eq_false Bool.false_eq_true List.map_cons List.map_nil List.all_cons List.all_nil List.length_cons List.length_nil List.length_map List.length_append List.nil_append List.cons_append List.set_cons_zero List.set_cons_succ List.set_nil List.drop_zero List.drop_succ_cons List.drop_nil List.take_zero List.take_succ_cons List.take_nil Option.map_some Option.map_none Option.isSome_some List.all_append List.all_map Function.comp_def decide_eq_true_eq Bool.and_eq_true beq_self_eq_true or_self and_self ite_true ite_false Nat.le_refl Bool.not_eq_true decide_not Bool.not_eq_true' decide_eq_false_iff_not Bool.not_eq_false Bool.or_eq_true if_true if_false ite_self u_roF u_cvF u_cvC u_ceT u_ceK u_appS sm_it sm_len sm_sure sm_ltA sm_lt1 sm_all1 sm_ro sm_take sm_sl sm_set sm_noT sm_fr sm_st_fr sm_set_fr sm_kd sm_st_kd sm_set_kd sm_vw sm_st_vw sm_set_vw sm_sq sm_st_sq sm_set_sq sm_tm sm_st_tm sm_set_tm zsm_len zsm_sure zsm_lt1 zsm_sl zsm_ro zsm_setz zsm_set zsm_setr zsm_take sms_ltA sms_len ce_it ce_len ce_sure ce_ltA ce_lt1 ce_all1 ce_ro ce_take ce_sl ce_set ce_noT ce_sq ce_st_sq ce_set_sq ce_vw ce_st_vw ce_set_vw ce_tm ce_st_tm ce_set_tm ce_body ce_st_body ce_set_body ce_vs ce_st_vs ce_set_vs zce_len zce_sure zce_lt1 zce_sl zce_ro zce_setz zce_set zce_setr zce_take ces_ltA ces_len cg_it cg_len cg_sure cg_ltA cg_lt1 cg_all1 cg_ro cg_take cg_sl cg_set cg_noT cg_fr cg_st_fr cg_set_fr cg_vw cg_st_vw cg_set_vw cg_st cg_st_st cg_set_st cg_rt cg_st_rt cg_set_rt cg_pf cg_st_pf cg_set_pf cg_cs cg_st_cs cg_set_cs zcg_len zcg_sure zcg_lt1 zcg_sl zcg_ro zcg_setz zcg_set zcg_setr zcg_take cgs_ltA cgs_len ms_it ms_len ms_sure ms_ltA ms_lt1 ms_all1 ms_ro ms_take ms_sl ms_set ms_noT ms_kd ms_st_kd ms_set_kd ms_fr ms_st_fr ms_set_fr ms_vw ms_st_vw ms_set_vw ms_sq ms_st_sq ms_set_sq ms_tm ms_st_tm ms_set_tm ms_body ms_st_body ms_set_body ms_vs ms_st_vs ms_set_vs ms_chs ms_st_chs ms_set_chs zms_len zms_sure zms_lt1 zms_sl zms_ro zms_setz zms_set zms_setr zms_take mss_ltA mss_len co_it co_len co_sure co_ltA co_lt1 co_all1 co_ro co_take co_sl co_set co_noT co_sq co_st_sq co_set_sq co_tm co_st_tm co_set_tm co_body co_st_body co_set_body co_nl co_st_nl co_set_nl zco_len zco_sure zco_lt1 zco_sl zco_ro zco_setz zco_set zco_setr zco_take cos_ltA cos_len sd_it sd_len sd_sure sd_ltA sd_lt1 sd_all1 sd_ro sd_take sd_sl sd_set sd_noT sd_wh sd_st_wh sd_set_wh sd_fr sd_st_fr sd_set_fr sd_kd sd_st_kd sd_set_kd sd_vw sd_st_vw sd_set_vw sd_sq sd_st_sq sd_set_sq sd_tm sd_st_tm sd_set_tm sds_ltA sds_len natInt u_nthM u_bz u_bi1 u_bi2 u_bi3 u_bi4 u_bi5 u_bi6 u_bi7 s_B0 s_Bk s_Bs0 s_Bsk s_takeY s_take s_takeK sc_len smO_lt w_0 w_Y0 w_B0 w_Bk w_Bs0 w_Bsk w_take w_takeY w_takeK sw_len wo_cells ltO_o ltO_r u_eqE u_eqSm Nat.le_add_right List.append_assoc
attribute [local go_sem_proc] Nat.reduceAdd Nat.reduceSub Nat.reduceMul Nat.reduceLeDiff Nat.reduceLT Int.reduceEq Int.reduceNe Int.reduceLT Int.reduceLE Int.reduceAdd Int.reduceSub Int.reduceMul Int.reduceNeg Int.reduceToNat reduceCtorEq Nat.reduceEqDiff Nat.reduceBEq Nat.reduceGT
attribute [local go_sem_proc ↓] reduceIte
theorem sc_sure {tx : List (List UInt8)} {bad : List Int} {sd : List Sd} : (scC tx bad sd).all sure = true := _root_.id rfl
theorem sc_put {tx : List (List UInt8)} {bad l : List Int} {sd : List Sd} {R : Type} {K : AObj → Option R} : putE (scX tx bad sd) 1 1 (SL (l.map nA)) K = K (scX tx l sd) := by
 unfold scX
 rw [u_pt1]
 rfl
theorem set_pre (m : Nat) (H0 : List AObj) (tx : List (List UInt8)) (bad : List Int) (sd : List Sd) (hb : bad.length ≤ 9223372036854775807) :
  plenumlaw32_set m (.agg (scC tx bad sd)) H0 = plenumlaw32_set_r1 m H0.length ⟨H0 ++ [scX tx (bad.take 10) sd],[(1,OP H0.length 0)]⟩ := by
 have h0 : ∀ {o : AObj} {K : AObj → RO},nthOE (H0 ++ [o]) H0.length K = K o := fun {o K}=>(nthOA H0 (k := 0))
 have hs : ∀ {o o' : AObj},(H0 ++ [o]).set H0.length o' = H0 ++ [o'] := fun {o o'}=>(setA H0 (k := 0))
 have e : (⟨1,ty_plenumlaw32_Scene,0,scC tx bad sd⟩ : AObj) = scX tx bad sd := rfl
 rw [plenumlaw32_set_eq]
 by_cases h : 10 < bad.length
 ·have h' : (10 : Int) < (bad.length : Int) := by omega
  have h'' : (10 : Int) ≤ (bad.length : Int) := by omega
  have hc : cutE (bad.map nA) 0 10 = (bad.take 10).map nA := cutM (n := 10)
  have h1 : ((bad.map nA).all fun d=>decide ((cellsOf d).length = szOf 3)) = true := by rw [List.all_map];exact List.all_eq_true.2 fun _ _=>rfl
  simp (config := {maxSteps := 4000000,implicitDefEqProofs := false}) (disch := omega) only [go_sem,sc_sure,e,h0,hs,sc_cells,sc_f1,sc_put,h',h'',hc]
 ·have h' : ¬ (10 : Int) < (bad.length : Int) := by omega
  have ht : bad.take 10 = bad := List.take_of_length_le (by omega)
  rw [ht]
  simp (config := {maxSteps := 4000000,implicitDefEqProofs := false}) (disch := omega) only [go_sem,sc_sure,e,h0,hs,sc_cells,sc_f1,h']
theorem gh_set {H0 : List AObj} {tx : List (List UInt8)} {b : List Int} {sd : List Sd} {bd : List Bool} {x7 x8 : AV} : ghS 9 0 ty_string 1 ⟨sc (H0 ++ [scX tx b sd]) [] (⟨[],7,bd,[]⟩ : Sg) ++ [⟨1,ty_plenumref32_World,0,[V (.slice none 0 0),nA 7,SL (b.map nA),V (.slice none 0 0)]⟩],[(1,OP H0.length 0),(6,OP (H0.length + 2) 0),(7,x7),(8,x8),(9,OP (H0.length + 7) 0)]⟩ = ⟨hS (H0 ++ [scX tx b sd]) (⟨[],7,bd,[]⟩ : Sg) (scn0 b).2,[(1,OP H0.length 0),(6,OP (H0.length + 2) 0),(7,x7),(8,x8),(9,OP (H0.length + 7) 0)]⟩ := by
 have hl : (H0 ++ [scX tx b sd]).length = H0.length + 1 := by simp
 have hsl2 : (sc (H0 ++ [scX tx b sd]) [] (⟨[],7,bd,[]⟩ : Sg)).length = H0.length + 7 := by rw [sc_len];unfold nAB;rw [hl];rfl
 have g1 : (sc (H0 ++ [scX tx b sd]) [] (⟨[],7,bd,[]⟩ : Sg) ++ ([⟨1,ty_plenumref32_World,0,[V (.slice none 0 0),nA 7,SL (b.map nA),V (.slice none 0 0)]⟩] : List AObj))[H0.length + 7]? = some ⟨1,ty_plenumref32_World,0,[V (.slice none 0 0),nA 7,SL (b.map nA),V (.slice none 0 0)]⟩ := by
  rw [← hsl2]
  exact (getA _ (k := 0))
 have g2 : ∀ o,(sc (H0 ++ [scX tx b sd]) [] (⟨[],7,bd,[]⟩ : Sg) ++ ([⟨1,ty_plenumref32_World,0,[V (.slice none 0 0),nA 7,SL (b.map nA),V (.slice none 0 0)]⟩] : List AObj)).set (H0.length + 7) o = sc (H0 ++ [scX tx b sd]) [] (⟨[],7,bd,[]⟩ : Sg) ++ [o] := fun o=>by
  rw [← hsl2]
  exact (setA _ (k := 0))
 unfold ghS
 show (match OP (H0.length + 7) 0 with|_=>_) = _
 dsimp only
 rw [g1]
 dsimp only
 show (⟨(sc (H0 ++ [scX tx b sd]) [] (⟨[],7,bd,[]⟩ : Sg) ++ ([⟨1,ty_plenumref32_World,0,[V (.slice none 0 0),nA 7,SL (b.map nA),V (.slice none 0 0)]⟩] : List AObj)).set (H0.length + 7) _ ++ _,_⟩ : ASt) = _
 rw [g2,List.length_append,hsl2,List.append_assoc,hS_sc]
 unfold sc scM
 rw [hl]
 simp only [List.append_assoc,List.cons_append,List.nil_append]
 rfl
theorem set_s (m : Nat) (H0 : List AObj) (tx : List (List UInt8)) (bad : List Int) (sd : List Sd) (hm : 1000001 < m) (hA : GA H0) (hbl : bad.length ≤ 9223372036854775807) (htl : tx.length ≤ 9223372036854775807) (hsl : sd.length ≤ 9223372036854775807) (ht : ∀ x ∈ tx,x.length ≤ 9223372036854775807) (hs : ∀ x ∈ sd,SmI (sdS x)) (hb : ∀ p ∈ bad.take 10,inN 7 p = true) :
  plenumlaw32_set m (.agg (scC tx bad sd)) H0 = some (TU [OP (H0.length + 2) 0,OP (H0.length + 5) 0,OP (H0.length + 7) 0,bA true],hS (H0 ++ [scX tx (bad.take 10) sd]) (scn (bad.take 10) tx sd).1 (scn (bad.take 10) tx sd).2) := by
 rw [set_pre m H0 tx bad sd hbl]
 have hbl2 : (bad.take 10).length ≤ 10 := by simp;omega
 generalize bad.take 10 = b at *
 have hl : (H0 ++ [scX tx b sd]).length = H0.length + 1 := by simp
 have hA1 : GA (H0 ++ [scX tx b sd]) := fun n hn=>by
  rw [hl] at hn
  rw [List.all_append,hA n (by omega)]
  rfl
 have h1 := tnew_s m (H0 ++ [scX tx b sd]) (fun n hn=>hA1 n hn)
 have h2 := gnew_ok m (H0 ++ [scX tx b sd]) [] 7 b (by omega) (by omega) (by omega) (by omega) (fun n hn=>hA1 n hn) hb
 have h3 := loopT_s m H0 tx b sd hm hA1 htl hsl ht hs b hb (by omega)
 rw [show (scn0 b).1 = (⟨[],7,bdL b,[]⟩ : Sg) from rfl] at h3
 rw [plenumlaw32_set_r1_eq,h1,u_keep,hl]
 have hH : H0 ++ [scX tx b sd] ++ [tmO [],ttO (H0.length + 1) [],trO []] = H0 ++ [scX tx b sd,tmO [],ttO (H0.length + 1) [],trO []] := by
  rw [List.append_assoc];rfl
 have n0 : ∀ {K : AObj → RO},nthOE (H0 ++ [scX tx b sd,tmO [],ttO (H0.length + 1) [],trO []]) H0.length K = K (scX tx b sd) := fun {K}=>(nthOA H0 (k := 0))
 have n1 : ∀ {K : AObj → RO},nthOE (sc (H0 ++ [scX tx b sd]) [] (⟨[],7,bdL b,[]⟩ : Sg)) H0.length K = K (scX tx b sd) := fun {K}=>by
  unfold sc scM
  rw [List.append_assoc];exact (nthOA H0 (k := 0))
 have hro : ro (H0 ++ [scX tx b sd,tmO [],ttO (H0.length + 1) [],trO []]) (SL (b.map nA)) = SL (b.map nA) := rfl
 have hsl2 : (sc (H0 ++ [scX tx b sd]) [] (⟨[],7,bdL b,[]⟩ : Sg)).length = H0.length + 7 := by rw [sc_len];unfold nAB;rw [hl];rfl
 simp only [List.length_append,List.length_cons,List.length_nil] at h2
 rw [hH] at h2
 have b1 : ∀ {K : AV → RO},buildE (some pl_plenumref04_Ring) (some zc_plenumref04_Ring) [(0,nA 7),(1,SL (b.map nA))] K = K (.agg [nA 7,SL (b.map nA),V (.slice none 0 0)]) := fun {K}=>rfl
 have b2 : ∀ {K : AV → RO},buildE (some pl_plenumref32_World) (some zc_plenumref32_World) [(1, .agg [nA 7,SL (b.map nA),V (.slice none 0 0)])] K = K (.agg [V (.slice none 0 0),nA 7,SL (b.map nA),V (.slice none 0 0)]) := fun {K}=>rfl
 have b3 : ∀ {K : AV → List AObj → RO} {H : List AObj},boxE ty_plenumref32_World H (.agg [V (.slice none 0 0),nA 7,SL (b.map nA),V (.slice none 0 0)]) K = K (OP H.length 0) (H ++ [⟨1,ty_plenumref32_World,0,[V (.slice none 0 0),nA 7,SL (b.map nA),V (.slice none 0 0)]⟩]) := fun {K H}=>rfl
 simp (config := {maxSteps := 4000000,implicitDefEqProofs := false}) (disch := omega) only [go_sem,n0,n1,sc_cells,sc_f1,hro,h2,b1,b2,b3,hsl2]
 rw [show H0.length + 1 + 1 = H0.length + 2 from rfl,show H0.length + 1 + 4 = H0.length + 5 from rfl,gh_set]
 simp (config := {maxSteps := 4000000,implicitDefEqProofs := false}) (disch := omega) only [go_sem,plenumlaw32_set_r2_eq,plenumlaw32_set_r3_eq,u_pe0,h3]
theorem set_no (m : Nat) (H0 : List AObj) (tx : List (List UInt8)) (bad : List Int) (sd : List Sd) (hm : 1000001 < m) (hA : GA H0) (hbl : bad.length ≤ 9223372036854775807) (htl : tx.length ≤ 9223372036854775807) (hsl : sd.length ≤ 9223372036854775807) (ht : ∀ x ∈ tx,x.length ≤ 9223372036854775807) (hs : ∀ x ∈ sd,SmI (sdS x)) (hb : ¬ ∀ p ∈ bad.take 10,inN 7 p = true) :
  ∃ bd,plenumlaw32_set m (.agg (scC tx bad sd)) H0 = some (TU [V (.pointer none),V (.pointer none),V (.pointer none),bA false],hS (H0 ++ [scX tx (bad.take 10) sd]) (⟨[],7,bd,[]⟩ : Sg) (scn0 (bad.take 10)).2) := by
 rw [set_pre m H0 tx bad sd hbl]
 have hbl2 : (bad.take 10).length ≤ 10 := by simp;omega
 generalize bad.take 10 = b at *
 have hl : (H0 ++ [scX tx b sd]).length = H0.length + 1 := by simp
 have hA1 : GA (H0 ++ [scX tx b sd]) := fun n hn=>by
  rw [hl] at hn
  rw [List.all_append,hA n (by omega)]
  rfl
 have h1 := tnew_s m (H0 ++ [scX tx b sd]) (fun n hn=>hA1 n hn)
 obtain ⟨bd,h2⟩ := gnew_no m (H0 ++ [scX tx b sd]) [] 7 b (by omega) (by omega) (by omega) (by omega) (fun n hn=>hA1 n hn) hb
 have hW : WgOk (scn0 b).2 := ⟨by show ([] : List (List UInt8)).length ≤ _;simp,by show ([] : List Sm).length ≤ _;simp,by show b.length ≤ _;omega, .inr ⟨rfl,rfl⟩⟩
 have hall := hS_lt (σ := (⟨[],7,bd,[]⟩ : Sg)) hA1 hW (n := H0.length + 9) (by rw [hl];omega)
 have hl8 : (hS (H0 ++ [scX tx b sd]) (⟨[],7,bd,[]⟩ : Sg) (scn0 b).2).length = H0.length + 9 := by rw [hS_len,hl]
 refine ⟨bd,?_⟩
 have hrp : ∀ H,ro1 H (V (.pointer none)) = V (.pointer none) := fun _=>rfl
 have hlp : ∀ n,ltA n (V (.pointer none)) = true := fun _=>rfl
 rw [plenumlaw32_set_r1_eq,h1,u_keep,hl]
 have hH : H0 ++ [scX tx b sd] ++ [tmO [],ttO (H0.length + 1) [],trO []] = H0 ++ [scX tx b sd,tmO [],ttO (H0.length + 1) [],trO []] := by
  rw [List.append_assoc];rfl
 have n0 : ∀ {K : AObj → RO},nthOE (H0 ++ [scX tx b sd,tmO [],ttO (H0.length + 1) [],trO []]) H0.length K = K (scX tx b sd) := fun {K}=>(nthOA H0 (k := 0))
 have n1 : ∀ {K : AObj → RO},nthOE (sc (H0 ++ [scX tx b sd]) [] (⟨[],7,bd,[]⟩ : Sg)) H0.length K = K (scX tx b sd) := fun {K}=>by
  unfold sc scM
  rw [List.append_assoc];exact (nthOA H0 (k := 0))
 have hro : ro (H0 ++ [scX tx b sd,tmO [],ttO (H0.length + 1) [],trO []]) (SL (b.map nA)) = SL (b.map nA) := rfl
 have hsl2 : (sc (H0 ++ [scX tx b sd]) [] (⟨[],7,bd,[]⟩ : Sg)).length = H0.length + 7 := by rw [sc_len];unfold nAB;rw [hl];rfl
 simp only [List.length_append,List.length_cons,List.length_nil] at h2
 rw [hH] at h2
 have b1 : ∀ {K : AV → RO},buildE (some pl_plenumref04_Ring) (some zc_plenumref04_Ring) [(0,nA 7),(1,SL (b.map nA))] K = K (.agg [nA 7,SL (b.map nA),V (.slice none 0 0)]) := fun {K}=>rfl
 have b2 : ∀ {K : AV → RO},buildE (some pl_plenumref32_World) (some zc_plenumref32_World) [(1, .agg [nA 7,SL (b.map nA),V (.slice none 0 0)])] K = K (.agg [V (.slice none 0 0),nA 7,SL (b.map nA),V (.slice none 0 0)]) := fun {K}=>rfl
 have b3 : ∀ {K : AV → List AObj → RO} {H : List AObj},boxE ty_plenumref32_World H (.agg [V (.slice none 0 0),nA 7,SL (b.map nA),V (.slice none 0 0)]) K = K (OP H.length 0) (H ++ [⟨1,ty_plenumref32_World,0,[V (.slice none 0 0),nA 7,SL (b.map nA),V (.slice none 0 0)]⟩]) := fun {K H}=>rfl
 simp (config := {maxSteps := 4000000,implicitDefEqProofs := false}) (disch := omega) only [go_sem,n0,n1,sc_cells,sc_f1,hro,h2,b1,b2,b3,hsl2]
 rw [show H0.length + 1 + 1 = H0.length + 2 from rfl,gh_set]
 simp (config := {maxSteps := 4000000,implicitDefEqProofs := false}) (disch := omega) only [go_sem,plenumlaw32_set_r2_eq,plenumlaw32_set_r3_eq,u_pe0,u_openK,hl8,hall,hrp,hlp]
end Go.Proofs.Ytaaogcnjfkgnoaa

namespace Go.Proofs.Ytaaogcnjfkgnoaa
open Go.RowKit
set_option maxHeartbeats 4000000
attribute [local go_sem] Nat.zero_add Nat.add_zero Nat.mul_one Int.toNat_natCast Int.natCast_zero Int.cast_ofNat_Int or_false false_or or_true true_or Nat.sub_zero Int.natCast_nonneg Int.toNat_zero Bool.true_and Bool.and_true Bool.false_and Bool.and_false Bool.true_or Bool.or_true Bool.false_or Bool.or_false Bool.not_true Bool.not_false Bool.not_not true_and and_true false_and and_false not_true_eq_false not_false_eq_true eq_self decide_true decide_false ne_eq implies_true forall_const true_implies false_implies Bool.true_eq_false Bool.false_eq_true List.map_cons List.map_nil List.all_cons List.all_nil List.length_cons List.length_nil List.length_map List.length_append List.nil_append List.cons_append List.set_cons_zero List.set_cons_succ List.set_nil List.drop_zero List.drop_succ_cons List.drop_nil List.take_zero List.take_succ_cons List.take_nil Option.map_some Option.map_none Option.isSome_some List.all_append List.all_map Function.comp_def decide_eq_true_eq Bool.and_eq_true beq_self_eq_true or_self and_self ite_true ite_false Nat.le_refl Bool.not_eq_true decide_not Bool.not_eq_true' decide_eq_false_iff_not Bool.not_eq_false Bool.or_eq_true if_true if_false ite_self u_roF u_cvF u_cvC u_ceT u_ceK u_appS sm_it sm_len sm_sure sm_ltA sm_lt1 sm_all1 sm_ro sm_take sm_sl sm_set sm_noT sm_fr sm_st_fr sm_set_fr sm_kd sm_st_kd sm_set_kd sm_vw sm_st_vw sm_set_vw sm_sq sm_st_sq sm_set_sq sm_tm sm_st_tm sm_set_tm zsm_len zsm_sure zsm_lt1 zsm_sl zsm_ro zsm_setz zsm_set zsm_setr zsm_take sms_ltA sms_len ce_it ce_len ce_sure ce_ltA ce_lt1 ce_all1 ce_ro ce_take ce_sl ce_set ce_noT ce_sq ce_st_sq ce_set_sq ce_vw ce_st_vw ce_set_vw ce_tm ce_st_tm ce_set_tm ce_body ce_st_body ce_set_body ce_vs ce_st_vs ce_set_vs zce_len zce_sure zce_lt1 zce_sl zce_ro zce_setz zce_set zce_setr zce_take ces_ltA ces_len cg_it cg_len cg_sure cg_ltA cg_lt1 cg_all1 cg_ro cg_take cg_sl cg_set cg_noT cg_fr cg_st_fr cg_set_fr cg_vw cg_st_vw cg_set_vw cg_st cg_st_st cg_set_st cg_rt cg_st_rt cg_set_rt cg_pf cg_st_pf cg_set_pf cg_cs cg_st_cs cg_set_cs zcg_len zcg_sure zcg_lt1 zcg_sl zcg_ro zcg_setz zcg_set zcg_setr zcg_take cgs_ltA cgs_len ms_it ms_len ms_sure ms_ltA ms_lt1 ms_all1 ms_ro ms_take ms_sl ms_set ms_noT ms_kd ms_st_kd ms_set_kd ms_fr ms_st_fr ms_set_fr ms_vw ms_st_vw ms_set_vw ms_sq ms_st_sq ms_set_sq ms_tm ms_st_tm ms_set_tm ms_body ms_st_body ms_set_body ms_vs ms_st_vs ms_set_vs ms_chs ms_st_chs ms_set_chs zms_len zms_sure zms_lt1 zms_sl zms_ro zms_setz zms_set zms_setr zms_take mss_ltA mss_len co_it co_len co_sure co_ltA co_lt1 co_all1 co_ro co_take co_sl co_set co_noT co_sq co_st_sq co_set_sq co_tm co_st_tm co_set_tm co_body co_st_body co_set_body co_nl co_st_nl co_set_nl zco_len zco_sure zco_lt1 zco_sl zco_ro zco_setz zco_set zco_setr zco_take cos_ltA cos_len sd_it sd_len sd_sure sd_ltA sd_lt1 sd_all1 sd_ro sd_take sd_sl sd_set sd_noT sd_wh sd_st_wh sd_set_wh sd_fr sd_st_fr sd_set_fr sd_kd sd_st_kd sd_set_kd sd_vw sd_st_vw sd_set_vw sd_sq sd_st_sq sd_set_sq sd_tm sd_st_tm sd_set_tm sds_ltA sds_len natInt u_nthM u_bz u_bi1 u_bi2 u_bi3 u_bi4 u_bi5 u_bi6 u_bi7 s_B0 s_Bk s_Bs0 s_Bsk s_takeY s_take s_takeK sc_len smO_lt w_0 w_Y0 w_B0 w_Bk w_Bs0 w_Bsk w_take w_takeY w_takeK sw_len wo_cells ltO_o ltO_r u_eqE u_eqSm Nat.le_add_right List.append_assoc
attribute [local go_sem_proc] Nat.reduceAdd Nat.reduceSub Nat.reduceMul Nat.reduceLeDiff Nat.reduceLT Int.reduceEq Int.reduceNe Int.reduceLT Int.reduceLE Int.reduceAdd Int.reduceSub Int.reduceMul Int.reduceNeg Int.reduceToNat reduceCtorEq Nat.reduceEqDiff Nat.reduceBEq Nat.reduceGT
attribute [local go_sem_proc ↓] reduceIte
def badL (l : List Int) : Bool := !l.all (inN 7)
theorem badL_iff {l : List Int} : badL l = true ↔ ¬ ∀ p ∈ l,inN 7 p = true := by
 unfold badL
 rw [← List.all_eq_true]
 cases l.all (inN 7) <;> simp
theorem badL_take {l : List Int} {k : Nat} (hk : k < l.length) : badL (l.take (k + 1)) = (badL (l.take k) || !inN 7 l[k]) := by
 unfold badL
 rw [List.take_succ_eq_append_getElem hk,List.all_append]
 simp
theorem bad_s (m : Nat) (tx : List (List UInt8)) (bad : List Int) (sd : List Sd) (hm : 1000001 < m) (hbl : bad.length ≤ 9223372036854775807) :
  plenumlaw32_bad m (.agg (scC tx bad sd)) = some (bA (badL (bad.take 10)),[]) := by
 rw [plenumlaw32_bad_eq]
 have hb : ∀ {K : AV → List AObj → RO},boxE ty_plenumlaw32_Scene [] (.agg (scC tx bad sd)) K = K (OP 0 0) [scX tx bad sd] := fun {K}=>by
  rfl
 have n0 : ∀ {K : AObj → RO},nthOE [scX tx bad sd] 0 K = K (scX tx bad sd) := fun {K}=>rfl
 rw [hb]
 refine iter_go (m := m) (ι := {k : Nat // k ≤ (bad.take 10).length ∧ badL ((bad.take 10).take k) = false}) (fun k=>⟨[scX tx bad sd],[(1,OP 0 0),(3,nA k.1)]⟩) (fun k=>(bad.take 10).length - k.1) (fun _=>some (bA (badL (bad.take 10)),[])) ?_ ⟨0,Nat.zero_le _,rfl⟩ (by dsimp only;simp;omega)
 rintro kx hkx ⟨k,hk,hq⟩ kc hkc
 dsimp only at hkc ⊢
 rw [plenumlaw32_bad_b1_eq]
 rw [List.length_take] at hk
 by_cases hc : k < (bad.take 10).length
 ·have hc' := hc
  rw [List.length_take] at hc'
  have h1 : k < bad.length := by omega
  have h1' : (k : Int) < (bad.length : Int) := by omega
  have h2 : (k : Int) < 10 := by omega
  have hw1 : IntKind.i64.wrap ((k : Int) + 1) = (k : Int) + 1 := w_i64 (by omega) (by omega)
  have he := badL_take hc
  rw [hq,Bool.false_or,List.getElem_take] at he
  have hfull : inN 7 bad[k] = false → badL (bad.take 10) = true := fun h=>by
   rw [badL_iff]
   intro hall
   have := hall _ (List.getElem_mem hc)
   rw [List.getElem_take,h] at this
   cases this
  by_cases h3 : bad[k] < 0
  ·have hin : inN 7 bad[k] = false := by unfold inN;simp;omega
   rw [hfull hin]
   simp (config := {maxSteps := 4000000,implicitDefEqProofs := false}) (disch := omega) only [go_sem,n0,sc_cells,sc_f1,h1,h1',h2,h3,hkx,plenumlaw32_bad_r2_eq,plenumlaw32_bad_r3_eq,plenumlaw32_bad_r4_eq,plenumlaw32_bad_r1_eq]
  ·have h3' : ¬ bad[k] < 0 := h3
   by_cases h4 : 6 < bad[k]
   ·have hin : inN 7 bad[k] = false := by unfold inN;simp;omega
    rw [hfull hin]
    simp (config := {maxSteps := 4000000,implicitDefEqProofs := false}) (disch := omega) only [go_sem,n0,sc_cells,sc_f1,h1,h1',h2,h3,h4,hkx,plenumlaw32_bad_r2_eq,plenumlaw32_bad_r3_eq,plenumlaw32_bad_r4_eq,plenumlaw32_bad_r1_eq]
   ·have hin : inN 7 bad[k] = true := by unfold inN;simp;omega
    have step := hkc ⟨k + 1,by rw [List.length_take];omega,by rw [he,hin];rfl⟩ (by dsimp only;omega)
    dsimp only at step
    simp (config := {maxSteps := 4000000,implicitDefEqProofs := false}) (disch := omega) only [go_sem,n0,sc_cells,sc_f1,h1,h1',h2,h3,h4,hkx,hw1,plenumlaw32_bad_r2_eq,plenumlaw32_bad_r3_eq,plenumlaw32_bad_r4_eq,plenumlaw32_bad_r5_eq,plenumlaw32_bad_r1_eq]
    exact step
 ·have hk2 : k = (bad.take 10).length := by rw [List.length_take] at hc ⊢;omega
  rw [hk2,List.take_length] at hq
  rw [hq]
  by_cases h1 : k < bad.length
  ·have h1' : (k : Int) < (bad.length : Int) := by omega
   have h2 : ¬ (k : Int) < 10 := by rw [List.length_take] at hk2;omega
   simp (config := {maxSteps := 4000000,implicitDefEqProofs := false}) (disch := omega) only [go_sem,n0,sc_cells,sc_f1,h1',h2,hkx,plenumlaw32_bad_r2_eq,plenumlaw32_bad_r1_eq]
  ·have h1' : ¬ (k : Int) < (bad.length : Int) := by omega
   simp (config := {maxSteps := 4000000,implicitDefEqProofs := false}) (disch := omega) only [go_sem,n0,sc_cells,sc_f1,h1',hkx,plenumlaw32_bad_r2_eq,plenumlaw32_bad_r1_eq]
end Go.Proofs.Ytaaogcnjfkgnoaa

namespace Go.Proofs.Ytaaogcnjfkgnoaa
open Go.RowKit
set_option maxHeartbeats 4000000
attribute [local go_sem] Nat.zero_add Nat.add_zero Nat.mul_one Int.toNat_natCast Int.natCast_zero Int.cast_ofNat_Int or_false false_or or_true true_or Nat.sub_zero Int.natCast_nonneg Int.toNat_zero Bool.true_and Bool.and_true Bool.false_and Bool.and_false Bool.true_or Bool.or_true Bool.false_or Bool.or_false Bool.not_true Bool.not_false Bool.not_not true_and and_true false_and and_false not_true_eq_false not_false_eq_true eq_self decide_true decide_false ne_eq implies_true forall_const true_implies false_implies Bool.true_eq_false Bool.false_eq_true List.map_cons List.map_nil List.all_cons List.all_nil List.length_cons List.length_nil List.length_map List.length_append List.nil_append List.cons_append List.set_cons_zero List.set_cons_succ List.set_nil List.drop_zero List.drop_succ_cons List.drop_nil List.take_zero List.take_succ_cons List.take_nil Option.map_some Option.map_none Option.isSome_some List.all_append List.all_map Function.comp_def decide_eq_true_eq Bool.and_eq_true beq_self_eq_true or_self and_self ite_true ite_false Nat.le_refl Bool.not_eq_true decide_not Bool.not_eq_true' decide_eq_false_iff_not Bool.not_eq_false Bool.or_eq_true if_true if_false ite_self u_roF u_cvF u_cvC u_ceT u_ceK u_appS sm_it sm_len sm_sure sm_ltA sm_lt1 sm_all1 sm_ro sm_take sm_sl sm_set sm_noT sm_fr sm_st_fr sm_set_fr sm_kd sm_st_kd sm_set_kd sm_vw sm_st_vw sm_set_vw sm_sq sm_st_sq sm_set_sq sm_tm sm_st_tm sm_set_tm zsm_len zsm_sure zsm_lt1 zsm_sl zsm_ro zsm_setz zsm_set zsm_setr zsm_take sms_ltA sms_len ce_it ce_len ce_sure ce_ltA ce_lt1 ce_all1 ce_ro ce_take ce_sl ce_set ce_noT ce_sq ce_st_sq ce_set_sq ce_vw ce_st_vw ce_set_vw ce_tm ce_st_tm ce_set_tm ce_body ce_st_body ce_set_body ce_vs ce_st_vs ce_set_vs zce_len zce_sure zce_lt1 zce_sl zce_ro zce_setz zce_set zce_setr zce_take ces_ltA ces_len cg_it cg_len cg_sure cg_ltA cg_lt1 cg_all1 cg_ro cg_take cg_sl cg_set cg_noT cg_fr cg_st_fr cg_set_fr cg_vw cg_st_vw cg_set_vw cg_st cg_st_st cg_set_st cg_rt cg_st_rt cg_set_rt cg_pf cg_st_pf cg_set_pf cg_cs cg_st_cs cg_set_cs zcg_len zcg_sure zcg_lt1 zcg_sl zcg_ro zcg_setz zcg_set zcg_setr zcg_take cgs_ltA cgs_len ms_it ms_len ms_sure ms_ltA ms_lt1 ms_all1 ms_ro ms_take ms_sl ms_set ms_noT ms_kd ms_st_kd ms_set_kd ms_fr ms_st_fr ms_set_fr ms_vw ms_st_vw ms_set_vw ms_sq ms_st_sq ms_set_sq ms_tm ms_st_tm ms_set_tm ms_body ms_st_body ms_set_body ms_vs ms_st_vs ms_set_vs ms_chs ms_st_chs ms_set_chs zms_len zms_sure zms_lt1 zms_sl zms_ro zms_setz zms_set zms_setr zms_take mss_ltA mss_len co_it co_len co_sure co_ltA co_lt1 co_all1 co_ro co_take co_sl co_set co_noT co_sq co_st_sq co_set_sq co_tm co_st_tm co_set_tm co_body co_st_body co_set_body co_nl co_st_nl co_set_nl zco_len zco_sure zco_lt1 zco_sl zco_ro zco_setz zco_set zco_setr zco_take cos_ltA cos_len sd_it sd_len sd_sure sd_ltA sd_lt1 sd_all1 sd_ro sd_take sd_sl sd_set sd_noT sd_wh sd_st_wh sd_set_wh sd_fr sd_st_fr sd_set_fr sd_kd sd_st_kd sd_set_kd sd_vw sd_st_vw sd_set_vw sd_sq sd_st_sq sd_set_sq sd_tm sd_st_tm sd_set_tm sds_ltA sds_len natInt u_nthM u_bz u_bi1 u_bi2 u_bi3 u_bi4 u_bi5 u_bi6 u_bi7 s_B0 s_Bk s_Bs0 s_Bsk s_takeY s_take s_takeK sc_len smO_lt w_0 w_Y0 w_B0 w_Bk w_Bs0 w_Bsk w_take w_takeY w_takeK sw_len wo_cells ltO_o ltO_r u_eqE u_eqSm Nat.le_add_right List.append_assoc
attribute [local go_sem_proc] Nat.reduceAdd Nat.reduceSub Nat.reduceMul Nat.reduceLeDiff Nat.reduceLT Int.reduceEq Int.reduceNe Int.reduceLT Int.reduceLE Int.reduceAdd Int.reduceSub Int.reduceMul Int.reduceNeg Int.reduceToNat reduceCtorEq Nat.reduceEqDiff Nat.reduceBEq Nat.reduceGT
attribute [local go_sem_proc ↓] reduceIte
def cA : Ch := ⟨0,1,0,0,[],[]⟩
def sA1 : Sm := ⟨0,6,1,0,1⟩
def σA (T : List (List UInt8)) (R : List Sm) : Sg := ⟨T,4,bdL [],R⟩
theorem aw_lt {n : Nat} : ltO n ⟨1,ty_api_Change,0,[nA 0,nA 1,nA 0,nA 0,V (.slice none 0 0),V (.slice none 0 0)]⟩ = true := _root_.id rfl
theorem cA_ok : cgB cA = true := by decide
theorem awe1 : chF [] [] cA 4 = (false,[encCg cA]) := by
 unfold chF
 have e : csF [] 4 cA.st cA.vw [] cA.st cA.cs = (true,[]) := rfl
 rw [if_pos (by decide),e,if_pos rfl]
 rfl
theorem awe_of : oqT [encCg cA] (encCg cA) = [encCg cA] := by unfold oqT;rw [if_pos (List.mem_singleton.2 rfl)]
theorem awe_oe : ofE [encCg cA] (encCg cA) = 0 := by unfold ofE;rw [if_pos (List.mem_singleton.2 rfl)]
theorem awe_on : ofN [encCg cA] (encCg cA) = 1 := by
 unfold ofN posL
 rw [if_pos (List.mem_singleton.2 rfl),if_pos (List.mem_singleton.2 rfl)]
 simp
theorem awe_cs : csSm [encCg cA] cA = sA1 := by
 unfold csSm
 rw [awe_on]
 rfl
theorem awe2 : csS [encCg cA] cA = (sA1,0,[encCg cA]) := by
 unfold csS
 rw [if_pos cA_ok,awe_oe,if_pos rfl,awe_of,awe_cs]
theorem awe3 {T : List (List UInt8)} : sayR (σA T []) 0 sA1 = [sA1] := by
 unfold sayR
 rw [if_pos ⟨rfl,by simp [σA],by simp [σA]⟩]
 rfl
theorem awe4 : chF [encCg cA] [sA1] cA 4 = (true,[encCg cA]) := by
 unfold chF
 have e : csF [sA1] 4 cA.st cA.vw [encCg cA] cA.st cA.cs = (true,[encCg cA]) := rfl
 rw [if_pos (by decide),e,if_pos rfl]
 show (decide (ofE [encCg cA] (encCg cA) = 0) && decide (csSm [encCg cA] cA ∈ [sA1]),oqT [encCg cA] (encCg cA)) = _
 rw [awe_oe,awe_cs,awe_of]
 simp
theorem σA_ok {T : List (List UInt8)} {R : List Sm} (hT : T = [] ∨ T = [encCg cA]) (hR : R = [] ∨ R = [sA1]) : SgOk (σA T R) := by
 have he : (encCg cA).length ≤ 9223372036854775807 := Nat.le_trans (encCg_len cA_ok) (by decide)
 refine ⟨?_,?_,?_,by show (1 : Int) ≤ 4;omega,by show (4 : Int) ≤ 64;omega,bdL_64,?_,?_,?_,?_⟩
 ·rcases hT with rfl|rfl <;> simp [σA]
 ·rcases hT with rfl|rfl <;> simp [σA]
 ·intro s hs;rcases hT with rfl|rfl <;> simp [σA] at hs;subst hs;exact he
 ·rcases hR with rfl|rfl <;> simp [σA]
 ·rcases hR with rfl|rfl <;> simp [σA]
 ·intro s hs;rcases hR with rfl|rfl <;> simp [σA] at hs;subst hs;exact SmI_of (by decide)
 ·intro s hs;rcases hR with rfl|rfl <;> simp [σA] at hs;subst hs;exact ⟨by decide,by show (0 : Int) < 4;omega⟩
theorem awake_s (m : Nat) (hm : 1000001 < m) : plenumlaw32_awake m = some (bA true,[]) := by
 have ht : term_New m [] = some (OP 1 0,[tmO [],ttO 0 [],trO []]) := tnew_s m [] fun n _=>rfl
 have hr : ring_New m (nA 4) (SL []) [tmO [],ttO 0 [],trO []] = some (TU [OP 4 0,nA 0],sc [] [] (σA [] [])) := gnew_ok m [] [] 4 [] (by omega) (by omega) (by simp;omega) (by simp) (fun n _=>rfl) (fun p hp=>by simp at hp)
 have hG1 : GB [] [⟨1,ty_api_Change,0,[nA 0,nA 1,nA 0,nA 0,V (.slice none 0 0),V (.slice none 0 0)]⟩] := fun n hn=>⟨rfl,by simp [aw_lt]⟩
 have hG2 : GB [] [⟨1,ty_api_Change,0,[nA 0,nA 1,nA 0,nA 0,V (.slice none 0 0),V (.slice none 0 0)]⟩,⟨1,ty_api_Stmt,0,smC sA1⟩] := fun n hn=>⟨rfl,by simp [aw_lt,smO_lt]⟩
 have h1 : view_Change m (OP 4 0) (OP 1 0) (.agg [nA 0,nA 1,nA 0,nA 0,SL [],SL []]) (nA 4) (sc [] [] (σA [] []) ++ [⟨1,ty_api_Change,0,[nA 0,nA 1,nA 0,nA 0,V (.slice none 0 0),V (.slice none 0 0)]⟩]) = some (bA false,sc [] [] (σA [encCg cA] []) ++ [⟨1,ty_api_Change,0,[nA 0,nA 1,nA 0,nA 0,V (.slice none 0 0),V (.slice none 0 0)]⟩]) := by
  have := vchange_s m [] [⟨1,ty_api_Change,0,[nA 0,nA 1,nA 0,nA 0,V (.slice none 0 0),V (.slice none 0 0)]⟩] (σA [] []) cA 4 hG1 (σA_ok (.inl rfl) (.inl rfl)) hm
  rw [show (σA [] []).T = [] from rfl,show (σA [] []).R = [] from rfl,awe1] at this
  exact this
 have h2 : view_ChangeStmt m (OP 1 0) (.agg [nA 0,nA 1,nA 0,nA 0,SL [],SL []]) (sc [] [] (σA [encCg cA] []) ++ [⟨1,ty_api_Change,0,[nA 0,nA 1,nA 0,nA 0,V (.slice none 0 0),V (.slice none 0 0)]⟩]) = some (TU [.agg (smC sA1),nA 0],sc [] [] (σA [encCg cA] []) ++ [⟨1,ty_api_Change,0,[nA 0,nA 1,nA 0,nA 0,V (.slice none 0 0),V (.slice none 0 0)]⟩]) := by
  have := changeStmt_s m [] [⟨1,ty_api_Change,0,[nA 0,nA 1,nA 0,nA 0,V (.slice none 0 0),V (.slice none 0 0)]⟩] (σA [encCg cA] []) cA hG1 (σA_ok (.inr rfl) (.inl rfl)) hm
  rw [show (σA [encCg cA] []).T = [encCg cA] from rfl,awe2] at this
  exact this
 have h3 : ∃ x,ring_Ring_Say m (OP 4 0) (nA 0) (.agg (smC sA1)) (sc [] [] (σA [encCg cA] []) ++ [⟨1,ty_api_Change,0,[nA 0,nA 1,nA 0,nA 0,V (.slice none 0 0),V (.slice none 0 0)]⟩,⟨1,ty_api_Stmt,0,smC sA1⟩]) = some (nA x,sc [] [] (σA [encCg cA] [sA1]) ++ [⟨1,ty_api_Change,0,[nA 0,nA 1,nA 0,nA 0,V (.slice none 0 0),V (.slice none 0 0)]⟩,⟨1,ty_api_Stmt,0,smC sA1⟩]) := by
  have := gsay_s m [] [⟨1,ty_api_Change,0,[nA 0,nA 1,nA 0,nA 0,V (.slice none 0 0),V (.slice none 0 0)]⟩,⟨1,ty_api_Stmt,0,smC sA1⟩] (σA [encCg cA] []) 0 sA1 hG2 (σA_ok (.inr rfl) (.inl rfl)) (SmI_of (by decide))
  rw [awe3] at this
  exact ⟨_,this⟩
 obtain ⟨x3,h3⟩ := h3
 have h4 : view_Change m (OP 4 0) (OP 1 0) (.agg [nA 0,nA 1,nA 0,nA 0,SL [],SL []]) (nA 4) (sc [] [] (σA [encCg cA] [sA1]) ++ [⟨1,ty_api_Change,0,[nA 0,nA 1,nA 0,nA 0,V (.slice none 0 0),V (.slice none 0 0)]⟩,⟨1,ty_api_Stmt,0,smC sA1⟩]) = some (bA true,sc [] [] (σA [encCg cA] [sA1]) ++ [⟨1,ty_api_Change,0,[nA 0,nA 1,nA 0,nA 0,V (.slice none 0 0),V (.slice none 0 0)]⟩,⟨1,ty_api_Stmt,0,smC sA1⟩]) := by
  have := vchange_s m [] [⟨1,ty_api_Change,0,[nA 0,nA 1,nA 0,nA 0,V (.slice none 0 0),V (.slice none 0 0)]⟩,⟨1,ty_api_Stmt,0,smC sA1⟩] (σA [encCg cA] [sA1]) cA 4 hG2 (σA_ok (.inr rfl) (.inr rfl)) hm
  rw [show (σA [encCg cA] [sA1]).T = [encCg cA] from rfl,show (σA [encCg cA] [sA1]).R = [sA1] from rfl,awe4] at this
  exact this
 have hsc : setCells zc_api_Change 0 [nA 0,nA 1,nA 0,nA 0,V (.slice none 0 0),V (.slice none 0 0)] = [nA 0,nA 1,nA 0,nA 0,V (.slice none 0 0),V (.slice none 0 0)] := rfl
 have hss : setCells zc_api_Stmt 0 (smC sA1) = smC sA1 := rfl
 have hlt := fun {T R}=>sc_lt (A := []) (B := []) (fun n hn=>⟨rfl,rfl⟩) (σ := σA T R) (n := nAB [] [] + 2) (by omega)
 have hk : sA1.kd = 6 := rfl
 have h5 : view_NewView m (OP 4 0) (OP 1 0) (.agg [nA 7,nA 0,nA 1,nA 0,nA 0,V (.string ⟨#[]⟩),SL [],SL []]) (nA 4) (sc [] [] (σA [encCg cA] [sA1]) ++ [⟨1,ty_api_Change,0,[nA 0,nA 1,nA 0,nA 0,V (.slice none 0 0),V (.slice none 0 0)]⟩,⟨1,ty_api_Stmt,0,smC sA1⟩]) = some (TU [SL [],nA 21],sc [] [] (σA [encCg cA] [sA1]) ++ [⟨1,ty_api_Change,0,[nA 0,nA 1,nA 0,nA 0,V (.slice none 0 0),V (.slice none 0 0)]⟩,⟨1,ty_api_Stmt,0,smC sA1⟩]) := by
  have hf := faults_s m 4
  have hp := primary_s m 1 4 (by omega) (by omega)
  rw [show okN 4 = true from rfl,if_pos rfl] at hf
  rw [show (if (4 : Int) < 1 then 0 else 1 % 4) = (1 : Int) from rfl] at hp
  rw [view_NewView_eq]
  simp (config := {maxSteps := 4000000,implicitDefEqProofs := false}) (disch := omega) only [go_sem,hf,hp,hlt,aw_lt,view_NewView_r1_eq]
 have bC : ∀ {K : AV → RO},buildE (some pl_api_Change) (some zc_api_Change) [(1,nA 1)] K = K (.agg [nA 0,nA 1,nA 0,nA 0,V (.slice none 0 0),V (.slice none 0 0)]) := fun {K}=>rfl
 have bM : ∀ {K : AV → RO},buildE (some pl_api_Msg) (some zc_api_Msg) [(0,nA 7),(2,nA 1)] K = K (.agg [nA 7,nA 0,nA 1,nA 0,nA 0,V (.string ⟨#[]⟩),V (.slice none 0 0),V (.slice none 0 0)]) := fun {K}=>rfl
 rw [plenumlaw32_awake_eq,ht,u_keep]
 simp (config := {maxSteps := 4000000,implicitDefEqProofs := false}) (disch := omega) only [go_sem,hsc,hss,zsmO,hr,h1,h2,h3,h4,h5,bC,bM,hk,u_pe0,hlt,plenumlaw32_awake_r1_eq,plenumlaw32_awake_r2_eq]
end Go.Proofs.Ytaaogcnjfkgnoaa

namespace Go.Proofs.Ytaaogcnjfkgnoaa
open Go.RowKit
set_option maxHeartbeats 4000000
attribute [local go_sem] Nat.zero_add Nat.add_zero Nat.mul_one Int.toNat_natCast Int.natCast_zero Int.cast_ofNat_Int or_false false_or or_true true_or Nat.sub_zero Int.natCast_nonneg Int.toNat_zero Bool.true_and Bool.and_true Bool.false_and Bool.and_false Bool.true_or Bool.or_true Bool.false_or Bool.or_false Bool.not_true Bool.not_false Bool.not_not true_and and_true false_and and_false not_true_eq_false not_false_eq_true eq_self decide_true decide_false ne_eq implies_true forall_const true_implies false_implies Bool.true_eq_false Bool.false_eq_true List.map_cons List.map_nil List.all_cons List.all_nil List.length_cons List.length_nil List.length_map List.length_append List.nil_append List.cons_append List.set_cons_zero List.set_cons_succ List.set_nil List.drop_zero List.drop_succ_cons List.drop_nil List.take_zero List.take_succ_cons List.take_nil Option.map_some Option.map_none Option.isSome_some List.all_append List.all_map Function.comp_def decide_eq_true_eq Bool.and_eq_true beq_self_eq_true or_self and_self ite_true ite_false Nat.le_refl Bool.not_eq_true decide_not Bool.not_eq_true' decide_eq_false_iff_not Bool.not_eq_false Bool.or_eq_true if_true if_false ite_self u_roF u_cvF u_cvC u_ceT u_ceK u_appS sm_it sm_len sm_sure sm_ltA sm_lt1 sm_all1 sm_ro sm_take sm_sl sm_set sm_noT sm_fr sm_st_fr sm_set_fr sm_kd sm_st_kd sm_set_kd sm_vw sm_st_vw sm_set_vw sm_sq sm_st_sq sm_set_sq sm_tm sm_st_tm sm_set_tm zsm_len zsm_sure zsm_lt1 zsm_sl zsm_ro zsm_setz zsm_set zsm_setr zsm_take sms_ltA sms_len ce_it ce_len ce_sure ce_ltA ce_lt1 ce_all1 ce_ro ce_take ce_sl ce_set ce_noT ce_sq ce_st_sq ce_set_sq ce_vw ce_st_vw ce_set_vw ce_tm ce_st_tm ce_set_tm ce_body ce_st_body ce_set_body ce_vs ce_st_vs ce_set_vs zce_len zce_sure zce_lt1 zce_sl zce_ro zce_setz zce_set zce_setr zce_take ces_ltA ces_len cg_it cg_len cg_sure cg_ltA cg_lt1 cg_all1 cg_ro cg_take cg_sl cg_set cg_noT cg_fr cg_st_fr cg_set_fr cg_vw cg_st_vw cg_set_vw cg_st cg_st_st cg_set_st cg_rt cg_st_rt cg_set_rt cg_pf cg_st_pf cg_set_pf cg_cs cg_st_cs cg_set_cs zcg_len zcg_sure zcg_lt1 zcg_sl zcg_ro zcg_setz zcg_set zcg_setr zcg_take cgs_ltA cgs_len ms_it ms_len ms_sure ms_ltA ms_lt1 ms_all1 ms_ro ms_take ms_sl ms_set ms_noT ms_kd ms_st_kd ms_set_kd ms_fr ms_st_fr ms_set_fr ms_vw ms_st_vw ms_set_vw ms_sq ms_st_sq ms_set_sq ms_tm ms_st_tm ms_set_tm ms_body ms_st_body ms_set_body ms_vs ms_st_vs ms_set_vs ms_chs ms_st_chs ms_set_chs zms_len zms_sure zms_lt1 zms_sl zms_ro zms_setz zms_set zms_setr zms_take mss_ltA mss_len co_it co_len co_sure co_ltA co_lt1 co_all1 co_ro co_take co_sl co_set co_noT co_sq co_st_sq co_set_sq co_tm co_st_tm co_set_tm co_body co_st_body co_set_body co_nl co_st_nl co_set_nl zco_len zco_sure zco_lt1 zco_sl zco_ro zco_setz zco_set zco_setr zco_take cos_ltA cos_len sd_it sd_len sd_sure sd_ltA sd_lt1 sd_all1 sd_ro sd_take sd_sl sd_set sd_noT sd_wh sd_st_wh sd_set_wh sd_fr sd_st_fr sd_set_fr sd_kd sd_st_kd sd_set_kd sd_vw sd_st_vw sd_set_vw sd_sq sd_st_sq sd_set_sq sd_tm sd_st_tm sd_set_tm sds_ltA sds_len natInt u_nthM u_bz u_bi1 u_bi2 u_bi3 u_bi4 u_bi5 u_bi6 u_bi7 s_B0 s_Bk s_Bs0 s_Bsk s_takeY s_take s_takeK sc_len smO_lt w_0 w_Y0 w_B0 w_Bk w_Bs0 w_Bsk w_take w_takeY w_takeK sw_len wo_cells ltO_o ltO_r u_eqE u_eqSm Nat.le_add_right List.append_assoc
attribute [local go_sem_proc] Nat.reduceAdd Nat.reduceSub Nat.reduceMul Nat.reduceLeDiff Nat.reduceLT Int.reduceEq Int.reduceNe Int.reduceLT Int.reduceLE Int.reduceAdd Int.reduceSub Int.reduceMul Int.reduceNeg Int.reduceToNat reduceCtorEq Nat.reduceEqDiff Nat.reduceBEq Nat.reduceGT
attribute [local go_sem_proc ↓] reduceIte
section
variable {R : Type} {a b x : AObj} {σ : Sg} {ω : Wg} {K : AObj → Option R} {Y : List AObj}
theorem q_0 : nthOE (hS [a,b,x] σ ω) 0 K = K a := _root_.id rfl
theorem q_1 : nthOE (hS [a,b,x] σ ω) 1 K = K b := _root_.id rfl
theorem q_9 : nthOE (hS [a,b,x] σ ω) 9 K = K (woO 9 ω) := _root_.id rfl
theorem q_Y0 : nthOE (hS [a,b,x] σ ω ++ Y) 0 K = K a := _root_.id rfl
theorem q_Y1 : nthOE (hS [a,b,x] σ ω ++ Y) 1 K = K b := _root_.id rfl
theorem q_Y9 : nthOE (hS [a,b,x] σ ω ++ Y) 9 K = K (woO 9 ω) := _root_.id rfl
theorem q_B0 : nthOE (hS [a,b,x] σ ω ++ Y) 11 K = nthOE Y 0 K := _root_.id rfl
theorem q_B1 : nthOE (hS [a,b,x] σ ω ++ Y) 12 K = nthOE Y 1 K := _root_.id rfl
theorem q_Bs0 {o : AObj} : (hS [a,b,x] σ ω ++ Y).set 11 o = hS [a,b,x] σ ω ++ Y.set 0 o := _root_.id rfl
theorem q_Bs1 {o : AObj} : (hS [a,b,x] σ ω ++ Y).set 12 o = hS [a,b,x] σ ω ++ Y.set 1 o := _root_.id rfl
theorem q_len : (hS [a,b,x] σ ω).length = 11 := _root_.id rfl
end
section
variable (m : Nat) (a b x : AObj) (σ : Sg) (ω : Wg) (Y : List AObj) (hm : 1000001 < m) (hA : GA [a,b,x]) (hY : ∀ n,Y.all (ltO n) = true) (hσ : SgOk σ) (hω : WgOk ω)
theorem hY_sc : hS [a,b,x] σ ω ++ Y = sc [a,b,x] ([woO 9 ω,trO ω.T] ++ Y) σ := by rw [sc_app];rfl
include hm hA hY hσ hω
theorem change3 (c : Ch) (n : Int) : view_Change m (OP 7 0) (OP 4 0) (cgE c) (nA n) (hS [a,b,x] σ ω ++ Y) = some (bA (chF σ.T σ.R c n).1,hS [a,b,x] { σ with T := (chF σ.T σ.R c n).2 } ω ++ Y) := by
 rw [hY_sc,hY_sc]
 exact vchange_s m [a,b,x] _ σ c n ((hA.gb hω).app hY) hσ hm
theorem stmt3 (c : Ch) : view_ChangeStmt m (OP 4 0) (cgE c) (hS [a,b,x] σ ω ++ Y) = some (TU [smE (csS σ.T c).1,nA (csS σ.T c).2.1],hS [a,b,x] { σ with T := (csS σ.T c).2.2 } ω ++ Y) := by
 rw [hY_sc,hY_sc]
 exact changeStmt_s m [a,b,x] _ σ c ((hA.gb hω).app hY) hσ hm
end
structure ScI (tx : List (List UInt8)) (bad : List Int) (sd : List Sd) : Prop where
 bl : bad.length ≤ 9223372036854775807
 tl : tx.length ≤ 9223372036854775807
 sl : sd.length ≤ 9223372036854775807
 t : ∀ x ∈ tx,x.length ≤ 9223372036854775807
 s : ∀ x ∈ sd,SmI (sdS x)
theorem scC_len {tx : List (List UInt8)} {bad : List Int} {sd : List Sd} : (scC tx bad sd).length = 3 := _root_.id rfl
theorem scC_take {tx : List (List UInt8)} {bad : List Int} {sd : List Sd} : (scC tx bad sd).take 3 = scC tx bad sd := _root_.id rfl
theorem scC_ro {H : List AObj} {tx : List (List UInt8)} {bad : List Int} {sd : List Sd} : (scC tx bad sd).map (ro1 H) = scC tx bad sd := _root_.id rfl
theorem scC_lt1 {n : Nat} {tx : List (List UInt8)} {bad : List Int} {sd : List Sd} : (scC tx bad sd).all (lt1 n) = true := _root_.id rfl
theorem scB {tx : List (List UInt8)} {bad : List Int} {sd : List Sd} {K : AV → List AObj → RO} : boxE ty_plenumlaw32_Scene [] (.agg (scC tx bad sd)) K = K (OP 0 0) [scX tx bad sd] := _root_.id rfl
theorem r_0 {tx : List (List UInt8)} {bad : List Int} {sd : List Sd} {b : AObj} {K : AObj → RO} : nthOE [scX tx bad sd,b] 0 K = K (scX tx bad sd) := _root_.id rfl
theorem r_1 {a b : AObj} {K : AObj → RO} : nthOE [a,b] 1 K = K b := _root_.id rfl
theorem GA_2 {b : AObj} {tx : List (List UInt8)} {bad : List Int} {sd : List Sd} (hb : ∀ n,ltO n b = true) : GA [scX tx bad sd,b] := fun n hn=>by simp [scX_lt,hb]
theorem GA_3 {b : AObj} {tx : List (List UInt8)} {bad bad' : List Int} {sd : List Sd} (hb : ∀ n,ltO n b = true) : GA [scX tx bad sd,b,scX tx bad' sd] := fun n hn=>by simp [scX_lt,hb]
theorem set2 (m : Nat) (b : AObj) (tx : List (List UInt8)) (bad : List Int) (sd : List Sd) (hm : 1000001 < m) (hb : ∀ n,ltO n b = true) (h : ScI tx bad sd) (ho : badL (bad.take 10) = false) :
  plenumlaw32_set m (.agg (scC tx bad sd)) [scX tx bad sd,b] = some (TU [OP 4 0,OP 7 0,OP 9 0,bA true],hS [scX tx bad sd,b,scX tx (bad.take 10) sd] (scn (bad.take 10) tx sd).1 (scn (bad.take 10) tx sd).2) := by
 refine set_s m [scX tx bad sd,b] tx bad sd hm (GA_2 hb) h.bl h.tl h.sl h.t h.s ?_
 refine Classical.byContradiction fun q=>?_
 rw [badL_iff.2 q] at ho
 cases ho
theorem set2_no (m : Nat) (b : AObj) (tx : List (List UInt8)) (bad : List Int) (sd : List Sd) (hm : 1000001 < m) (hb : ∀ n,ltO n b = true) (h : ScI tx bad sd) (ho : badL (bad.take 10) = true) :
 ∃ bd,plenumlaw32_set m (.agg (scC tx bad sd)) [scX tx bad sd,b] = some (TU [V (.pointer none),V (.pointer none),V (.pointer none),bA false],hS [scX tx bad sd,b,scX tx (bad.take 10) sd] (⟨[],7,bd,[]⟩ : Sg) (scn0 (bad.take 10)).2) := set_no m [scX tx bad sd,b] tx bad sd hm (GA_2 hb) h.bl h.tl h.sl h.t h.s (badL_iff.1 ho)
theorem set2_ok {tx : List (List UInt8)} {bad : List Int} {sd : List Sd} (h : ScI tx bad sd) (ho : badL (bad.take 10) = false) : Scn (scn (bad.take 10) tx sd).1 (scn (bad.take 10) tx sd).2 := by
 refine scn_ok ?_ (by simp;omega) h.t h.s
 refine Classical.byContradiction fun q=>?_
 rw [badL_iff.2 q] at ho
 cases ho
end Go.Proofs.Ytaaogcnjfkgnoaa

