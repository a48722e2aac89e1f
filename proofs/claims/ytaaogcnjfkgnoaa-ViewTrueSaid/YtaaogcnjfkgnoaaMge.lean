/-
  Texts laid together, part 5 of 7: laws of a walk over data, contracts of functions, each whole by itself.
-/
import Derived.Test.YtaaogcnjfkgnoaaMgd
import Derived.WalkKit
import Derived.KernelRfl
import Derived.Test.YtaaogcnjfkgnoaaMgc
import Derived.Laws.Bits64
import Derived.Laws.Bits64b
import Derived.Laws.Bits128
import Derived.Maps.Views
import Derived.DeepKeys4
set_option maxRecDepth 100000
set_option linter.unusedVariables false
set_option linter.unusedSimpArgs false
namespace Go.Proofs.Ytaaogcnjfkgnoaa
open Go.RowKit
theorem bc_ltA {n : Nat} {l : List UInt8} : (bC l).all (ltA n) = true := List.all_eq_true.2 fun d hd=>by
 obtain ⟨b,_,rfl⟩ := List.mem_map.1 hd;rfl
theorem bc_one {l : List UInt8} : ((bC l).all fun d=>decide ((cellsOf d).length = 1)) = true := List.all_eq_true.2 fun d hd=>by
 obtain ⟨b,_,rfl⟩ := List.mem_map.1 hd;rfl
theorem nthOL {R : Type} {o : AObj} {Y : List AObj} {K : AObj → Option R} : nthOE (Y ++ [o]) Y.length K = K o := by simp [nthOE]
theorem ltO_o {n e z : Nat} {c : List AV} : ltO n ⟨1,e,z,c⟩ = c.all (ltA n) := _root_.id rfl
theorem ltO_r {n e z : Nat} {c : List AV} : ltO n ⟨2,e,z,c⟩ = c.all (ltA n) := _root_.id rfl
theorem takeL {Y Z : List AObj} : (Y ++ Z).take Y.length = Y := List.take_left
theorem put_i (m n : Nat) (v : Int) (h0 : 0 ≤ v) (h1 : v < 18446744073709551616) : varint_Put_t m [V (.int .u64 v)] n = some (OW n (put v.toNat).length,[⟨2,ty_uint8,1,bC (put v.toNat)⟩]) := by
 have := varint_Put_e m n v.toNat (by omega)
 rw [Int.toNat_of_nonneg h0] at this
 exact this
def putsL (l : List Int) : List UInt8 := l.flatMap fun v=>put v.toNat
theorem putsL_cons (v : Int) (l : List Int) : putsL (v :: l) = put v.toNat ++ putsL l := rfl
theorem putsL_nil : putsL [] = [] := rfl
theorem putsL_append (a b : List Int) : putsL (a ++ b) = putsL a ++ putsL b := by simp [putsL]
def inI (l : List Int) : Prop := ∀ v ∈ l,0 ≤ v ∧ v < 9223372036854775808
theorem putsL_len : ∀ {l : List Int},inI l → (putsL l).length ≤ 10 * l.length
 |[],_=>Nat.le_refl _
 |v :: r,h=>by
  have h1 := putsL_len (l := r) (fun x hx=>h x (List.mem_cons_of_mem _ hx))
  have h2 := h v (List.mem_cons_self ..)
  have h3 := put_len v.toNat (by omega)
  rw [putsL_cons,List.length_append,List.length_cons];omega
theorem inI.take {l : List Int} (h : inI l) (k : Nat) : inI (l.take k) := fun v hv=>h v (List.mem_of_mem_take hv)
attribute [local go_sem] Nat.zero_add Nat.add_zero Nat.mul_one Int.toNat_natCast Int.natCast_zero Int.cast_ofNat_Int or_false false_or or_true true_or Nat.sub_zero Int.natCast_nonneg Int.toNat_zero Bool.true_and Bool.and_true Bool.false_and Bool.and_false Bool.true_or Bool.or_true Bool.false_or Bool.or_false Bool.not_true Bool.not_false Bool.not_not true_and and_true false_and and_false not_true_eq_false not_false_eq_true eq_self decide_true decide_false ne_eq implies_true forall_const true_implies false_implies Bool.true_eq_false Bool.false_eq_true List.map_cons List.map_nil List.all_cons List.all_nil List.length_cons List.length_nil List.length_map List.length_append List.nil_append List.cons_append List.set_cons_zero List.set_cons_succ List.set_nil List.drop_zero List.drop_succ_cons List.drop_nil List.take_zero List.take_succ_cons List.take_nil Option.map_some Option.map_none Option.isSome_some List.all_append List.all_map Function.comp_def decide_eq_true_eq Bool.and_eq_true beq_self_eq_true or_self and_self ite_true ite_false Nat.le_refl Bool.not_eq_true decide_not Bool.not_eq_true' decide_eq_false_iff_not Bool.not_eq_false Bool.or_eq_true if_true if_false ite_self u_roF u_cvF u_cvC u_ceT u_ceK u_appS sm_it sm_len sm_sure sm_ltA sm_lt1 sm_all1 sm_ro sm_take sm_sl sm_set sm_noT sm_fr sm_st_fr sm_set_fr sm_kd sm_st_kd sm_set_kd sm_vw sm_st_vw sm_set_vw sm_sq sm_st_sq sm_set_sq sm_tm sm_st_tm sm_set_tm zsm_len zsm_sure zsm_lt1 zsm_sl zsm_ro zsm_setz zsm_set zsm_setr zsm_take sms_ltA sms_len ce_it ce_len ce_sure ce_ltA ce_lt1 ce_all1 ce_ro ce_take ce_sl ce_set ce_noT ce_sq ce_st_sq ce_set_sq ce_vw ce_st_vw ce_set_vw ce_tm ce_st_tm ce_set_tm ce_body ce_st_body ce_set_body ce_vs ce_st_vs ce_set_vs zce_len zce_sure zce_lt1 zce_sl zce_ro zce_setz zce_set zce_setr zce_take ces_ltA ces_len cg_it cg_len cg_sure cg_ltA cg_lt1 cg_all1 cg_ro cg_take cg_sl cg_set cg_noT cg_fr cg_st_fr cg_set_fr cg_vw cg_st_vw cg_set_vw cg_st cg_st_st cg_set_st cg_rt cg_st_rt cg_set_rt cg_pf cg_st_pf cg_set_pf cg_cs cg_st_cs cg_set_cs zcg_len zcg_sure zcg_lt1 zcg_sl zcg_ro zcg_setz zcg_set zcg_setr zcg_take cgs_ltA cgs_len ms_it ms_len ms_sure ms_ltA ms_lt1 ms_all1 ms_ro ms_take ms_sl ms_set ms_noT ms_kd ms_st_kd ms_set_kd ms_fr ms_st_fr ms_set_fr ms_vw ms_st_vw ms_set_vw ms_sq ms_st_sq ms_set_sq ms_tm ms_st_tm ms_set_tm ms_body ms_st_body ms_set_body ms_vs ms_st_vs ms_set_vs ms_chs ms_st_chs ms_set_chs zms_len zms_sure zms_lt1 zms_sl zms_ro zms_setz zms_set zms_setr zms_take mss_ltA mss_len co_it co_len co_sure co_ltA co_lt1 co_all1 co_ro co_take co_sl co_set co_noT co_sq co_st_sq co_set_sq co_tm co_st_tm co_set_tm co_body co_st_body co_set_body co_nl co_st_nl co_set_nl zco_len zco_sure zco_lt1 zco_sl zco_ro zco_setz zco_set zco_setr zco_take cos_ltA cos_len sd_it sd_len sd_sure sd_ltA sd_lt1 sd_all1 sd_ro sd_take sd_sl sd_set sd_noT sd_wh sd_st_wh sd_set_wh sd_fr sd_st_fr sd_set_fr sd_kd sd_st_kd sd_set_kd sd_vw sd_st_vw sd_set_vw sd_sq sd_st_sq sd_set_sq sd_tm sd_st_tm sd_set_tm sds_ltA sds_len natInt u_nthM u_bz u_bi1 u_bi2 u_bi3 u_bi4 u_bi5 u_bi6 u_bi7 bC_length bc_ltA bc_one nthOL ltO_o ltO_r takeL bC_append u_addS List.take_length
attribute [local go_sem_proc] Nat.reduceAdd Nat.reduceSub Nat.reduceMul Nat.reduceLeDiff Nat.reduceLT Int.reduceEq Int.reduceNe Int.reduceLT Int.reduceLE Int.reduceAdd Int.reduceSub Int.reduceMul Int.reduceNeg Int.reduceToNat reduceCtorEq Nat.reduceEqDiff Nat.reduceBEq Nat.reduceGT
attribute [local go_sem_proc ↓] reduceIte
theorem nums_s (m : Nat) (X : AObj) (B : List UInt8) (Y : List AObj) (l : List Int) (hX : ∀ n,ltO n X = true) (hY : ∀ n,Y.all (ltO n) = true) (hl : inI l) (hm : l.length < m) (hB : B.length + 10 * l.length ≤ 34359738368) :
  wire_writer_nums m (OP 1 0) (SL (l.map nA)) (X :: ⟨1,ty_wire_writer,0,[OW 2 B.length]⟩ :: ⟨2,ty_uint8,1,bC B⟩ :: Y) = some (TU [],(X :: ⟨1,ty_wire_writer,0,[OW 2 (B ++ putsL l).length]⟩ :: ⟨2,ty_uint8,1,bC (B ++ putsL l)⟩ :: Y)) := by
 obtain ⟨r,hr⟩ : ∃ r,r = some (TU [],(X :: ⟨1,ty_wire_writer,0,[OW 2 (B ++ putsL l).length]⟩ :: ⟨2,ty_uint8,1,bC (B ++ putsL l)⟩ :: Y)) := ⟨_,rfl⟩
 have hY2 : 2 < Y.length + 1 + 1 + 1 := by omega
 rw [← hr,wire_writer_nums_eq]
 simp (config := {maxSteps := 4000000,implicitDefEqProofs := false}) (disch := omega) only [go_sem,]
 have e0 : B = B ++ putsL (l.take 0) := by simp [putsL]
 have hr' := hr
 clear hr
 rw [e0]
 refine iter_go (ι := {k : Nat // k ≤ l.length}) (fun k=>⟨(X :: ⟨1,ty_wire_writer,0,[OW 2 (B ++ putsL (l.take k.1)).length]⟩ :: ⟨2,ty_uint8,1,bC (B ++ putsL (l.take k.1))⟩ :: Y),[(0,OP 1 0),(6,SL (l.map nA)),(7,nA l.length),(8,nA k.1)]⟩) (fun k=>l.length - k.1) (fun _=>r) ?_ ⟨0,Nat.zero_le _⟩ (by dsimp only;omega)
 rintro kx hkx ⟨k,hk⟩ kc hkc
 dsimp only at hkc ⊢
 have hlen := putsL_len (hl.take k)
 rw [List.length_take,Nat.min_eq_left hk] at hlen
 rw [wire_writer_nums_b1_eq]
 by_cases hlt : k < l.length
 ·have hlt' : (k : Int) < (l.length : Int) := by omega
  obtain ⟨hv0,hv1⟩ := hl l[k] (List.getElem_mem hlt)
  have hp := put_len l[k].toNat (by omega)
  have hP := put_i m (Y.length + 3) l[k] hv0 (by omega)
  have hw : IntKind.u64.wrap l[k] = l[k] := by rw [w_u64 (by omega) (by omega)]
  have step := hkc ⟨k + 1,by omega⟩ (by dsimp only;omega)
  dsimp only at step
  rw [List.take_succ_eq_append_getElem hlt,putsL_append,putsL_cons,putsL_nil,List.append_nil,← List.append_assoc] at step
  generalize putsL (l.take k) = B1 at hlen step ⊢
  have hs : B.length + B1.length + (put l[k].toNat).length ≤ 34359738368 := by omega
  have hY3 : Y.length ≤ Y.length + 1 := Nat.le_succ _
  simp only [List.length_append,bC_append] at step
  simp (config := {maxSteps := 4000000,implicitDefEqProofs := false}) (disch := omega) only [go_sem,hlt',hw,hP,hX,hY,hY2,hY3,hs,w_i64]
  exact step
 ·have hlt' : ¬ (k : Int) < (l.length : Int) := by omega
  have hk2 : l.take k = l := List.take_of_length_le (by omega)
  rw [hk2] at hlen ⊢
  rw [hr']
  generalize putsL l = B1 at hlen ⊢
  simp (config := {maxSteps := 4000000,implicitDefEqProofs := false}) (disch := omega) only [go_sem,hlt',hkx,hX,hY,hY2]
theorem setLw {o o' : AObj} {Y : List AObj} : (Y ++ [o]).set Y.length o' = Y ++ [o'] := by simp
def textB (s : List UInt8) : List UInt8 := put s.length ++ s
theorem putsL_one (n : Nat) : putsL [(n : Int)] = put n := by simp [putsL]
theorem ro_cl {H : List AObj} {fn : Fn} {i : Nat} : ro H (CL fn 1 [OP i 0]) = CL fn 1 [OP i 0] := _root_.id rfl
theorem text_s (m : Nat) (X : AObj) (B : List UInt8) (Y : List AObj) (s : List UInt8) (hX : ∀ n,ltO n X = true) (hY : ∀ n,Y.all (ltO n) = true) (hm : 70 < m) (hB : B.length + 10 + s.length ≤ 34359738368) :
  wire_writer_text m (OP 1 0) (sA s) (X :: ⟨1,ty_wire_writer,0,[OW 2 B.length]⟩ :: ⟨2,ty_uint8,1,bC B⟩ :: Y) = some (TU [],(X :: ⟨1,ty_wire_writer,0,[OW 2 (B ++ textB s).length]⟩ :: ⟨2,ty_uint8,1,bC (B ++ textB s)⟩ :: Y)) := by
 have hN := nums_s m X B Y [(s.length : Int)] hX hY (by intro v hv;simp at hv;omega) (by simp;omega) (by simp;omega)
 rw [putsL_one] at hN
 simp only [List.map_cons,List.map_nil,List.length_append,bC_append] at hN
 have hp := put_len s.length (by omega)
 have hY2 : 2 < Y.length + 1 + 1 + 1 := by omega
 have hs : B.length + ((put s.length).length + s.length) ≤ 34359738368 := by omega
 rw [wire_writer_text_eq]
 unfold textB
 simp (config := {maxSteps := 4000000,implicitDefEqProofs := false}) (disch := omega) only [go_sem,hN,hX,hY,hY2,hs,strA_of,List.append_assoc,Nat.add_assoc]
theorem smB_inI {x : Sm} (h : smB x = true) : inI [x.fr,x.kd,x.vw,x.sq,x.tm] := by
 unfold smB parB at h
 simp only [Bool.and_eq_true,decide_eq_true_eq,List.all_eq_true] at h
 obtain ⟨h1,h2⟩ := h
 intro v hv
 rcases List.mem_cons.1 hv with rfl|hv
 ·omega
 ·have := h2 v hv
  unfold numB at this
  simp only [Bool.and_eq_true,decide_eq_true_eq] at this
  omega
theorem all_inI {l : List Int} (h : l.all numB = true) : inI l := by
 intro v hv
 have := List.all_eq_true.1 h v hv
 unfold numB at this
 simp only [Bool.and_eq_true,decide_eq_true_eq] at this
 omega
def encSm (x : Sm) : List UInt8 := putsL [x.fr,x.kd,x.vw,x.sq,x.tm]
theorem encSm_len {x : Sm} (h : smB x = true) : (encSm x).length ≤ 50 := putsL_len (smB_inI h)
theorem wstmt_s (m : Nat) (X : AObj) (B : List UInt8) (Y : List AObj) (x : Sm) (hX : ∀ n,ltO n X = true) (hY : ∀ n,Y.all (ltO n) = true) (hx : smB x = true) (hm : 70 < m) (hB : B.length + 50 ≤ 34359738368) :
  wire_writer_stmt m (OP 1 0) (smE x) (X :: ⟨1,ty_wire_writer,0,[OW 2 B.length]⟩ :: ⟨2,ty_uint8,1,bC B⟩ :: Y) = some (TU [],(X :: ⟨1,ty_wire_writer,0,[OW 2 (B ++ encSm x).length]⟩ :: ⟨2,ty_uint8,1,bC (B ++ encSm x)⟩ :: Y)) := by
 have hN := nums_s m X B (Y ++ [⟨1,ty_api_Stmt,0,smC x⟩]) [x.fr,x.kd,x.vw,x.sq,x.tm] hX (fun n=>by rw [List.all_append,hY];rfl) (smB_inI hx) (by simp;omega) (by simpa using hB)
 simp only [List.map_cons,List.map_nil,List.length_append,bC_append] at hN
 have hY2 : 2 < Y.length + 1 + 1 + 1 := by omega
 have hY3 : Y.length ≤ Y.length + 1 := Nat.le_succ _
 rw [wire_writer_stmt_eq,sm_it]
 unfold encSm
 simp (config := {maxSteps := 4000000,implicitDefEqProofs := false}) (disch := omega) only [go_sem,hN,hX,hY,hY2,hY3]
theorem stmt_t {m : Nat} {a b : AV} {H : List AObj} : wire_writer_stmt_t m [a,b] H = wire_writer_stmt m a b H := _root_.id rfl
theorem stmt_f {m : Nat} : findE (wire_each_Stmt_env m) 87 = some (.keep (wire_writer_stmt_t m)) := _root_.id rfl
def encStmts (l : List Sm) : List UInt8 := put l.length ++ l.flatMap encSm
theorem flatStmt_len : ∀ {l : List Sm},l.all smB = true → (l.flatMap encSm).length ≤ 50 * l.length
 |[],_=>Nat.le_refl _
 |x :: r,h=>by
  rw [List.all_cons,Bool.and_eq_true] at h
  have h1 := flatStmt_len h.2
  have h2 := encSm_len h.1
  rw [List.flatMap_cons,List.length_append,List.length_cons];omega
theorem eachStmt_s (m : Nat) (X : AObj) (B : List UInt8) (Y : List AObj) (l : List Sm) (hX : ∀ n,ltO n X = true) (hY : ∀ n,Y.all (ltO n) = true) (hx : l.all smB = true) (h64 : l.length ≤ 64) (hm : 70 < m) (hB : B.length + 10 + 50 * l.length ≤ 34359738368) :
  wire_each_Stmt m (OP 1 0) (SL (l.map smE)) (CL (.func 87) 1 [OP 1 0]) (X :: ⟨1,ty_wire_writer,0,[OW 2 B.length]⟩ :: ⟨2,ty_uint8,1,bC B⟩ :: Y) = some (TU [],(X :: ⟨1,ty_wire_writer,0,[OW 2 (B ++ encStmts l).length]⟩ :: ⟨2,ty_uint8,1,bC (B ++ encStmts l)⟩ :: Y)) := by
 have hp := put_len l.length (by omega)
 obtain ⟨r,hr⟩ : ∃ r,r = some (TU [],(X :: ⟨1,ty_wire_writer,0,[OW 2 (B ++ encStmts l).length]⟩ :: ⟨2,ty_uint8,1,bC (B ++ encStmts l)⟩ :: Y)) := ⟨_,rfl⟩
 have hY2 : 2 < Y.length + 1 + 1 + 1 := by omega
 have hY3 : Y.length ≤ Y.length + 1 := Nat.le_succ _
 have hN := nums_s m X B Y [(l.length : Int)] hX hY (by intro v hv;simp at hv;omega) (by simp;omega) (by simp;omega)
 rw [putsL_one] at hN
 simp only [List.map_cons,List.map_nil] at hN
 rw [← hr,wire_each_Stmt_eq]
 rw [show put l.length = put l.length ++ (l.take 0).flatMap encSm by simp] at hN
 generalize hz : (l.take 0).flatMap encSm = Z at hN
 simp only [List.length_append,bC_append] at hN
 simp (config := {maxSteps := 4000000,implicitDefEqProofs := false}) (disch := omega) only [go_sem,hN]
 subst hz
 simp only [← bC_append,← List.length_append]
 refine iter_go (ι := {k : Nat // k ≤ l.length}) (fun k=>⟨(X :: ⟨1,ty_wire_writer,0,[OW 2 (B ++ (put l.length ++ (l.take k.1).flatMap encSm)).length]⟩ :: ⟨2,ty_uint8,1,bC (B ++ (put l.length ++ (l.take k.1).flatMap encSm))⟩ :: Y),[(2,CL (.func 87) 1 [OP 1 0]),(13,SL (l.map smE)),(14,nA l.length),(15,nA k.1)]⟩) (fun k=>l.length - k.1) (fun _=>r) ?_ ⟨0,Nat.zero_le _⟩ (by dsimp only;omega)
 rintro kx hkx ⟨k,hk⟩ kc hkc
 dsimp only at hkc ⊢
 rw [wire_each_Stmt_b1_eq]
 by_cases hlt : k < l.length
 ·have hlt' : (k : Int) < (l.length : Int) := by omega
  have hv := List.all_eq_true.1 hx l[k] (List.getElem_mem hlt)
  have hlen := flatStmt_len (l := l.take k) (List.all_eq_true.2 fun y hy=>List.all_eq_true.1 hx y (List.mem_of_mem_take hy))
  rw [List.length_take,Nat.min_eq_left hk] at hlen
  have step := hkc ⟨k + 1,by omega⟩ (by dsimp only;omega)
  dsimp only at step
  rw [List.take_succ_eq_append_getElem hlt,List.flatMap_append,List.flatMap_cons,List.flatMap_nil,List.append_nil] at step
  generalize (l.take k).flatMap encSm = B1 at hlen step ⊢
  have hV := wstmt_s m X (B ++ (put l.length ++ B1)) (Y ++ [⟨1,ty_api_Stmt,0,smC l[k]⟩]) l[k] hX (fun n=>by rw [List.all_append,hY];rfl) hv hm (by simp only [List.length_append];omega)
  rw [sm_it] at hV
  simp only [List.length_append,bC_append,List.append_assoc,Nat.add_assoc] at hV step
  simp (config := {maxSteps := 4000000,implicitDefEqProofs := false}) (disch := omega) only [go_sem,hlt',hV,hX,hY,hY2,hY3,w_i64,setLw,stmt_t,stmt_f,List.append_assoc,Nat.add_assoc]
  exact step
 ·have hlt' : ¬ (k : Int) < (l.length : Int) := by omega
  have hk2 : l.take k = l := List.take_of_length_le (by omega)
  rw [hk2,hr]
  unfold encStmts
  generalize l.flatMap encSm = B1
  simp (config := {maxSteps := 4000000,implicitDefEqProofs := false}) (disch := omega) only [go_sem,hlt',hkx,hX,hY,hY2]
theorem smsB_ok {l : List Sm} (h : smsB l = true) : l.length ≤ 64 ∧ l.all smB = true := by
 unfold smsB at h
 simpa [Bool.and_eq_true] using h
theorem textB_len (s : List UInt8) (h : s.length ≤ 65536) : (textB s).length ≤ 65546 := by
 have := put_len s.length (by omega)
 unfold textB;rw [List.length_append];omega
theorem encStmts_len {l : List Sm} (h : smsB l = true) : (encStmts l).length ≤ 3210 := by
 obtain ⟨h1,h2⟩ := smsB_ok h
 have h3 := flatStmt_len h2
 have := put_len l.length (by omega)
 unfold encStmts;rw [List.length_append];omega
theorem ceB_ok {x : Ce} (h : ceB x = true) : [x.sq,x.vw,x.tm].all numB = true ∧ x.body.length ≤ 65536 ∧ smsB x.vs = true := by
 unfold ceB at h
 rw [Bool.and_eq_true,Bool.and_eq_true,decide_eq_true_eq] at h
 exact h
def encCe (x : Ce) : List UInt8 := putsL [x.sq,x.vw,x.tm] ++ (textB x.body ++ encStmts x.vs)
theorem encCe_len {x : Ce} (h : ceB x = true) : (encCe x).length ≤ 70000 := by
 obtain ⟨h1,h2,h3⟩ := ceB_ok h
 have e1 := putsL_len (all_inI h1)
 have e2 := textB_len x.body h2
 have e3 := encStmts_len h3
 unfold encCe
 rw [List.length_append,List.length_append]
 simp only [List.length_cons,List.length_nil] at e1
 omega
theorem wcert_s (m : Nat) (X : AObj) (B : List UInt8) (Y : List AObj) (x : Ce) (hX : ∀ n,ltO n X = true) (hY : ∀ n,Y.all (ltO n) = true) (hx : ceB x = true) (hm : 70 < m) (hB : B.length + 70000 ≤ 34359738368) :
  wire_writer_cert m (OP 1 0) (ceE x) (X :: ⟨1,ty_wire_writer,0,[OW 2 B.length]⟩ :: ⟨2,ty_uint8,1,bC B⟩ :: Y) = some (TU [],(X :: ⟨1,ty_wire_writer,0,[OW 2 (B ++ encCe x).length]⟩ :: ⟨2,ty_uint8,1,bC (B ++ encCe x)⟩ :: Y)) := by
 obtain ⟨h1,h2,h3⟩ := ceB_ok hx
 obtain ⟨h4,h5⟩ := smsB_ok h3
 have e1 := putsL_len (all_inI h1)
 have e2 := textB_len x.body h2
 have e3 := encStmts_len h3
 simp only [List.length_cons,List.length_nil] at e1
 have hY' : ∀ n,(Y ++ [(⟨1,ty_api_Cert,0,ceC x⟩ : AObj)]).all (ltO n) = true := fun n=>by rw [List.all_append,hY];rfl
 have hN := nums_s m X B (Y ++ [⟨1,ty_api_Cert,0,ceC x⟩]) [x.sq,x.vw,x.tm] hX hY' (all_inI h1) (by simp;omega) (by simp;omega)
 have hT := text_s m X (B ++ putsL [x.sq,x.vw,x.tm]) (Y ++ [⟨1,ty_api_Cert,0,ceC x⟩]) x.body hX hY' hm (by rw [List.length_append];omega)
 have hE := eachStmt_s m X (B ++ putsL [x.sq,x.vw,x.tm] ++ textB x.body) (Y ++ [⟨1,ty_api_Cert,0,ceC x⟩]) x.vs hX hY' h5 h4 hm (by rw [List.length_append,List.length_append];omega)
 simp only [List.map_cons,List.map_nil,List.length_append,bC_append,List.append_assoc,Nat.add_assoc] at hN hT hE
 have hY2 : 2 < Y.length + 1 + 1 + 1 := by omega
 have hY3 : Y.length ≤ Y.length + 1 := Nat.le_succ _
 rw [wire_writer_cert_eq,ce_it]
 unfold encCe
 simp (config := {maxSteps := 4000000,implicitDefEqProofs := false}) (disch := omega) only [go_sem,hN,hT,hE,ro_cl,hX,hY,hY2,hY3,List.append_assoc,Nat.add_assoc]
theorem cert_t {m : Nat} {a b : AV} {H : List AObj} : wire_writer_cert_t m [a,b] H = wire_writer_cert m a b H := _root_.id rfl
theorem cert_f {m : Nat} : findE (wire_each_Cert_env m) 89 = some (.keep (wire_writer_cert_t m)) := _root_.id rfl
def encCerts (l : List Ce) : List UInt8 := put l.length ++ l.flatMap encCe
theorem flatCert_len : ∀ {l : List Ce},l.all ceB = true → (l.flatMap encCe).length ≤ 70000 * l.length
 |[],_=>Nat.le_refl _
 |x :: r,h=>by
  rw [List.all_cons,Bool.and_eq_true] at h
  have h1 := flatCert_len h.2
  have h2 := encCe_len h.1
  rw [List.flatMap_cons,List.length_append,List.length_cons];omega
theorem eachCert_s (m : Nat) (X : AObj) (B : List UInt8) (Y : List AObj) (l : List Ce) (hX : ∀ n,ltO n X = true) (hY : ∀ n,Y.all (ltO n) = true) (hx : l.all ceB = true) (h64 : l.length ≤ 64) (hm : 70 < m) (hB : B.length + 10 + 70000 * l.length ≤ 34359738368) :
  wire_each_Cert m (OP 1 0) (SL (l.map ceE)) (CL (.func 89) 1 [OP 1 0]) (X :: ⟨1,ty_wire_writer,0,[OW 2 B.length]⟩ :: ⟨2,ty_uint8,1,bC B⟩ :: Y) = some (TU [],(X :: ⟨1,ty_wire_writer,0,[OW 2 (B ++ encCerts l).length]⟩ :: ⟨2,ty_uint8,1,bC (B ++ encCerts l)⟩ :: Y)) := by
 have hp := put_len l.length (by omega)
 obtain ⟨r,hr⟩ : ∃ r,r = some (TU [],(X :: ⟨1,ty_wire_writer,0,[OW 2 (B ++ encCerts l).length]⟩ :: ⟨2,ty_uint8,1,bC (B ++ encCerts l)⟩ :: Y)) := ⟨_,rfl⟩
 have hY2 : 2 < Y.length + 1 + 1 + 1 := by omega
 have hY3 : Y.length ≤ Y.length + 1 := Nat.le_succ _
 have hN := nums_s m X B Y [(l.length : Int)] hX hY (by intro v hv;simp at hv;omega) (by simp;omega) (by simp;omega)
 rw [putsL_one] at hN
 simp only [List.map_cons,List.map_nil] at hN
 rw [← hr,wire_each_Cert_eq]
 rw [show put l.length = put l.length ++ (l.take 0).flatMap encCe by simp] at hN
 generalize hz : (l.take 0).flatMap encCe = Z at hN
 simp only [List.length_append,bC_append] at hN
 simp (config := {maxSteps := 4000000,implicitDefEqProofs := false}) (disch := omega) only [go_sem,hN]
 subst hz
 simp only [← bC_append,← List.length_append]
 refine iter_go (ι := {k : Nat // k ≤ l.length}) (fun k=>⟨(X :: ⟨1,ty_wire_writer,0,[OW 2 (B ++ (put l.length ++ (l.take k.1).flatMap encCe)).length]⟩ :: ⟨2,ty_uint8,1,bC (B ++ (put l.length ++ (l.take k.1).flatMap encCe))⟩ :: Y),[(2,CL (.func 89) 1 [OP 1 0]),(13,SL (l.map ceE)),(14,nA l.length),(15,nA k.1)]⟩) (fun k=>l.length - k.1) (fun _=>r) ?_ ⟨0,Nat.zero_le _⟩ (by dsimp only;omega)
 rintro kx hkx ⟨k,hk⟩ kc hkc
 dsimp only at hkc ⊢
 rw [wire_each_Cert_b1_eq]
 by_cases hlt : k < l.length
 ·have hlt' : (k : Int) < (l.length : Int) := by omega
  have hv := List.all_eq_true.1 hx l[k] (List.getElem_mem hlt)
  have hlen := flatCert_len (l := l.take k) (List.all_eq_true.2 fun y hy=>List.all_eq_true.1 hx y (List.mem_of_mem_take hy))
  rw [List.length_take,Nat.min_eq_left hk] at hlen
  have step := hkc ⟨k + 1,by omega⟩ (by dsimp only;omega)
  dsimp only at step
  rw [List.take_succ_eq_append_getElem hlt,List.flatMap_append,List.flatMap_cons,List.flatMap_nil,List.append_nil] at step
  generalize (l.take k).flatMap encCe = B1 at hlen step ⊢
  have hV := wcert_s m X (B ++ (put l.length ++ B1)) (Y ++ [⟨1,ty_api_Cert,0,ceC l[k]⟩]) l[k] hX (fun n=>by rw [List.all_append,hY];rfl) hv hm (by simp only [List.length_append];omega)
  rw [ce_it] at hV
  simp only [List.length_append,bC_append,List.append_assoc,Nat.add_assoc] at hV step
  simp (config := {maxSteps := 4000000,implicitDefEqProofs := false}) (disch := omega) only [go_sem,hlt',hV,hX,hY,hY2,hY3,w_i64,setLw,cert_t,cert_f,List.append_assoc,Nat.add_assoc]
  exact step
 ·have hlt' : ¬ (k : Int) < (l.length : Int) := by omega
  have hk2 : l.take k = l := List.take_of_length_le (by omega)
  rw [hk2,hr]
  unfold encCerts
  generalize l.flatMap encCe = B1
  simp (config := {maxSteps := 4000000,implicitDefEqProofs := false}) (disch := omega) only [go_sem,hlt',hkx,hX,hY,hY2]
theorem cesB_ok {l : List Ce} (h : cesB l = true) : l.length ≤ 64 ∧ l.all ceB = true := by
 unfold cesB at h
 simpa [Bool.and_eq_true] using h
theorem encCerts_len {l : List Ce} (h : cesB l = true) : (encCerts l).length ≤ 4480010 := by
 obtain ⟨h1,h2⟩ := cesB_ok h
 have h3 := flatCert_len h2
 have := put_len l.length (by omega)
 unfold encCerts;rw [List.length_append];omega
theorem cgB_ok {x : Ch} (h : cgB x = true) : parB x.fr = true ∧ [x.vw,x.st,x.rt].all numB = true ∧ smsB x.pf = true ∧ cesB x.cs = true := by
 unfold cgB at h
 rw [Bool.and_eq_true,Bool.and_eq_true,Bool.and_eq_true] at h
 exact h
theorem parB_num {v : Int} (h : parB v = true) : numB v = true := by
 unfold parB at h
 unfold numB
 simp only [Bool.and_eq_true,decide_eq_true_eq] at h ⊢
 omega
def encCg (x : Ch) : List UInt8 := putsL [x.fr,x.vw,x.st,x.rt] ++ (encStmts x.pf ++ encCerts x.cs)
theorem cgB_inI {x : Ch} (h : cgB x = true) : inI [x.fr,x.vw,x.st,x.rt] := by
 obtain ⟨h0,h1,_,_⟩ := cgB_ok h
 exact all_inI (by rw [List.all_cons,parB_num h0,h1];rfl)
theorem encCg_len {x : Ch} (h : cgB x = true) : (encCg x).length ≤ 4500000 := by
 obtain ⟨h0,h1,h2,h3⟩ := cgB_ok h
 have e1 := putsL_len (cgB_inI h)
 have e2 := encStmts_len h2
 have e3 := encCerts_len h3
 unfold encCg
 rw [List.length_append,List.length_append]
 simp only [List.length_cons,List.length_nil] at e1
 omega
theorem wchange_s (m : Nat) (X : AObj) (B : List UInt8) (Y : List AObj) (x : Ch) (hX : ∀ n,ltO n X = true) (hY : ∀ n,Y.all (ltO n) = true) (hx : cgB x = true) (hm : 70 < m) (hB : B.length + 4500000 ≤ 34359738368) :
  wire_writer_change m (OP 1 0) (cgE x) (X :: ⟨1,ty_wire_writer,0,[OW 2 B.length]⟩ :: ⟨2,ty_uint8,1,bC B⟩ :: Y) = some (TU [],(X :: ⟨1,ty_wire_writer,0,[OW 2 (B ++ encCg x).length]⟩ :: ⟨2,ty_uint8,1,bC (B ++ encCg x)⟩ :: Y)) := by
 obtain ⟨h0,h1,h2,h3⟩ := cgB_ok hx
 obtain ⟨h4,h5⟩ := smsB_ok h2
 obtain ⟨h6,h7⟩ := cesB_ok h3
 have e1 := putsL_len (cgB_inI hx)
 have e2 := encStmts_len h2
 have e3 := encCerts_len h3
 simp only [List.length_cons,List.length_nil] at e1
 have hY' : ∀ n,(Y ++ [(⟨1,ty_api_Change,0,cgC x⟩ : AObj)]).all (ltO n) = true := fun n=>by rw [List.all_append,hY];rfl
 have hN := nums_s m X B (Y ++ [⟨1,ty_api_Change,0,cgC x⟩]) [x.fr,x.vw,x.st,x.rt] hX hY' (cgB_inI hx) (by simp;omega) (by simp;omega)
 have hT := eachStmt_s m X (B ++ putsL [x.fr,x.vw,x.st,x.rt]) (Y ++ [⟨1,ty_api_Change,0,cgC x⟩]) x.pf hX hY' h5 h4 hm (by rw [List.length_append];omega)
 have hE := eachCert_s m X (B ++ putsL [x.fr,x.vw,x.st,x.rt] ++ encStmts x.pf) (Y ++ [⟨1,ty_api_Change,0,cgC x⟩]) x.cs hX hY' h7 h6 hm (by rw [List.length_append,List.length_append];omega)
 simp only [List.map_cons,List.map_nil,List.length_append,bC_append,List.append_assoc,Nat.add_assoc] at hN hT hE
 have hY2 : 2 < Y.length + 1 + 1 + 1 := by omega
 have hY3 : Y.length ≤ Y.length + 1 := Nat.le_succ _
 rw [wire_writer_change_eq,cg_it]
 unfold encCg
 simp (config := {maxSteps := 4000000,implicitDefEqProofs := false}) (disch := omega) only [go_sem,hN,hT,hE,ro_cl,hX,hY,hY2,hY3,List.append_assoc,Nat.add_assoc]
theorem gh_it {X : AObj} {T : Tm} (h : get T 3 = OP 1 0) : ghS 3 0 ty_uint8 1 ⟨[X,⟨1,ty_wire_writer,0,[V (.slice none 0 0)]⟩],T⟩ = ⟨[X,⟨1,ty_wire_writer,0,[OW 2 0]⟩,⟨2,ty_uint8,1,[]⟩],T⟩ := by
 unfold ghS
 rw [h]
 rfl
theorem zw_b {R : Type} {K1 : AV → Option R} : buildE (some pl_wire_writer) (some zc_wire_writer) [] K1 = K1 (.agg [V (.slice none 0 0)]) := _root_.id rfl
theorem encodeChange_s (m : Nat) (x : Ch) (hm : 70 < m) : wire_EncodeChange m (cgE x) = some (SL (bC (if cgB x = true then encCg x else [])),[]) := by
 have hC := change_s m x hm
 rw [cg_it] at hC
 rw [wire_EncodeChange_eq,cg_it]
 cases h : cgB x with
 |false=>rw [h] at hC;have hz : bC [] = [] := rfl;simp (config := {maxSteps := 4000000,implicitDefEqProofs := false}) (disch := omega) only [go_sem,hC,hz]
 |true =>
  rw [h] at hC
  have hW := wchange_s m ⟨1,ty_api_Change,0,cgC x⟩ [] [] x (fun n=>rfl) (fun n=>rfl) h hm (by simp)
  rw [cg_it] at hW
  simp only [List.length_nil,List.nil_append,List.length_append] at hW
  have hz : bC [] = [] := rfl
  rw [hz] at hW
  simp (config := {maxSteps := 4000000,implicitDefEqProofs := false}) (disch := omega) only [go_sem,hC,zw_b]
  rw [gh_it (by rfl),wire_EncodeChange_r1_eq]
  simp (config := {maxSteps := 4000000,implicitDefEqProofs := false}) (disch := omega) only [go_sem,hW]
end Go.Proofs.Ytaaogcnjfkgnoaa

namespace Go.Proofs.Ytaaogcnjfkgnoaa
open Go.RowKit
attribute [local go_sem] Nat.zero_add Nat.add_zero Nat.mul_one Int.toNat_natCast Int.natCast_zero Int.cast_ofNat_Int or_false false_or or_true true_or Nat.sub_zero Int.natCast_nonneg Int.toNat_zero Bool.true_and Bool.and_true Bool.false_and Bool.and_false Bool.true_or Bool.or_true Bool.false_or Bool.or_false Bool.not_true Bool.not_false Bool.not_not true_and and_true false_and and_false not_true_eq_false not_false_eq_true eq_self decide_true decide_false ne_eq implies_true forall_const true_implies false_implies Bool.true_eq_false Bool.false_eq_true List.map_cons List.map_nil List.all_cons List.all_nil List.length_cons List.length_nil List.length_map List.length_append List.nil_append List.cons_append List.set_cons_zero List.set_cons_succ List.set_nil List.drop_zero List.drop_succ_cons List.drop_nil List.take_zero List.take_succ_cons List.take_nil Option.map_some Option.map_none Option.isSome_some List.all_append List.all_map Function.comp_def decide_eq_true_eq Bool.and_eq_true beq_self_eq_true or_self and_self ite_true ite_false Nat.le_refl Bool.not_eq_true decide_not Bool.not_eq_true' decide_eq_false_iff_not Bool.not_eq_false Bool.or_eq_true if_true if_false ite_self u_roF u_cvF u_cvC u_ceT u_ceK u_appS sm_it sm_len sm_sure sm_ltA sm_lt1 sm_all1 sm_ro sm_take sm_sl sm_set sm_noT sm_fr sm_st_fr sm_set_fr sm_kd sm_st_kd sm_set_kd sm_vw sm_st_vw sm_set_vw sm_sq sm_st_sq sm_set_sq sm_tm sm_st_tm sm_set_tm zsm_len zsm_sure zsm_lt1 zsm_sl zsm_ro zsm_setz zsm_set zsm_setr zsm_take sms_ltA sms_len ce_it ce_len ce_sure ce_ltA ce_lt1 ce_all1 ce_ro ce_take ce_sl ce_set ce_noT ce_sq ce_st_sq ce_set_sq ce_vw ce_st_vw ce_set_vw ce_tm ce_st_tm ce_set_tm ce_body ce_st_body ce_set_body ce_vs ce_st_vs ce_set_vs zce_len zce_sure zce_lt1 zce_sl zce_ro zce_setz zce_set zce_setr zce_take ces_ltA ces_len cg_it cg_len cg_sure cg_ltA cg_lt1 cg_all1 cg_ro cg_take cg_sl cg_set cg_noT cg_fr cg_st_fr cg_set_fr cg_vw cg_st_vw cg_set_vw cg_st cg_st_st cg_set_st cg_rt cg_st_rt cg_set_rt cg_pf cg_st_pf cg_set_pf cg_cs cg_st_cs cg_set_cs zcg_len zcg_sure zcg_lt1 zcg_sl zcg_ro zcg_setz zcg_set zcg_setr zcg_take cgs_ltA cgs_len ms_it ms_len ms_sure ms_ltA ms_lt1 ms_all1 ms_ro ms_take ms_sl ms_set ms_noT ms_kd ms_st_kd ms_set_kd ms_fr ms_st_fr ms_set_fr ms_vw ms_st_vw ms_set_vw ms_sq ms_st_sq ms_set_sq ms_tm ms_st_tm ms_set_tm ms_body ms_st_body ms_set_body ms_vs ms_st_vs ms_set_vs ms_chs ms_st_chs ms_set_chs zms_len zms_sure zms_lt1 zms_sl zms_ro zms_setz zms_set zms_setr zms_take mss_ltA mss_len co_it co_len co_sure co_ltA co_lt1 co_all1 co_ro co_take co_sl co_set co_noT co_sq co_st_sq co_set_sq co_tm co_st_tm co_set_tm co_body co_st_body co_set_body co_nl co_st_nl co_set_nl zco_len zco_sure zco_lt1 zco_sl zco_ro zco_setz zco_set zco_setr zco_take cos_ltA cos_len sd_it sd_len sd_sure sd_ltA sd_lt1 sd_all1 sd_ro sd_take sd_sl sd_set sd_noT sd_wh sd_st_wh sd_set_wh sd_fr sd_st_fr sd_set_fr sd_kd sd_st_kd sd_set_kd sd_vw sd_st_vw sd_set_vw sd_sq sd_st_sq sd_set_sq sd_tm sd_st_tm sd_set_tm sds_ltA sds_len natInt u_nthM u_bz u_bi1 u_bi2 u_bi3 u_bi4 u_bi5 u_bi6 u_bi7 bC_length bc_ltA bc_one nthOL ltO_o ltO_r takeL bC_append u_addS List.take_length
attribute [local go_sem_proc] Nat.reduceAdd Nat.reduceSub Nat.reduceMul Nat.reduceLeDiff Nat.reduceLT Int.reduceEq Int.reduceNe Int.reduceLT Int.reduceLE Int.reduceAdd Int.reduceSub Int.reduceMul Int.reduceNeg Int.reduceToNat reduceCtorEq Nat.reduceEqDiff Nat.reduceBEq Nat.reduceGT
attribute [local go_sem_proc ↓] reduceIte
end Go.Proofs.Ytaaogcnjfkgnoaa

namespace Go.Proofs.Ytaaogcnjfkgnoaa
open Go.RowKit
attribute [local go_sem] Nat.zero_add Nat.add_zero Nat.mul_one Int.toNat_natCast Int.natCast_zero Int.cast_ofNat_Int or_false false_or or_true true_or Nat.sub_zero Int.natCast_nonneg Int.toNat_zero Bool.true_and Bool.and_true Bool.false_and Bool.and_false Bool.true_or Bool.or_true Bool.false_or Bool.or_false Bool.not_true Bool.not_false Bool.not_not true_and and_true false_and and_false not_true_eq_false not_false_eq_true eq_self decide_true decide_false ne_eq implies_true forall_const true_implies false_implies Bool.true_eq_false Bool.false_eq_true List.map_cons List.map_nil List.all_cons List.all_nil List.length_cons List.length_nil List.length_map List.length_append List.nil_append List.cons_append List.set_cons_zero List.set_cons_succ List.set_nil List.drop_zero List.drop_succ_cons List.drop_nil List.take_zero List.take_succ_cons List.take_nil Option.map_some Option.map_none Option.isSome_some List.all_append List.all_map Function.comp_def decide_eq_true_eq Bool.and_eq_true beq_self_eq_true or_self and_self ite_true ite_false Nat.le_refl Bool.not_eq_true decide_not Bool.not_eq_true' decide_eq_false_iff_not Bool.not_eq_false Bool.or_eq_true if_true if_false ite_self u_roF u_cvF u_cvC u_ceT u_ceK u_appS sm_it sm_len sm_sure sm_ltA sm_lt1 sm_all1 sm_ro sm_take sm_sl sm_set sm_noT sm_fr sm_st_fr sm_set_fr sm_kd sm_st_kd sm_set_kd sm_vw sm_st_vw sm_set_vw sm_sq sm_st_sq sm_set_sq sm_tm sm_st_tm sm_set_tm zsm_len zsm_sure zsm_lt1 zsm_sl zsm_ro zsm_setz zsm_set zsm_setr zsm_take sms_ltA sms_len ce_it ce_len ce_sure ce_ltA ce_lt1 ce_all1 ce_ro ce_take ce_sl ce_set ce_noT ce_sq ce_st_sq ce_set_sq ce_vw ce_st_vw ce_set_vw ce_tm ce_st_tm ce_set_tm ce_body ce_st_body ce_set_body ce_vs ce_st_vs ce_set_vs zce_len zce_sure zce_lt1 zce_sl zce_ro zce_setz zce_set zce_setr zce_take ces_ltA ces_len cg_it cg_len cg_sure cg_ltA cg_lt1 cg_all1 cg_ro cg_take cg_sl cg_set cg_noT cg_fr cg_st_fr cg_set_fr cg_vw cg_st_vw cg_set_vw cg_st cg_st_st cg_set_st cg_rt cg_st_rt cg_set_rt cg_pf cg_st_pf cg_set_pf cg_cs cg_st_cs cg_set_cs zcg_len zcg_sure zcg_lt1 zcg_sl zcg_ro zcg_setz zcg_set zcg_setr zcg_take cgs_ltA cgs_len ms_it ms_len ms_sure ms_ltA ms_lt1 ms_all1 ms_ro ms_take ms_sl ms_set ms_noT ms_kd ms_st_kd ms_set_kd ms_fr ms_st_fr ms_set_fr ms_vw ms_st_vw ms_set_vw ms_sq ms_st_sq ms_set_sq ms_tm ms_st_tm ms_set_tm ms_body ms_st_body ms_set_body ms_vs ms_st_vs ms_set_vs ms_chs ms_st_chs ms_set_chs zms_len zms_sure zms_lt1 zms_sl zms_ro zms_setz zms_set zms_setr zms_take mss_ltA mss_len co_it co_len co_sure co_ltA co_lt1 co_all1 co_ro co_take co_sl co_set co_noT co_sq co_st_sq co_set_sq co_tm co_st_tm co_set_tm co_body co_st_body co_set_body co_nl co_st_nl co_set_nl zco_len zco_sure zco_lt1 zco_sl zco_ro zco_setz zco_set zco_setr zco_take cos_ltA cos_len sd_it sd_len sd_sure sd_ltA sd_lt1 sd_all1 sd_ro sd_take sd_sl sd_set sd_noT sd_wh sd_st_wh sd_set_wh sd_fr sd_st_fr sd_set_fr sd_kd sd_st_kd sd_set_kd sd_vw sd_st_vw sd_set_vw sd_sq sd_st_sq sd_set_sq sd_tm sd_st_tm sd_set_tm sds_ltA sds_len natInt u_nthM u_bz u_bi1 u_bi2 u_bi3 u_bi4 u_bi5 u_bi6 u_bi7 bC_length bc_ltA bc_one nthOL ltO_o ltO_r takeL bC_append u_addS List.take_length
attribute [local go_sem_proc] Nat.reduceAdd Nat.reduceSub Nat.reduceMul Nat.reduceLeDiff Nat.reduceLT Int.reduceEq Int.reduceNe Int.reduceLT Int.reduceLE Int.reduceAdd Int.reduceSub Int.reduceMul Int.reduceNeg Int.reduceToNat reduceCtorEq Nat.reduceEqDiff Nat.reduceBEq Nat.reduceGT
attribute [local go_sem_proc ↓] reduceIte
end Go.Proofs.Ytaaogcnjfkgnoaa

namespace Go.Proofs.Ytaaogcnjfkgnoaa
def setL (s : Nat) : List Nat := (List.range 64).filter s.testBit
def cntS (s : Nat) : Nat := (setL s).length
def bv : List Nat → Nat
 |[]=>0
 |b :: r=>2 ^ 8 * bv r + b
theorem and_cons {h b m c : Nat} (hb : b < 2 ^ 8) (hc : c < 2 ^ 8) : (2 ^ 8 * h + b) &&& (2 ^ 8 * m + c) = 2 ^ 8 * (h &&& m) + (b &&& c) := by
 have hbc : b &&& c < 2 ^ 8 := Nat.lt_of_le_of_lt Nat.and_le_left hb
 refine Nat.eq_of_testBit_eq fun j=>?_
 rw [Nat.testBit_and,Nat.testBit_two_pow_mul_add _ hb,Nat.testBit_two_pow_mul_add _ hc,Nat.testBit_two_pow_mul_add _ hbc]
 split
 ·rw [Nat.testBit_and]
 ·rw [Nat.testBit_and]
theorem shr_and_cons {h b m c k : Nat} (hk : k ≤ 8) (hb : b < 2 ^ 8) (hc : c < 2 ^ (8 - k)) : (2 ^ 8 * h + b) / 2 ^ k &&& (2 ^ 8 * m + c) = 2 ^ 8 * (h / 2 ^ k &&& m) + (b / 2 ^ k &&& c) := by
 have hc8 : c < 2 ^ 8 := Nat.lt_of_lt_of_le hc (Nat.pow_le_pow_right (by decide) (by omega))
 have hbc : b / 2 ^ k &&& c < 2 ^ 8 := Nat.lt_of_le_of_lt Nat.and_le_right hc8
 refine Nat.eq_of_testBit_eq fun j=>?_
 rw [Nat.testBit_and,Nat.testBit_div_two_pow,Nat.testBit_two_pow_mul_add _ hb,Nat.testBit_two_pow_mul_add _ hc8,Nat.testBit_two_pow_mul_add _ hbc]
 by_cases hj : j < 8
 ·rw [if_pos hj,if_pos hj,Nat.testBit_and,Nat.testBit_div_two_pow]
  by_cases hjk : j + k < 8
  ·rw [if_pos hjk]
  ·have : c.testBit j = false := Nat.testBit_lt_two_pow (Nat.lt_of_lt_of_le hc (Nat.pow_le_pow_right (by decide) (by omega)))
   rw [this,Bool.and_false,Bool.and_false]
 ·rw [if_neg hj,if_neg hj,if_neg (by omega),Nat.testBit_and,Nat.testBit_div_two_pow]
  congr 2
  omega
def msk (c w : Nat) : Nat := bv (List.replicate w c)
def oc1 (w x : Nat) : Nat := (x / 2 ^ 1 &&& msk 85 w) + (x &&& msk 85 w)
def oc2 (w x : Nat) : Nat := (x / 2 ^ 2 &&& msk 51 w) + (x &&& msk 51 w)
def oc3 (w x : Nat) : Nat := (x / 2 ^ 4 + x) &&& msk 15 w
def f1 (b : Nat) : Nat := (b / 2 ^ 1 &&& 85) + (b &&& 85)
def f2 (b : Nat) : Nat := (b / 2 ^ 2 &&& 51) + (b &&& 51)
def f3 (b : Nat) : Nat := (b / 16 + b) &&& 15
theorem msk_cons (c w : Nat) : msk c (w + 1) = 2 ^ 8 * msk c w + c := rfl
theorem oc1_bv : ∀ (l : List Nat),(∀ b ∈ l,b < 2 ^ 8) → oc1 l.length (bv l) = bv (l.map f1)
 |[],_=>rfl
 |b :: r,h=>by
  have ih := oc1_bv r fun x hx=>h x (List.mem_cons_of_mem _ hx)
  have hb := h b (List.mem_cons_self ..)
  simp only [List.map_cons,bv,List.length_cons]
  rw [← ih]
  unfold oc1
  rw [msk_cons,shr_and_cons (by decide) hb (by decide),and_cons hb (by decide)]
  unfold f1
  omega
theorem oc2_bv : ∀ (l : List Nat),(∀ b ∈ l,b < 2 ^ 8) → oc2 l.length (bv l) = bv (l.map f2)
 |[],_=>rfl
 |b :: r,h=>by
  have ih := oc2_bv r fun x hx=>h x (List.mem_cons_of_mem _ hx)
  have hb := h b (List.mem_cons_self ..)
  simp only [List.map_cons,bv,List.length_cons]
  rw [← ih]
  unfold oc2
  rw [msk_cons,shr_and_cons (by decide) hb (by decide),and_cons hb (by decide)]
  unfold f2
  omega
def q4 (b : Nat) : Bool := decide (b % 16 ≤ 4) && decide (b / 16 ≤ 4)
theorem and15 (x : Nat) : x &&& 15 = x % 16 := Nat.and_two_pow_sub_one_eq_mod x 4
theorem oc3_bv : ∀ (l : List Nat),(∀ b ∈ l,q4 b = true) → oc3 l.length (bv l) = bv (l.map f3)
 |[],_=>rfl
 |b :: r,h=>by
  have ih := oc3_bv r fun x hx=>h x (List.mem_cons_of_mem _ hx)
  have hb := h b (List.mem_cons_self ..)
  unfold q4 at hb
  simp only [Bool.and_eq_true,decide_eq_true_eq] at hb
  have hr : bv r % 16 ≤ 4 := by
   cases r with
   |nil=>exact Nat.zero_le _
   |cons c r' =>
    have hc := h c (List.mem_cons_of_mem _ (List.mem_cons_self ..))
    unfold q4 at hc
    simp only [Bool.and_eq_true,decide_eq_true_eq] at hc
    simp only [bv]
    omega
  simp only [List.map_cons,bv,List.length_cons]
  rw [← ih]
  unfold oc3
  rw [msk_cons]
  have e : (2 ^ 8 * bv r + b) / 2 ^ 4 + (2 ^ 8 * bv r + b) = 2 ^ 8 * (bv r / 2 ^ 4 + bv r) + (16 * (bv r % 16) + b / 16 + b) := by omega
  rw [e,and_cons (by omega) (by decide)]
  unfold f3
  rw [and15,and15]
  omega
def p8 (b : Nat) : Nat := ((List.range 8).filter b.testBit).length
theorem f_all : ∀ b,b < 256 → f1 b < 256 ∧ f2 (f1 b) < 256 ∧ q4 (f2 (f1 b)) = true ∧ f3 (f2 (f1 b)) = p8 b ∧ p8 b ≤ 8 := by decide +kernel
theorem range_add (n : Nat) : ∀ k,List.range (n + k) = List.range n ++ (List.range k).map (n + ·)
 |0=>by simp
 |k + 1=>by rw [← Nat.add_assoc,List.range_succ,range_add n k,List.range_succ,List.map_append,← List.append_assoc];rfl
theorem cnt_bv : ∀ (l : List Nat),(∀ b ∈ l,b < 2 ^ 8) → ((List.range (8 * l.length)).filter (bv l).testBit).length = (l.map p8).sum
 |[],_=>rfl
 |b :: r,h=>by
  have ih := cnt_bv r fun x hx=>h x (List.mem_cons_of_mem _ hx)
  have hb := h b (List.mem_cons_self ..)
  simp only [List.length_cons,List.map_cons,List.sum_cons,bv]
  rw [show 8 * (r.length + 1) = 8 + 8 * r.length by omega,range_add,List.filter_append,List.length_append,List.filter_map,List.length_map]
  congr 1
  ·unfold p8
   congr 1
   refine List.filter_congr fun i hi=>?_
   rw [Nat.testBit_two_pow_mul_add _ hb,if_pos (List.mem_range.1 hi)]
  ·rw [← ih]
   congr 1
   refine List.filter_congr fun i hi=>?_
   show (2 ^ 8 * bv r + b).testBit (8 + i) = _
   rw [Nat.testBit_two_pow_mul_add _ hb,if_neg (by omega)]
   congr 1;omega
theorem as_bytes (s : Nat) (h : s < 2 ^ 64) : ∃ b0 b1 b2 b3 b4 b5 b6 b7 : Nat,s = bv [b0,b1,b2,b3,b4,b5,b6,b7] ∧ ∀ b ∈ [b0,b1,b2,b3,b4,b5,b6,b7],b < 2 ^ 8 := by
 refine ⟨s % 256,s / 256 % 256,s / 65536 % 256,s / 16777216 % 256,s / 4294967296 % 256,s / 1099511627776 % 256,s / 281474976710656 % 256,s / 72057594037927936 % 256,?_,?_⟩
 ·simp only [bv];omega
 ·intro b hb
  simp only [List.mem_cons,List.not_mem_nil,or_false] at hb
  omega
theorem msk85 : msk 85 8 = 6148914691236517205 := by decide
theorem msk51 : msk 51 8 = 3689348814741910323 := by decide
theorem msk15 : msk 15 8 = 1085102592571150095 := by decide
theorem oc_sum (s : Nat) (h : s < 2 ^ 64) : ∃ c0 c1 c2 c3 c4 c5 c6 c7 : Nat,oc3 8 (oc2 8 (oc1 8 s)) = bv [c0,c1,c2,c3,c4,c5,c6,c7] ∧ (c0 ≤ 8 ∧ c1 ≤ 8 ∧ c2 ≤ 8 ∧ c3 ≤ 8 ∧ c4 ≤ 8 ∧ c5 ≤ 8 ∧ c6 ≤ 8 ∧ c7 ≤ 8) ∧ cntS s = c0 + c1 + c2 + c3 + c4 + c5 + c6 + c7 ∧ oc1 8 s < 2 ^ 64 ∧ oc2 8 (oc1 8 s) < 2 ^ 64 := by
 obtain ⟨b0,b1,b2,b3,b4,b5,b6,b7,rfl,hb⟩ := as_bytes s h
 have hlt : ∀ l : List Nat,l.length = 8 → (∀ b ∈ l,b < 256) → bv l < 2 ^ 64 := by
  intro l hl hb
  match l,hl with
  |[a0,a1,a2,a3,a4,a5,a6,a7],_ =>
   have h0 := hb a0 (by simp);have h1 := hb a1 (by simp);have h2 := hb a2 (by simp);have h3 := hb a3 (by simp)
   have h4 := hb a4 (by simp);have h5 := hb a5 (by simp);have h6 := hb a6 (by simp);have h7 := hb a7 (by simp)
   simp only [bv];omega
 generalize hl : [b0,b1,b2,b3,b4,b5,b6,b7] = l at *
 have hlen : l.length = 8 := by rw [← hl];rfl
 have e1 := oc1_bv l hb
 have hb1 : ∀ b ∈ l.map f1,b < 2 ^ 8 := fun b h=>by
  obtain ⟨x,hx,rfl⟩ := List.mem_map.1 h
  exact (f_all x (hb x hx)).1
 have e2 := oc2_bv (l.map f1) hb1
 have hb2 : ∀ b ∈ (l.map f1).map f2,b < 2 ^ 8 := fun b h=>by
  rw [List.map_map] at h
  obtain ⟨x,hx,rfl⟩ := List.mem_map.1 h
  exact (f_all x (hb x hx)).2.1
 have e3 := oc3_bv ((l.map f1).map f2) fun b h=>by
  rw [List.map_map] at h
  obtain ⟨x,hx,rfl⟩ := List.mem_map.1 h
  exact (f_all x (hb x hx)).2.2.1
 have hc := cnt_bv l hb
 rw [hlen] at e1 hc
 rw [List.length_map,hlen] at e2
 rw [List.length_map,List.length_map,hlen] at e3
 have hp : ((l.map f1).map f2).map f3 = l.map p8 := by
  rw [List.map_map,List.map_map]
  exact List.map_congr_left fun x hx=>(f_all x (hb x hx)).2.2.2.1
 rw [hp] at e3
 rw [e1,e2,e3]
 have h8 : ∀ x ∈ l,p8 x ≤ 8 := fun x hx=>(f_all x (hb x hx)).2.2.2.2
 have l1 := hlt (l.map f1) (by simp [hlen]) hb1
 have l2 := hlt ((l.map f1).map f2) (by simp [hlen]) hb2
 refine ⟨p8 b0,p8 b1,p8 b2,p8 b3,p8 b4,p8 b5,p8 b6,p8 b7,by rw [← hl];rfl,?_,?_,l1,l2⟩
 ·subst hl
  exact ⟨h8 _ (by simp),h8 _ (by simp),h8 _ (by simp),h8 _ (by simp),h8 _ (by simp),h8 _ (by simp),h8 _ (by simp),h8 _ (by simp)⟩
 ·show ((List.range (8 * 8)).filter (bv l).testBit).length = _
  rw [hc,← hl]
  simp only [List.map_cons,List.map_nil,List.sum_cons,List.sum_nil]
  omega
theorem dv {a h m : Nat} (ha : a < m) : (a + m * h) / m = h := by
 rw [Nat.add_mul_div_left _ _ (by omega),Nat.div_eq_of_lt ha,Nat.zero_add]
theorem ln1 (c0 c1 c2 c3 c4 c5 c6 c7 : Nat) : (c0 + 256 * (c1 + 256 * (c2 + 256 * (c3 + 256 * (c4 + 256 * (c5 + 256 * (c6 + 256 * c7))))))) + (c1 + 256 * (c2 + 256 * (c3 + 256 * (c4 + 256 * (c5 + 256 * (c6 + 256 * c7)))))) =
 (c0 + c1 + 256 * (c1 + c2)) + 65536 * ((c2 + c3) + 256 * (c3 + c4 + 256 * (c4 + c5 + 256 * (c5 + c6 + 256 * (c6 + c7 + 256 * c7))))) := by omega
theorem ln2 (c0 c1 c2 c3 c4 c5 c6 c7 : Nat) : ((c0 + c1 + 256 * (c1 + c2)) + 65536 * ((c2 + c3) + 256 * (c3 + c4 + 256 * (c4 + c5 + 256 * (c5 + c6 + 256 * (c6 + c7 + 256 * c7)))))) + ((c2 + c3) + 256 * (c3 + c4 + 256 * (c4 + c5 + 256 * (c5 + c6 + 256 * (c6 + c7 + 256 * c7))))) =
 ((c0 + c1 + c2 + c3) + 256 * ((c1 + c2 + c3 + c4) + 256 * ((c2 + c3 + c4 + c5) + 256 * (c3 + c4 + c5 + c6)))) + 4294967296 * ((c4 + c5 + c6 + c7) + 256 * ((c5 + c6 + c7) + 256 * ((c6 + c7) + 256 * c7))) := by omega
theorem ln3 (c0 c1 c2 c3 c4 c5 c6 c7 : Nat) : (((c0 + c1 + c2 + c3) + 256 * ((c1 + c2 + c3 + c4) + 256 * ((c2 + c3 + c4 + c5) + 256 * (c3 + c4 + c5 + c6)))) + 4294967296 * ((c4 + c5 + c6 + c7) + 256 * ((c5 + c6 + c7) + 256 * ((c6 + c7) + 256 * c7)))) + ((c4 + c5 + c6 + c7) + 256 * ((c5 + c6 + c7) + 256 * ((c6 + c7) + 256 * c7))) =
 (c0 + c1 + c2 + c3 + c4 + c5 + c6 + c7) + 128 * (2 * ((c1 + c2 + c3 + c4 + c5 + c6 + c7) + 256 * ((c2 + c3 + c4 + c5 + c6 + c7) + 256 * (c3 + c4 + c5 + c6 + c7)) + 16777216 * ((c4 + c5 + c6 + c7) + 256 * ((c5 + c6 + c7) + 256 * ((c6 + c7) + 256 * c7))))) := by omega
theorem bv8 (c0 c1 c2 c3 c4 c5 c6 c7 : Nat) : bv [c0,c1,c2,c3,c4,c5,c6,c7] = c0 + 256 * (c1 + 256 * (c2 + 256 * (c3 + 256 * (c4 + 256 * (c5 + 256 * (c6 + 256 * c7)))))) := by
 simp only [bv];omega
theorem oc_all (s : Nat) (h : s < 2 ^ 64) : ∃ x y z,oc3 8 (oc2 8 (oc1 8 s)) = x ∧ x < 2 ^ 60 ∧ x + x / 256 = y ∧ y < 2 ^ 61 ∧ y + y / 65536 = z ∧ z < 2 ^ 62 ∧ z + z / 4294967296 < 2 ^ 63 ∧ (z + z / 4294967296) % 128 = cntS s ∧ cntS s ≤ 64 := by
 obtain ⟨c0,c1,c2,c3,c4,c5,c6,c7,e,⟨h0,h1,h2,h3,h4,h5,h6,h7⟩,hc,_,_⟩ := oc_sum s h
 have a1 := dv (a := c0) (m := 256) (h := c1 + 256 * (c2 + 256 * (c3 + 256 * (c4 + 256 * (c5 + 256 * (c6 + 256 * c7)))))) (by omega)
 have a2 := dv (a := c0 + c1 + 256 * (c1 + c2)) (m := 65536) (h := (c2 + c3) + 256 * (c3 + c4 + 256 * (c4 + c5 + 256 * (c5 + c6 + 256 * (c6 + c7 + 256 * c7))))) (by omega)
 have a3 := dv (a := (c0 + c1 + c2 + c3) + 256 * ((c1 + c2 + c3 + c4) + 256 * ((c2 + c3 + c4 + c5) + 256 * (c3 + c4 + c5 + c6)))) (m := 4294967296) (h := (c4 + c5 + c6 + c7) + 256 * ((c5 + c6 + c7) + 256 * ((c6 + c7) + 256 * c7))) (by omega)
 refine ⟨_,_,_,e.trans (bv8 ..),?_,(congrArg _ a1).trans (ln1 ..),?_,(congrArg _ a2).trans (ln2 ..),?_,?_,?_,?_⟩
 ·clear a1 a2 a3 hc;omega
 ·clear a1 a2 a3 hc;omega
 ·clear a1 a2 a3 hc;omega
 ·rw [a3];clear a1 a2 a3 hc;omega
 ·rw [a3,ln3,hc,Nat.add_mul_mod_self_left]
  exact Nat.mod_eq_of_lt (by clear a1 a2 a3 hc;omega)
 ·clear a1 a2 a3;omega
end Go.Proofs.Ytaaogcnjfkgnoaa

namespace Go.Proofs.Ytaaogcnjfkgnoaa
open Go.RowKit
abbrev qA (s : Nat) : AV := V (.int .u64 (s : Int))
end Go.Proofs.Ytaaogcnjfkgnoaa

namespace Go.Proofs.Ytaaogcnjfkgnoaa
open Go.RowKit
theorem wrap_u64n (a : Nat) (h : a < 2 ^ 64) : IntKind.u64.wrap (a : Int) = (a : Int) := by
 rw [IntKind.wrap_u64];omega
theorem fdiv_nat (a n : Nat) : (a : Int).fdiv (2 ^ n) = ((a / 2 ^ n : Nat) : Int) := by
 have e : (2 : Int) ^ n = ((2 ^ n : Nat) : Int) := by norm_cast
 rw [e,Int.fdiv_eq_ediv_of_nonneg _ (Int.natCast_nonneg _),Int.natCast_ediv]
section
variable {R : Type} {K : AV → Option R} {k : IntKind}
theorem q_shr {a n : Nat} {b : Int} (hb : b = (n : Int)) (hn : n ≤ 64) : binE none false false .shr (qA a) (V (.int k b)) K = K (qA (a / 2 ^ n)) := by
 subst hb
 rw [u_shr,show min (n : Int).toNat IntKind.u64.bits = n by show min (n : Int).toNat 64 = n;rw [Int.toNat_natCast];omega,fdiv_nat,show decide (0 ≤ (n : Int)) = true by simp]
 rfl
theorem q_and {a b : Nat} {c : Int} (hc : c = (b : Int)) (ha : a < 2 ^ 64) (hb : b < 2 ^ 64) : binE none false false .and (qA a) (V (.int .u64 c)) K = K (qA (a &&& b)) := by
 subst hc
 rw [u_and,bits_and_u64_nat a b ha hb]
theorem q_or {a b : Nat} (ha : a < 2 ^ 64) (hb : b < 2 ^ 64) : binE none false false .or (qA a) (qA b) K = K (qA (a ||| b)) := by
 rw [u_or,bits_or_u64_nat a b ha hb]
theorem q_add {a b : Nat} (h : a + b < 2 ^ 64) : binE none false false .add (qA a) (qA b) K = K (qA (a + b)) := by
 rw [u_add,show ((a : Int) + (b : Int)) = ((a + b : Nat) : Int) by omega,wrap_u64n _ h]
end
theorem q_tell {R : Type} {K : AV → Option R} {X d : AV} {H' : List AObj} (h : ltT 0 d = true) : tellE (some (X,H')) [d] K = K X := by
 rw [u_tell,show List.all [d] (ltT 0) = true by simp [h]];rfl
theorem dlt {a n m : Nat} (h : a < m) : a / n < m := Nat.lt_of_le_of_lt (Nat.div_le_self ..) h
theorem ones_s (m s : Nat) (h : s < 2 ^ 64) : math_bits_OnesCount64 m (qA s) = some (nA (cntS s),[]) := by
 obtain ⟨x,y,z,e1,hx,e2,hy,e3,hz,hw,hm,hc⟩ := oc_all s h
 obtain ⟨_,_,_,_,_,_,_,_,_,_,_,l1,l2⟩ := oc_sum s h
 have b85 : msk 85 8 < 2 ^ 64 := by rw [msk85];decide
 have b51 : msk 51 8 < 2 ^ 64 := by rw [msk51];decide
 have b15 : msk 15 8 < 2 ^ 64 := by rw [msk15];decide
 have c85 : (6148914691236517205 : Int) = ((msk 85 8 : Nat) : Int) := by rw [msk85];rfl
 have c51 : (3689348814741910323 : Int) = ((msk 51 8 : Nat) : Int) := by rw [msk51];rfl
 have c15 : (1085102592571150095 : Int) = ((msk 15 8 : Nat) : Int) := by rw [msk15];rfl
 have l3 : oc2 8 (oc1 8 s) < 2 ^ 63 := by
  unfold oc2
  have a1 : oc1 8 s / 2 ^ 2 &&& msk 51 8 ≤ msk 51 8 := Nat.and_le_right
  have a2 : oc1 8 s &&& msk 51 8 ≤ msk 51 8 := Nat.and_le_right
  rw [msk51] at a1 a2 ⊢
  omega
 have l4 : oc2 8 (oc1 8 s) / 2 ^ 4 + oc2 8 (oc1 8 s) < 2 ^ 64 := by omega
 rw [math_bits_OnesCount64_eq]
 rw [q_shr (a := s) (b := 1) (n := 1) rfl (by decide),q_and c85 (dlt h) b85,q_and c85 h b85,q_add (a := s / 2 ^ 1 &&& msk 85 8) (b := s &&& msk 85 8) l1]
 rw [show (s / 2 ^ 1 &&& msk 85 8) + (s &&& msk 85 8) = oc1 8 s from rfl]
 rw [q_shr (b := 2) (n := 2) rfl (by decide),q_and c51 (dlt l1) b51,q_and c51 l1 b51,q_add (a := oc1 8 s / 2 ^ 2 &&& msk 51 8) (b := oc1 8 s &&& msk 51 8) l2]
 rw [show (oc1 8 s / 2 ^ 2 &&& msk 51 8) + (oc1 8 s &&& msk 51 8) = oc2 8 (oc1 8 s) from rfl]
 rw [q_shr (b := 4) (n := 4) rfl (by decide),q_add l4,q_and c15 l4 b15]
 rw [show (oc2 8 (oc1 8 s) / 2 ^ 4 + oc2 8 (oc1 8 s)) &&& msk 15 8 = x from e1]
 rw [q_shr (b := 8) (n := 8) rfl (by decide),q_add (by rw [show 2 ^ 8 = 256 from rfl,e2];omega),show x + x / 2 ^ 8 = y from e2]
 rw [q_shr (b := 16) (n := 16) rfl (by decide),q_add (by rw [show 2 ^ 16 = 65536 from rfl,e3];omega),show y + y / 2 ^ 16 = z from e3]
 rw [q_shr (b := 32) (n := 32) rfl (by decide),q_add (by rw [show 2 ^ 32 = 4294967296 from rfl];omega),show z + z / 2 ^ 32 = z + z / 4294967296 from rfl]
 rw [show (ro [] (qA (z + z / 4294967296))) = qA (z + z / 4294967296) from rfl,u_iconv,w_i64 (by omega) (by omega),u_and,i64_and127,show (((z + z / 4294967296 : Nat) : Int) % 128) = (cntS s : Int) by omega]
 rfl
def qb (i : Int) : Nat := if 0 ≤ i ∧ i ≤ 63 then 2 ^ i.toNat else 0
theorem qb_lt (i : Int) : qb i < 2 ^ 64 := by
 unfold qb
 split
 ·exact Nat.pow_lt_pow_right (by decide) (by omega)
 ·decide
theorem bit_s (m : Nat) (i : Int) : quorum_bit m (nA i) = some (qA (qb i),[]) := by
 rw [quorum_bit_eq]
 by_cases h0 : i < 0
 ·rw [u_lss,show decide (i < 0) = true by simpa using h0,u_condT]
  unfold qb
  rw [if_neg (by omega)]
  rfl
 ·rw [u_lss,show decide (i < 0) = false by simpa using h0,u_condF]
  by_cases h9 : 63 < i
  ·rw [u_gtr,show decide (63 < i) = true by simpa using h9,u_condT]
   unfold qb
   rw [if_neg (by omega)]
   rfl
  ·rw [u_gtr,show decide (63 < i) = false by simpa using h9,u_condF,show (ro [] (nA i)) = nA i from rfl,u_iconv,w_u64 (by omega) (by omega)]
   obtain ⟨n,rfl⟩ : ∃ n : Nat,i = n := ⟨i.toNat,by omega⟩
   have e : qb n = 2 ^ n := by unfold qb;rw [if_pos (by omega)];simp
   have hlt := qb_lt n
   rw [e] at hlt
   rw [u_shl,show min (n : Int).toNat IntKind.u64.bits = n by show min (n : Int).toNat 64 = n;rw [Int.toNat_natCast];omega,show decide (0 ≤ (n : Int)) = true by simp,e]
   rw [show ((1 : Int) * 2 ^ n) = ((2 ^ n : Nat) : Int) by rw [Int.one_mul];norm_cast,wrap_u64n _ hlt]
   rfl
theorem with_s (m s : Nat) (i : Int) (h : s < 2 ^ 64) : quorum_With m (qA s) (nA i) = some (qA (s ||| qb i),[]) := by
 have hb := bit_s m i
 rw [quorum_With_eq]
 rw [show (ro [] (nA i)) = nA i from rfl,hb,q_tell rfl]
 rw [q_or h (qb_lt i)]
 rfl
theorem count_s (m s : Nat) (h : s < 2 ^ 64) : quorum_Count m (qA s) = some (nA (cntS s),[]) := by
 have hb := ones_s m s h
 rw [quorum_Count_eq]
 rw [show (ro [] (qA s)) = qA s from rfl,hb,q_tell rfl]
 rfl
theorem bitw {s : Nat} {i : Int} {j : Nat} (hj : j < 64) : (s ||| qb i).testBit j = (s.testBit j || decide (i = j)) := by
 rw [Nat.testBit_or]
 congr 1
 unfold qb
 split
 ·rw [Nat.testBit_two_pow]
  rw [Bool.eq_iff_iff];simp;omega
 ·rw [Nat.zero_testBit,eq_comm,decide_eq_false_iff_not];omega
end Go.Proofs.Ytaaogcnjfkgnoaa

namespace Go.Proofs.Ytaaogcnjfkgnoaa
open Go.RowKit
def allN (n : Int) : Nat := if n < 1 then 0 else if 63 < n then 2 ^ 64 - 1 else 2 ^ n.toNat - 1
theorem allN_lt (n : Int) : allN n < 2 ^ 64 := by
 unfold allN
 split
 ·decide
 ·split
  ·decide
  ·have : 2 ^ n.toNat < 2 ^ 64 := Nat.pow_lt_pow_right (by decide) (by omega)
   omega
theorem allN_bit {n : Int} {j : Nat} (hj : j < 64) : (allN n).testBit j = decide ((j : Int) < n) := by
 unfold allN
 split
 ·rw [Nat.zero_testBit,eq_comm,decide_eq_false_iff_not];omega
 ·split
  ·rw [Nat.testBit_two_pow_sub_one,decide_eq_decide];omega
  ·rw [Nat.testBit_two_pow_sub_one,decide_eq_decide];omega
theorem q_sub1 {R : Type} {K : AV → Option R} {a : Nat} (h : 1 ≤ a) (ha : a < 2 ^ 64) : binE none false false .sub (qA a) (V (.int .u64 1)) K = K (qA (a - 1)) := by
 rw [u_sub,show ((a : Int) - 1) = ((a - 1 : Nat) : Int) by omega,wrap_u64n _ (by omega)]
theorem all_s (m : Nat) (n : Int) : quorum_All m (nA n) = some (qA (allN n),[]) := by
 have hb := bit_s m n
 rw [quorum_All_eq,show (ro [] (nA n)) = nA n from rfl,hb]
 unfold allN
 by_cases h0 : n < 1
 ·rw [u_lss,show decide (n < 1) = true by simpa using h0,u_condT,if_pos h0]
  rfl
 ·rw [u_lss,show decide (n < 1) = false by simpa using h0,u_condF,if_neg h0]
  by_cases h9 : 63 < n
  ·rw [u_gtr,show decide (63 < n) = true by simpa using h9,u_condT,if_pos h9]
   rfl
  ·have hp : 1 ≤ qb n := by unfold qb;rw [if_pos (by omega)];exact Nat.one_le_two_pow
   rw [u_gtr,show decide (63 < n) = false by simpa using h9,u_condF,if_neg h9,q_tell rfl,q_sub1 hp (qb_lt n)]
   unfold qb
   rw [if_pos (by omega)]
   rfl
def okN (n : Int) : Bool := decide (n.tmod 3 = 1) && !decide (n < 4) && !decide (16 < n)
theorem okN_iff {n : Int} : okN n = true ↔ n = 4 ∨ n = 7 ∨ n = 10 ∨ n = 13 ∨ n = 16 := by
 unfold okN
 simp only [Bool.and_eq_true,decide_eq_true_eq,Bool.not_eq_true',decide_eq_false_iff_not]
 constructor
 ·rintro ⟨⟨h1,h2⟩,h3⟩
  rw [Int.tmod_eq_emod_of_nonneg (by omega)] at h1
  omega
 ·rintro (rfl|rfl|rfl|rfl|rfl) <;> decide
def fN (n : Int) : Nat := if okN n then (n / 3).toNat else 0
theorem fN_le (n : Int) : fN n ≤ 5 := by
 unfold fN
 split
 ·rename_i h;have := okN_iff.1 h;omega
 ·decide
theorem faults_s (m : Nat) (n : Int) : quorum_Faults m (nA n) = some (TU [nA (fN n),nA (if okN n then 0 else 1)],[]) := by
 rw [quorum_Faults_eq]
 unfold fN okN
 by_cases h1 : n.tmod 3 = 1
 ·by_cases h2 : n < 4
  ·simp (config := {maxSteps := 4000000,implicitDefEqProofs := false}) only [go_sem,↓reduceIte,Nat.reduceAdd,Nat.reduceSub,Nat.reduceMul,Nat.reduceLeDiff,Nat.reduceLT,Int.reduceEq,Int.reduceNe,Int.reduceLT,Int.reduceLE,Int.reduceAdd,Int.reduceSub,Int.reduceMul,Int.reduceNeg,Nat.zero_add,Nat.add_zero,Nat.mul_one,Int.toNat_natCast,Int.natCast_zero,Int.cast_ofNat_Int,or_false,false_or,or_true,true_or,Int.reduceToNat,Nat.sub_zero,Int.natCast_nonneg,Int.toNat_zero,Bool.true_and,Bool.and_true,Bool.false_and,Bool.and_false,Bool.true_or,Bool.or_true,Bool.false_or,Bool.or_false,Bool.not_true,Bool.not_false,Bool.not_not,true_and,and_true,false_and,and_false,not_true_eq_false,not_false_eq_true,eq_self,decide_true,decide_false,ne_eq,implies_true,forall_const,true_implies,false_implies,Bool.true_eq_false,Bool.false_eq_true,reduceCtorEq,List.map_cons,List.map_nil,List.all_cons,List.all_nil,List.length_cons,List.length_nil,List.length_map,List.length_append,List.nil_append,List.cons_append,List.set_cons_zero,List.set_cons_succ,List.set_nil,List.drop_zero,List.drop_succ_cons,List.drop_nil,List.take_zero,List.take_succ_cons,List.take_nil,Option.map_some,Option.map_none,Option.isSome_some,Nat.reduceEqDiff,Nat.reduceBEq,Nat.reduceGT,List.all_append,List.all_map,Function.comp_def,decide_eq_true_eq,Bool.and_eq_true,beq_self_eq_true,or_self,and_self,ite_true,ite_false,Nat.le_refl,Bool.not_eq_true,decide_not,Bool.not_eq_true',decide_eq_false_iff_not,Bool.not_eq_false,Bool.or_eq_true,if_true,if_false,ite_self,u_roF,u_cvF,u_cvC,u_ceT,u_ceK,u_appS,h1,h2]
  ·by_cases h3 : 16 < n
   ·simp (config := {maxSteps := 4000000,implicitDefEqProofs := false}) only [go_sem,↓reduceIte,Nat.reduceAdd,Nat.reduceSub,Nat.reduceMul,Nat.reduceLeDiff,Nat.reduceLT,Int.reduceEq,Int.reduceNe,Int.reduceLT,Int.reduceLE,Int.reduceAdd,Int.reduceSub,Int.reduceMul,Int.reduceNeg,Nat.zero_add,Nat.add_zero,Nat.mul_one,Int.toNat_natCast,Int.natCast_zero,Int.cast_ofNat_Int,or_false,false_or,or_true,true_or,Int.reduceToNat,Nat.sub_zero,Int.natCast_nonneg,Int.toNat_zero,Bool.true_and,Bool.and_true,Bool.false_and,Bool.and_false,Bool.true_or,Bool.or_true,Bool.false_or,Bool.or_false,Bool.not_true,Bool.not_false,Bool.not_not,true_and,and_true,false_and,and_false,not_true_eq_false,not_false_eq_true,eq_self,decide_true,decide_false,ne_eq,implies_true,forall_const,true_implies,false_implies,Bool.true_eq_false,Bool.false_eq_true,reduceCtorEq,List.map_cons,List.map_nil,List.all_cons,List.all_nil,List.length_cons,List.length_nil,List.length_map,List.length_append,List.nil_append,List.cons_append,List.set_cons_zero,List.set_cons_succ,List.set_nil,List.drop_zero,List.drop_succ_cons,List.drop_nil,List.take_zero,List.take_succ_cons,List.take_nil,Option.map_some,Option.map_none,Option.isSome_some,Nat.reduceEqDiff,Nat.reduceBEq,Nat.reduceGT,List.all_append,List.all_map,Function.comp_def,decide_eq_true_eq,Bool.and_eq_true,beq_self_eq_true,or_self,and_self,ite_true,ite_false,Nat.le_refl,Bool.not_eq_true,decide_not,Bool.not_eq_true',decide_eq_false_iff_not,Bool.not_eq_false,Bool.or_eq_true,if_true,if_false,ite_self,u_roF,u_cvF,u_cvC,u_ceT,u_ceK,u_appS,h1,h2,h3]
   ·have e : n.tdiv 3 = ((n / 3).toNat : Int) := by rw [Int.tdiv_eq_ediv_of_nonneg (by omega)];omega
    have e2 : IntKind.i64.wrap (n.tdiv 3) = ((n / 3).toNat : Int) := by rw [w_i64 (by omega) (by omega),e]
    simp (config := {maxSteps := 4000000,implicitDefEqProofs := false}) only [go_sem,↓reduceIte,Nat.reduceAdd,Nat.reduceSub,Nat.reduceMul,Nat.reduceLeDiff,Nat.reduceLT,Int.reduceEq,Int.reduceNe,Int.reduceLT,Int.reduceLE,Int.reduceAdd,Int.reduceSub,Int.reduceMul,Int.reduceNeg,Nat.zero_add,Nat.add_zero,Nat.mul_one,Int.toNat_natCast,Int.natCast_zero,Int.cast_ofNat_Int,or_false,false_or,or_true,true_or,Int.reduceToNat,Nat.sub_zero,Int.natCast_nonneg,Int.toNat_zero,Bool.true_and,Bool.and_true,Bool.false_and,Bool.and_false,Bool.true_or,Bool.or_true,Bool.false_or,Bool.or_false,Bool.not_true,Bool.not_false,Bool.not_not,true_and,and_true,false_and,and_false,not_true_eq_false,not_false_eq_true,eq_self,decide_true,decide_false,ne_eq,implies_true,forall_const,true_implies,false_implies,Bool.true_eq_false,Bool.false_eq_true,reduceCtorEq,List.map_cons,List.map_nil,List.all_cons,List.all_nil,List.length_cons,List.length_nil,List.length_map,List.length_append,List.nil_append,List.cons_append,List.set_cons_zero,List.set_cons_succ,List.set_nil,List.drop_zero,List.drop_succ_cons,List.drop_nil,List.take_zero,List.take_succ_cons,List.take_nil,Option.map_some,Option.map_none,Option.isSome_some,Nat.reduceEqDiff,Nat.reduceBEq,Nat.reduceGT,List.all_append,List.all_map,Function.comp_def,decide_eq_true_eq,Bool.and_eq_true,beq_self_eq_true,or_self,and_self,ite_true,ite_false,Nat.le_refl,Bool.not_eq_true,decide_not,Bool.not_eq_true',decide_eq_false_iff_not,Bool.not_eq_false,Bool.or_eq_true,if_true,if_false,ite_self,u_roF,u_cvF,u_cvC,u_ceT,u_ceK,u_appS,h1,h2,h3,e2]
 ·simp (config := {maxSteps := 4000000,implicitDefEqProofs := false}) only [go_sem,↓reduceIte,Nat.reduceAdd,Nat.reduceSub,Nat.reduceMul,Nat.reduceLeDiff,Nat.reduceLT,Int.reduceEq,Int.reduceNe,Int.reduceLT,Int.reduceLE,Int.reduceAdd,Int.reduceSub,Int.reduceMul,Int.reduceNeg,Nat.zero_add,Nat.add_zero,Nat.mul_one,Int.toNat_natCast,Int.natCast_zero,Int.cast_ofNat_Int,or_false,false_or,or_true,true_or,Int.reduceToNat,Nat.sub_zero,Int.natCast_nonneg,Int.toNat_zero,Bool.true_and,Bool.and_true,Bool.false_and,Bool.and_false,Bool.true_or,Bool.or_true,Bool.false_or,Bool.or_false,Bool.not_true,Bool.not_false,Bool.not_not,true_and,and_true,false_and,and_false,not_true_eq_false,not_false_eq_true,eq_self,decide_true,decide_false,ne_eq,implies_true,forall_const,true_implies,false_implies,Bool.true_eq_false,Bool.false_eq_true,reduceCtorEq,List.map_cons,List.map_nil,List.all_cons,List.all_nil,List.length_cons,List.length_nil,List.length_map,List.length_append,List.nil_append,List.cons_append,List.set_cons_zero,List.set_cons_succ,List.set_nil,List.drop_zero,List.drop_succ_cons,List.drop_nil,List.take_zero,List.take_succ_cons,List.take_nil,Option.map_some,Option.map_none,Option.isSome_some,Nat.reduceEqDiff,Nat.reduceBEq,Nat.reduceGT,List.all_append,List.all_map,Function.comp_def,decide_eq_true_eq,Bool.and_eq_true,beq_self_eq_true,or_self,and_self,ite_true,ite_false,Nat.le_refl,Bool.not_eq_true,decide_not,Bool.not_eq_true',decide_eq_false_iff_not,Bool.not_eq_false,Bool.or_eq_true,if_true,if_false,ite_self,u_roF,u_cvF,u_cvC,u_ceT,u_ceK,u_appS,h1]
theorem strong_s (m : Nat) (n : Int) : quorum_Strong m (nA n) = some (nA (if okN n then 2 * (fN n : Int) + 1 else 0),[]) := by
 have h := faults_s m n
 have hl := fN_le n
 rw [quorum_Strong_eq]
 have e1 : IntKind.i64.wrap (2 * (fN n : Int)) = 2 * (fN n : Int) := w_i64 (by omega) (by omega)
 have e2 : IntKind.i64.wrap (2 * (fN n : Int) + 1) = 2 * (fN n : Int) + 1 := w_i64 (by omega) (by omega)
 cases ho : okN n with
 |true=>rw [ho] at h;simp (config := {maxSteps := 4000000,implicitDefEqProofs := false}) only [go_sem,↓reduceIte,Nat.reduceAdd,Nat.reduceSub,Nat.reduceMul,Nat.reduceLeDiff,Nat.reduceLT,Int.reduceEq,Int.reduceNe,Int.reduceLT,Int.reduceLE,Int.reduceAdd,Int.reduceSub,Int.reduceMul,Int.reduceNeg,Nat.zero_add,Nat.add_zero,Nat.mul_one,Int.toNat_natCast,Int.natCast_zero,Int.cast_ofNat_Int,or_false,false_or,or_true,true_or,Int.reduceToNat,Nat.sub_zero,Int.natCast_nonneg,Int.toNat_zero,Bool.true_and,Bool.and_true,Bool.false_and,Bool.and_false,Bool.true_or,Bool.or_true,Bool.false_or,Bool.or_false,Bool.not_true,Bool.not_false,Bool.not_not,true_and,and_true,false_and,and_false,not_true_eq_false,not_false_eq_true,eq_self,decide_true,decide_false,ne_eq,implies_true,forall_const,true_implies,false_implies,Bool.true_eq_false,Bool.false_eq_true,reduceCtorEq,List.map_cons,List.map_nil,List.all_cons,List.all_nil,List.length_cons,List.length_nil,List.length_map,List.length_append,List.nil_append,List.cons_append,List.set_cons_zero,List.set_cons_succ,List.set_nil,List.drop_zero,List.drop_succ_cons,List.drop_nil,List.take_zero,List.take_succ_cons,List.take_nil,Option.map_some,Option.map_none,Option.isSome_some,Nat.reduceEqDiff,Nat.reduceBEq,Nat.reduceGT,List.all_append,List.all_map,Function.comp_def,decide_eq_true_eq,Bool.and_eq_true,beq_self_eq_true,or_self,and_self,ite_true,ite_false,Nat.le_refl,Bool.not_eq_true,decide_not,Bool.not_eq_true',decide_eq_false_iff_not,Bool.not_eq_false,Bool.or_eq_true,if_true,if_false,ite_self,u_roF,u_cvF,u_cvC,u_ceT,u_ceK,u_appS,h,ho,e1,e2]
 |false=>rw [ho] at h;simp (config := {maxSteps := 4000000,implicitDefEqProofs := false}) only [go_sem,↓reduceIte,Nat.reduceAdd,Nat.reduceSub,Nat.reduceMul,Nat.reduceLeDiff,Nat.reduceLT,Int.reduceEq,Int.reduceNe,Int.reduceLT,Int.reduceLE,Int.reduceAdd,Int.reduceSub,Int.reduceMul,Int.reduceNeg,Nat.zero_add,Nat.add_zero,Nat.mul_one,Int.toNat_natCast,Int.natCast_zero,Int.cast_ofNat_Int,or_false,false_or,or_true,true_or,Int.reduceToNat,Nat.sub_zero,Int.natCast_nonneg,Int.toNat_zero,Bool.true_and,Bool.and_true,Bool.false_and,Bool.and_false,Bool.true_or,Bool.or_true,Bool.false_or,Bool.or_false,Bool.not_true,Bool.not_false,Bool.not_not,true_and,and_true,false_and,and_false,not_true_eq_false,not_false_eq_true,eq_self,decide_true,decide_false,ne_eq,implies_true,forall_const,true_implies,false_implies,Bool.true_eq_false,Bool.false_eq_true,reduceCtorEq,List.map_cons,List.map_nil,List.all_cons,List.all_nil,List.length_cons,List.length_nil,List.length_map,List.length_append,List.nil_append,List.cons_append,List.set_cons_zero,List.set_cons_succ,List.set_nil,List.drop_zero,List.drop_succ_cons,List.drop_nil,List.take_zero,List.take_succ_cons,List.take_nil,Option.map_some,Option.map_none,Option.isSome_some,Nat.reduceEqDiff,Nat.reduceBEq,Nat.reduceGT,List.all_append,List.all_map,Function.comp_def,decide_eq_true_eq,Bool.and_eq_true,beq_self_eq_true,or_self,and_self,ite_true,ite_false,Nat.le_refl,Bool.not_eq_true,decide_not,Bool.not_eq_true',decide_eq_false_iff_not,Bool.not_eq_false,Bool.or_eq_true,if_true,if_false,ite_self,u_roF,u_cvF,u_cvC,u_ceT,u_ceK,u_appS,h,ho]
theorem enough_s (m s : Nat) (n k : Int) (h : s < 2 ^ 64) : quorum_enough m (qA s) (nA n) (nA k) = some (bA (decide (0 < k) && decide (k ≤ (cntS (s &&& allN n) : Int))),[]) := by
 have hlt := allN_lt n
 have ha := all_s m n
 have hc := count_s m (s &&& allN n) (Nat.lt_of_le_of_lt Nat.and_le_left h)
 have hb := bits_and_u64_nat s (allN n) h hlt
 rw [quorum_enough_eq]
 by_cases h0 : 0 < k
 ·simp (config := {maxSteps := 4000000,implicitDefEqProofs := false}) only [go_sem,↓reduceIte,Nat.reduceAdd,Nat.reduceSub,Nat.reduceMul,Nat.reduceLeDiff,Nat.reduceLT,Int.reduceEq,Int.reduceNe,Int.reduceLT,Int.reduceLE,Int.reduceAdd,Int.reduceSub,Int.reduceMul,Int.reduceNeg,Nat.zero_add,Nat.add_zero,Nat.mul_one,Int.toNat_natCast,Int.natCast_zero,Int.cast_ofNat_Int,or_false,false_or,or_true,true_or,Int.reduceToNat,Nat.sub_zero,Int.natCast_nonneg,Int.toNat_zero,Bool.true_and,Bool.and_true,Bool.false_and,Bool.and_false,Bool.true_or,Bool.or_true,Bool.false_or,Bool.or_false,Bool.not_true,Bool.not_false,Bool.not_not,true_and,and_true,false_and,and_false,not_true_eq_false,not_false_eq_true,eq_self,decide_true,decide_false,ne_eq,implies_true,forall_const,true_implies,false_implies,Bool.true_eq_false,Bool.false_eq_true,reduceCtorEq,List.map_cons,List.map_nil,List.all_cons,List.all_nil,List.length_cons,List.length_nil,List.length_map,List.length_append,List.nil_append,List.cons_append,List.set_cons_zero,List.set_cons_succ,List.set_nil,List.drop_zero,List.drop_succ_cons,List.drop_nil,List.take_zero,List.take_succ_cons,List.take_nil,Option.map_some,Option.map_none,Option.isSome_some,Nat.reduceEqDiff,Nat.reduceBEq,Nat.reduceGT,List.all_append,List.all_map,Function.comp_def,decide_eq_true_eq,Bool.and_eq_true,beq_self_eq_true,or_self,and_self,ite_true,ite_false,Nat.le_refl,Bool.not_eq_true,decide_not,Bool.not_eq_true',decide_eq_false_iff_not,Bool.not_eq_false,Bool.or_eq_true,if_true,if_false,ite_self,u_roF,u_cvF,u_cvC,u_ceT,u_ceK,u_appS,h0,ha,hc,hb]
 ·simp (config := {maxSteps := 4000000,implicitDefEqProofs := false}) only [go_sem,↓reduceIte,Nat.reduceAdd,Nat.reduceSub,Nat.reduceMul,Nat.reduceLeDiff,Nat.reduceLT,Int.reduceEq,Int.reduceNe,Int.reduceLT,Int.reduceLE,Int.reduceAdd,Int.reduceSub,Int.reduceMul,Int.reduceNeg,Nat.zero_add,Nat.add_zero,Nat.mul_one,Int.toNat_natCast,Int.natCast_zero,Int.cast_ofNat_Int,or_false,false_or,or_true,true_or,Int.reduceToNat,Nat.sub_zero,Int.natCast_nonneg,Int.toNat_zero,Bool.true_and,Bool.and_true,Bool.false_and,Bool.and_false,Bool.true_or,Bool.or_true,Bool.false_or,Bool.or_false,Bool.not_true,Bool.not_false,Bool.not_not,true_and,and_true,false_and,and_false,not_true_eq_false,not_false_eq_true,eq_self,decide_true,decide_false,ne_eq,implies_true,forall_const,true_implies,false_implies,Bool.true_eq_false,Bool.false_eq_true,reduceCtorEq,List.map_cons,List.map_nil,List.all_cons,List.all_nil,List.length_cons,List.length_nil,List.length_map,List.length_append,List.nil_append,List.cons_append,List.set_cons_zero,List.set_cons_succ,List.set_nil,List.drop_zero,List.drop_succ_cons,List.drop_nil,List.take_zero,List.take_succ_cons,List.take_nil,Option.map_some,Option.map_none,Option.isSome_some,Nat.reduceEqDiff,Nat.reduceBEq,Nat.reduceGT,List.all_append,List.all_map,Function.comp_def,decide_eq_true_eq,Bool.and_eq_true,beq_self_eq_true,or_self,and_self,ite_true,ite_false,Nat.le_refl,Bool.not_eq_true,decide_not,Bool.not_eq_true',decide_eq_false_iff_not,Bool.not_eq_false,Bool.or_eq_true,if_true,if_false,ite_self,u_roF,u_cvF,u_cvC,u_ceT,u_ceK,u_appS,h0]
theorem isStrong_s (m s : Nat) (n : Int) (h : s < 2 ^ 64) : quorum_IsStrong m (qA s) (nA n) = some (bA (okN n && decide (2 * (fN n : Int) + 1 ≤ (cntS (s &&& allN n) : Int))),[]) := by
 have h1 := strong_s m n
 have h2 := enough_s m s n (if okN n then 2 * (fN n : Int) + 1 else 0) h
 rw [quorum_IsStrong_eq]
 cases ho : okN n with
 |true =>
  simp only [ho,if_true] at h1 h2
  have h0 : (0 : Int) < 2 * (fN n : Int) + 1 := by omega
  simp (config := {maxSteps := 4000000,implicitDefEqProofs := false}) only [go_sem,↓reduceIte,Nat.reduceAdd,Nat.reduceSub,Nat.reduceMul,Nat.reduceLeDiff,Nat.reduceLT,Int.reduceEq,Int.reduceNe,Int.reduceLT,Int.reduceLE,Int.reduceAdd,Int.reduceSub,Int.reduceMul,Int.reduceNeg,Nat.zero_add,Nat.add_zero,Nat.mul_one,Int.toNat_natCast,Int.natCast_zero,Int.cast_ofNat_Int,or_false,false_or,or_true,true_or,Int.reduceToNat,Nat.sub_zero,Int.natCast_nonneg,Int.toNat_zero,Bool.true_and,Bool.and_true,Bool.false_and,Bool.and_false,Bool.true_or,Bool.or_true,Bool.false_or,Bool.or_false,Bool.not_true,Bool.not_false,Bool.not_not,true_and,and_true,false_and,and_false,not_true_eq_false,not_false_eq_true,eq_self,decide_true,decide_false,ne_eq,implies_true,forall_const,true_implies,false_implies,Bool.true_eq_false,Bool.false_eq_true,reduceCtorEq,List.map_cons,List.map_nil,List.all_cons,List.all_nil,List.length_cons,List.length_nil,List.length_map,List.length_append,List.nil_append,List.cons_append,List.set_cons_zero,List.set_cons_succ,List.set_nil,List.drop_zero,List.drop_succ_cons,List.drop_nil,List.take_zero,List.take_succ_cons,List.take_nil,Option.map_some,Option.map_none,Option.isSome_some,Nat.reduceEqDiff,Nat.reduceBEq,Nat.reduceGT,List.all_append,List.all_map,Function.comp_def,decide_eq_true_eq,Bool.and_eq_true,beq_self_eq_true,or_self,and_self,ite_true,ite_false,Nat.le_refl,Bool.not_eq_true,decide_not,Bool.not_eq_true',decide_eq_false_iff_not,Bool.not_eq_false,Bool.or_eq_true,if_true,if_false,ite_self,u_roF,u_cvF,u_cvC,u_ceT,u_ceK,u_appS,h1,h2,h0]
 |false =>
  simp only [ho,Bool.false_eq_true,if_false] at h1 h2
  simp (config := {maxSteps := 4000000,implicitDefEqProofs := false}) only [go_sem,↓reduceIte,Nat.reduceAdd,Nat.reduceSub,Nat.reduceMul,Nat.reduceLeDiff,Nat.reduceLT,Int.reduceEq,Int.reduceNe,Int.reduceLT,Int.reduceLE,Int.reduceAdd,Int.reduceSub,Int.reduceMul,Int.reduceNeg,Nat.zero_add,Nat.add_zero,Nat.mul_one,Int.toNat_natCast,Int.natCast_zero,Int.cast_ofNat_Int,or_false,false_or,or_true,true_or,Int.reduceToNat,Nat.sub_zero,Int.natCast_nonneg,Int.toNat_zero,Bool.true_and,Bool.and_true,Bool.false_and,Bool.and_false,Bool.true_or,Bool.or_true,Bool.false_or,Bool.or_false,Bool.not_true,Bool.not_false,Bool.not_not,true_and,and_true,false_and,and_false,not_true_eq_false,not_false_eq_true,eq_self,decide_true,decide_false,ne_eq,implies_true,forall_const,true_implies,false_implies,Bool.true_eq_false,Bool.false_eq_true,reduceCtorEq,List.map_cons,List.map_nil,List.all_cons,List.all_nil,List.length_cons,List.length_nil,List.length_map,List.length_append,List.nil_append,List.cons_append,List.set_cons_zero,List.set_cons_succ,List.set_nil,List.drop_zero,List.drop_succ_cons,List.drop_nil,List.take_zero,List.take_succ_cons,List.take_nil,Option.map_some,Option.map_none,Option.isSome_some,Nat.reduceEqDiff,Nat.reduceBEq,Nat.reduceGT,List.all_append,List.all_map,Function.comp_def,decide_eq_true_eq,Bool.and_eq_true,beq_self_eq_true,or_self,and_self,ite_true,ite_false,Nat.le_refl,Bool.not_eq_true,decide_not,Bool.not_eq_true',decide_eq_false_iff_not,Bool.not_eq_false,Bool.or_eq_true,if_true,if_false,ite_self,u_roF,u_cvF,u_cvC,u_ceT,u_ceK,u_appS,h1,h2]
end Go.Proofs.Ytaaogcnjfkgnoaa

namespace Go.Proofs.Ytaaogcnjfkgnoaa
open Go.RowKit
end Go.Proofs.Ytaaogcnjfkgnoaa

namespace Go.Proofs.Ytaaogcnjfkgnoaa
open Go.RowKit
attribute [local go_sem] Nat.zero_add Nat.add_zero Nat.mul_one Int.toNat_natCast Int.natCast_zero Int.cast_ofNat_Int or_false false_or or_true true_or Nat.sub_zero Int.natCast_nonneg Int.toNat_zero Bool.true_and Bool.and_true Bool.false_and Bool.and_false Bool.true_or Bool.or_true Bool.false_or Bool.or_false Bool.not_true Bool.not_false Bool.not_not true_and and_true false_and and_false not_true_eq_false not_false_eq_true eq_self decide_true decide_false ne_eq implies_true forall_const true_implies false_implies Bool.true_eq_false Bool.false_eq_true List.map_cons List.map_nil List.all_cons List.all_nil List.length_cons List.length_nil List.length_map List.length_append List.nil_append List.cons_append List.set_cons_zero List.set_cons_succ List.set_nil List.drop_zero List.drop_succ_cons List.drop_nil List.take_zero List.take_succ_cons List.take_nil Option.map_some Option.map_none Option.isSome_some List.all_append List.all_map Function.comp_def decide_eq_true_eq Bool.and_eq_true beq_self_eq_true or_self and_self ite_true ite_false Nat.le_refl Bool.not_eq_true decide_not Bool.not_eq_true' decide_eq_false_iff_not Bool.not_eq_false Bool.or_eq_true if_true if_false ite_self u_roF u_cvF u_cvC u_ceT u_ceK u_appS sm_it sm_len sm_sure sm_ltA sm_lt1 sm_all1 sm_ro sm_take sm_sl sm_set sm_noT sm_fr sm_st_fr sm_set_fr sm_kd sm_st_kd sm_set_kd sm_vw sm_st_vw sm_set_vw sm_sq sm_st_sq sm_set_sq sm_tm sm_st_tm sm_set_tm zsm_len zsm_sure zsm_lt1 zsm_sl zsm_ro zsm_setz zsm_set zsm_setr zsm_take sms_ltA sms_len ce_it ce_len ce_sure ce_ltA ce_lt1 ce_all1 ce_ro ce_take ce_sl ce_set ce_noT ce_sq ce_st_sq ce_set_sq ce_vw ce_st_vw ce_set_vw ce_tm ce_st_tm ce_set_tm ce_body ce_st_body ce_set_body ce_vs ce_st_vs ce_set_vs zce_len zce_sure zce_lt1 zce_sl zce_ro zce_setz zce_set zce_setr zce_take ces_ltA ces_len cg_it cg_len cg_sure cg_ltA cg_lt1 cg_all1 cg_ro cg_take cg_sl cg_set cg_noT cg_fr cg_st_fr cg_set_fr cg_vw cg_st_vw cg_set_vw cg_st cg_st_st cg_set_st cg_rt cg_st_rt cg_set_rt cg_pf cg_st_pf cg_set_pf cg_cs cg_st_cs cg_set_cs zcg_len zcg_sure zcg_lt1 zcg_sl zcg_ro zcg_setz zcg_set zcg_setr zcg_take cgs_ltA cgs_len ms_it ms_len ms_sure ms_ltA ms_lt1 ms_all1 ms_ro ms_take ms_sl ms_set ms_noT ms_kd ms_st_kd ms_set_kd ms_fr ms_st_fr ms_set_fr ms_vw ms_st_vw ms_set_vw ms_sq ms_st_sq ms_set_sq ms_tm ms_st_tm ms_set_tm ms_body ms_st_body ms_set_body ms_vs ms_st_vs ms_set_vs ms_chs ms_st_chs ms_set_chs zms_len zms_sure zms_lt1 zms_sl zms_ro zms_setz zms_set zms_setr zms_take mss_ltA mss_len co_it co_len co_sure co_ltA co_lt1 co_all1 co_ro co_take co_sl co_set co_noT co_sq co_st_sq co_set_sq co_tm co_st_tm co_set_tm co_body co_st_body co_set_body co_nl co_st_nl co_set_nl zco_len zco_sure zco_lt1 zco_sl zco_ro zco_setz zco_set zco_setr zco_take cos_ltA cos_len sd_it sd_len sd_sure sd_ltA sd_lt1 sd_all1 sd_ro sd_take sd_sl sd_set sd_noT sd_wh sd_st_wh sd_set_wh sd_fr sd_st_fr sd_set_fr sd_kd sd_st_kd sd_set_kd sd_vw sd_st_vw sd_set_vw sd_sq sd_st_sq sd_set_sq sd_tm sd_st_tm sd_set_tm sds_ltA sds_len natInt u_nthM u_bz u_bi1 u_bi2 u_bi3 u_bi4 u_bi5 u_bi6 u_bi7 ltO_o ltO_r List.take_length u_eqE
attribute [local go_sem_proc] Nat.reduceAdd Nat.reduceSub Nat.reduceMul Nat.reduceLeDiff Nat.reduceLT Int.reduceEq Int.reduceNe Int.reduceLT Int.reduceLE Int.reduceAdd Int.reduceSub Int.reduceMul Int.reduceNeg Int.reduceToNat reduceCtorEq Nat.reduceEqDiff Nat.reduceBEq Nat.reduceGT
attribute [local go_sem_proc ↓] reduceIte
theorem zcg_sete {x0 x1 x2 x3 x4 x5 : AV} : setCells zc_api_Change 0 [x0,x1,x2,x3,x4,x5] = [x0,x1,x2,x3,x4,x5] := _root_.id rfl
theorem cgC_it {x0 x1 x2 x3 : Int} {x4 : List Sm} {x5 : List Ce} : cgC ⟨x0,x1,x2,x3,x4,x5⟩ = [nA x0,nA x1,nA x2,nA x3,SL (x4.map smE),SL (x5.map ceE)] := _root_.id rfl
end Go.Proofs.Ytaaogcnjfkgnoaa

namespace Go.Proofs.Ytaaogcnjfkgnoaa
open Go.RowKit
attribute [local go_sem] Nat.zero_add Nat.add_zero Nat.mul_one Int.toNat_natCast Int.natCast_zero Int.cast_ofNat_Int or_false false_or or_true true_or Nat.sub_zero Int.natCast_nonneg Int.toNat_zero Bool.true_and Bool.and_true Bool.false_and Bool.and_false Bool.true_or Bool.or_true Bool.false_or Bool.or_false Bool.not_true Bool.not_false Bool.not_not true_and and_true false_and and_false not_true_eq_false not_false_eq_true eq_self decide_true decide_false ne_eq implies_true forall_const true_implies false_implies Bool.true_eq_false Bool.false_eq_true List.map_cons List.map_nil List.all_cons List.all_nil List.length_cons List.length_nil List.length_map List.length_append List.nil_append List.cons_append List.set_cons_zero List.set_cons_succ List.set_nil List.drop_zero List.drop_succ_cons List.drop_nil List.take_zero List.take_succ_cons List.take_nil Option.map_some Option.map_none Option.isSome_some List.all_append List.all_map Function.comp_def decide_eq_true_eq Bool.and_eq_true beq_self_eq_true or_self and_self ite_true ite_false Nat.le_refl Bool.not_eq_true decide_not Bool.not_eq_true' decide_eq_false_iff_not Bool.not_eq_false Bool.or_eq_true if_true if_false ite_self u_roF u_cvF u_cvC u_ceT u_ceK u_appS sm_it sm_len sm_sure sm_ltA sm_lt1 sm_all1 sm_ro sm_take sm_sl sm_set sm_noT sm_fr sm_st_fr sm_set_fr sm_kd sm_st_kd sm_set_kd sm_vw sm_st_vw sm_set_vw sm_sq sm_st_sq sm_set_sq sm_tm sm_st_tm sm_set_tm zsm_len zsm_sure zsm_lt1 zsm_sl zsm_ro zsm_setz zsm_set zsm_setr zsm_take sms_ltA sms_len ce_it ce_len ce_sure ce_ltA ce_lt1 ce_all1 ce_ro ce_take ce_sl ce_set ce_noT ce_sq ce_st_sq ce_set_sq ce_vw ce_st_vw ce_set_vw ce_tm ce_st_tm ce_set_tm ce_body ce_st_body ce_set_body ce_vs ce_st_vs ce_set_vs zce_len zce_sure zce_lt1 zce_sl zce_ro zce_setz zce_set zce_setr zce_take ces_ltA ces_len cg_it cg_len cg_sure cg_ltA cg_lt1 cg_all1 cg_ro cg_take cg_sl cg_set cg_noT cg_fr cg_st_fr cg_set_fr cg_vw cg_st_vw cg_set_vw cg_st cg_st_st cg_set_st cg_rt cg_st_rt cg_set_rt cg_pf cg_st_pf cg_set_pf cg_cs cg_st_cs cg_set_cs zcg_len zcg_sure zcg_lt1 zcg_sl zcg_ro zcg_setz zcg_set zcg_setr zcg_take cgs_ltA cgs_len ms_it ms_len ms_sure ms_ltA ms_lt1 ms_all1 ms_ro ms_take ms_sl ms_set ms_noT ms_kd ms_st_kd ms_set_kd ms_fr ms_st_fr ms_set_fr ms_vw ms_st_vw ms_set_vw ms_sq ms_st_sq ms_set_sq ms_tm ms_st_tm ms_set_tm ms_body ms_st_body ms_set_body ms_vs ms_st_vs ms_set_vs ms_chs ms_st_chs ms_set_chs zms_len zms_sure zms_lt1 zms_sl zms_ro zms_setz zms_set zms_setr zms_take mss_ltA mss_len co_it co_len co_sure co_ltA co_lt1 co_all1 co_ro co_take co_sl co_set co_noT co_sq co_st_sq co_set_sq co_tm co_st_tm co_set_tm co_body co_st_body co_set_body co_nl co_st_nl co_set_nl zco_len zco_sure zco_lt1 zco_sl zco_ro zco_setz zco_set zco_setr zco_take cos_ltA cos_len sd_it sd_len sd_sure sd_ltA sd_lt1 sd_all1 sd_ro sd_take sd_sl sd_set sd_noT sd_wh sd_st_wh sd_set_wh sd_fr sd_st_fr sd_set_fr sd_kd sd_st_kd sd_set_kd sd_vw sd_st_vw sd_set_vw sd_sq sd_st_sq sd_set_sq sd_tm sd_st_tm sd_set_tm sds_ltA sds_len natInt u_nthM u_bz u_bi1 u_bi2 u_bi3 u_bi4 u_bi5 u_bi6 u_bi7 bC_length ltO_o ltO_r List.take_length u_eqE
attribute [local go_sem_proc] Nat.reduceAdd Nat.reduceSub Nat.reduceMul Nat.reduceLeDiff Nat.reduceLT Int.reduceEq Int.reduceNe Int.reduceLT Int.reduceLE Int.reduceAdd Int.reduceSub Int.reduceMul Int.reduceNeg Int.reduceToNat reduceCtorEq Nat.reduceEqDiff Nat.reduceBEq Nat.reduceGT
attribute [local go_sem_proc ↓] reduceIte
def txF (s : List UInt8) : List UInt8 := if 3000 < s.length ∧ s.length ≤ 65536 then s.take 3000 else if 65540 < s.length then s.take 65540 else s
def ceF (x : Ce) : Ce := { x with body := txF x.body,vs := x.vs.take 66 }
def cgF (x : Ch) : Ch := { x with pf := x.pf.take 66,cs := (x.cs.take 66).map ceF }
theorem ltext_s (m : Nat) (s : List UInt8) (h : s.length ≤ 9223372036854775807) : plenumlaw28_text m (sA s) = some (sA (txF s),[]) := by
 rw [plenumlaw28_text_eq]
 unfold txF
 by_cases h1 : 3000 < s.length
 ·have h1' : (s.length : Int) > 3000 := by omega
  by_cases h2 : s.length ≤ 65536
  ·have h2' : (s.length : Int) ≤ 65536 := by omega
   have h3' : (3000 : Int) ≤ (s.length : Int) := by omega
   simp (config := {maxSteps := 4000000,implicitDefEqProofs := false}) (disch := omega) only [go_sem,h1,h2,h1',h2',h3',plenumlaw28_text_r2_eq,plenumlaw28_text_r1_eq]
  ·have h2' : ¬ (s.length : Int) ≤ 65536 := by omega
   by_cases h4 : 65540 < s.length
   ·have h4' : (s.length : Int) > 65540 := by omega
    have h3' : (65540 : Int) ≤ (s.length : Int) := by omega
    simp (config := {maxSteps := 4000000,implicitDefEqProofs := false}) (disch := omega) only [go_sem,h1,h2,h1',h2',h4,h4',h3',plenumlaw28_text_r2_eq,plenumlaw28_text_r1_eq]
   ·have h4' : ¬ (s.length : Int) > 65540 := by omega
    simp (config := {maxSteps := 4000000,implicitDefEqProofs := false}) (disch := omega) only [go_sem,h1,h2,h1',h2',h4,h4',plenumlaw28_text_r2_eq,plenumlaw28_text_r1_eq]
 ·have h1' : ¬ (s.length : Int) > 3000 := by omega
  have h4 : ¬ 65540 < s.length := by omega
  have h4' : ¬ (s.length : Int) > 65540 := by omega
  simp (config := {maxSteps := 4000000,implicitDefEqProofs := false}) (disch := omega) only [go_sem,h1,h1',h4,h4',plenumlaw28_text_r2_eq,plenumlaw28_text_r1_eq]
theorem cutM {α : Type} {f : α → AV} {l : List α} {n : Nat} : cutE (l.map f) 0 n = (l.take n).map f := by
 unfold cutE
 simp [List.map_take]
theorem cutM66 {α : Type} {f : α → AV} {l : List α} : cutE (l.map f) 0 66 = (l.take 66).map f := cutM (n := 66)
theorem lstmts_s (m : Nat) (l : List Sm) (h : l.length ≤ 9223372036854775807) : plenumlaw28_stmts m (SL (l.map smE)) = some (SL ((l.take 66).map smE),[]) := by
 rw [plenumlaw28_stmts_eq]
 by_cases h1 : 66 < l.length
 ·have h1' : (l.length : Int) > 66 := by omega
  have h3' : (66 : Int) ≤ (l.length : Int) := by omega
  simp (config := {maxSteps := 4000000,implicitDefEqProofs := false}) (disch := omega) only [go_sem,h1',h3',cutM66]
 ·have h1' : ¬ (l.length : Int) > 66 := by omega
  rw [List.take_of_length_le (show l.length ≤ 66 by omega)]
  simp (config := {maxSteps := 4000000,implicitDefEqProofs := false}) (disch := omega) only [go_sem,h1']
theorem ceF_it {x : Ce} : ceC ⟨x.sq,x.vw,x.tm,txF x.body,x.vs.take 66⟩ = ceC (ceF x) := rfl
theorem ro1_2 {A0 A1 : AObj} {e z m : Nat} {c : List AV} {Y : List AObj} : ro1 (A0 :: A1 :: ⟨2,e,z,c⟩ :: Y) (OW 2 m) = if m = c.length then SL c else OW 2 m := by simp [ro1]
theorem fewC1 (m : Nat) (x0 x1 x2 x3 : Int) (pf : List Sm) (cs : List Ce) (hm : 70 < m) (hc : cs.length ≤ 66) (hv : ∀ y ∈ cs,y.body.length ≤ 9223372036854775807 ∧ y.vs.length ≤ 9223372036854775807) :
  plenumlaw28_FewChange_r1 m ⟨[⟨1,ty_api_Change,0,[nA x0,nA x1,nA x2,nA x3,SL (pf.map smE),SL (cs.map ceE)]⟩,⟨1,ty_api_Change,0,zc_api_Change⟩],[(1,OP 0 0),(2,OP 1 0)]⟩ = some (.agg (cgC ⟨x0,x1,x2,x3,pf,cs.map ceF⟩),[]) := by
 rw [plenumlaw28_FewChange_r1_eq,cgC_it]
 simp (config := {maxSteps := 4000000,implicitDefEqProofs := false}) (disch := omega) only [go_sem,]
 refine iter_go (m := m) (ι := {k : Nat // k ≤ cs.length}) (fun k=>⟨[⟨1,ty_api_Change,0,[nA x0,nA x1,nA x2,nA x3,SL (pf.map smE),SL (cs.map ceE)]⟩,⟨1,ty_api_Change,0,zc_api_Change⟩,⟨2,ty_api_Cert,5,((cs.take k.1).map ceF).map ceE⟩],[(1,OP 0 0),(2,OP 1 0),(3,OW 2 k.1),(4,nA k.1)]⟩) (fun k=>cs.length - k.1) (fun _=>some (DataW.agg [nA x0,nA x1,nA x2,nA x3,SL (pf.map smE),SL ((cs.map ceF).map ceE)],[])) ?_ ⟨0,Nat.zero_le _⟩ (by dsimp only;omega)
 rintro kx hkx ⟨k,hk⟩ kc hkc
 dsimp only at hkc ⊢
 rw [plenumlaw28_FewChange_b1_eq]
 have hxs : ∀ n,(((cs.take k).map ceF).map ceE).all (ltA n) = true := fun n=>by rw [List.all_map];exact ces_ltA
 have hlen : (((cs.take k).map ceF).map ceE).length = k := by simp;omega
 by_cases hlt : k < cs.length
 ·have hlt' : (k : Int) < (cs.length : Int) := by omega
  obtain ⟨v1,v2⟩ := hv cs[k] (List.getElem_mem hlt)
  have g1 := ltext_s m cs[k].body v1
  have g2 := lstmts_s m cs[k].vs v2
  have step := hkc ⟨k + 1,by omega⟩ (by dsimp only;omega)
  dsimp only at step
  rw [List.take_succ_eq_append_getElem hlt] at step
  simp only [List.map_append,List.map_cons,List.map_nil,ce_it] at step
  generalize hX : ((cs.take k).map ceF).map ceE = XS at *
  have hroom : k + 1 ≤ 34359738368 := by omega
  simp (config := {maxSteps := 4000000,implicitDefEqProofs := false}) (disch := omega) only [go_sem,hlt',g1,g2,ceF_it,hxs,hlen,hroom,w_i64,plenumlaw28_FewChange_r2_eq,plenumlaw28_FewChange_r1_eq]
  exact step
 ·obtain rfl : k = cs.length := by omega
  have hlt' : ¬ (cs.length : Int) < (cs.length : Int) := Int.lt_irrefl _
  have hk2 : cs.take cs.length = cs := List.take_of_length_le (Nat.le_refl _)
  rw [hk2] at hxs ⊢
  simp (config := {maxSteps := 4000000,implicitDefEqProofs := false}) (disch := omega) only [go_sem,hlt',hkx,hxs,zcg_sete,ro1_2,plenumlaw28_FewChange_r2_eq,plenumlaw28_FewChange_r1_eq]
theorem fewChange_s (m : Nat) (x : Ch) (hm : 70 < m) (hp : x.pf.length ≤ 9223372036854775807) (hc : x.cs.length ≤ 9223372036854775807) (hv : ∀ y ∈ x.cs,y.body.length ≤ 9223372036854775807 ∧ y.vs.length ≤ 9223372036854775807) : plenumlaw28_FewChange m (cgE x) = some (cgE (cgF x),[]) := by
 obtain ⟨x0,x1,x2,x3,pf,cs⟩ := x
 dsimp only at hp hc hv
 have g1 := lstmts_s m pf hp
 rw [plenumlaw28_FewChange_eq,cg_it,cg_it,cgC_it]
 unfold cgF
 dsimp only
 by_cases h1 : 66 < cs.length
 ·have h1' : (cs.length : Int) > 66 := by omega
  have h3' : (66 : Int) ≤ (cs.length : Int) := by omega
  have hF := fewC1 m x0 x1 x2 x3 (pf.take 66) (cs.take 66) hm (by simp;omega) (fun y hy=>hv y (List.mem_of_mem_take hy))
  simp (config := {maxSteps := 4000000,implicitDefEqProofs := false}) (disch := omega) only [go_sem,g1,h1',h3',cutM66,hF]
 ·have h1' : ¬ (cs.length : Int) > 66 := by omega
  have hF := fewC1 m x0 x1 x2 x3 (pf.take 66) cs hm (by omega) hv
  rw [List.take_of_length_le (show cs.length ≤ 66 by omega)]
  simp (config := {maxSteps := 4000000,implicitDefEqProofs := false}) (disch := omega) only [go_sem,g1,h1',hF]
def BigC (x : Ch) : Prop := x.pf.length ≤ 9223372036854775807 ∧ x.cs.length ≤ 9223372036854775807 ∧ ∀ y ∈ x.cs,y.body.length ≤ 9223372036854775807 ∧ y.vs.length ≤ 9223372036854775807
def BigM (x : Ms) : Prop := x.body.length ≤ 9223372036854775807 ∧ x.vs.length ≤ 9223372036854775807 ∧ x.chs.length ≤ 9223372036854775807 ∧ ∀ y ∈ x.chs,BigC y
end Go.Proofs.Ytaaogcnjfkgnoaa

namespace Go.Proofs.Ytaaogcnjfkgnoaa
open Go.RowKit
noncomputable def ItA_c : Code := farC 1 (endC 0 ((Try.f93.body).getD .skip)) .skip
def ItA_h : Hint := (.two .n .n)
noncomputable def ItA_env (m : Nat) : Env := []
noncomputable abbrev ItA_fin (n0 : Nat) : KO (AV × List AObj) := nslFK [0,7,8,9]
noncomputable def ItA (m : Nat) (D : List Deferred) (t0 t1 : AV) (H : List AObj) : RO := exec Try.prog GG (ItA_env m) m ⟨26,D⟩ ItA_c ItA_h ⟨H,[(0,t0),(1,t1)]⟩ (ItA_fin H.length)
theorem ItA_eq (m : Nat) (D : List Deferred) (t0 t1 : AV) (H : List AObj) : ItA m D t0 t1 H =
 loadE 1 H t1 fun t7 =>
 lenE false true H t7 fun t8 =>
 some (TU [t0,t7,t8,(V (.int .i64 0))],H) := by
 refine (nslX _ _ _ _ _ _ _ _ _).trans ?_
 kernel_rfl
theorem ItA_hE (m : Nat) : EnvOk Try.prog GG (ItA_env m) := (by intro f e h;cases h)
end Go.Proofs.Ytaaogcnjfkgnoaa

namespace Go.Proofs.Ytaaogcnjfkgnoaa
open Go.RowKit
noncomputable def ItB_c : Code := (cdL (cdL (cdL (endC 1 ((Try.f93.body).getD .skip)))))
def ItB_h : Hint := .n
noncomputable def ItB_env (m : Nat) : Env := []
noncomputable abbrev ItB_fin (n0 : Nat) : KO (AV × List AObj) := nslFK [0,7,8,9,10]
noncomputable def ItB (m : Nat) (D : List Deferred) (t0 t7 t8 t9 : AV) (H : List AObj) : RO := exec Try.prog GG (ItB_env m) m ⟨26,D⟩ ItB_c ItB_h ⟨H,[(0,t0),(7,t7),(8,t8),(9,t9)]⟩ (ItB_fin H.length)
theorem ItB_eq (m : Nat) (D : List Deferred) (t0 t7 t8 t9 : AV) (H : List AObj) : ItB m D t0 t7 t8 t9 H =
 binE none false false .lss t9 t8 fun t10 =>
 some (TU [t0,t7,t8,t9,t10],H) := by
 refine (nslX _ _ _ _ _ _ _ _ _).trans ?_
 kernel_rfl
theorem ItB_hE (m : Nat) : EnvOk Try.prog GG (ItB_env m) := (by intro f e h;cases h)
end Go.Proofs.Ytaaogcnjfkgnoaa

namespace Go.Proofs.Ytaaogcnjfkgnoaa
open Go.RowKit
noncomputable def ItC_c : Code := (cdL (cdL (cdL (cdR (cdR (cdL (cdL (endC 1 ((Try.f93.body).getD .skip)))))))))
def ItC_h : Hint := .n
noncomputable def ItC_env (m : Nat) : Env := []
noncomputable abbrev ItC_fin (n0 : Nat) : KO (AV × List AObj) := nslFK [0,4,7,8,9]
noncomputable def ItC (m : Nat) (D : List Deferred) (t0 t7 t8 t9 : AV) (H : List AObj) : RO := exec Try.prog GG (ItC_env m) m ⟨26,D⟩ ItC_c ItC_h ⟨H,[(0,t0),(7,t7),(8,t8),(9,t9)]⟩ (ItC_fin H.length)
theorem ItC_eq (m : Nat) (D : List Deferred) (t0 t7 t8 t9 : AV) (H : List AObj) : ItC m D t0 t7 t8 t9 H =
 idxSE 8 H t7 t9 fun t11 =>
 loadE 8 H t11 fun t12 =>
 allocE (some zc_api_Change) ty_api_Change H fun t4 H2 =>
 storeE 8 H2 t4 t12 fun H3 =>
 some (TU [t0,t4,t7,t8,t9],H3) := by
 refine (nslX _ _ _ _ _ _ _ _ _).trans ?_
 kernel_rfl
theorem ItC_hE (m : Nat) : EnvOk Try.prog GG (ItC_env m) := (by intro f e h;cases h)
end Go.Proofs.Ytaaogcnjfkgnoaa

namespace Go.Proofs.Ytaaogcnjfkgnoaa
open Go.RowKit
noncomputable def ItD_c : Code := (cdL (cdR (cdL (cdL (cdR (cdR (cdL (cdL (endC 1 ((Try.f93.body).getD .skip))))))))))
def ItD_h : Hint := .n
noncomputable def ItD_env (m : Nat) : Env := []
noncomputable abbrev ItD_fin (n0 : Nat) : KO (AV × List AObj) := nslFK [0,7,8,9,14,15,16]
noncomputable def ItD (m : Nat) (D : List Deferred) (t0 t4 t7 t8 t9 : AV) (H : List AObj) : RO := exec Try.prog GG (ItD_env m) m ⟨26,D⟩ ItD_c ItD_h ⟨H,[(0,t0),(4,t4),(7,t7),(8,t8),(9,t9)]⟩ (ItD_fin H.length)
theorem ItD_eq (m : Nat) (D : List Deferred) (t0 t4 t7 t8 t9 : AV) (H : List AObj) : ItD m D t0 t4 t7 t8 t9 H =
 fieldE (some (5,1)) t4 fun t13 =>
 loadE 1 H t13 fun t14 =>
 lenE false true H t14 fun t15 =>
 some (TU [t0,t7,t8,t9,t14,t15,(V (.int .i64 0))],H) := by
 refine (nslX _ _ _ _ _ _ _ _ _).trans ?_
 kernel_rfl
theorem ItD_hE (m : Nat) : EnvOk Try.prog GG (ItD_env m) := (by intro f e h;cases h)
end Go.Proofs.Ytaaogcnjfkgnoaa

namespace Go.Proofs.Ytaaogcnjfkgnoaa
open Go.RowKit
noncomputable def ItE_c : Code := (cdL (cdL (cdL (cdR (cdR (cdL (cdL (cdR (cdR (cdL (cdL (endC 1 ((Try.f93.body).getD .skip)))))))))))))
def ItE_h : Hint := .n
noncomputable def ItE_env (m : Nat) : Env := []
noncomputable abbrev ItE_fin (n0 : Nat) : KO (AV × List AObj) := nslFK [0,7,8,9,14,15,16,17]
noncomputable def ItE (m : Nat) (D : List Deferred) (t0 t7 t8 t9 t14 t15 t16 : AV) (H : List AObj) : RO := exec Try.prog GG (ItE_env m) m ⟨26,D⟩ ItE_c ItE_h ⟨H,[(0,t0),(7,t7),(8,t8),(9,t9),(14,t14),(15,t15),(16,t16)]⟩ (ItE_fin H.length)
theorem ItE_eq (m : Nat) (D : List Deferred) (t0 t7 t8 t9 t14 t15 t16 : AV) (H : List AObj) : ItE m D t0 t7 t8 t9 t14 t15 t16 H =
 binE none false false .lss t16 t15 fun t17 =>
 some (TU [t0,t7,t8,t9,t14,t15,t16,t17],H) := by
 refine (nslX _ _ _ _ _ _ _ _ _).trans ?_
 kernel_rfl
theorem ItE_hE (m : Nat) : EnvOk Try.prog GG (ItE_env m) := (by intro f e h;cases h)
end Go.Proofs.Ytaaogcnjfkgnoaa

namespace Go.Proofs.Ytaaogcnjfkgnoaa
open Go.RowKit
noncomputable def ItF_c : Code := (cdL (cdL (cdL (cdR (cdR (cdL (cdL (cdR (cdR (cdL (cdL (cdR (cdR (cdL (cdL (endC 1 ((Try.f93.body).getD .skip)))))))))))))))))
def ItF_h : Hint := .n
noncomputable def ItF_env (m : Nat) : Env := []
noncomputable abbrev ItF_fin (n0 : Nat) : KO (AV × List AObj) := nslFK [0,6,7,8,9,14,15,16]
noncomputable def ItF (m : Nat) (D : List Deferred) (t0 t7 t8 t9 t14 t15 t16 : AV) (H : List AObj) : RO := exec Try.prog GG (ItF_env m) m ⟨26,D⟩ ItF_c ItF_h ⟨H,[(0,t0),(7,t7),(8,t8),(9,t9),(14,t14),(15,t15),(16,t16)]⟩ (ItF_fin H.length)
theorem ItF_eq (m : Nat) (D : List Deferred) (t0 t7 t8 t9 t14 t15 t16 : AV) (H : List AObj) : ItF m D t0 t7 t8 t9 t14 t15 t16 H =
 idxSE 7 H t14 t16 fun t18 =>
 loadE 7 H t18 fun t19 =>
 allocE (some zc_api_Cert) ty_api_Cert H fun t6 H2 =>
 storeE 7 H2 t6 t19 fun H3 =>
 some (TU [t0,t6,t7,t8,t9,t14,t15,t16],H3) := by
 refine (nslX _ _ _ _ _ _ _ _ _).trans ?_
 kernel_rfl
theorem ItF_hE (m : Nat) : EnvOk Try.prog GG (ItF_env m) := (by intro f e h;cases h)
end Go.Proofs.Ytaaogcnjfkgnoaa

namespace Go.Proofs.Ytaaogcnjfkgnoaa
open Go.RowKit
noncomputable def ItG_c : Code := (regP 2 (cdL (cdR (cdL (cdL (cdR (cdR (cdL (cdL (cdR (cdR (cdL (cdL (cdR (cdR (cdL (cdL (endC 1 ((Try.f93.body).getD .skip)))))))))))))))))))
def ItG_h : Hint := .n
noncomputable def ItG_env (m : Nat) : Env := []
noncomputable abbrev ItG_fin (n0 : Nat) : KO (AV × List AObj) := nslFK [0,7,8,9,14,15,16,20,21]
noncomputable def ItG (m : Nat) (D : List Deferred) (t0 t6 t7 t8 t9 t14 t15 t16 : AV) (H : List AObj) : RO := exec Try.prog GG (ItG_env m) m ⟨26,D⟩ ItG_c ItG_h ⟨H,[(0,t0),(6,t6),(7,t7),(8,t8),(9,t9),(14,t14),(15,t15),(16,t16)]⟩ (ItG_fin H.length)
theorem ItG_eq (m : Nat) (D : List Deferred) (t0 t6 t7 t8 t9 t14 t15 t16 : AV) (H : List AObj) : ItG m D t0 t6 t7 t8 t9 t14 t15 t16 H =
 loadE 7 H t6 fun t21 =>
 some (TU [t0,t7,t8,t9,t14,t15,t16,t0,t21],H) := by
 refine (nslX _ _ _ _ _ _ _ _ _).trans ?_
 kernel_rfl
theorem ItG_hE (m : Nat) : EnvOk Try.prog GG (ItG_env m) := (by intro f e h;cases h)
end Go.Proofs.Ytaaogcnjfkgnoaa

namespace Go.Proofs.Ytaaogcnjfkgnoaa
open Go.RowKit
noncomputable def ItH_c : Code := (regD 3 (cdL (cdR (cdL (cdL (cdR (cdR (cdL (cdL (cdR (cdR (cdL (cdL (cdR (cdR (cdL (cdL (endC 1 ((Try.f93.body).getD .skip)))))))))))))))))))
def ItH_h : Hint := .n
noncomputable def ItH_env (m : Nat) : Env := []
noncomputable abbrev ItH_fin (n0 : Nat) : KO (AV × List AObj) := nslFK [0,7,8,9,14,15,16,23]
noncomputable def ItH (m : Nat) (D : List Deferred) (t0 t7 t8 t9 t14 t15 t16 t22 : AV) (H : List AObj) : RO := exec Try.prog GG (ItH_env m) m ⟨26,D⟩ ItH_c ItH_h ⟨H,[(0,t0),(7,t7),(8,t8),(9,t9),(14,t14),(15,t15),(16,t16),(22,t22)]⟩ (ItH_fin H.length)
theorem ItH_eq (m : Nat) (D : List Deferred) (t0 t7 t8 t9 t14 t15 t16 t22 : AV) (H : List AObj) : ItH m D t0 t7 t8 t9 t14 t15 t16 t22 H =
 unE .not t22 fun t23 =>
 some (TU [t0,t7,t8,t9,t14,t15,t16,t23],H) := by
 refine (nslX _ _ _ _ _ _ _ _ _).trans ?_
 kernel_rfl
theorem ItH_hE (m : Nat) : EnvOk Try.prog GG (ItH_env m) := (by intro f e h;cases h)
end Go.Proofs.Ytaaogcnjfkgnoaa

namespace Go.Proofs.Ytaaogcnjfkgnoaa
open Go.RowKit
noncomputable def ItI_c : Code := (cdR (cdR (cdR (cdL (cdL (cdR (cdR (cdL (cdL (cdR (cdR (cdL (cdL (endC 1 ((Try.f93.body).getD .skip)))))))))))))))
def ItI_h : Hint := .n
noncomputable def ItI_env (m : Nat) : Env := []
noncomputable abbrev ItI_fin (n0 : Nat) : KO (AV × List AObj) := nslFK [0,7,8,9,14,15,16]
noncomputable def ItI (m : Nat) (D : List Deferred) (t0 t7 t8 t9 t14 t15 t16 : AV) (H : List AObj) : RO := exec Try.prog GG (ItI_env m) m ⟨26,D⟩ ItI_c ItI_h ⟨H,[(0,t0),(7,t7),(8,t8),(9,t9),(14,t14),(15,t15),(16,t16)]⟩ (ItI_fin H.length)
theorem ItI_eq (m : Nat) (D : List Deferred) (t0 t7 t8 t9 t14 t15 t16 : AV) (H : List AObj) : ItI m D t0 t7 t8 t9 t14 t15 t16 H =
 binE none false false .add t16 (V (.int .i64 1)) fun t24 =>
 some (TU [t0,t7,t8,t9,t14,t15,t24],H) := by
 refine (nslX _ _ _ _ _ _ _ _ _).trans ?_
 kernel_rfl
theorem ItI_hE (m : Nat) : EnvOk Try.prog GG (ItI_env m) := (by intro f e h;cases h)
end Go.Proofs.Ytaaogcnjfkgnoaa

namespace Go.Proofs.Ytaaogcnjfkgnoaa
open Go.RowKit
noncomputable def ItJ_c : Code := (cdR (cdR (cdR (cdL (cdL (endC 1 ((Try.f93.body).getD .skip)))))))
def ItJ_h : Hint := .n
noncomputable def ItJ_env (m : Nat) : Env := []
noncomputable abbrev ItJ_fin (n0 : Nat) : KO (AV × List AObj) := nslFK [0,7,8,9]
noncomputable def ItJ (m : Nat) (D : List Deferred) (t0 t7 t8 t9 : AV) (H : List AObj) : RO := exec Try.prog GG (ItJ_env m) m ⟨26,D⟩ ItJ_c ItJ_h ⟨H,[(0,t0),(7,t7),(8,t8),(9,t9)]⟩ (ItJ_fin H.length)
theorem ItJ_eq (m : Nat) (D : List Deferred) (t0 t7 t8 t9 : AV) (H : List AObj) : ItJ m D t0 t7 t8 t9 H =
 binE none false false .add t9 (V (.int .i64 1)) fun t25 =>
 some (TU [t0,t7,t8,t25],H) := by
 refine (nslX _ _ _ _ _ _ _ _ _).trans ?_
 kernel_rfl
theorem ItJ_hE (m : Nat) : EnvOk Try.prog GG (ItJ_env m) := (by intro f e h;cases h)
end Go.Proofs.Ytaaogcnjfkgnoaa

namespace Go.Proofs.Ytaaogcnjfkgnoaa
open Go.RowKit
def ty_func_api_Cert_ : TypeId := 147
def zc_func_api_Cert_ : List AV := [(V .nilFunc)]
def zc_int : List AV := [(V (.int .i64 0))]
noncomputable def AtA_c : Code := farC 4 (endC 0 ((Try.f78.body).getD .skip)) .skip
def AtA_h : Hint := (.two .n (.two .n (.two .n (.two .n .n))))
noncomputable def AtA_env (m : Nat) : Env := []
noncomputable abbrev AtA_fin (n0 : Nat) : KO (AV × List AObj) := nslFK [0,3,4,5,6,7]
noncomputable def AtA (m : Nat) (D : List Deferred) (t0 t1 : AV) (H : List AObj) : RO := exec Try.prog GG (AtA_env m) m ⟨19,D⟩ AtA_c AtA_h ⟨H,[(0,t0),(1,t1)]⟩ (AtA_fin H.length)
theorem AtA_eq (m : Nat) (D : List Deferred) (t0 t1 : AV) (H : List AObj) : AtA m D t0 t1 H =
 boxE ty_int H t1 fun t3 H2 =>
 allocE (some zc_api_Choice) ty_api_Choice H2 fun t4 H3 =>
 loadE 1 H3 t3 fun t9 =>
 buildE (some pl_api_Choice) (some zc_api_Choice) [(0,t9),(3,(V (.bool true)))] fun t10 =>
 allocE (some zc_api_Choice) ty_api_Choice H3 fun t5 H4 =>
 storeE 6 H4 t5 t10 fun H5 =>
 allocE (some zc_int) ty_int H5 fun t6 H6 =>
 storeE 1 H6 t6 (V (.int .i64 (-1))) fun H7 =>
 whenE (([t3,t6,t5] : List AV).all cap0) (
 allocE (some zc_func_api_Cert_) ty_func_api_Cert_ H7 fun t7 H8 =>
 storeE 1 H8 t7 (CL (.func 94) 0 [t3,t6,t5]) fun H9 =>
 some (TU [t0,t3,t4,t5,t6,t7],H9)) := by
 refine (nslX _ _ _ _ _ _ _ _ _).trans ?_
 kernel_rfl
theorem AtA_hE (m : Nat) : EnvOk Try.prog GG (AtA_env m) := (by intro f e h;cases h)
end Go.Proofs.Ytaaogcnjfkgnoaa

namespace Go.Proofs.Ytaaogcnjfkgnoaa
open Go.RowKit
noncomputable def AtB_c : Code := (cdL (cdL (endC 4 ((Try.f78.body).getD .skip))))
def AtB_h : Hint := .n
noncomputable def AtB_env (m : Nat) : Env := [(77, .keep (choose_all_t m))]
noncomputable abbrev AtB_fin (n0 : Nat) : KO (AV × List AObj) := nslFK [3,4,5,6,7,13]
noncomputable def AtB (m : Nat) (D : List Deferred) (t0 t3 t4 t5 t6 t7 : AV) (H : List AObj) : RO := exec Try.prog GG (AtB_env m) m ⟨19,D⟩ AtB_c AtB_h ⟨H,[(0,t0),(3,t3),(4,t4),(5,t5),(6,t6),(7,t7)]⟩ (AtB_fin H.length)
theorem AtB_eq (m : Nat) (D : List Deferred) (t0 t3 t4 t5 t6 t7 : AV) (H : List AObj) : AtB m D t0 t3 t4 t5 t6 t7 H =
 keepE (choose_all m (ro H t0) H) fun t13 H2 =>
 some (TU [t3,t4,t5,t6,t7,t13],H2) := by
 refine (nslX _ _ _ _ _ _ _ _ _).trans ?_
 kernel_rfl
theorem AtB_hE (m : Nat) : EnvOk Try.prog GG (AtB_env m) := (by
 intro f e h
 simp only [AtB_env,Prod.mk.injEq,List.mem_cons,List.not_mem_nil,or_false] at h
 obtain ⟨rfl,rfl⟩ := h
 ·exact choose_all_ok m)
end Go.Proofs.Ytaaogcnjfkgnoaa

namespace Go.Proofs.Ytaaogcnjfkgnoaa
open Go.RowKit
noncomputable def AtR_c : Code := (rfS (cdL (cdR (cdL (endC 4 ((Try.f78.body).getD .skip))))))
def AtR_h : Hint := (.two .n (.one .n))
noncomputable def AtR_env (m : Nat) : Env := [(94, .keep (choose_at_1_t m))]
noncomputable abbrev AtR_fin (n0 : Nat) : KO (AV × List AObj) := rndFK n0
noncomputable def AtR (m : Nat) (D : List Deferred) (t14 t3 t4 t5 t6 t7 : AV) (H : List AObj) : RO := exec Try.prog GG (AtR_env m) m ⟨19,D⟩ AtR_c AtR_h ⟨H,[(14,t14),(3,t3),(4,t4),(5,t5),(6,t6),(7,t7)]⟩ (AtR_fin H.length)
theorem AtR_eq (m : Nat) (D : List Deferred) (t14 t3 t4 t5 t6 t7 : AV) (H : List AObj) : AtR m D t14 t3 t4 t5 t6 t7 H =
 allocE (some zc_api_Cert) ty_api_Cert H fun t8 H2 =>
 storeE 7 H2 t8 t14 fun H3 =>
 loadE 1 H3 t7 fun t15 =>
 loadE 7 H3 t8 fun t16 =>
 callVE (AtR_env m) t15 [t16] H3 fun t17 H4 =>
 roundK H.length H4 (V (.bool true)) := by
 refine (rndX Try.prog GG (AtR_env m) m ⟨19,D⟩ H.length AtR_c AtR_h ⟨H,[(14,t14),(3,t3),(4,t4),(5,t5),(6,t6),(7,t7)]⟩ ).trans ?_
 kernel_rfl
theorem AtR_hE (m : Nat) : EnvOk Try.prog GG (AtR_env m) := (by
 intro f e h
 simp only [AtR_env,Prod.mk.injEq,List.mem_cons,List.not_mem_nil,or_false] at h
 obtain ⟨rfl,rfl⟩ := h
 ·exact choose_at_1_ok m)
end Go.Proofs.Ytaaogcnjfkgnoaa

namespace Go.Proofs.Ytaaogcnjfkgnoaa
open Go.RowKit
noncomputable def AtC_c : Code := (endC 5 ((Try.f78.body).getD .skip))
def AtC_h : Hint := (.two .n .n)
noncomputable def AtC_env (m : Nat) : Env := []
noncomputable abbrev AtC_fin (n0 : Nat) : KO (AV × List AObj) := rawFK Try.prog n0 [.cell 4 73]
noncomputable def AtC (m : Nat) (D : List Deferred) (t4 t5 : AV) (H : List AObj) : RO := exec Try.prog GG (AtC_env m) m ⟨19,D⟩ AtC_c AtC_h ⟨H,[(4,t4),(5,t5)]⟩ (AtC_fin H.length)
theorem AtC_eq (m : Nat) (D : List Deferred) (t4 t5 : AV) (H : List AObj) : AtC m D t4 t5 H =
 loadE 6 H t5 fun t18 =>
 storeE 6 H t4 t18 fun H2 =>
 loadE 6 H2 t4 fun t9000 =>
 some (ro H2 t9000,H2) := by
 refine (rawX Try.prog GG (AtC_env m) m ⟨19,D⟩ H.length AtC_c AtC_h ⟨H,[(4,t4),(5,t5)]⟩ [.cell 4 73]).trans ?_
 kernel_rfl
theorem AtC_hE (m : Nat) : EnvOk Try.prog GG (AtC_env m) := (by intro f e h;cases h)
end Go.Proofs.Ytaaogcnjfkgnoaa

namespace Go.Proofs.Ytaaogcnjfkgnoaa
open Go.RowKit
attribute [local go_sem] Nat.zero_add Nat.add_zero Nat.mul_one Int.toNat_natCast Int.natCast_zero Int.cast_ofNat_Int or_false false_or or_true true_or Nat.sub_zero Int.natCast_nonneg Int.toNat_zero Bool.true_and Bool.and_true Bool.false_and Bool.and_false Bool.true_or Bool.or_true Bool.false_or Bool.or_false Bool.not_true Bool.not_false Bool.not_not true_and and_true false_and and_false not_true_eq_false not_false_eq_true eq_self decide_true decide_false ne_eq implies_true forall_const true_implies false_implies Bool.true_eq_false Bool.false_eq_true List.map_cons List.map_nil List.all_cons List.all_nil List.length_cons List.length_nil List.length_map List.length_append List.nil_append List.cons_append List.set_cons_zero List.set_cons_succ List.set_nil List.drop_zero List.drop_succ_cons List.drop_nil List.take_zero List.take_succ_cons List.take_nil Option.map_some Option.map_none Option.isSome_some List.all_append List.all_map Function.comp_def decide_eq_true_eq Bool.and_eq_true beq_self_eq_true or_self and_self ite_true ite_false Nat.le_refl Bool.not_eq_true decide_not Bool.not_eq_true' decide_eq_false_iff_not Bool.not_eq_false Bool.or_eq_true if_true if_false ite_self u_roF u_cvF u_cvC u_ceT u_ceK u_appS sm_it sm_len sm_sure sm_ltA sm_lt1 sm_all1 sm_ro sm_take sm_sl sm_set sm_noT sm_fr sm_st_fr sm_set_fr sm_kd sm_st_kd sm_set_kd sm_vw sm_st_vw sm_set_vw sm_sq sm_st_sq sm_set_sq sm_tm sm_st_tm sm_set_tm zsm_len zsm_sure zsm_lt1 zsm_sl zsm_ro zsm_setz zsm_set zsm_setr zsm_take sms_ltA sms_len ce_it ce_len ce_sure ce_ltA ce_lt1 ce_all1 ce_ro ce_take ce_sl ce_set ce_noT ce_sq ce_st_sq ce_set_sq ce_vw ce_st_vw ce_set_vw ce_tm ce_st_tm ce_set_tm ce_body ce_st_body ce_set_body ce_vs ce_st_vs ce_set_vs zce_len zce_sure zce_lt1 zce_sl zce_ro zce_setz zce_set zce_setr zce_take ces_ltA ces_len cg_it cg_len cg_sure cg_ltA cg_lt1 cg_all1 cg_ro cg_take cg_sl cg_set cg_noT cg_fr cg_st_fr cg_set_fr cg_vw cg_st_vw cg_set_vw cg_st cg_st_st cg_set_st cg_rt cg_st_rt cg_set_rt cg_pf cg_st_pf cg_set_pf cg_cs cg_st_cs cg_set_cs zcg_len zcg_sure zcg_lt1 zcg_sl zcg_ro zcg_setz zcg_set zcg_setr zcg_take cgs_ltA cgs_len ms_it ms_len ms_sure ms_ltA ms_lt1 ms_all1 ms_ro ms_take ms_sl ms_set ms_noT ms_kd ms_st_kd ms_set_kd ms_fr ms_st_fr ms_set_fr ms_vw ms_st_vw ms_set_vw ms_sq ms_st_sq ms_set_sq ms_tm ms_st_tm ms_set_tm ms_body ms_st_body ms_set_body ms_vs ms_st_vs ms_set_vs ms_chs ms_st_chs ms_set_chs zms_len zms_sure zms_lt1 zms_sl zms_ro zms_setz zms_set zms_setr zms_take mss_ltA mss_len co_it co_len co_sure co_ltA co_lt1 co_all1 co_ro co_take co_sl co_set co_noT co_sq co_st_sq co_set_sq co_tm co_st_tm co_set_tm co_body co_st_body co_set_body co_nl co_st_nl co_set_nl zco_len zco_sure zco_lt1 zco_sl zco_ro zco_setz zco_set zco_setr zco_take cos_ltA cos_len sd_it sd_len sd_sure sd_ltA sd_lt1 sd_all1 sd_ro sd_take sd_sl sd_set sd_noT sd_wh sd_st_wh sd_set_wh sd_fr sd_st_fr sd_set_fr sd_kd sd_st_kd sd_set_kd sd_vw sd_st_vw sd_set_vw sd_sq sd_st_sq sd_set_sq sd_tm sd_st_tm sd_set_tm sds_ltA sds_len natInt u_nthM u_bz u_bi1 u_bi2 u_bi3 u_bi4 u_bi5 u_bi6 u_bi7 ltO_o ltO_r u_eqE
attribute [local go_sem_proc] Nat.reduceAdd Nat.reduceSub Nat.reduceMul Nat.reduceLeDiff Nat.reduceLT Int.reduceEq Int.reduceNe Int.reduceLT Int.reduceLE Int.reduceAdd Int.reduceSub Int.reduceMul Int.reduceNeg Int.reduceToNat reduceCtorEq Nat.reduceEqDiff Nat.reduceBEq Nat.reduceGT
attribute [local go_sem_proc ↓] reduceIte
theorem nthO_end {R : Type} {H : List AObj} {o : AObj} {K : AObj → Option R} : nthOE (H ++ [o]) H.length K = K o := by
 unfold nthOE;simp
theorem nthO_at {R : Type} {H : List AObj} {o : AObj} {b : Nat} {K : AObj → Option R} (h : H[b]? = some o) : nthOE H b K = K o := by
 unfold nthOE;rw [h]
theorem set_end {H : List AObj} {o o' : AObj} : (H ++ [o]).set H.length o' = H ++ [o'] := by
 simp
def chO (x : Ch) : AObj := ⟨1,ty_api_Change,0,cgC x⟩
def ceO (x : Ce) : AObj := ⟨1,ty_api_Cert,0,ceC x⟩
def chsA (l : List Ch) : AV := SL (l.map cgE)
def cesA (l : List Ce) : AV := SL (l.map ceE)
section
variable {H : List AObj} {l : List Ch} {cs : List Ce} {Y a7 a8 a9 a14 a15 : AV}
theorem itA_s (m b : Nat) (hb : H[b]? = some ⟨1,ty_sl_api_Change,0,[chsA l]⟩) : ItA m [] Y (OP b 0) H = some (TU [Y,chsA l,nA l.length,nA 0],H) := by
 rw [ItA_eq]
 unfold chsA at hb ⊢
 rw [u_ldO,nthO_at hb]
 simp (config := {maxSteps := 4000000,implicitDefEqProofs := false}) (disch := omega) only [go_sem,]
theorem itB_s (m : Nat) (a b : Int) : ItB m [] Y a7 (nA b) (nA a) H = some (TU [Y,a7,nA b,nA a,bA (decide (a < b))],H) := by
 rw [ItB_eq]
 simp (config := {maxSteps := 4000000,implicitDefEqProofs := false}) (disch := omega) only [go_sem,]
theorem itC_s (m k : Nat) (hk : k < l.length) : ItC m [] Y (chsA l) a8 (nA k) H = some (TU [Y,OP H.length 0,chsA l,a8,nA k],H ++ [chO l[k]]) := by
 rw [ItC_eq]
 unfold chsA chO
 simp (config := {maxSteps := 4000000,implicitDefEqProofs := false}) (disch := omega) only [go_sem,hk,nthO_end,set_end]
theorem itD_s (m : Nat) (x : Ch) : ItD m [] Y (OP H.length 0) a7 a8 a9 (H ++ [chO x]) = some (TU [Y,a7,a8,a9,cesA x.cs,nA x.cs.length,nA 0],H ++ [chO x]) := by
 rw [ItD_eq]
 unfold chO cesA
 simp (config := {maxSteps := 4000000,implicitDefEqProofs := false}) (disch := omega) only [go_sem,nthO_end,set_end]
theorem itE_s (m : Nat) (a b : Int) : ItE m [] Y a7 a8 a9 a14 (nA b) (nA a) H = some (TU [Y,a7,a8,a9,a14,nA b,nA a,bA (decide (a < b))],H) := by
 rw [ItE_eq]
 simp (config := {maxSteps := 4000000,implicitDefEqProofs := false}) (disch := omega) only [go_sem,]
theorem itF_s (m k : Nat) (hk : k < cs.length) : ItF m [] Y a7 a8 a9 (cesA cs) a15 (nA k) H = some (TU [Y,OP H.length 0,a7,a8,a9,cesA cs,a15,nA k],H ++ [ceO cs[k]]) := by
 rw [ItF_eq]
 unfold cesA ceO
 simp (config := {maxSteps := 4000000,implicitDefEqProofs := false}) (disch := omega) only [go_sem,hk,nthO_end,set_end]
theorem itG_s (m : Nat) (x : Ce) (a16 : AV) : ItG m [] Y (OP H.length 0) a7 a8 a9 a14 a15 a16 (H ++ [ceO x]) = some (TU [Y,a7,a8,a9,a14,a15,a16,Y,ceE x],H ++ [ceO x]) := by
 rw [ItG_eq]
 unfold ceO
 simp (config := {maxSteps := 4000000,implicitDefEqProofs := false}) (disch := omega) only [go_sem,nthO_end,set_end]
theorem itH_s (m : Nat) (a16 : AV) (v : Bool) : ItH m [] Y a7 a8 a9 a14 a15 a16 (bA v) H = some (TU [Y,a7,a8,a9,a14,a15,a16,bA (!v)],H) := by
 rw [ItH_eq]
 simp (config := {maxSteps := 4000000,implicitDefEqProofs := false}) (disch := omega) only [go_sem,]
theorem itI_s (m : Nat) (a : Int) (h : 0 ≤ a) (h2 : a < 1000000000) : ItI m [] Y a7 a8 a9 a14 a15 (nA a) H = some (TU [Y,a7,a8,a9,a14,a15,nA (a + 1)],H) := by
 rw [ItI_eq]
 simp (config := {maxSteps := 4000000,implicitDefEqProofs := false}) (disch := omega) only [go_sem,w_i64]
theorem itJ_s (m : Nat) (a : Int) (h : 0 ≤ a) (h2 : a < 1000000000) : ItJ m [] Y a7 a8 (nA a) H = some (TU [Y,a7,a8,nA (a + 1)],H) := by
 rw [ItJ_eq]
 simp (config := {maxSteps := 4000000,implicitDefEqProofs := false}) (disch := omega) only [go_sem,w_i64]
end
def atB (q : Int) (v : Int) (o : Co) : List AObj := [⟨1,ty_int,0,[nA q]⟩,⟨1,ty_api_Choice,0,zc_api_Choice⟩,⟨1,ty_api_Choice,0,coC o⟩,⟨1,ty_int,0,[nA v]⟩,⟨1,ty_func_api_Cert_,0,[CL (.func 94) 0 [OP 0 0,OP 3 0,OP 2 0]]⟩]
def atH (q : Int) (l : List Ch) (v : Int) (o : Co) : List AObj := atB q v o ++ [⟨1,ty_sl_api_Change,0,[chsA l]⟩]
def co0 (q : Int) : Co := ⟨q,0,[],true⟩
theorem atA_s (m : Nat) (q : Int) (a : AV) : AtA m [] a (nA q) [] = some (TU [a,OP 0 0,OP 1 0,OP 2 0,OP 3 0,OP 4 0],atB q (-1) (co0 q)) := by
 rw [AtA_eq]
 have hb : ∀ {K1 : AV → RO},buildE (some pl_api_Choice) (some zc_api_Choice) [(0,nA q),(3,V (.bool true))] K1 = K1 (.agg (coC (co0 q))) := _root_.id rfl
 unfold atB
 simp (config := {maxSteps := 4000000,implicitDefEqProofs := false}) (disch := omega) only [go_sem,hb]
 rfl
theorem atB_s (m : Nat) (q v : Int) (o : Co) (l : List Ch) : AtB m [] (chsA l) (OP 0 0) (OP 1 0) (OP 2 0) (OP 3 0) (OP 4 0) (atB q v o) = some (TU [OP 0 0,OP 1 0,OP 2 0,OP 3 0,OP 4 0,CL (.func 93) 0 [OP 5 0]],atH q l v o) := by
 rw [AtB_eq]
 unfold atB atH atB chsA
 simp (config := {maxSteps := 4000000,implicitDefEqProofs := false}) (disch := omega) only [go_sem,choose_all_eq]
 rfl
theorem atC_s (m : Nat) (q v : Int) (o : Co) (l : List Ch) (D : List Deferred) : AtC m D (OP 1 0) (OP 2 0) (atH q l v o) = some (.agg (coC o),(atH q l v o).set 1 ⟨1,ty_api_Choice,0,coC o⟩) := by
 rw [AtC_eq]
 unfold atH atB chsA
 simp (config := {maxSteps := 4000000,implicitDefEqProofs := false}) (disch := omega) only [go_sem,]
def keepC (q : Int) (a : Int × Co) (x : Ce) : Int × Co := if x.sq = q ∧ a.1 < x.vw then (x.vw,⟨q,x.tm,x.body,false⟩) else a
theorem at1_s (m : Nat) (q v : Int) (o : Co) (l : List Ch) (x : Ce) (Y : List AObj) : choose_at_1 m (ceE x) (OP 0 0) (OP 3 0) (OP 2 0) (atH q l v o ++ [ceO x]) = some (TU [],atH q l (keepC q (v,o) x).1 (keepC q (v,o) x).2 ++ [ceO x]) := by
 rw [choose_at_1_eq]
 unfold atH atB chsA ceO keepC
 have hb : ∀ {a b : Int} {s : List UInt8} {K1 : AV → RO},buildE (some pl_api_Choice) (some zc_api_Choice) [(0,nA a),(1,nA b),(2,sA s)] K1 = K1 (.agg (coC ⟨a,b,s,false⟩)) := _root_.id rfl
 by_cases h1 : x.sq = q
 ·by_cases h2 : v < x.vw
  ·rw [if_pos ⟨h1,h2⟩]
   simp (config := {maxSteps := 4000000,implicitDefEqProofs := false}) (disch := omega) only [go_sem,h1,h2,hb,choose_at_1_r1_eq]
   rfl
  ·rw [if_neg (fun h=>h2 h.2)]
   simp (config := {maxSteps := 4000000,implicitDefEqProofs := false}) (disch := omega) only [go_sem,h1,h2,hb,choose_at_1_r1_eq]
   rfl
 ·rw [if_neg (fun h=>h1 h.1)]
  simp (config := {maxSteps := 4000000,implicitDefEqProofs := false}) (disch := omega) only [go_sem,h1,hb,choose_at_1_r1_eq]
  rfl
theorem atR_env (m : Nat) : findE (AtR_env m) 94 = some (.keep (choose_at_1_t m)) := _root_.id rfl
theorem atR_s (m : Nat) (q v : Int) (o : Co) (l : List Ch) (x : Ce) : AtR m [] (ceE x) (OP 0 0) (OP 1 0) (OP 2 0) (OP 3 0) (OP 4 0) (atH q l v o) = some (bA true,atH q l (keepC q (v,o) x).1 (keepC q (v,o) x).2) := by
 rw [AtR_eq]
 have h1 := at1_s m q v o l x []
 have he := atR_env m
 unfold ceO at h1
 unfold atH atB chsA at h1 ⊢
 rw [ce_it] at h1 ⊢
 dsimp only [List.cons_append,List.nil_append] at h1
 simp (config := {maxSteps := 4000000,implicitDefEqProofs := false}) (disch := omega) only [go_sem,he,choose_at_1_t,h1]
 rfl
end Go.Proofs.Ytaaogcnjfkgnoaa

namespace Go.Proofs.Ytaaogcnjfkgnoaa
open Go.RowKit
def regO : Code → List Oper|.region _ ops _=>ops.toList|_=>[]
def opAt (k : Nat) (c : Code) : Oper := (regO c).getD k ⟨none, .move (.tmp 0), 0, "", #[], none⟩
noncomputable def itC : Code := (Try.f93.body).getD .skip
noncomputable def itR : Code := cdL (cdR (cdL (cdL (cdR (cdR (cdL (cdL (cdR (cdR (cdL (cdL (cdR (cdR (cdL (cdL (endC 1 itC))))))))))))))))
noncomputable def itIn : Code := .seq ItF_c (.seq (.region 6 (regO ItG_c ++ opAt 2 itR :: regO ItH_c).toArray false) (.cond (.tmp 23) .ret .skip))
noncomputable def itLp : Code := .seq ItE_c (.seq (.cond (.tmp 17) .skip (.exit 2)) (.seq (.block 3 itIn) ItI_c))
noncomputable def itOut : Code := .seq ItB_c (.seq (.cond (.tmp 10) .skip (.exit 0)) (.seq (.block 1 (.seq ItC_c (.seq ItD_c (.block 2 (.loop itLp))))) ItJ_c))
theorem it_shape : endC 1 itC = .block 0 (.loop itOut) := by kernel_rfl
theorem itG_shape : ItG_c = .region 6 (regO ItG_c).toArray false := by kernel_rfl
theorem itH_shape : ItH_c = .region 6 (regO ItH_c).toArray false := by kernel_rfl
theorem yop_op : (opAt 2 itR).op = .call { callee := .value (.tmp 20),args := #[.tmp 21],argTypes := #[54] } := by kernel_rfl
theorem yop_dst : (opAt 2 itR).dst = some 22 := by kernel_rfl
theorem yop_gd : (opAt 2 itR).guard = none := by kernel_rfl
theorem gdG : ((regO ItG_c).all fun o=>o.guard.isNone) = true := by kernel_rfl
theorem gdH : ((regO ItH_c).all fun o=>o.guard.isNone) = true := by kernel_rfl
def numV : Value → Nat|.int _ i=>i.toNat|_=>0
theorem slotV {S : SS} {μ : List Value} {T : Tm} {N : FS} {a : Act} {i : Nat} {v : Value} (hf : Fr S μ N T a) (h : get T i = V v) : a.tmps.getD i undef = v := by
 have := hf.slot i
 rw [h] at this
 exact this.1
theorem fr_args {S : SS} {μ : List Value} {N : Nat} {args : List AV} {vs : List Value} (hl : vs.length = args.length) (hargs : args.length ≤ N) (hv : ∀ (j : Nat) (d : AV) (v : Value),args[j]? = some d → vs[j]? = some v → rep S μ d v) :
  Fr S μ (F0 N) (argsT 0 args) { tmps := vs.toArray ++ Array.replicate (N - vs.toArray.size) undef,defers := [] } := by
 refine ⟨by simp;omega,rfl,fun i=>?_⟩
 rw [get_argsT]
 simp only [Nat.zero_le,if_true,Nat.sub_zero]
 cases hd : args[i]? with
 |none=>trivial
 |some d =>
  have hi : i < vs.length := by rw [hl];exact (List.getElem?_eq_some_iff.1 hd).1
  have := hv i d vs[i] hd (List.getElem?_eq_getElem hi)
  simp only [Option.getD_some]
  have e : (vs.toArray ++ Array.replicate (N - vs.toArray.size) undef).getD i undef = vs[i] := by
   rw [Array.getD_eq_getD_getElem?,Array.getElem?_append_left (by simpa using hi)]
   simp [hi]
  rw [e];exact this
theorem drop_le {H : List AObj} {o : AObj} : HLe (H ++ [o]) H := by
 have := HLe.take (H ++ [o]) H.length
 rwa [List.take_left' rfl] at this
section
variable {β : Type} {C : β → List AObj} {R : β → Ce → β} {b0 : β} {l : List Ch}
def foldC (R : β → Ce → β) (b : β) (cs : List Ce) : β := cs.foldl R b
def foldL (R : β → Ce → β) (b : β) (l : List Ch) : β := l.foldl (fun a c=>foldC R a c.cs) b
abbrev TO (lp : Nat) (l : List Ch) (k : Nat) : Tm := [(0,V (.func (.yield lp) #[] #[])),(7,chsA l),(8,nA l.length),(9,nA k)]
abbrev TJ (lp : Nat) (l : List Ch) (k : Nat) (cs : List Ce) (j : Nat) : Tm := [(0,V (.func (.yield lp) #[] #[])),(7,chsA l),(8,nA l.length),(9,nA k),(14,cesA cs),(15,nA cs.length),(16,nA j)]
def ItO (C : β → List AObj) (R : β → Ce → β) (b0 : β) (l : List Ch) (lp : Nat) (r : Loop) (w1 : World) (S1 : SS) (μ1 : List Value) (a : Act) (w : World) : Prop :=
 ∃ (k : Nat) (S : SS) (μ : List Value),k ≤ l.length ∧ Rel w S μ (C (foldL R b0 (l.take k))) ∧ Fr S μ (F0 26) (TO lp l k) a ∧ GOk GG S ∧ Step (C b0).length w1 S1 μ1 (C b0) w S μ (C (foldL R b0 (l.take k))) ∧ w.heap[lp]? = some (.loop r)
def ItJn (C : β → List AObj) (R : β → Ce → β) (b0 : β) (l : List Ch) (k : Nat) (b : β) (cs : List Ce) (lp : Nat) (r : Loop) (w1 : World) (S1 : SS) (μ1 : List Value) (a : Act) (w : World) : Prop :=
 ∃ (j : Nat) (S : SS) (μ : List Value),j ≤ cs.length ∧ Rel w S μ (C (foldC R b (cs.take j))) ∧ Fr S μ (F0 26) (TJ lp l k cs j) a ∧ GOk GG S ∧ Step (C b0).length w1 S1 μ1 (C b0) w S μ (C (foldC R b (cs.take j))) ∧ w.heap[lp]? = some (.loop r)
theorem foldC_snoc {b : β} {cs : List Ce} {j : Nat} (h : j < cs.length) : foldC R b (cs.take (j + 1)) = R (foldC R b (cs.take j)) cs[j] := by
 unfold foldC
 rw [List.take_succ_eq_append_getElem h,List.foldl_append]
 rfl
theorem foldL_snoc {b : β} {k : Nat} (h : k < l.length) : foldL R b (l.take (k + 1)) = foldC R (foldL R b (l.take k)) l[k].cs := by
 unfold foldL
 rw [List.take_succ_eq_append_getElem h,List.foldl_append]
 rfl
theorem ces_lt {n : Nat} (cs : List Ce) : ltT n (cesA cs) = true := rfl
theorem chs_lt {n : Nat} (l : List Ch) : ltT n (chsA l) = true := rfl
variable {w1 : World} {S1 : SS} {μ1 : List Value} {lp K d b : Nat} {r : Loop} {T0 : Tm} {tm : Array Value}
theorem it_calls (hn : ∀ a, (C a).length = (C b0).length) (ho : ∀ a, (C a).all (ltO (C b0).length) = true) (hb : ∀ a, (C a)[b]? = some ⟨1, ty_sl_api_Change, 0, [chsA l]⟩) (hl : l.length ≤ 1000) (hc : ∀ c ∈ l, c.cs.length ≤ 1000)
    (hround : ∀ (a : β) (x : Ce) (vs : List Value) (w : World) (S : SS) (μ : List Value), Rel w S μ (C a) → Fr S μ (F0 K) T0 ⟨tm, []⟩ → GOk GG S → w.heap[lp]? = some (.loop r) → vs.length = 1 → (∀ (j : Nat) (d : AV) (v : Value), [ceE x][j]? = some d → vs[j]? = some v → rep S μ d v) →
      YieldAt Fence.wide (d - 1) Try.prog lp vs.toArray w (YPost lp r w S μ (C a) fun e H2 => e = .normal ∧ H2 = C (R a x)))
    (hm : 0 < d) {us : List Value} (hr : Rel w1 S1 μ1 (C b0)) (hf : Fr S1 μ1 (F0 K) T0 ⟨tm, []⟩) (hg : GOk GG S1) (hlp : w1.heap[lp]? = some (.loop r)) (hus : us.length = 1)
    (hu : ∀ (j : Nat) (x : AV) (v : Value), [OP b 0][j]? = some x → us[j]? = some v → rep S1 μ1 x v) :
    CallsIn Fence.wide d Try.prog 93 (.func (.yield lp) #[] #[] :: us).toArray w1 fun e w' => ∃ v, e = .returned v ∧ IPost lp r w1 S1 μ1 (C b0) (fun e H2 => e = .normal ∧ H2 = C (foldL R b0 l)) w' := by
  have hnl : ∀ r cs t p, (Obj.loop r) ≠ .cells cs t p := fun _ _ _ _ e => by cases e
  refine callsIn_of_wp Try.func93 rfl trivial ?_
  have hfr0 : Fr S1 μ1 (F0 26) (argsT 0 [V (.func (.yield lp) #[] #[]), OP b 0]) { tmps := (.func (.yield lp) #[] #[] :: us).toArray ++ Array.replicate (26 - (.func (.yield lp) #[] #[] :: us).toArray.size) undef, defers := [] } :=
    fr_args (by simp [hus]) (by simp) (by
      intro j x v hx hv
      cases j with
      | zero => simp at hx hv; subst hx hv; exact ⟨rfl, rfl⟩
      | succ j => exact hu j x v (by simpa using hx) (by simpa using hv))
  rw [Try.ntmps93]
  have hA := itA_s (H := C b0) (l := l) (Y := V (.func (.yield lp) #[] #[])) 1000 b (hb b0)
  refine exec_farW (n := (C b0).length) MIX (ItA_hE 1000) 1 itC ItA_h ⟨C b0, argsT 0 [V (.func (.yield lp) #[] #[]), OP b 0]⟩ (by kernel_rfl) hA hr hfr0 hg ?_ (Nat.le_refl _)
  rintro a w ⟨S, μ, _, hrA, hfA, hgA, hstA⟩
  rw [it_shape]
  refine wpIn_block ?_
  refine wpIn_loop (ItO C R b0 l lp r w1 S1 μ1) (fun a _ => l.length - numV (a.tmps.getD 9 undef)) ⟨0, S, μ, Nat.zero_le _, hrA, hfA, hgA, hstA, hstA.keeps hr hlp (hnl _)⟩ ?_
  rintro a w ⟨k, S, μ, hk, hr2, hf2, hg2, hst2, hl2⟩
  have h9 : a.tmps.getD 9 undef = .int .i64 k := slotV hf2 rfl
  unfold itOut
  refine wpIn_seq (wpIn_mono (part_w (rs := [0, 7, 8, 9, 10]) MIX (ItB_hE 1000) (itB_s 1000 (k : Int) (l.length : Int)) hr2 hf2 hg2) ?_)
  rintro e a3 w3 ⟨rfl, S3, μ3, hr3, hf3, hg3, hst3⟩
  have hl3 := hst3.keeps hr2 hl2 (hnl _)
  have hst3' := hst2.trans (hst3.less (Nat.le_of_eq (hn _).symm))
  have h10 : a3.eval (.tmp 10) = .bool (decide ((k : Int) < l.length)) := slotV hf3 rfl
  simp only [Exit.then]
  refine wpIn_seq (wpIn_cond (t := decide ((k : Int) < l.length)) h10 ?_)
  by_cases hlt : k < l.length
  · rw [decide_eq_true (by omega), if_pos rfl]
    refine wpIn_skip ?_
    simp only [Exit.then]
    refine wpIn_seq (wpIn_block ?_)
    refine wpIn_seq (wpIn_mono (part_w (rs := [0, 4, 7, 8, 9]) MIX (ItC_hE 1000) (itC_s (Y := V (.func (.yield lp) #[] #[])) (a8 := nA l.length) (H := C (foldL R b0 (l.take k))) 1000 k hlt) hr3 (hf3.some (by simp [_root_.Go.Proofs.Ytaaogcnjfkgnoaa.get])) hg3) ?_)
    rintro e a4 w4 ⟨rfl, S4, μ4, hr4, hf4, hg4, hst4⟩
    have hl4 := hst4.keeps hr3 hl3 (hnl _)
    have hst4' := hst3'.trans (hst4.less (Nat.le_of_eq (hn _).symm))
    simp only [Exit.then]
    have hf4' : Fr S4 μ4 (F0 26) [(0, V (.func (.yield lp) #[] #[])), (4, OP (C (foldL R b0 (l.take k))).length 0), (7, chsA l), (8, nA l.length), (9, nA k)] a4 := hf4
    refine wpIn_seq (wpIn_mono (part_w (rs := [0, 7, 8, 9, 14, 15, 16]) MIX (ItD_hE 1000) (itD_s (Y := V (.func (.yield lp) #[] #[])) (a7 := chsA l) (a8 := nA l.length) (a9 := nA k) (H := C (foldL R b0 (l.take k))) 1000 l[k]) hr4 hf4' hg4) ?_)
    rintro e a5 w5 ⟨rfl, S5, μ5, hr5, hf5, hg5, hst5⟩
    have hl5 := hst5.keeps hr4 hl4 (hnl _)
    have hst5' := hst4'.trans (hst5.less (by have := hn (foldL R b0 (l.take k)); simp only [List.length_append]; omega))
    simp only [Exit.then]
    have hle : Le ⟨C (foldL R b0 (l.take k)) ++ [chO l[k]], [(0, V (.func (.yield lp) #[] #[])), (7, chsA l), (8, nA l.length), (9, nA k), (14, cesA l[k].cs), (15, nA l[k].cs.length), (16, nA 0)]⟩ ⟨C (foldL R b0 (l.take k)), TJ lp l k l[k].cs 0⟩ :=
      ⟨drop_le, by rw [hn]; exact ho _, ⟨rfl, rfl, rfl, chs_lt l, rfl, rfl, rfl, rfl, rfl, ces_lt _, rfl, rfl, rfl, rfl, trivial⟩⟩
    refine wpIn_block ?_
    refine wpIn_loop (ItJn C R b0 l k (foldL R b0 (l.take k)) l[k].cs lp r w1 S1 μ1) (fun a _ => l[k].cs.length - numV (a.tmps.getD 16 undef)) ⟨0, S5, _, Nat.zero_le _, hle.rel hr5, hle.fr hf5, hg5, hst5'.trans ((hle.step (Nat.le_of_eq (hn _).symm) _ _ _)), hl5⟩ ?_
    rintro a w ⟨j, S, μ, hj, hr2, hf2, hg2, hst2, hl2⟩
    have h16 : a.tmps.getD 16 undef = .int .i64 j := slotV hf2 rfl
    obtain ⟨x0, hx0⟩ : ∃ x0, foldC R (foldL R b0 (l.take k)) (l[k].cs.take j) = x0 := ⟨_, rfl⟩
    have hck := hc l[k] (List.getElem_mem hlt)
    unfold itLp
    refine wpIn_seq (wpIn_mono (part_w (rs := [0, 7, 8, 9, 14, 15, 16, 17]) MIX (ItE_hE 1000) (itE_s (Y := V (.func (.yield lp) #[] #[])) (a7 := chsA l) (a8 := nA l.length) (a9 := nA k) (a14 := cesA l[k].cs) 1000 (j : Int) (l[k].cs.length : Int)) hr2 hf2 hg2) ?_)
    rintro e a3 w3 ⟨rfl, S3, μ3, hr3, hf3, hg3, hst3⟩
    have hl3 := hst3.keeps hr2 hl2 (hnl _)
    have hst3' := hst2.trans (hst3.less (Nat.le_of_eq (hn _).symm))
    have h17 : a3.eval (.tmp 17) = .bool (decide ((j : Int) < l[k].cs.length)) := slotV hf3 rfl
    simp only [Exit.then]
    refine wpIn_seq (wpIn_cond (t := decide ((j : Int) < l[k].cs.length)) h17 ?_)
    by_cases hjt : j < l[k].cs.length
    · rw [decide_eq_true (by omega), if_pos rfl]
      refine wpIn_skip ?_
      simp only [Exit.then]
      refine wpIn_seq (wpIn_block ?_)
      unfold itIn
      refine wpIn_seq (wpIn_mono (part_w (rs := [0, 6, 7, 8, 9, 14, 15, 16]) MIX (ItF_hE 1000) (itF_s (Y := V (.func (.yield lp) #[] #[])) (a7 := chsA l) (a8 := nA l.length) (a9 := nA k) (a15 := nA l[k].cs.length) (H := C (foldC R (foldL R b0 (l.take k)) (l[k].cs.take j))) 1000 j hjt) hr3 (hf3.some (by simp [_root_.Go.Proofs.Ytaaogcnjfkgnoaa.get])) hg3) ?_)
      rintro e a4 w4 ⟨rfl, S4, μ4, hr4, hf4, hg4, hst4⟩
      have hl4 := hst4.keeps hr3 hl3 (hnl _)
      have hst4' := hst3'.trans (hst4.less (Nat.le_of_eq (hn _).symm))
      simp only [Exit.then]
      have hf4' : Fr S4 μ4 (F0 26) [(0, V (.func (.yield lp) #[] #[])), (6, OP (C (foldC R (foldL R b0 (l.take k)) (l[k].cs.take j))).length 0), (7, chsA l), (8, nA l.length), (9, nA k), (14, cesA l[k].cs), (15, nA l[k].cs.length), (16, nA j)] a4 := hf4
      have hG := itG_s (Y := V (.func (.yield lp) #[] #[])) (a7 := chsA l) (a8 := nA l.length) (a9 := nA k) (a14 := cesA l[k].cs) (a15 := nA l[k].cs.length) (H := C (foldC R (foldL R b0 (l.take k)) (l[k].cs.take j))) 1000 l[k].cs[j] (nA j)
      unfold ItG at hG
      rw [itG_shape] at hG
      refine wpIn_seq (wpIn_region_lit ?_)
      refine part_ops (rs := [0, 7, 8, 9, 14, 15, 16, 20, 21]) (ItG_hE 1000) rfl gdG hG hr4 hf4' hg4 ?_
      rintro a5 w5 ⟨S5, μ5, hr5, hf5, hg5, hst5⟩
      have hl5 := hst5.keeps hr4 hl4 (hnl _)
      have hst5' := hst4'.trans (hst5.less (by have := hn (foldC R (foldL R b0 (l.take k)) (l[k].cs.take j)); simp only [List.length_append]; omega))
      have hle : Le ⟨C (foldC R (foldL R b0 (l.take k)) (l[k].cs.take j)) ++ [ceO l[k].cs[j]], [(0, V (.func (.yield lp) #[] #[])), (7, chsA l), (8, nA l.length), (9, nA k), (14, cesA l[k].cs), (15, nA l[k].cs.length), (16, nA j), (20, V (.func (.yield lp) #[] #[])), (21, ceE l[k].cs[j])]⟩ ⟨C (foldC R (foldL R b0 (l.take k)) (l[k].cs.take j)), [(0, V (.func (.yield lp) #[] #[])), (7, chsA l), (8, nA l.length), (9, nA k), (14, cesA l[k].cs), (15, nA l[k].cs.length), (16, nA j), (20, V (.func (.yield lp) #[] #[])), (21, ceE l[k].cs[j])]⟩ :=
        ⟨drop_le, by rw [hn]; exact ho _, ⟨rfl, rfl, rfl, chs_lt l, rfl, rfl, rfl, rfl, rfl, ces_lt _, rfl, rfl, rfl, rfl, rfl, rfl, rfl, rfl, trivial⟩⟩
      have hr5 := hle.rel hr5
      have hf5 := hle.fr hf5
      have hst5' := hst5'.trans (hle.step (Nat.le_of_eq (hn _).symm) _ _ _)
      generalize μ5.take (C (foldC R (foldL R b0 (l.take k)) (l[k].cs.take j))).length = μ6 at *
      have hfc := hf.ext (Step.toExt hr hst5')
      unfold wpListIn
      rw [if_pos (by simp [Region.wanted, yop_gd])]
      have e21 := hf5.slot 21
      have hy := hround (foldC R (foldL R b0 (l.take k)) (l[k].cs.take j)) l[k].cs[j] [a5.tmps.getD 21 undef] w5 S5 μ6 hr5 hfc hg5 hl5 rfl (by
        intro i x v hx hv
        match i, hx, hv with
        | 0, hx, hv => simp at hx hv; subst hx hv; simpa [_root_.Go.Proofs.Ytaaogcnjfkgnoaa.get] using e21)
      refine yield_op (R := YPost lp r w5 S5 μ6 (C (foldC R (foldL R b0 (l.take k)) (l[k].cs.take j))) _) yop_op (slotV hf5 rfl) (by simpa [Act.eval] using hy) ?_
      rintro e w' ⟨w7, S7, μ7, H7, x, ⟨rfl, rfl⟩, hr7, hst7, hl7, hx7⟩
      rw [← foldC_snoc (R := R) (b := foldL R b0 (l.take k)) hjt] at hr7 hst7
      have hst7' := hst5'.trans (hst7.less (Nat.le_of_eq (hn _).symm))
      have hg7 := hg5.ext hst7.still
      have hf7 := hf5.ext (Step.toExt hr5 hst7)
      rw [yop_dst]
      obtain ⟨rfl, rfl⟩ : e = .returned (.bool true) ∧ w' = w7 := by
        rcases hx7 with ⟨_, q1, q2⟩ | ⟨c, q, _⟩
        · exact ⟨q1, q2⟩
        · cases q
      refine ⟨_, rfl, ?_⟩
      have hput := hf7.put (some 22) (fun i e => by cases e; decide) (v := bA true) (u := .bool true) ⟨rfl, rfl⟩
      have hH := itH_s (Y := V (.func (.yield lp) #[] #[])) (a7 := chsA l) (a8 := nA l.length) (a9 := nA k) (a14 := cesA l[k].cs) (a15 := nA l[k].cs.length) (H := C (foldC R (foldL R b0 (l.take k)) (l[k].cs.take (j + 1)))) 1000 (nA j) true
      unfold ItH at hH
      rw [itH_shape] at hH
      refine part_all (rs := [0, 7, 8, 9, 14, 15, 16, 23]) (ItH_hE 1000) rfl gdH hH hr7 (hput.some (by simp [_root_.Go.Proofs.Ytaaogcnjfkgnoaa.get, ASt.set, tput])) hg7 ?_
      rintro a8 w8 ⟨S8, μ8, hr8, hf8, hg8, hst8⟩
      have hl8 := hst8.keeps hr7 hl7 (hnl _)
      have hst8' := hst7'.trans (hst8.less (Nat.le_of_eq (hn _).symm))
      simp only [Exit.then]
      refine wpIn_cond (t := false) (slotV hf8 rfl) ?_
      rw [if_neg (by decide)]
      refine wpIn_skip ?_
      simp only [Exit.inBlock, Exit.then]
      refine wpIn_mono (part_w (rs := [0, 7, 8, 9, 14, 15, 16]) MIX (ItI_hE 1000) (itI_s (Y := V (.func (.yield lp) #[] #[])) (a7 := chsA l) (a8 := nA l.length) (a9 := nA k) (a14 := cesA l[k].cs) (a15 := nA l[k].cs.length) 1000 (j : Int) (by omega) (by omega)) hr8 (hf8.some (by simp [_root_.Go.Proofs.Ytaaogcnjfkgnoaa.get])) hg8) ?_
      rintro e a9 w9 ⟨rfl, S9, μ9, hr9, hf9, hg9, hst9⟩
      have hl9 := hst9.keeps hr8 hl8 (hnl _)
      have e9 := hst8'.trans (hst9.less (Nat.le_of_eq (hn _).symm))
      have h49 : a9.tmps.getD 16 undef = .int .i64 ((j : Int) + 1) := slotV hf9 rfl
      refine ⟨⟨j + 1, S9, μ9, hjt, hr9, hf9.some (by simp [_root_.Go.Proofs.Ytaaogcnjfkgnoaa.get]), hg9, e9, hl9⟩, ?_⟩
      rw [h49, h16]
      simp only [numV]
      omega
    · rw [decide_eq_false (by omega)]
      refine wpIn_exit ?_
      simp only [Exit.then, Exit.inBlock, ↓reduceIte]
      obtain rfl : j = l[k].cs.length := by omega
      rw [List.take_length] at hr3 hst3'
      rw [← foldL_snoc hlt] at hr3 hst3'
      refine wpIn_mono (part_w (rs := [0, 7, 8, 9]) MIX (ItJ_hE 1000) (itJ_s (Y := V (.func (.yield lp) #[] #[])) (a7 := chsA l) (a8 := nA l.length) 1000 (k : Int) (by omega) (by omega)) hr3 (hf3.some (by simp [_root_.Go.Proofs.Ytaaogcnjfkgnoaa.get])) hg3) ?_
      rintro e a9 w9 ⟨rfl, S9, μ9, hr9, hf9, hg9, hst9⟩
      have hl9 := hst9.keeps hr3 hl3 (hnl _)
      have e9 := hst3'.trans (hst9.less (Nat.le_of_eq (hn _).symm))
      have h49 : a9.tmps.getD 9 undef = .int .i64 ((k : Int) + 1) := slotV hf9 rfl
      refine ⟨⟨k + 1, S9, μ9, hlt, hr9, hf9.some (by simp [_root_.Go.Proofs.Ytaaogcnjfkgnoaa.get]), hg9, e9, hl9⟩, ?_⟩
      rw [h49, h9]
      simp only [numV]
      omega
  · rw [decide_eq_false (by omega)]
    refine wpIn_exit ?_
    simp only [Exit.then, Exit.inBlock, ↓reduceIte]
    obtain rfl : k = l.length := by omega
    rw [List.take_length] at hr3 hst3'
    exact ⟨hf3.nodef, _, results_none rfl _ _ _, _, rfl, w3, S3, _, _, .normal, ⟨rfl, rfl⟩, hr3, hst3', hl3, .inl ⟨rfl, rfl⟩⟩
end
end Go.Proofs.Ytaaogcnjfkgnoaa

namespace Go.Proofs.Ytaaogcnjfkgnoaa
open Go.RowKit
section
variable {P : Program} {G : Gl} {n d : Nat} {w w0 : World} {S S0 : SS} {μ : List Value} {H : List AObj}
theorem mark_endC {fnn : Func} {rs : List ResultVar} {X : AV} {T : Tm} {a : Act} {D K : Nat} (hrs : fnn.results.toList = rs) (hr : Rel w S μ H) (hf : Fr S μ ⟨K,[⟨.collected D,#[]⟩]⟩ T a) (hD : w.heap[D]? = some (.deferred (some []))) (hX : resC P H T rs fun ds=>ro H (oneOf ds) = X) (hl : ltT 0 X = true)
  (hst : Step 0 w0 S0 [] [] w S μ H) (h0 : w0.heap.size ≤ D) : LeavesInM Fence.wide d P fnn a.tmps (CPost w0 S0 [] [] fun r H'=>r = X ∧ H' = []) a.defers .returning w := by
 have hnd : ∀ r cs t p,(Obj.deferred r) ≠ .cells cs t p := fun _ _ _ _ e=>by cases e
 rw [hf.nodef]
 refine ⟨by simp, .inl ⟨D,_,rfl,run_takeDeferred hD,?_⟩⟩
 have hr2 := hr.touch (w' := w.putObj D (.deferred none)) D (NoCells.of hD (hnd _)) (putObj_other _ _ _)
 obtain ⟨v,r,hrun,hrep,hk⟩ := resultsC_run (P := P) hrs hr2 hf (K := fun r=>ro H r = X) hX
 have hrepX : rep S μ X v := by rw [← hk];exact hrep.toRo hr2
 have hle : HLe H [] := by cases H <;> trivial
 refine ⟨v,hrun,v,X,[],S,μ.take 0,rfl,⟨rfl,rfl⟩,hr2.le hle rfl,hrepX.take hl,?_⟩
 exact (hst.touch (w' := w.putObj D (.deferred none)) (l := D) h0 rfl rfl rfl (Nat.le_of_eq (putObj_size w D _).symm) (putObj_other _ _ _)).trans (Le.step (s := ⟨H,[]⟩) (s' := ⟨[],[]⟩) ⟨hle,rfl,trivial⟩ (Nat.le_refl _) _ _ _)
theorem raw_someC {rs : List ResultVar} {e : Exit} {s : ASt} {X : AV} {H' : List AObj} (h : rawFK P n rs e s = some (X,H')) (hp : ∀ u,X ≠ PN u) : (e = .normal ∨ e = .ret) ∧ (resC P s.H s.T rs fun ds=>ro s.H (oneOf ds) = X) := by
 have key : (resEK P s.H s.T rs fun ds=>some (ro s.H (oneOf ds),s.H)) = some (X,H') → resC P s.H s.T rs fun ds=>ro s.H (oneOf ds) = X := fun q=>by
  rw [resEK_eq] at q
  exact resC_mono (fun ds w=>by cases w;rfl) (resE_ok q)
 cases e with
 |normal=>exact ⟨.inl rfl,key h⟩
 |ret=>exact ⟨.inr rfl,key h⟩
 |exit id=>cases h
 |goto l=>cases h
 |panic ch =>
  exfalso
  have h : chE ch (fun u=>some (PN u,s.H)) = some (X,H') := h
  unfold chE at h
  split at h <;> cases h
  exact hp _ rfl
 |outgrown=>cases h
end
noncomputable def atC : Code := (Try.f78.body).getD .skip
theorem at_shape : endC 4 atC = .seq (.seq AtB_c (.block 0 (.rangeFunc (.tmp 13) #[14] (.region 5 (regO (cdL AtR_c)).toArray false) (cdR AtR_c)))) AtC_c := by kernel_rfl
theorem atR_shape : AtR_c = .seq (.region 5 (regO (cdL AtR_c)).toArray false) (cdR AtR_c) := by kernel_rfl
theorem atR_flat : flatC (cdR AtR_c) = true := by kernel_rfl
abbrev T0a : Tm := [(3,OP 0 0),(4,OP 1 0),(5,OP 2 0),(6,OP 3 0),(7,OP 4 0)]
noncomputable abbrev recA (fn D : Nat) (tm : Array Value) : Loop := ⟨.ready,none,fn,tm,[14].toArray, .region 5 (regO (cdL AtR_c)).toArray false,cdR AtR_c,D⟩
theorem yp_mono {d l : Nat} {r : Loop} {vs : Array Value} {w : World} {S : SS} {μ : List Value} {H : List AObj} {Q Q' : Exit → List AObj → Prop} (hq : ∀ e H2,Q e H2 → Q' e H2) (h : YieldAt Fence.wide d Try.prog l vs w (YPost l r w S μ H Q)) : YieldAt Fence.wide d Try.prog l vs w (YPost l r w S μ H Q') := by
 obtain ⟨fn,tmps,asg,bd,y1,y2⟩ := h
 refine ⟨fn,tmps,asg,bd,y1,y2.mono ?_⟩
 rintro e w' ⟨w2,S',μ',H',x,q,rest⟩
 exact ⟨w2,S',μ',H',x,hq _ _ q,rest⟩
theorem xA_true {e : Exit} (h : bA true = xA e) : e = .normal := by
 cases e <;> simp [xA] at h
 rfl
theorem roundA_w {q : Int} {l : List Ch} {lp fn D d : Nat} {tm : Array Value} (a : Int × Co) (x : Ce) (vs : List Value) (w : World) (S : SS) (μ : List Value) (hr : Rel w S μ (atH q l a.1 a.2)) (hf : Fr S μ (F0 19) T0a ⟨tm,[]⟩) (hg : GOk GG S) (hl : w.heap[lp]? = some (.loop (recA fn D tm))) (h1 : vs.length = 1)
  (hv : ∀ (j : Nat) (d : AV) (v : Value),[ceE x][j]? = some d → vs[j]? = some v → rep S μ d v) :
  YieldAt Fence.wide d Try.prog lp vs.toArray w (YPost lp (recA fn D tm) w S μ (atH q l a.1 a.2) fun e H2=>e = .normal ∧ H2 = atH q l (keepC q a x).1 (keepC q a x).2) := by
 have hx := atR_s 1000 q a.1 a.2 l x
 unfold AtR at hx
 rw [atR_shape] at hx
 refine yp_mono ?_ (round_exec (ps := [14]) (xs := [ceE x]) (T := T0a) (AtR_hE 1000) rfl hr hf hg (by decide) hl (by rw [h1];rfl) rfl hv atR_flat rfl hx)
 rintro e H2 ⟨q1,q2⟩
 exact ⟨xA_true q1,q2⟩
def atF (q : Int) (l : List Ch) : Co := (foldL (keepC q) (-1,co0 q) l).2
theorem at_c (q : Int) (l : List Ch) (hl : l.length ≤ 1000) (hc : ∀ c ∈ l,c.cs.length ≤ 1000) : ACp Try.prog GG 78 [chsA l,nA q] (.agg (coC (atF q l))) := by
 have hnd : ∀ r cs t p,(Obj.deferred r) ≠ .cells cs t p := fun _ _ _ _ e=>by cases e
 refine ⟨by kernel_rfl,?_⟩
 intro w S μ vs hr hg hlen hv
 have hμ : μ = [] := List.eq_nil_of_length_eq_zero hr.len
 subst hμ
 refine (callsIn_wide (n := 5)).1 ?_
 refine callsIn_of_wp_marks Try.func78 rfl trivial ?_
 rw [Try.ntmps78]
 have hfr := fr_args (S := S) (μ := []) (N := 19) (args := [chsA l,nA q]) (vs := vs) hlen (by simp) hv
 refine exec_farW (n := 0) MIX (AtA_hE 1000) 4 atC AtA_h ⟨[],argsT 0 [chsA l,nA q]⟩ (by kernel_rfl) (atA_s 1000 q (chsA l)) hr hfr hg ?_ (Nat.le_refl _)
 rintro a2 w2 ⟨S2,μ2,_,hr2,hf2,hg2,hst2⟩
 rw [at_shape]
 refine wpIn_seq (wpIn_seq (wpIn_mono (part_w (rs := [3,4,5,6,7,13]) MIX (AtB_hE 1000) (atB_s 1000 q (-1) (co0 q) l) hr2 hf2 hg2) ?_))
 rintro e a3 w3 ⟨rfl,S3,μ3,hr3,hf3,hg3,hst3⟩
 simp only [Exit.then]
 have hst3' : Step 0 w S [] [] w3 S3 μ3 (atH q l (-1) (co0 q)) := hst2.trans (hst3.less (Nat.zero_le _))
 refine wpIn_block ?_
 have hlaw := range_law (d := 4) (P := Try.prog) (G := GG) (g := .tmp 13) (ps := [14]) (assign := .region 5 (regO (cdL AtR_c)).toArray false) (body := cdR AtR_c) (N := 19) (f := 93) (caps := [OP 5 0]) (q2 := 0) (Q := fun e H2=>e = .normal ∧ H2 = atH q l (foldL (keepC q) (-1,co0 q) l).1 (atF q l)) hr3 hf3 hg3 rfl (by kernel_rfl) ?_
 refine wpIn_mono hlaw ?_
 ·rintro e a5 w5 ⟨S5,μ5,H5,⟨rfl,rfl⟩,hr5,hst5,hf5,hD5,hsz⟩
  simp only [Exit.inBlock,Exit.then]
  have hst5' := hst3'.trans (hst5.less (Nat.zero_le _))
  have hx := atC_s 1000 q (foldL (keepC q) (-1,co0 q) l).1 (atF q l) l [⟨.collected w3.heap.size,#[]⟩]
  refine wpIn_wide.2 (wp_mono (exec_ok (n := 6) MIX (AtC_hE 1000) AtC_c AtC_h ⟨atH q l (foldL (keepC q) (-1,co0 q) l).1 (atF q l),[(4,OP 1 0),(5,OP 2 0)]⟩ _ (Nat.le_refl _) hx w5 S5 μ5 a5 hr5 (hf5.some (by simp [_root_.Go.Proofs.Ytaaogcnjfkgnoaa.get])) (hg3.ext hst5.still)) ?_)
  rintro e a6 w6 ⟨s6,S6,μ6,hq6,hr6,hf6,hst6⟩
  obtain ⟨he6,hX6⟩ := raw_someC (rs := [.cell 4 73]) hq6 (fun u h=>by cases h)
  have hend := mark_endC (P := Try.prog) (d := 5) (fnn := Try.f78) (rs := [.cell 4 73]) (X := .agg (coC (atF q l))) rfl hr6 hf6 (hst6.keeps hr5 hD5 (hnd _)) hX6 rfl (hst5'.trans (hst6.less (Nat.zero_le _))) hst3'.size
  rcases he6 with rfl|rfl
  ·exact hend
  ·exact hend
 ·intro lp D fn w1 us hr1 hl1 hus hu
  exact it_calls (β := Int × Co) (C := fun a=>atH q l a.1 a.2) (R := keepC q) (b0 := (-1,co0 q)) (b := 5) (r := recA fn D a3.tmps) (T0 := T0a) (tm := a3.tmps) (K := 19) (fun a=>rfl) (fun a=>rfl) (fun a=>rfl) hl hc (fun a x vs w S μ h1 h2 h3 h4 h5 h6=>roundA_w a x vs w S μ h1 h2 h3 h4 h5 h6) (by decide) hr1 ⟨hf3.size,rfl,(hf3.some (T' := T0a) (by simp [_root_.Go.Proofs.Ytaaogcnjfkgnoaa.get])).slot⟩ hg3 hl1 hus hu
end Go.Proofs.Ytaaogcnjfkgnoaa

namespace Go.Proofs.Ytaaogcnjfkgnoaa
open Go.RowKit
def FitL (l : List Ch) : Prop := l.length ≤ 1000 ∧ ∀ c ∈ l,c.cs.length ≤ 1000
noncomputable def choose_at_t (m : Nat) : List AV → RO := orac (ι := List Ch × Int) (fun p=>[chsA p.1,nA p.2]) (fun p=>.agg (coC (atF p.2 p.1))) (fun p=>FitL p.1)
theorem choose_at_ok (m : Nat) : ∀ args X H',choose_at_t m args = some (X,H') → ACp Try.prog GG 78 args X := orac_ok (by
 rintro ⟨l,q⟩ h
 exact at_c q l h.1 h.2)
theorem smE_inj {x y : Sm} (h : smE x = smE y) : x = y := by
 cases x;cases y
 unfold smE smC at h
 injection h with h
 simp only [List.cons.injEq,and_true] at h
 obtain ⟨a,b,c,d,e⟩ := h
 rw [nA_inj a,nA_inj b,nA_inj c,nA_inj d,nA_inj e]
theorem mapE_inj {α : Type} {f : α → AV} (hf : ∀ {x y},f x = f y → x = y) : ∀ {l k : List α},l.map f = k.map f → l = k
 |[],[],_=>rfl
 |[],_ :: _,h=>by cases h
 |_ :: _,[],h=>by cases h
 |a :: l,b :: k,h=>by
  simp only [List.map_cons,List.cons.injEq] at h
  rw [hf h.1,mapE_inj hf h.2]
theorem ceE_inj {x y : Ce} (h : ceE x = ceE y) : x = y := by
 cases x;cases y
 unfold ceE ceC at h
 injection h with h
 simp only [List.cons.injEq,and_true] at h
 obtain ⟨a,b,c,d,e⟩ := h
 injection e with e
 rw [nA_inj a,nA_inj b,nA_inj c,sA_inj d,mapE_inj smE_inj e]
theorem cgE_inj {x y : Ch} (h : cgE x = cgE y) : x = y := by
 cases x;cases y
 unfold cgE cgC at h
 injection h with h
 simp only [List.cons.injEq,and_true] at h
 obtain ⟨a,b,c,d,e,f⟩ := h
 injection e with e
 injection f with f
 rw [nA_inj a,nA_inj b,nA_inj c,nA_inj d,mapE_inj smE_inj e,mapE_inj ceE_inj f]
theorem choose_at_e (m : Nat) (l : List Ch) (q : Int) (h : FitL l) : choose_at_t m [chsA l,nA q] = some (.agg (coC (atF q l)),[]) := orac_eq (ι := List Ch × Int) (by
 rintro ⟨l,q⟩ ⟨k,q'⟩ e
 dsimp only at e ⊢
 simp only [List.cons.injEq,and_true] at e
 obtain ⟨e1,e2⟩ := e
 unfold chsA at e1
 injection e1 with e1
 rw [nA_inj e2,mapE_inj cgE_inj e1]) (i := (l,q)) h
end Go.Proofs.Ytaaogcnjfkgnoaa

namespace Go.Proofs.Ytaaogcnjfkgnoaa
open Go.RowKit
def cP (p : Nat → Bool) : Nat := ((List.range 64).filter p).length
theorem cP_mono {p q : Nat → Bool} (h : ∀ i,i < 64 → p i = true → q i = true) : cP p ≤ cP q := by
 unfold cP
 have key : ∀ l : List Nat,(∀ i ∈ l,p i = true → q i = true) → (l.filter p).length ≤ (l.filter q).length := by
  intro l
  induction l with
  |nil=>intro _;exact Nat.le_refl _
  |cons a l ih =>
   intro h
   have h1 := ih fun i hi=>h i (List.mem_cons_of_mem _ hi)
   have h2 := h a (List.mem_cons_self ..)
   simp only [List.filter_cons]
   cases hp : p a with
   |true=>rw [h2 hp];simp;omega
   |false=>cases q a <;> simp <;> omega
 exact key _ fun i hi=>h i (List.mem_range.1 hi)
theorem cP_two (p q : Nat → Bool) : cP p + cP q = cP (fun i=>p i && q i) + cP (fun i=>p i || q i) := by
 unfold cP
 have key : ∀ l : List Nat,(l.filter p).length + (l.filter q).length = (l.filter fun i=>p i && q i).length + (l.filter fun i=>p i || q i).length := by
  intro l
  induction l with
  |nil=>rfl
  |cons a l ih =>
   simp only [List.filter_cons]
   cases hp : p a <;> cases hq : q a <;> simp <;> omega
 exact key _
theorem cnt_P (s : Nat) : cntS s = cP s.testBit := rfl
theorem cP_ext {p q : Nat → Bool} (h : ∀ i,i < 64 → p i = q i) : cP p = cP q :=
 Nat.le_antisymm (cP_mono fun i hi k=>by rw [← h i hi];exact k) (cP_mono fun i hi k=>by rw [h i hi];exact k)
theorem not_bit {t i : Nat} (ht : t < 2 ^ 64) (hi : i < 64) : (18446744073709551615 - t).testBit i = !t.testBit i := by
 have e : 18446744073709551615 - t = 2 ^ 64 - (t + 1) := by omega
 rw [e,Nat.testBit_two_pow_sub_succ ht]
 simp [hi]
theorem cnt_all {s : Nat} {n : Int} : cntS (s &&& allN n) = cP fun i=>s.testBit i && decide ((i : Int) < n) := by
 rw [cnt_P]
 exact cP_ext fun i hi=>by rw [Nat.testBit_and,allN_bit hi]
theorem has_s (m s : Nat) (n : Int) (h : s < 2 ^ 64) : quorum_Has m (qA s) (nA n) = some (bA (!decide ((s &&& qb n : Nat) = 0)),[]) := by
 have hb := bit_s m n
 have ha := bits_and_u64_nat s (qb n) h (qb_lt n)
 have e : decide (((s &&& qb n : Nat) : Int) = 0) = decide ((s &&& qb n : Nat) = 0) := by rw [decide_eq_decide];omega
 rw [quorum_Has_eq]
 simp (config := {maxSteps := 4000000,implicitDefEqProofs := false}) only [go_sem,↓reduceIte,Nat.reduceAdd,Nat.reduceSub,Nat.reduceMul,Nat.reduceLeDiff,Nat.reduceLT,Int.reduceEq,Int.reduceNe,Int.reduceLT,Int.reduceLE,Int.reduceAdd,Int.reduceSub,Int.reduceMul,Int.reduceNeg,Nat.zero_add,Nat.add_zero,Nat.mul_one,Int.toNat_natCast,Int.natCast_zero,Int.cast_ofNat_Int,or_false,false_or,or_true,true_or,Int.reduceToNat,Nat.sub_zero,Int.natCast_nonneg,Int.toNat_zero,Bool.true_and,Bool.and_true,Bool.false_and,Bool.and_false,Bool.true_or,Bool.or_true,Bool.false_or,Bool.or_false,Bool.not_true,Bool.not_false,Bool.not_not,true_and,and_true,false_and,and_false,not_true_eq_false,not_false_eq_true,eq_self,decide_true,decide_false,ne_eq,implies_true,forall_const,true_implies,false_implies,Bool.true_eq_false,Bool.false_eq_true,reduceCtorEq,List.map_cons,List.map_nil,List.all_cons,List.all_nil,List.length_cons,List.length_nil,List.length_map,List.length_append,List.nil_append,List.cons_append,List.set_cons_zero,List.set_cons_succ,List.set_nil,List.drop_zero,List.drop_succ_cons,List.drop_nil,List.take_zero,List.take_succ_cons,List.take_nil,Option.map_some,Option.map_none,Option.isSome_some,Nat.reduceEqDiff,Nat.reduceBEq,Nat.reduceGT,List.all_append,List.all_map,Function.comp_def,decide_eq_true_eq,Bool.and_eq_true,beq_self_eq_true,or_self,and_self,ite_true,ite_false,Nat.le_refl,Bool.not_eq_true,decide_not,Bool.not_eq_true',decide_eq_false_iff_not,Bool.not_eq_false,Bool.or_eq_true,if_true,if_false,ite_self,u_roF,u_cvF,u_cvC,u_ceT,u_ceK,u_appS,hb,ha,e]
theorem cP_only {a : Nat} (h : a < 64) : cP (fun i=>decide (i = a)) = 1 := by
 have : ∀ a,a < 64 → cP (fun i=>decide (i = a)) = 1 := by decide +kernel
 exact this a h
theorem cP_new {p q : Nat → Bool} {a : Nat} (h : a < 64) (hp : p a = false) (hq : ∀ i,i < 64 → q i = (p i || decide (i = a))) : cP q = cP p + 1 := by
 have h1 := cP_two p (fun i=>decide (i = a))
 have h2 : cP (fun i=>p i && decide (i = a)) = 0 := by
  unfold cP
  rw [List.length_eq_zero_iff,List.filter_eq_nil_iff]
  intro i _
  by_cases e : i = a
  ·subst e;simp [hp]
  ·simp [e]
 rw [cP_only h,h2,← cP_ext hq] at h1
 omega
end Go.Proofs.Ytaaogcnjfkgnoaa

namespace Go.Proofs.Ytaaogcnjfkgnoaa
open Go.RowKit
attribute [local go_sem] Nat.zero_add Nat.add_zero Nat.mul_one Int.toNat_natCast Int.natCast_zero Int.cast_ofNat_Int or_false false_or or_true true_or Nat.sub_zero Int.natCast_nonneg Int.toNat_zero Bool.true_and Bool.and_true Bool.false_and Bool.and_false Bool.true_or Bool.or_true Bool.false_or Bool.or_false Bool.not_true Bool.not_false Bool.not_not true_and and_true false_and and_false not_true_eq_false not_false_eq_true eq_self decide_true decide_false ne_eq implies_true forall_const true_implies false_implies Bool.true_eq_false Bool.false_eq_true List.map_cons List.map_nil List.all_cons List.all_nil List.length_cons List.length_nil List.length_map List.length_append List.nil_append List.cons_append List.set_cons_zero List.set_cons_succ List.set_nil List.drop_zero List.drop_succ_cons List.drop_nil List.take_zero List.take_succ_cons List.take_nil Option.map_some Option.map_none Option.isSome_some List.all_append List.all_map Function.comp_def decide_eq_true_eq Bool.and_eq_true beq_self_eq_true or_self and_self ite_true ite_false Nat.le_refl Bool.not_eq_true decide_not Bool.not_eq_true' decide_eq_false_iff_not Bool.not_eq_false Bool.or_eq_true if_true if_false ite_self u_roF u_cvF u_cvC u_ceT u_ceK u_appS sm_it sm_len sm_sure sm_ltA sm_lt1 sm_all1 sm_ro sm_take sm_sl sm_set sm_noT sm_fr sm_st_fr sm_set_fr sm_kd sm_st_kd sm_set_kd sm_vw sm_st_vw sm_set_vw sm_sq sm_st_sq sm_set_sq sm_tm sm_st_tm sm_set_tm zsm_len zsm_sure zsm_lt1 zsm_sl zsm_ro zsm_setz zsm_set zsm_setr zsm_take sms_ltA sms_len ce_it ce_len ce_sure ce_ltA ce_lt1 ce_all1 ce_ro ce_take ce_sl ce_set ce_noT ce_sq ce_st_sq ce_set_sq ce_vw ce_st_vw ce_set_vw ce_tm ce_st_tm ce_set_tm ce_body ce_st_body ce_set_body ce_vs ce_st_vs ce_set_vs zce_len zce_sure zce_lt1 zce_sl zce_ro zce_setz zce_set zce_setr zce_take ces_ltA ces_len cg_it cg_len cg_sure cg_ltA cg_lt1 cg_all1 cg_ro cg_take cg_sl cg_set cg_noT cg_fr cg_st_fr cg_set_fr cg_vw cg_st_vw cg_set_vw cg_st cg_st_st cg_set_st cg_rt cg_st_rt cg_set_rt cg_pf cg_st_pf cg_set_pf cg_cs cg_st_cs cg_set_cs zcg_len zcg_sure zcg_lt1 zcg_sl zcg_ro zcg_setz zcg_set zcg_setr zcg_take cgs_ltA cgs_len ms_it ms_len ms_sure ms_ltA ms_lt1 ms_all1 ms_ro ms_take ms_sl ms_set ms_noT ms_kd ms_st_kd ms_set_kd ms_fr ms_st_fr ms_set_fr ms_vw ms_st_vw ms_set_vw ms_sq ms_st_sq ms_set_sq ms_tm ms_st_tm ms_set_tm ms_body ms_st_body ms_set_body ms_vs ms_st_vs ms_set_vs ms_chs ms_st_chs ms_set_chs zms_len zms_sure zms_lt1 zms_sl zms_ro zms_setz zms_set zms_setr zms_take mss_ltA mss_len co_it co_len co_sure co_ltA co_lt1 co_all1 co_ro co_take co_sl co_set co_noT co_sq co_st_sq co_set_sq co_tm co_st_tm co_set_tm co_body co_st_body co_set_body co_nl co_st_nl co_set_nl zco_len zco_sure zco_lt1 zco_sl zco_ro zco_setz zco_set zco_setr zco_take cos_ltA cos_len sd_it sd_len sd_sure sd_ltA sd_lt1 sd_all1 sd_ro sd_take sd_sl sd_set sd_noT sd_wh sd_st_wh sd_set_wh sd_fr sd_st_fr sd_set_fr sd_kd sd_st_kd sd_set_kd sd_vw sd_st_vw sd_set_vw sd_sq sd_st_sq sd_set_sq sd_tm sd_st_tm sd_set_tm sds_ltA sds_len natInt u_nthM u_bz u_bi1 u_bi2 u_bi3 u_bi4 u_bi5 u_bi6 u_bi7 ltO_o ltO_r u_eqE
attribute [local go_sem_proc] Nat.reduceAdd Nat.reduceSub Nat.reduceMul Nat.reduceLeDiff Nat.reduceLT Int.reduceEq Int.reduceNe Int.reduceLT Int.reduceLE Int.reduceAdd Int.reduceSub Int.reduceMul Int.reduceNeg Int.reduceToNat reduceCtorEq Nat.reduceEqDiff Nat.reduceBEq Nat.reduceGT
attribute [local go_sem_proc ↓] reduceIte
def dueB (q : Int) : Bool := decide (0 < q) && decide (q % 4 = 0)
theorem due_s (m : Nat) (q : Int) : marks_Due m (nA q) = some (bA (dueB q),[]) := by
 rw [marks_Due_eq]
 unfold dueB
 by_cases h1 : 0 < q
 ·have h2 : q.tmod 4 = q % 4 := tmod_pos (by omega)
  simp (config := {maxSteps := 4000000,implicitDefEqProofs := false}) (disch := omega) only [go_sem,h1,h2]
 ·simp (config := {maxSteps := 4000000,implicitDefEqProofs := false}) (disch := omega) only [go_sem,h1]
def lastQ (st : Int) (cs : List Ce) : Nat → Int
 |0=>st
 |j + 1=>(cs.getD j Ce.zero).sq
theorem lastQ_succ {st : Int} {cs : List Ce} {j : Nat} (h : j < cs.length) : lastQ st cs (j + 1) = cs[j].sq := by
 simp [lastQ,List.getD,h]
structure CeOk (st : Int) (cs : List Ce) (j : Nat) (x : Ce) : Prop where
 lo : lastQ st cs j < x.sq
 hi : x.sq ≤ st + 16
 vw : 0 ≤ x.vw
 bd : x.body.length ≤ 65536
def CsOk (st : Int) (cs : List Ce) : Prop := ∀ (j : Nat) (h : j < cs.length),CeOk st cs j cs[j]
theorem CsOk.last {st : Int} {cs : List Ce} (h : CsOk st cs) : ∀ j,j ≤ cs.length → st ≤ lastQ st cs j
 |0,_=>Int.le_refl _
 |j + 1,hj=>by
  have h1 := CsOk.last h j (by omega)
  have h2 := (h j (by omega)).lo
  rw [lastQ_succ (by omega)]
  omega
theorem CsOk.st {st : Int} {cs : List Ce} (h : CsOk st cs) {j : Nat} (hj : j < cs.length) : st < cs[j].sq := by
 have h1 := h.last j (by omega)
 have h2 := (h j hj).lo
 omega
theorem certs_s (m : Nat) (x : Ch) (hm : x.cs.length < m) (h0 : 0 ≤ x.st) (h1 : x.st ≤ 2147483647) (hl : x.cs.length ≤ 1000) (hcs : CsOk x.st x.cs) : choose_certs m (cgE x) = some (bA true,[]) := by
 rw [choose_certs_eq,cg_it]
 simp (config := {maxSteps := 4000000,implicitDefEqProofs := false}) (disch := omega) only [go_sem,]
 refine iter_go (m := m) (ι := {k : Nat // k ≤ x.cs.length}) (fun k=>⟨[⟨1,ty_api_Change,0,cgC x⟩],[(1,OP 0 0),(3,nA (lastQ x.st x.cs k.1)),(9,cesA x.cs),(10,nA x.cs.length),(11,nA k.1)]⟩) (fun k=>x.cs.length - k.1) (fun _=>some (bA true,[])) ?_ ⟨0,Nat.zero_le _⟩ (by dsimp only;omega)
 rintro kx hkx ⟨k,hk⟩ kc hkc
 dsimp only at hkc ⊢
 rw [choose_certs_b1_eq]
 unfold cesA at hkc ⊢
 by_cases hlt : k < x.cs.length
 ·have hlt' : (k : Int) < (x.cs.length : Int) := by omega
  obtain ⟨c1,c2,c3,c4⟩ := hcs k hlt
  have c5 := hcs.st hlt
  have step := hkc ⟨k + 1,by omega⟩ (by dsimp only;omega)
  dsimp only at step
  rw [lastQ_succ hlt] at step
  have d1 : ¬ x.cs[k].sq ≤ lastQ x.st x.cs k := by omega
  have d2 : ¬ (16 : Int) < x.cs[k].sq - x.st := by omega
  have d3 : ¬ x.cs[k].vw < 0 := by omega
  have d4 : ¬ (65536 : Int) < (x.cs[k].body.length : Int) := by omega
  have d5 : IntKind.i64.wrap (x.cs[k].sq - x.st) = x.cs[k].sq - x.st := w_i64 (by omega) (by omega)
  simp (config := {maxSteps := 4000000,implicitDefEqProofs := false}) (disch := omega) only [go_sem,hlt',hlt,d1,d2,d3,d4,d5,w_i64,choose_certs_r2_eq,choose_certs_r3_eq,choose_certs_r5_eq]
  exact step
 ·obtain rfl : k = x.cs.length := by omega
  have hlt' : ¬ (x.cs.length : Int) < (x.cs.length : Int) := Int.lt_irrefl _
  simp (config := {maxSteps := 4000000,implicitDefEqProofs := false}) (disch := omega) only [go_sem,hlt',hkx,choose_certs_r1_eq]
def setN (l : List Ch) (k : Nat) : Nat := (l.take k).foldl (fun s c=>s ||| qb c.fr) 0
theorem setN_succ {l : List Ch} {k : Nat} (h : k < l.length) : setN l (k + 1) = setN l k ||| qb l[k].fr := by
 unfold setN
 rw [List.take_succ_eq_append_getElem h,List.foldl_append]
 rfl
theorem setN_lt (l : List Ch) : ∀ k,k ≤ l.length → setN l k < 2 ^ 64
 |0,_=>by unfold setN;simp
 |k + 1,hk=>by
  rw [setN_succ (by omega)]
  exact Nat.or_lt_two_pow (setN_lt l k (by omega)) (qb_lt _)
structure ChOk (n : Int) (c : Ch) : Prop where
 f0 : 0 ≤ c.fr
 fn : c.fr < n
 sd : c.st = 0 ∨ dueB c.st = true
 sl : c.st ≤ 2147483647
 cs : CsOk c.st c.cs
theorem ChOk.s0 {n : Int} {c : Ch} (h : ChOk n c) : 0 ≤ c.st := by
 rcases h.sd with q|q
 ·omega
 ·unfold dueB at q
  simp only [Bool.and_eq_true,decide_eq_true_eq] at q
  omega
structure LOk (n : Int) (l : List Ch) : Prop where
 nn : okN n = true
 len : 2 * fN n + 1 ≤ l.length
 all : ∀ c ∈ l,ChOk n c
 one : (l.map Ch.fr).Nodup
theorem setN_bit {n : Int} {l : List Ch} (hn : okN n = true) (h : ∀ c ∈ l,ChOk n c) : ∀ k,k ≤ l.length → ∀ j,j < 64 → ((setN l k).testBit j = true ↔ ∃ i,∃ h : i < l.length,i < k ∧ l[i].fr = j)
 |0,_,j,hj=>by
  have : setN l 0 = 0 := rfl
  rw [this]
  simp
 |k + 1,hk,j,hj=>by
  rw [setN_succ (by omega),bitw hj,Bool.or_eq_true,setN_bit hn h k (by omega) j hj,decide_eq_true_eq]
  constructor
  ·rintro (⟨i,h1,h2,h3⟩|h3)
   ·exact ⟨i,h1,by omega,h3⟩
   ·exact ⟨k,by omega,by omega,h3⟩
  ·rintro ⟨i,h1,h2,h3⟩
   by_cases e : i = k
   ·subst e;exact .inr h3
   ·exact .inl ⟨i,h1,by omega,h3⟩
theorem qb_nat {a : Nat} (h : a ≤ 63) : qb a = 2 ^ a := by unfold qb;rw [if_pos (by omega)];simp
theorem and_qb {s a : Nat} (h : a ≤ 63) : (s &&& qb a = 0) ↔ s.testBit a = false := by
 rw [qb_nat h]
 constructor
 ·intro q
  have : (s &&& 2 ^ a).testBit a = false := by rw [q];exact Nat.zero_testBit a
  rwa [Nat.testBit_and,Nat.testBit_two_pow_self,Bool.and_true] at this
 ·intro q
  apply Nat.eq_of_testBit_eq
  intro j
  rw [Nat.testBit_and,Nat.testBit_two_pow,Nat.zero_testBit]
  by_cases e : a = j
  ·subst e;simp [q]
  ·simp [e]
section
variable {n : Int} {l : List Ch}
theorem LOk.n64 (h : LOk n l) : n ≤ 16 := by
 rcases okN_iff.1 h.nn with q|q|q|q|q <;> omega
theorem LOk.fresh (h : LOk n l) {k : Nat} (hk : k < l.length) : (setN l k).testBit l[k].fr.toNat = false := by
 have hc := h.all l[k] (List.getElem_mem hk)
 have h1 := hc.f0
 have h2 := hc.fn
 have h3 := h.n64
 have hj : l[k].fr.toNat < 64 := by omega
 have key := setN_bit h.nn h.all k (by omega) l[k].fr.toNat hj
 cases hb : (setN l k).testBit l[k].fr.toNat with
 |false=>rfl
 |true =>
  exfalso
  obtain ⟨i,hi,hik,he⟩ := key.1 hb
  have h4 : l[i].fr = l[k].fr := by rw [he,Int.toNat_of_nonneg h1]
  have h5 := (List.pairwise_iff_getElem.1 h.one) i k (by simpa using hi) (by simpa using hk) hik
  rw [List.getElem_map,List.getElem_map] at h5
  exact h5 h4
theorem LOk.has (h : LOk n l) {k : Nat} (hk : k < l.length) : (setN l k &&& qb l[k].fr : Nat) = 0 := by
 have hc := h.all l[k] (List.getElem_mem hk)
 have h1 := hc.f0
 have h2 := hc.fn
 have h3 := h.n64
 have h4 := h.fresh hk
 obtain ⟨a,ha⟩ : ∃ a : Nat,l[k].fr = a := ⟨l[k].fr.toNat,by omega⟩
 rw [ha] at h4 ⊢
 exact (and_qb (by omega)).2 (by simpa using h4)
theorem LOk.cnt (h : LOk n l) : ∀ k,k ≤ l.length → cntS (setN l k &&& allN n) = k
 |0,_=>by
  rw [cnt_all]
  have : setN l 0 = 0 := rfl
  rw [this]
  unfold cP
  rw [List.length_eq_zero_iff,List.filter_eq_nil_iff]
  intro i _
  simp
 |k + 1,hk=>by
  have ih := LOk.cnt h k (by omega)
  have hk' : k < l.length := by omega
  have hc := h.all l[k] (List.getElem_mem hk')
  have h1 := hc.f0
  have h2 := hc.fn
  have h3 := h.n64
  have h4 := h.fresh hk'
  rw [cnt_all] at ih ⊢
  rw [cP_new (p := fun i=>(setN l k).testBit i && decide ((i : Int) < n)) (a := l[k].fr.toNat) (by omega) (by simp [h4]) (fun i hi=>by
   rw [setN_succ hk',bitw hi]
   have e : decide (l[k].fr = (i : Int)) = decide (i = l[k].fr.toNat) := by rw [decide_eq_decide];omega
   rw [e]
   by_cases q : i = l[k].fr.toNat
   ·have : (i : Int) < n := by omega
    simp [q,this]
    omega
   ·simp [q]),ih]
end
end Go.Proofs.Ytaaogcnjfkgnoaa

namespace Go.Proofs.Ytaaogcnjfkgnoaa
open Go.RowKit
attribute [local go_sem] Nat.zero_add Nat.add_zero Nat.mul_one Int.toNat_natCast Int.natCast_zero Int.cast_ofNat_Int or_false false_or or_true true_or Nat.sub_zero Int.natCast_nonneg Int.toNat_zero Bool.true_and Bool.and_true Bool.false_and Bool.and_false Bool.true_or Bool.or_true Bool.false_or Bool.or_false Bool.not_true Bool.not_false Bool.not_not true_and and_true false_and and_false not_true_eq_false not_false_eq_true eq_self decide_true decide_false ne_eq implies_true forall_const true_implies false_implies Bool.true_eq_false Bool.false_eq_true List.map_cons List.map_nil List.all_cons List.all_nil List.length_cons List.length_nil List.length_map List.length_append List.nil_append List.cons_append List.set_cons_zero List.set_cons_succ List.set_nil List.drop_zero List.drop_succ_cons List.drop_nil List.take_zero List.take_succ_cons List.take_nil Option.map_some Option.map_none Option.isSome_some List.all_append List.all_map Function.comp_def decide_eq_true_eq Bool.and_eq_true beq_self_eq_true or_self and_self ite_true ite_false Nat.le_refl Bool.not_eq_true decide_not Bool.not_eq_true' decide_eq_false_iff_not Bool.not_eq_false Bool.or_eq_true if_true if_false ite_self u_roF u_cvF u_cvC u_ceT u_ceK u_appS sm_it sm_len sm_sure sm_ltA sm_lt1 sm_all1 sm_ro sm_take sm_sl sm_set sm_noT sm_fr sm_st_fr sm_set_fr sm_kd sm_st_kd sm_set_kd sm_vw sm_st_vw sm_set_vw sm_sq sm_st_sq sm_set_sq sm_tm sm_st_tm sm_set_tm zsm_len zsm_sure zsm_lt1 zsm_sl zsm_ro zsm_setz zsm_set zsm_setr zsm_take sms_ltA sms_len ce_it ce_len ce_sure ce_ltA ce_lt1 ce_all1 ce_ro ce_take ce_sl ce_set ce_noT ce_sq ce_st_sq ce_set_sq ce_vw ce_st_vw ce_set_vw ce_tm ce_st_tm ce_set_tm ce_body ce_st_body ce_set_body ce_vs ce_st_vs ce_set_vs zce_len zce_sure zce_lt1 zce_sl zce_ro zce_setz zce_set zce_setr zce_take ces_ltA ces_len cg_it cg_len cg_sure cg_ltA cg_lt1 cg_all1 cg_ro cg_take cg_sl cg_set cg_noT cg_fr cg_st_fr cg_set_fr cg_vw cg_st_vw cg_set_vw cg_st cg_st_st cg_set_st cg_rt cg_st_rt cg_set_rt cg_pf cg_st_pf cg_set_pf cg_cs cg_st_cs cg_set_cs zcg_len zcg_sure zcg_lt1 zcg_sl zcg_ro zcg_setz zcg_set zcg_setr zcg_take cgs_ltA cgs_len ms_it ms_len ms_sure ms_ltA ms_lt1 ms_all1 ms_ro ms_take ms_sl ms_set ms_noT ms_kd ms_st_kd ms_set_kd ms_fr ms_st_fr ms_set_fr ms_vw ms_st_vw ms_set_vw ms_sq ms_st_sq ms_set_sq ms_tm ms_st_tm ms_set_tm ms_body ms_st_body ms_set_body ms_vs ms_st_vs ms_set_vs ms_chs ms_st_chs ms_set_chs zms_len zms_sure zms_lt1 zms_sl zms_ro zms_setz zms_set zms_setr zms_take mss_ltA mss_len co_it co_len co_sure co_ltA co_lt1 co_all1 co_ro co_take co_sl co_set co_noT co_sq co_st_sq co_set_sq co_tm co_st_tm co_set_tm co_body co_st_body co_set_body co_nl co_st_nl co_set_nl zco_len zco_sure zco_lt1 zco_sl zco_ro zco_setz zco_set zco_setr zco_take cos_ltA cos_len sd_it sd_len sd_sure sd_ltA sd_lt1 sd_all1 sd_ro sd_take sd_sl sd_set sd_noT sd_wh sd_st_wh sd_set_wh sd_fr sd_st_fr sd_set_fr sd_kd sd_st_kd sd_set_kd sd_vw sd_st_vw sd_set_vw sd_sq sd_st_sq sd_set_sq sd_tm sd_st_tm sd_set_tm sds_ltA sds_len natInt u_nthM u_bz u_bi1 u_bi2 u_bi3 u_bi4 u_bi5 u_bi6 u_bi7 ltO_o ltO_r u_eqE
attribute [local go_sem_proc] Nat.reduceAdd Nat.reduceSub Nat.reduceMul Nat.reduceLeDiff Nat.reduceLT Int.reduceEq Int.reduceNe Int.reduceLT Int.reduceLE Int.reduceAdd Int.reduceSub Int.reduceMul Int.reduceNeg Int.reduceToNat reduceCtorEq Nat.reduceEqDiff Nat.reduceBEq Nat.reduceGT
attribute [local go_sem_proc ↓] reduceIte
section
variable {n : Int} {l : List Ch}
theorem may_s (m : Nat) (h : LOk n l) (hf : FitL l) (hm : 1000 < m) : choose_May m (chsA l) (nA n) = some (bA true,[]) := by
 have hF := faults_s m n
 rw [h.nn] at hF
 rw [choose_May_eq]
 have hl := hf.1
 unfold chsA
 simp (config := {maxSteps := 4000000,implicitDefEqProofs := false}) (disch := omega) only [go_sem,hF]
 refine iter_go (m := m) (ι := {k : Nat // k ≤ l.length}) (fun k=>⟨[],[(1,nA n),(7,qA (setN l k.1)),(17,chsA l),(18,nA l.length),(19,nA k.1)]⟩) (fun k=>l.length - k.1) (fun _=>some (bA true,[])) ?_ ⟨0,Nat.zero_le _⟩ (by dsimp only;omega)
 rintro kx hkx ⟨k,hk⟩ kc hkc
 dsimp only at hkc ⊢
 rw [choose_May_b1_eq]
 unfold chsA at hkc ⊢
 by_cases hlt : k < l.length
 ·have hlt' : (k : Int) < (l.length : Int) := by omega
  have hc := h.all l[k] (List.getElem_mem hlt)
  have c0 := hc.s0
  obtain ⟨c1,c2,c3,c4,c5⟩ := hc
  have step := hkc ⟨k + 1,by omega⟩ (by dsimp only;omega)
  dsimp only at step
  have hs := setN_lt l k (by omega)
  rw [setN_succ hlt] at step
  have g1 := has_s m (setN l k) l[k].fr hs
  have hhas := h.has hlt
  rw [hhas] at g1
  have g2 := certs_s m l[k] (by have := hf.2 l[k] (List.getElem_mem hlt);omega) c0 c4 (hf.2 l[k] (List.getElem_mem hlt)) c5
  rw [cg_it] at g2
  have g3 := with_s m (setN l k) l[k].fr hs
  have g4 := due_s m l[k].st
  have d1 : ¬ l[k].fr < 0 := by omega
  have d2 : ¬ n ≤ l[k].fr := by omega
  have d3 : ¬ (2147483647 : Int) < l[k].st := by omega
  by_cases hz : l[k].st = 0
  ·simp (config := {maxSteps := 4000000,implicitDefEqProofs := false}) (disch := omega) only [go_sem,hlt',hlt,d1,d2,d3,g1,g2,g3,hz,w_i64,choose_May_r2_eq,choose_May_r3_eq,choose_May_r5_eq]
   exact step
  ·have hd : dueB l[k].st = true := by
    rcases c3 with q|q
    ·exact absurd q hz
    ·exact q
   rw [hd] at g4
   simp (config := {maxSteps := 4000000,implicitDefEqProofs := false}) (disch := omega) only [go_sem,hlt',hlt,d1,d2,d3,g1,g2,g3,g4,hz,w_i64,choose_May_r2_eq,choose_May_r3_eq,choose_May_r5_eq]
   exact step
 ·obtain rfl : k = l.length := by omega
  have hlt' : ¬ (l.length : Int) < (l.length : Int) := Int.lt_irrefl _
  have g5 := isStrong_s m (setN l l.length) n (setN_lt l _ (Nat.le_refl _))
  have hlen := h.len
  rw [h.cnt l.length (Nat.le_refl _),h.nn,decide_eq_true (show 2 * (fN n : Int) + 1 ≤ (l.length : Int) by omega)] at g5
  simp (config := {maxSteps := 4000000,implicitDefEqProofs := false}) (disch := omega) only [go_sem,hlt',hkx,choose_May_r1_eq,g5]
def bestC (l : List Ch) : Nat → Ch
 |0=>l.headD Ch.zero
 |k + 1=>if (bestC l k).st < (l.getD k Ch.zero).st then l.getD k Ch.zero else bestC l k
def lowC (l : List Ch) : Ch := bestC l l.length
theorem bestC_mem (h : 0 < l.length) : ∀ k,k ≤ l.length → bestC l k ∈ l
 |0,_=>by
  cases l with
  |nil=>simp at h
  |cons a l=>exact List.mem_cons_self ..
 |k + 1,hk=>by
  unfold bestC
  split
  ·rw [List.getD_eq_getElem?_getD,List.getElem?_eq_getElem (by omega)]
   exact List.getElem_mem _
  ·exact bestC_mem h k (by omega)
theorem low_s (m : Nat) (h : LOk n l) (hf : FitL l) (hm : 1000 < m) : choose_Low m (chsA l) (nA n) = some (TU [nA (lowC l).st,nA (lowC l).rt,nA 0],[]) := by
 have hM := may_s m h hf hm
 have hl := hf.1
 have h0 : 0 < l.length := by have := h.len;omega
 have e0 : l[0] = l.headD Ch.zero := by cases l with|nil=>simp at h0|cons=>rfl
 rw [choose_Low_eq]
 unfold chsA at hM ⊢
 simp (config := {maxSteps := 4000000,implicitDefEqProofs := false}) (disch := omega) only [go_sem,hM,h0,e0]
 refine iter_go (m := m) (ι := {k : Nat // k ≤ l.length}) (fun k=>⟨[⟨1,ty_api_Change,0,cgC (bestC l k.1)⟩],[(7,OP 0 0),(17,chsA l),(18,nA l.length),(19,nA k.1)]⟩) (fun k=>l.length - k.1) (fun _=>some (TU [nA (lowC l).st,nA (lowC l).rt,nA 0],[])) ?_ ⟨0,Nat.zero_le _⟩ (by dsimp only;omega)
 rintro kx hkx ⟨k,hk⟩ kc hkc
 dsimp only at hkc ⊢
 rw [choose_Low_b1_eq]
 unfold chsA at hkc ⊢
 by_cases hlt : k < l.length
 ·have hlt' : (k : Int) < (l.length : Int) := by omega
  have step := hkc ⟨k + 1,by omega⟩ (by dsimp only;omega)
  dsimp only at step
  have eg : l.getD k Ch.zero = l[k] := by simp [List.getD,hlt]
  rw [show bestC l (k + 1) = if (bestC l k).st < (l.getD k Ch.zero).st then l.getD k Ch.zero else bestC l k from rfl,eg] at step
  generalize bestC l k = B at *
  by_cases hb : B.st < l[k].st
  ·rw [if_pos hb] at step
   simp (config := {maxSteps := 4000000,implicitDefEqProofs := false}) (disch := omega) only [go_sem,hlt',hlt,hb,w_i64,choose_Low_r2_eq]
   exact step
  ·rw [if_neg hb] at step
   simp (config := {maxSteps := 4000000,implicitDefEqProofs := false}) (disch := omega) only [go_sem,hlt',hlt,hb,w_i64,choose_Low_r2_eq]
   exact step
 ·obtain rfl : k = l.length := by omega
  have hlt' : ¬ (l.length : Int) < (l.length : Int) := Int.lt_irrefl _
  have eL : bestC l l.length = lowC l := rfl
  rw [eL]
  simp (config := {maxSteps := 4000000,implicitDefEqProofs := false}) (disch := omega) only [go_sem,hlt',hkx,choose_Low_r1_eq]
end
end Go.Proofs.Ytaaogcnjfkgnoaa

namespace Go.Proofs.Ytaaogcnjfkgnoaa
open Go.RowKit
noncomputable def ChA_c : Code := farC 4 (endC 0 ((Try.f52.body).getD .skip)) .skip
def ChA_h : Hint := (.two .n (.two .n (.two (.two .n (.two (.two .n .n) .n)) (.two .n .n))))
noncomputable def ChA_env (m : Nat) : Env := [(76, .tell (choose_Low_t m))]
noncomputable abbrev ChA_fin (n0 : Nat) : KO (AV × List AObj) := nslFK [0,6,9]
noncomputable def ChA (m : Nat) (D : List Deferred) (t0 t1 : AV) (H : List AObj) : RO := exec Try.prog GG (ChA_env m) m ⟨45,D⟩ ChA_c ChA_h ⟨H,[(0,t0),(1,t1)]⟩ (ChA_fin H.length)
theorem ChA_eq (m : Nat) (D : List Deferred) (t0 t1 : AV) (H : List AObj) : ChA m D t0 t1 H =
 tellE (choose_Low m (ro H t0) (ro H t1)) [(ro H t0),(ro H t1)] fun t16 =>
 extE t16 0 fun t17 =>
 extE t16 1 fun t18 =>
 extE t16 2 fun t19 =>
 binE none false false .neq t19 (V (.int .i64 0)) fun t21 =>
 condE t21 (
  none) (
  allocE (some zc_int) ty_int H fun t9 H2 =>
  storeE 1 H2 t9 t17 fun H3 =>
  some (TU [t0,t17,t9],H3)) := by
 refine (nslX _ _ _ _ _ _ _ _ _).trans ?_
 kernel_rfl
theorem ChA_hE (m : Nat) : EnvOk Try.prog GG (ChA_env m) := (by
 intro f e h
 simp only [ChA_env,Prod.mk.injEq,List.mem_cons,List.not_mem_nil,or_false] at h
 obtain ⟨rfl,rfl⟩ := h
 ·exact choose_Low_ok m)
end Go.Proofs.Ytaaogcnjfkgnoaa

namespace Go.Proofs.Ytaaogcnjfkgnoaa
open Go.RowKit
noncomputable def ChB_c : Code := (cdL (cdL (endC 4 ((Try.f52.body).getD .skip))))
def ChB_h : Hint := .n
noncomputable def ChB_env (m : Nat) : Env := [(77, .keep (choose_all_t m))]
noncomputable abbrev ChB_fin (n0 : Nat) : KO (AV × List AObj) := nslFK [0,6,9,25]
noncomputable def ChB (m : Nat) (D : List Deferred) (t0 t6 t9 : AV) (H : List AObj) : RO := exec Try.prog GG (ChB_env m) m ⟨45,D⟩ ChB_c ChB_h ⟨H,[(0,t0),(6,t6),(9,t9)]⟩ (ChB_fin H.length)
theorem ChB_eq (m : Nat) (D : List Deferred) (t0 t6 t9 : AV) (H : List AObj) : ChB m D t0 t6 t9 H =
 keepE (choose_all m (ro H t0) H) fun t25 H2 =>
 some (TU [t0,t6,t9,t25],H2) := by
 refine (nslX _ _ _ _ _ _ _ _ _).trans ?_
 kernel_rfl
theorem ChB_hE (m : Nat) : EnvOk Try.prog GG (ChB_env m) := (by
 intro f e h
 simp only [ChB_env,Prod.mk.injEq,List.mem_cons,List.not_mem_nil,or_false] at h
 obtain ⟨rfl,rfl⟩ := h
 ·exact choose_all_ok m)
end Go.Proofs.Ytaaogcnjfkgnoaa

namespace Go.Proofs.Ytaaogcnjfkgnoaa
open Go.RowKit
noncomputable def ChC_c : Code := (endC 5 ((Try.f52.body).getD .skip))
def ChC_h : Hint := (.two .n (.join [11] (.two .n (.one (.lp [(11,ty_api_Choice,4)] [0,9,11,12] [11] (.two (.two .n (.two .n .n)) (.two (.one .n) .n))))) (.two .n .n)))
noncomputable def ChC_env (m : Nat) : Env := [(78, .tell (choose_at_t m))]
noncomputable abbrev ChC_fin (n0 : Nat) : KO (AV × List AObj) := rawFK Try.prog n0 [.tmp 4, .tmp 5]
noncomputable def ChC_r1 (m : Nat) (D : List Deferred) (n0k : Nat) (s : ASt) : RO := joinW Try.prog GG (ChC_env m) m ⟨45,D⟩ (cdR (cdR ChC_c)) ChC_h.r.r s (ChC_fin n0k)
noncomputable def ChC_b1 (m : Nat) (D : List Deferred) (s : ASt) (kc : ASt → RO) (kx : KO (AV × List AObj)) : RO := bodyW Try.prog GG (ChC_env m) m ⟨45,D⟩ (cdL (cdL (cdR (cdL (cdR ChC_c))))) ChC_h.r.l.r.c.c [0,9,11,12] [11] s kc kx
noncomputable def ChC (m : Nat) (D : List Deferred) (t0 t6 t9 : AV) (H : List AObj) : RO := exec Try.prog GG (ChC_env m) m ⟨45,D⟩ ChC_c ChC_h ⟨H,[(0,t0),(6,t6),(9,t9)]⟩ (ChC_fin H.length)
theorem ChC_r1_eq (m : Nat) (D : List Deferred) (n0k : Nat) (H : List AObj) (t11 : AV) : ChC_r1 m D n0k ⟨H,[(11,t11)]⟩ =
 some (ro H (TU [noT t11,noT (V (.int .i64 0))]),H) := by
 refine (joinW_eq _ _ _ _ _ _ _ _ _).trans ?_
 kernel_rfl
theorem ChC_b1_eq (m : Nat) (D : List Deferred) (H : List AObj) (t0 t9 t11 t12 : AV) (kc : ASt → RO) (kx : KO (AV × List AObj)) : ChC_b1 m D ⟨H,[(0,t0),(9,t9),(11,t11),(12,t12)]⟩ kc kx =
 loadE 1 H t9 fun t34 =>
 binE none false false .leq t12 t34 fun t35 =>
 condE t35 (
  tellE (choose_at_t m [(ro H t0),(ro H t12)]) [(ro H t0),(ro H t12)] fun t41 =>
  buildSE (some (ty_api_Choice,4)) 1 [(0,t41)] fun t42 =>
  appE (some (ty_api_Choice,4)) H t11 t42 fun t43 H2 =>
  binE none false false .add t12 (V (.int .i64 1)) fun t37 =>
  backE H.length H2 [(0,t0),(9,t9),(11,t43),(12,t37)] kc) (
  kx (.exit 2) ⟨H,[(11,t11)]⟩) := by
 refine (bodyW_eq _ _ _ _ _ _ _ _ _ _ _ _).trans ?_
 kernel_rfl
theorem ChC_eq (m : Nat) (D : List Deferred) (t0 t6 t9 : AV) (H : List AObj) : ChC m D t0 t6 t9 H =
 binE none false false .add t6 (V (.int .i64 1)) fun t32 =>
 rowE (V (.slice none 0 0)) ty_api_Choice 4 H fun t11 H2 =>
 iterC m (ChC_b1 m D) ⟨H2,[(0,t0),(9,t9),(11,t11),(12,t32)]⟩ (blockX 2 (seqX (fun s=>ChC_r1 m D H.length ⟨s.H,[(11,gt s.T 11)]⟩) (ChC_fin H.length))) := by
 refine (rawX Try.prog GG (ChC_env m) m ⟨45,D⟩ H.length ChC_c ChC_h ⟨H,[(0,t0),(6,t6),(9,t9)]⟩ [.tmp 4, .tmp 5]).trans ?_
 kernel_rfl
theorem ChC_hE (m : Nat) : EnvOk Try.prog GG (ChC_env m) := (by
 intro f e h
 simp only [ChC_env,Prod.mk.injEq,List.mem_cons,List.not_mem_nil,or_false] at h
 obtain ⟨rfl,rfl⟩ := h
 ·exact choose_at_ok m)
end Go.Proofs.Ytaaogcnjfkgnoaa

namespace Go.Proofs.Ytaaogcnjfkgnoaa
open Go.RowKit
noncomputable def ChR_c : Code := (rfS (cdL (cdR (cdL (endC 4 ((Try.f52.body).getD .skip))))))
def ChR_h : Hint := (.two .n (.one .n))
noncomputable def ChR_env (m : Nat) : Env := []
noncomputable abbrev ChR_fin (n0 : Nat) : KO (AV × List AObj) := rndFK n0
noncomputable def ChR (m : Nat) (D : List Deferred) (t26 t9 : AV) (H : List AObj) : RO := exec Try.prog GG (ChR_env m) m ⟨45,D⟩ ChR_c ChR_h ⟨H,[(26,t26),(9,t9)]⟩ (ChR_fin H.length)
theorem ChR_eq (m : Nat) (D : List Deferred) (t26 t9 : AV) (H : List AObj) : ChR m D t26 t9 H =
 allocE (some zc_api_Cert) ty_api_Cert H fun t10 H2 =>
 storeE 7 H2 t10 t26 fun H3 =>
 loadE 1 H3 t9 fun t27 =>
 fieldE (some (0,1)) t10 fun t28 =>
 loadE 1 H3 t28 fun t29 =>
 mmE true t27 t29 fun t30 =>
 storeE 1 H3 t9 t30 fun H4 =>
 roundK H.length H4 (V (.bool true)) := by
 refine (rndX Try.prog GG (ChR_env m) m ⟨45,D⟩ H.length ChR_c ChR_h ⟨H,[(26,t26),(9,t9)]⟩ ).trans ?_
 kernel_rfl
theorem ChR_hE (m : Nat) : EnvOk Try.prog GG (ChR_env m) := (by intro f e h;cases h)
end Go.Proofs.Ytaaogcnjfkgnoaa

namespace Go.Proofs.Ytaaogcnjfkgnoaa
open Go.RowKit
attribute [local go_sem] Nat.zero_add Nat.add_zero Nat.mul_one Int.toNat_natCast Int.natCast_zero Int.cast_ofNat_Int or_false false_or or_true true_or Nat.sub_zero Int.natCast_nonneg Int.toNat_zero Bool.true_and Bool.and_true Bool.false_and Bool.and_false Bool.true_or Bool.or_true Bool.false_or Bool.or_false Bool.not_true Bool.not_false Bool.not_not true_and and_true false_and and_false not_true_eq_false not_false_eq_true eq_self decide_true decide_false ne_eq implies_true forall_const true_implies false_implies Bool.true_eq_false Bool.false_eq_true List.map_cons List.map_nil List.all_cons List.all_nil List.length_cons List.length_nil List.length_map List.length_append List.nil_append List.cons_append List.set_cons_zero List.set_cons_succ List.set_nil List.drop_zero List.drop_succ_cons List.drop_nil List.take_zero List.take_succ_cons List.take_nil Option.map_some Option.map_none Option.isSome_some List.all_append List.all_map Function.comp_def decide_eq_true_eq Bool.and_eq_true beq_self_eq_true or_self and_self ite_true ite_false Nat.le_refl Bool.not_eq_true decide_not Bool.not_eq_true' decide_eq_false_iff_not Bool.not_eq_false Bool.or_eq_true if_true if_false ite_self u_roF u_cvF u_cvC u_ceT u_ceK u_appS sm_it sm_len sm_sure sm_ltA sm_lt1 sm_all1 sm_ro sm_take sm_sl sm_set sm_noT sm_fr sm_st_fr sm_set_fr sm_kd sm_st_kd sm_set_kd sm_vw sm_st_vw sm_set_vw sm_sq sm_st_sq sm_set_sq sm_tm sm_st_tm sm_set_tm zsm_len zsm_sure zsm_lt1 zsm_sl zsm_ro zsm_setz zsm_set zsm_setr zsm_take sms_ltA sms_len ce_it ce_len ce_sure ce_ltA ce_lt1 ce_all1 ce_ro ce_take ce_sl ce_set ce_noT ce_sq ce_st_sq ce_set_sq ce_vw ce_st_vw ce_set_vw ce_tm ce_st_tm ce_set_tm ce_body ce_st_body ce_set_body ce_vs ce_st_vs ce_set_vs zce_len zce_sure zce_lt1 zce_sl zce_ro zce_setz zce_set zce_setr zce_take ces_ltA ces_len cg_it cg_len cg_sure cg_ltA cg_lt1 cg_all1 cg_ro cg_take cg_sl cg_set cg_noT cg_fr cg_st_fr cg_set_fr cg_vw cg_st_vw cg_set_vw cg_st cg_st_st cg_set_st cg_rt cg_st_rt cg_set_rt cg_pf cg_st_pf cg_set_pf cg_cs cg_st_cs cg_set_cs zcg_len zcg_sure zcg_lt1 zcg_sl zcg_ro zcg_setz zcg_set zcg_setr zcg_take cgs_ltA cgs_len ms_it ms_len ms_sure ms_ltA ms_lt1 ms_all1 ms_ro ms_take ms_sl ms_set ms_noT ms_kd ms_st_kd ms_set_kd ms_fr ms_st_fr ms_set_fr ms_vw ms_st_vw ms_set_vw ms_sq ms_st_sq ms_set_sq ms_tm ms_st_tm ms_set_tm ms_body ms_st_body ms_set_body ms_vs ms_st_vs ms_set_vs ms_chs ms_st_chs ms_set_chs zms_len zms_sure zms_lt1 zms_sl zms_ro zms_setz zms_set zms_setr zms_take mss_ltA mss_len co_it co_len co_sure co_ltA co_lt1 co_all1 co_ro co_take co_sl co_set co_noT co_sq co_st_sq co_set_sq co_tm co_st_tm co_set_tm co_body co_st_body co_set_body co_nl co_st_nl co_set_nl zco_len zco_sure zco_lt1 zco_sl zco_ro zco_setz zco_set zco_setr zco_take cos_ltA cos_len sd_it sd_len sd_sure sd_ltA sd_lt1 sd_all1 sd_ro sd_take sd_sl sd_set sd_noT sd_wh sd_st_wh sd_set_wh sd_fr sd_st_fr sd_set_fr sd_kd sd_st_kd sd_set_kd sd_vw sd_st_vw sd_set_vw sd_sq sd_st_sq sd_set_sq sd_tm sd_st_tm sd_set_tm sds_ltA sds_len natInt u_nthM u_bz u_bi1 u_bi2 u_bi3 u_bi4 u_bi5 u_bi6 u_bi7 ltO_o ltO_r u_eqE
attribute [local go_sem_proc] Nat.reduceAdd Nat.reduceSub Nat.reduceMul Nat.reduceLeDiff Nat.reduceLT Int.reduceEq Int.reduceNe Int.reduceLT Int.reduceLE Int.reduceAdd Int.reduceSub Int.reduceMul Int.reduceNeg Int.reduceToNat reduceCtorEq Nat.reduceEqDiff Nat.reduceBEq Nat.reduceGT
attribute [local go_sem_proc ↓] reduceIte
def chH (l : List Ch) (hi : Int) : List AObj := [⟨1,ty_int,0,[nA hi]⟩,⟨1,ty_sl_api_Change,0,[chsA l]⟩]
def maxC (a : Int) (x : Ce) : Int := if x.sq > a then x.sq else a
def choA (l : List Ch) (low : Int) (d : Nat) : List Co := (List.range d).map fun i : Nat=>atF (low + ((i + 1 : Nat) : Int)) l
section
variable {n : Int} {l : List Ch}
theorem chA_s (h : LOk n l) (hf : FitL l) : ChA 1001 [] (chsA l) (nA n) [] = some (TU [chsA l,nA (lowC l).st,OP 0 0],[⟨1,ty_int,0,[nA (lowC l).st]⟩]) := by
 have hL := low_s 1001 h hf (by omega)
 rw [ChA_eq]
 unfold chsA at hL ⊢
 simp (config := {maxSteps := 4000000,implicitDefEqProofs := false}) (disch := omega) only [go_sem,hL]
 rfl
theorem chB_s (m : Nat) (low hi : Int) : ChB m [] (chsA l) (nA low) (OP 0 0) [⟨1,ty_int,0,[nA hi]⟩] = some (TU [chsA l,nA low,OP 0 0,CL (.func 93) 0 [OP 1 0]],chH l hi) := by
 rw [ChB_eq]
 unfold chH chsA
 simp (config := {maxSteps := 4000000,implicitDefEqProofs := false}) (disch := omega) only [go_sem,choose_all_eq]
 rfl
theorem chR_s (m : Nat) (hi : Int) (x : Ce) : ChR m [] (ceE x) (OP 0 0) (chH l hi) = some (bA true,chH l (maxC hi x)) := by
 rw [ChR_eq]
 unfold chH chsA maxC
 simp (config := {maxSteps := 4000000,implicitDefEqProofs := false}) (disch := omega) only [go_sem,]
theorem choA_succ {low : Int} {d : Nat} : choA l low (d + 1) = choA l low d ++ [atF (low + ((d + 1 : Nat) : Int)) l] := by
 unfold choA
 rw [List.range_succ,List.map_append]
 rfl
theorem chC_s (m : Nat) (low : Int) (e : Nat) (D : List Deferred) (hf : FitL l) (he : e ≤ 1000) (hm : 1000 < m) (h0 : 0 ≤ low) (h1 : low ≤ 3000000000) : ChC m D (chsA l) (nA low) (OP 0 0) (chH l (low + e)) = some (TU [SL ((choA l low e).map coE),nA 0],chH l (low + e) ++ [⟨2,ty_api_Choice,4,(choA l low e).map coE⟩]) := by
 rw [ChC_eq]
 unfold chH chsA
 simp (config := {maxSteps := 4000000,implicitDefEqProofs := false}) (disch := omega) only [go_sem,w_i64]
 refine iter_go (m := m) (ι := {k : Nat // k ≤ e}) (fun k=>⟨[⟨1,ty_int,0,[nA (low + e)]⟩,⟨1,ty_sl_api_Change,0,[chsA l]⟩,⟨2,ty_api_Choice,4,(choA l low k.1).map coE⟩],[(0,chsA l),(9,OP 0 0),(11,OW 2 k.1),(12,nA (low + ((k.1 + 1 : Nat) : Int)))]⟩) (fun k=>e - k.1) (fun _=>some (TU [SL ((choA l low e).map coE),nA 0],([⟨1,ty_int,0,[nA (low + e)]⟩,⟨1,ty_sl_api_Change,0,[SL (l.map cgE)]⟩,⟨2,ty_api_Choice,4,(choA l low e).map coE⟩] : List AObj))) ?_ ⟨0,Nat.zero_le _⟩ (by dsimp only;omega)
 rintro kx hkx ⟨k,hk⟩ kc hkc
 dsimp only at hkc ⊢
 rw [ChC_b1_eq]
 have hlen : ((choA l low k).map coE).length = k := by simp [choA]
 have hxs : ∀ n,((choA l low k).map coE).all (ltA n) = true := fun n=>by rw [List.all_map];exact cos_ltA
 unfold chsA at hkc ⊢
 by_cases hlt : k < e
 ·have hlt' : low + ((k + 1 : Nat) : Int) ≤ low + e := by omega
  have g1 := choose_at_e m l (low + ((k + 1 : Nat) : Int)) hf
  unfold chsA at g1
  have step := hkc ⟨k + 1,by omega⟩ (by dsimp only;omega)
  dsimp only at step
  rw [choA_succ,List.map_append,show low + ((k + 1 + 1 : Nat) : Int) = low + ((k + 1 : Nat) : Int) + 1 by omega] at step
  simp only [List.map_cons,List.map_nil,co_it] at step
  generalize (choA l low k).map coE = XS at *
  have hroom : k + 1 ≤ 34359738368 := by omega
  simp (config := {maxSteps := 4000000,implicitDefEqProofs := false}) (disch := omega) only [go_sem,hlt',g1,hxs,hlen,hroom,w_i64]
  exact step
 ·obtain rfl : k = e := by omega
  have hlt' : ¬ low + ((k + 1 : Nat) : Int) ≤ low + k := by omega
  simp (config := {maxSteps := 4000000,implicitDefEqProofs := false}) (disch := omega) only [go_sem,hlt',hkx,hxs,ChC_r1_eq]
  rw [if_pos (by simp [choA])]
end
end Go.Proofs.Ytaaogcnjfkgnoaa

namespace Go.Proofs.Ytaaogcnjfkgnoaa
open Go.RowKit
noncomputable def chC0 : Code := (Try.f52.body).getD .skip
theorem ch_shape : endC 4 chC0 = .seq (.seq ChB_c (.block 0 (.rangeFunc (.tmp 25) #[26] (.region 6 (regO (cdL ChR_c)).toArray false) (cdR ChR_c)))) ChC_c := by kernel_rfl
theorem chR_shape : ChR_c = .seq (.region 6 (regO (cdL ChR_c)).toArray false) (cdR ChR_c) := by kernel_rfl
theorem chR_flat : flatC (cdR ChR_c) = true := by kernel_rfl
abbrev T0c : Tm := [(9,OP 0 0)]
noncomputable abbrev recC (fn D : Nat) (tm : Array Value) : Loop := ⟨.ready,none,fn,tm,[26].toArray, .region 6 (regO (cdL ChR_c)).toArray false,cdR ChR_c,D⟩
theorem roundC_w {l : List Ch} {lp fn D d : Nat} {tm : Array Value} (a : Int) (x : Ce) (vs : List Value) (w : World) (S : SS) (μ : List Value) (hr : Rel w S μ (chH l a)) (hf : Fr S μ (F0 45) T0c ⟨tm,[]⟩) (hg : GOk GG S) (hl : w.heap[lp]? = some (.loop (recC fn D tm))) (h1 : vs.length = 1)
  (hv : ∀ (j : Nat) (d : AV) (v : Value),[ceE x][j]? = some d → vs[j]? = some v → rep S μ d v) :
  YieldAt Fence.wide d Try.prog lp vs.toArray w (YPost lp (recC fn D tm) w S μ (chH l a) fun e H2=>e = .normal ∧ H2 = chH l (maxC a x)) := by
 have hx := chR_s (l := l) 1000 a x
 unfold ChR at hx
 rw [chR_shape] at hx
 refine yp_mono ?_ (round_exec (ps := [26]) (xs := [ceE x]) (T := T0c) (ChR_hE 1000) rfl hr hf hg (by decide) hl (by rw [h1];rfl) rfl hv chR_flat rfl hx)
 rintro e H2 ⟨q1,q2⟩
 exact ⟨xA_true q1,q2⟩
def highC (l : List Ch) : Int := foldL maxC (lowC l).st l
theorem choices_c {n : Int} {l : List Ch} {e : Nat} (h : LOk n l) (hf : FitL l) (he : e ≤ 1000) (hh : highC l = (lowC l).st + e) : ACp Try.prog GG 52 [chsA l,nA n] (TU [SL ((choA l (lowC l).st e).map coE),nA 0]) := by
 have hnd : ∀ r cs t p,(Obj.deferred r) ≠ .cells cs t p := fun _ _ _ _ e=>by cases e
 have h0 : 0 < l.length := by have := h.len;omega
 have hlo := (h.all _ (bestC_mem h0 l.length (Nat.le_refl _)))
 have hl0 : 0 ≤ (lowC l).st := hlo.s0
 have hl1 : (lowC l).st ≤ 2147483647 := hlo.sl
 refine ⟨by kernel_rfl,?_⟩
 intro w S μ vs hr hg hlen hv
 have hμ : μ = [] := List.eq_nil_of_length_eq_zero hr.len
 subst hμ
 refine (callsIn_wide (n := 5)).1 ?_
 refine callsIn_of_wp_marks Try.func52 rfl trivial ?_
 rw [Try.ntmps52]
 have hfr := fr_args (S := S) (μ := []) (N := 45) (args := [chsA l,nA n]) (vs := vs) hlen (by simp) hv
 refine exec_farW (n := 0) MIX (ChA_hE 1001) 4 chC0 ChA_h ⟨[],argsT 0 [chsA l,nA n]⟩ (by kernel_rfl) (chA_s h hf) hr hfr hg ?_ (Nat.le_refl _)
 rintro a2 w2 ⟨S2,μ2,_,hr2,hf2,hg2,hst2⟩
 rw [ch_shape]
 refine wpIn_seq (wpIn_seq (wpIn_mono (part_w (rs := [0,6,9,25]) MIX (ChB_hE 1000) (chB_s 1000 (lowC l).st (lowC l).st) hr2 hf2 hg2) ?_))
 rintro e a3 w3 ⟨rfl,S3,μ3,hr3,hf3,hg3,hst3⟩
 simp only [Exit.then]
 have hst3' : Step 0 w S [] [] w3 S3 μ3 (chH l (lowC l).st) := hst2.trans (hst3.less (Nat.zero_le _))
 refine wpIn_block ?_
 have hlaw := range_law (d := 4) (P := Try.prog) (G := GG) (g := .tmp 25) (ps := [26]) (assign := .region 6 (regO (cdL ChR_c)).toArray false) (body := cdR ChR_c) (N := 45) (f := 93) (caps := [OP 1 0]) (q2 := 0) (Q := fun e H2=>e = .normal ∧ H2 = chH l (highC l)) hr3 hf3 hg3 rfl (by kernel_rfl) ?_
 refine wpIn_mono hlaw ?_
 ·rintro ex a5 w5 ⟨S5,μ5,H5,⟨rfl,rfl⟩,hr5,hst5,hf5,hD5,hsz⟩
  simp only [Exit.inBlock,Exit.then]
  have hst5' := hst3'.trans (hst5.less (Nat.zero_le _))
  rw [hh] at hr5 hst5 hst5'
  have hx := chC_s (l := l) 1001 (lowC l).st e [⟨.collected w3.heap.size,#[]⟩] hf he (by omega) hl0 (by omega)
  refine wpIn_wide.2 (wp_mono (exec_ok (n := 2) MIX (ChC_hE 1001) ChC_c ChC_h ⟨chH l ((lowC l).st + e),[(0,chsA l),(6,nA (lowC l).st),(9,OP 0 0)]⟩ _ (Nat.le_refl _) hx w5 S5 μ5 a5 hr5 (hf5.some (by simp [_root_.Go.Proofs.Ytaaogcnjfkgnoaa.get])) (hg3.ext hst5.still)) ?_)
  rintro ex a6 w6 ⟨s6,S6,μ6,hq6,hr6,hf6,hst6⟩
  obtain ⟨he6,hX6⟩ := raw_someC (rs := [.tmp 4, .tmp 5]) hq6 (fun u h=>by cases h)
  have hend := mark_endC (P := Try.prog) (d := 5) (fnn := Try.f52) (rs := [.tmp 4, .tmp 5]) (X := TU [SL ((choA l (lowC l).st e).map coE),nA 0]) rfl hr6 hf6 (hst6.keeps hr5 hD5 (hnd _)) hX6 rfl (hst5'.trans (hst6.less (Nat.zero_le _))) hst3'.size
  rcases he6 with rfl|rfl
  ·exact hend
  ·exact hend
 ·intro lp D fn w1 us hr1 hl1 hus hu
  exact it_calls (β := Int) (C := fun a=>chH l a) (R := maxC) (b0 := (lowC l).st) (b := 1) (r := recC fn D a3.tmps) (T0 := T0c) (tm := a3.tmps) (K := 45) (fun a=>rfl) (fun a=>rfl) (fun a=>rfl) hf.1 hf.2 (fun a x vs w S μ h1 h2 h3 h4 h5 h6=>roundC_w a x vs w S μ h1 h2 h3 h4 h5 h6) (by decide) hr1 ⟨hf3.size,rfl,(hf3.some (T' := T0c) (by simp [_root_.Go.Proofs.Ytaaogcnjfkgnoaa.get])).slot⟩ hg3 hl1 hus hu
noncomputable def choose_Choices_t (m : Nat) : List AV → RO := orac (ι := List Ch × Int × Nat) (fun p=>[chsA p.1,nA p.2.1]) (fun p=>TU [SL ((choA p.1 (lowC p.1).st (highC p.1 - (lowC p.1).st).toNat).map coE),nA 0]) (fun p=>LOk p.2.1 p.1 ∧ FitL p.1 ∧ p.2.2 ≤ 1000 ∧ highC p.1 = (lowC p.1).st + p.2.2)
theorem choose_Choices_ok (m : Nat) : ∀ args X H',choose_Choices_t m args = some (X,H') → ACp Try.prog GG 52 args X := orac_ok (by
 rintro ⟨l,n,e⟩ ⟨h1,h2,h3,h4⟩
 have := choices_c h1 h2 h3 h4
 dsimp only at h4 ⊢
 rw [show (highC l - (lowC l).st).toNat = e by omega]
 exact this)
end Go.Proofs.Ytaaogcnjfkgnoaa

namespace Go.Proofs.Ytaaogcnjfkgnoaa
open Go.RowKit
def pl_api_Change : List (Nat × Nat) := [(0,1),(1,1),(2,1),(3,1),(4,1),(5,1)]
def pl_api_Msg : List (Nat × Nat) := [(0,1),(1,1),(2,1),(3,1),(4,1),(5,1),(6,1),(7,1)]
noncomputable def view_NewView_c : Code := (Try.f20.body).getD .skip
def view_NewView_h : Hint := (.two .n (.two .n (.join [0,1,3,6] (.one (.join [0,1,3,6,21] .n (.two (.two .n .n) (.two .n (.two (.two .n .n) .n))))) (.join [0,1,3,6] (.two .n (.one (.lp [] [0,1,3,6,38,39,40] [0,1,3,6,8,9] (.two .n (.two (.two .n .n) (.join [0,1,3,6,38,39,40] (.one (.two .n (.join [0,1,3,6,38,39,40,56] .n (.two (.two .n .n) .n)))) .n)))))) (.two (.two .n (.two (.two .n .n) .n)) (.join [3,6] (.two .n (.join [3,6,76] .n (.two (.two .n .n) .n))) (.two .n .n)))))))
noncomputable def view_NewView_env (m : Nat) : Env := [(32, .tell (quorum_Faults_t m)),(37, .tell (quorum_Primary_t m)),(11, .keep (view_Change_t m)),(51, .tell (choose_May_t m)),(22, .keep (view_NewStmt_t m)),(36, .keep (ring_Ring_Has_t m)),(52, .tell (choose_Choices_t m))]
noncomputable abbrev view_NewView_fin (n0 : Nat) : KO (AV × List AObj) := keepFK Try.prog n0 [.tmp 8, .tmp 9]
noncomputable def view_NewView_r2 (m : Nat) (n0k : Nat) (s : ASt) : RO := joinW Try.prog GG (view_NewView_env m) m ⟨83,[]⟩ (cdR (cdR (cdR view_NewView_c))) view_NewView_h.r.r.r s (view_NewView_fin n0k)
noncomputable def view_NewView_r1 (m : Nat) (n0k : Nat) (s : ASt) : RO := joinW Try.prog GG (view_NewView_env m) m ⟨83,[]⟩ (cdR (cdL (cdL (cdR (cdR view_NewView_c))))) view_NewView_h.r.r.l.c.r s (blockX 0 (seqX (fun s=>view_NewView_r2 m n0k ⟨s.H,[(0,gt s.T 0),(1,gt s.T 1),(3,gt s.T 3),(6,gt s.T 6)]⟩) (view_NewView_fin n0k)))
noncomputable def view_NewView (m : Nat) (t0 t1 t2 t3 : AV) (H : List AObj) : RO := exec Try.prog GG (view_NewView_env m) m ⟨83,[]⟩ view_NewView_c view_NewView_h ⟨H,argsT 0 [t0,t1,t2,t3]⟩ (view_NewView_fin H.length)
theorem view_NewView_r1_eq (m : Nat) (n0k : Nat) (H : List AObj) (t0 t1 t3 t6 t21 : AV) : view_NewView_r1 m n0k ⟨H,[(0,t0),(1,t1),(3,t3),(6,t6),(21,t21)]⟩ =
 condE t21 (
  keepK n0k H (ro H (TU [noT (V (.slice none 0 0)),noT (V (.int .i64 1))]))) (
  fieldE (some (1,1)) t6 fun t30 =>
  loadE 1 H t30 fun t31 =>
  fieldE (some (2,1)) t6 fun t32 =>
  loadE 1 H t32 fun t33 =>
  tellE (quorum_Primary m (ro H t33) (ro H t3)) [(ro H t33),(ro H t3)] fun t35 =>
  binE none false false .neq t31 t35 fun t36 =>
  condE t36 (
   keepK n0k H (ro H (TU [noT (V (.slice none 0 0)),noT (V (.int .i64 21))]))) (
   view_NewView_r2 m n0k ⟨H,[(0,t0),(1,t1),(3,t3),(6,t6)]⟩)) := by
 refine (joinW_eq _ _ _ _ _ _ _ _ _).trans ?_
 kernel_rfl
theorem view_NewView_eq (m : Nat) (t0 t1 t2 t3 : AV) (H : List AObj) : view_NewView m t0 t1 t2 t3 H =
 boxE ty_api_Msg H t2 fun t6 H2 =>
 tellE (quorum_Faults m (ro H2 t3)) [(ro H2 t3)] fun t18 =>
 extE t18 0 fun t19 =>
 extE t18 1 fun t20 =>
 fieldE (some (0,1)) t6 fun t22 =>
 loadE 1 H2 t22 fun t23 =>
 binE none false false .neq t23 (V (.int .i64 7)) fun t24 =>
 condE t24 (
  view_NewView_r1 m H.length ⟨H2,[(0,t0),(1,t1),(3,t3),(6,t6),(21,(V (.bool true)))]⟩) (
  binE none false false .neq t20 (V (.int .i64 0)) fun t27 =>
  view_NewView_r1 m H.length ⟨H2,[(0,t0),(1,t1),(3,t3),(6,t6),(21,t27)]⟩) := by
 refine (keepX Try.prog GG (view_NewView_env m) m ⟨83,[]⟩ H.length view_NewView_c view_NewView_h ⟨H,argsT 0 [t0,t1,t2,t3]⟩ [.tmp 8, .tmp 9]).trans ?_
 kernel_rfl
noncomputable def view_NewView_t (m : Nat) : List AV → List AObj → RO|[t0,t1,t2,t3],H=>view_NewView m t0 t1 t2 t3 H|_,_=>none
theorem view_NewView_ok (m : Nat) : ∀ args H X H',view_NewView_t m args H = some (X,H') → AC Try.prog GG 20 args H (Is X H') := by
 intro args H X H' h
 unfold view_NewView_t at h
 split at h
 ·exact keep_okK MIX (by
  intro f e h
  simp only [view_NewView_env,Prod.mk.injEq,List.mem_cons,List.not_mem_nil,or_false] at h
  rcases h with ⟨rfl,rfl⟩|⟨rfl,rfl⟩|⟨rfl,rfl⟩|⟨rfl,rfl⟩|⟨rfl,rfl⟩|⟨rfl,rfl⟩|⟨rfl,rfl⟩
  ·exact quorum_Faults_ok m
  ·exact quorum_Primary_ok m
  ·exact view_Change_ok m
  ·exact choose_May_ok m
  ·exact view_NewStmt_ok m
  ·exact ring_Ring_Has_ok m
  ·exact choose_Choices_ok m) (f := 20) (c := view_NewView_c) Try.func20 rfl (by kernel_rfl) _ rfl Try.ntmps20 (Nat.le_of_ble_eq_true rfl) view_NewView_h h
 ·cases h
noncomputable def plenumlaw32_awake_c : Code := (Try.f10.body).getD .skip
def plenumlaw32_awake_h : Hint := (.two .n (.two .n (.two .n (.join [1,2] (.join [1,2,25] .n (.two (.two .n .n) .n)) (.two .n (.two .n (.two .n (.two .n (.two .n (.two .n (.two .n .n)))))))))))
noncomputable def plenumlaw32_awake_env (m : Nat) : Env := [(26, .keep (term_New_t m)),(27, .keep (ring_New_t m)),(11, .keep (view_Change_t m)),(12, .keep (view_ChangeStmt_t m)),(30, .keep (ring_Ring_Say_t m)),(20, .keep (view_NewView_t m))]
noncomputable abbrev plenumlaw32_awake_fin : KO (AV × List AObj) := tellFK Try.prog [.tmp 0]
noncomputable def plenumlaw32_awake_r2 (m : Nat) (s : ASt) : RO := joinW Try.prog GG (plenumlaw32_awake_env m) m ⟨69,[]⟩ (cdR (cdR (cdR (cdR plenumlaw32_awake_c)))) plenumlaw32_awake_h.r.r.r.r s (plenumlaw32_awake_fin)
noncomputable def plenumlaw32_awake_r1 (m : Nat) (s : ASt) : RO := joinW Try.prog GG (plenumlaw32_awake_env m) m ⟨69,[]⟩ (cdR (cdL (cdR (cdR (cdR plenumlaw32_awake_c))))) plenumlaw32_awake_h.r.r.r.l.r s (seqX (fun s=>plenumlaw32_awake_r2 m ⟨s.H,[(1,gt s.T 1),(2,gt s.T 2)]⟩) (plenumlaw32_awake_fin))
noncomputable def plenumlaw32_awake (m : Nat) : RO := exec Try.prog GG (plenumlaw32_awake_env m) m ⟨69,[]⟩ plenumlaw32_awake_c plenumlaw32_awake_h ⟨[],argsT 0 []⟩ (plenumlaw32_awake_fin)
theorem plenumlaw32_awake_r2_eq (m : Nat) (H : List AObj) (t1 t2 : AV) : plenumlaw32_awake_r2 m ⟨H,[(1,t1),(2,t2)]⟩ =
 buildE (some pl_api_Change) (some zc_api_Change) [(1,(V (.int .i64 1)))] fun t26 =>
 allocE (some zc_api_Change) ty_api_Change H fun t4 H2 =>
 storeE 8 H2 t4 t26 fun H3 =>
 loadE 8 H3 t4 fun t29 =>
 keepE (view_Change m (ro H3 t2) (ro H3 t1) (ro H3 t29) (V (.int .i64 4)) H3) fun t30 H4 =>
 loadE 8 H4 t4 fun t33 =>
 keepE (view_ChangeStmt m (ro H4 t1) (ro H4 t33) H4) fun t34 H5 =>
 extE t34 0 fun t35 =>
 extE t34 1 fun t36 =>
 allocE (some zc_api_Stmt) ty_api_Stmt H5 fun t6 H6 =>
 storeE 7 H6 t6 t35 fun H7 =>
 loadE 7 H7 t6 fun t38 =>
 keepE (ring_Ring_Say m (ro H7 t2) (V (.int .i64 0)) (ro H7 t38) H7) fun t39 H8 =>
 loadE 8 H8 t4 fun t42 =>
 keepE (view_Change m (ro H8 t2) (ro H8 t1) (ro H8 t42) (V (.int .i64 4)) H8) fun t43 H9 =>
 buildE (some pl_api_Msg) (some zc_api_Msg) [(0,(V (.int .i64 7))),(2,(V (.int .i64 1)))] fun t47 =>
 keepE (view_NewView m (ro H9 t2) (ro H9 t1) (ro H9 t47) (V (.int .i64 4)) H9) fun t48 H10 =>
 extE t48 0 fun t49 =>
 extE t48 1 fun t50 =>
 unE .not t30 fun t52 =>
 condE t52 (
  binE none false false .eql t36 (V (.int .i64 0)) fun t55 =>
  condE t55 (
  fieldE (some (1,1)) t6 fun t58 =>
  loadE 1 H10 t58 fun t59 =>
  binE none false false .eql t59 (V (.int .i64 6)) fun t60 =>
  condE t60 (
  condE t43 (
  binE none false false .eql t50 (V (.int .i64 21)) fun t67 =>
  tellK H10 (ro H10 t67)) (
  tellK H10 (ro H10 (V (.bool false))))) (
  tellK H10 (ro H10 (V (.bool false))))) (
  tellK H10 (ro H10 (V (.bool false))))) (
  tellK H10 (ro H10 (V (.bool false)))) := by
 refine (joinW_eq _ _ _ _ _ _ _ _ _).trans ?_
 kernel_rfl
theorem plenumlaw32_awake_r1_eq (m : Nat) (H : List AObj) (t1 t2 t25 : AV) : plenumlaw32_awake_r1 m ⟨H,[(1,t1),(2,t2),(25,t25)]⟩ =
 condE t25 (
  tellK H (ro H (V (.bool false)))) (
  plenumlaw32_awake_r2 m ⟨H,[(1,t1),(2,t2)]⟩) := by
 refine (joinW_eq _ _ _ _ _ _ _ _ _).trans ?_
 kernel_rfl
theorem plenumlaw32_awake_eq (m : Nat) : plenumlaw32_awake m =
 keepE (term_New m []) fun t11 H1 =>
 keepE (ring_New m (V (.int .i64 4)) (ro H1 (V (.slice none 0 0))) H1) fun t13 H2 =>
 extE t13 0 fun t14 =>
 extE t13 1 fun t15 =>
 ptrE .eql t11 (V (.pointer none)) fun t17 =>
 condE t17 (
  plenumlaw32_awake_r1 m ⟨H2,[(1,t11),(2,t14),(25,(V (.bool true)))]⟩) (
  binE none false false .neq t15 (V (.int .i64 0)) fun t20 =>
  condE t20 (
  plenumlaw32_awake_r1 m ⟨H2,[(1,t11),(2,t14),(25,(V (.bool true)))]⟩) (
  ptrE .eql t14 (V (.pointer none)) fun t24 =>
  plenumlaw32_awake_r1 m ⟨H2,[(1,t11),(2,t14),(25,t24)]⟩)) := by
 refine (tellX _ _ _ _ _ _ _ _ _).trans ?_
 kernel_rfl
noncomputable def plenumlaw32_awake_t (m : Nat) : List AV → RO|[]=>plenumlaw32_awake m|_=>none
theorem plenumlaw32_awake_ok (m : Nat) : ∀ args X H',plenumlaw32_awake_t m args = some (X,H') → ACp Try.prog GG 10 args X := by
 intro args X H' h
 unfold plenumlaw32_awake_t at h
 split at h
 ·exact tell_okK MIX (by
  intro f e h
  simp only [plenumlaw32_awake_env,Prod.mk.injEq,List.mem_cons,List.not_mem_nil,or_false] at h
  rcases h with ⟨rfl,rfl⟩|⟨rfl,rfl⟩|⟨rfl,rfl⟩|⟨rfl,rfl⟩|⟨rfl,rfl⟩|⟨rfl,rfl⟩
  ·exact term_New_ok m
  ·exact ring_New_ok m
  ·exact view_Change_ok m
  ·exact view_ChangeStmt_ok m
  ·exact ring_Ring_Say_ok m
  ·exact view_NewView_ok m) (f := 10) (c := plenumlaw32_awake_c) Try.func10 rfl (by kernel_rfl) _ rfl Try.ntmps10 (Nat.le_of_ble_eq_true rfl) plenumlaw32_awake_h h
 ·cases h
noncomputable def plenumlaw32_ViewTrue_c : Code := (Try.f3.body).getD .skip
def plenumlaw32_ViewTrue_h : Hint := (.two .n (.two .n (.two .n (.two (.two .n (.two (.two .n .n) .n)) (.two (.two .n (.two (.two .n .n) .n)) (.two .n (.join [2,3,7,9] (.join [2,3,7,9,56] .n (.two (.two .n .n) .n)) (.two .n (.join [11] (.two .n (.one (.lp [] [2,3,9,11,12] [11] (.join [2,3,9,11,12] (.join [2,3,9,11,12,72] .n (.two .n .n)) (.join [2,3,9,11,12] (.one .n) .n))))) (.two .n .n))))))))))
noncomputable def plenumlaw32_ViewTrue_env (m : Nat) : Env := [(7, .tell (plenumlaw28_FewChange_t m)),(8, .keep (plenumlaw32_set_t m)),(9, .tell (plenumlaw32_bad_t m)),(10, .tell (plenumlaw32_awake_t m)),(11, .keep (view_Change_t m)),(12, .keep (view_ChangeStmt_t m)),(13, .tell (plenumref04_Ring_Bad_t m))]
noncomputable abbrev plenumlaw32_ViewTrue_fin : KO (AV × List AObj) := tellFK Try.prog [.tmp 4]
noncomputable def plenumlaw32_ViewTrue_r6 (m : Nat) (n0 : Nat) (kc : ASt → RO) (kx : KO (AV × List AObj)) (s : ASt) : RO := joinW Try.prog GG (plenumlaw32_ViewTrue_env m) m ⟨101,[]⟩ (cdR (cdR (cdL (cdL (cdR (cdL (cdR (cdR (cdR (cdR (cdR (cdR (cdR (cdR plenumlaw32_ViewTrue_c)))))))))))))) plenumlaw32_ViewTrue_h.r.r.r.r.r.r.r.r.l.r.c.c.r.r s (backW n0 [2,3,9,11,12] [11] kc kx)
noncomputable def plenumlaw32_ViewTrue_r5 (m : Nat) (n0 : Nat) (kc : ASt → RO) (kx : KO (AV × List AObj)) (s : ASt) : RO := joinW Try.prog GG (plenumlaw32_ViewTrue_env m) m ⟨101,[]⟩ (cdR (cdL (cdL (cdR (cdL (cdR (cdR (cdR (cdR (cdR (cdR (cdR (cdR plenumlaw32_ViewTrue_c))))))))))))) plenumlaw32_ViewTrue_h.r.r.r.r.r.r.r.r.l.r.c.c.r s (backW n0 [2,3,9,11,12] [11] kc kx)
noncomputable def plenumlaw32_ViewTrue_r4 (m : Nat) (n0 : Nat) (kc : ASt → RO) (kx : KO (AV × List AObj)) (s : ASt) : RO := joinW Try.prog GG (plenumlaw32_ViewTrue_env m) m ⟨101,[]⟩ (cdR (cdL (cdL (cdL (cdR (cdL (cdR (cdR (cdR (cdR (cdR (cdR (cdR (cdR plenumlaw32_ViewTrue_c)))))))))))))) plenumlaw32_ViewTrue_h.r.r.r.r.r.r.r.r.l.r.c.c.l.r s (seqX (fun s=>plenumlaw32_ViewTrue_r5 m n0 kc kx ⟨s.H,[(2,gt s.T 2),(3,gt s.T 3),(9,gt s.T 9),(11,gt s.T 11),(12,gt s.T 12)]⟩) (backW n0 [2,3,9,11,12] [11] kc kx))
noncomputable def plenumlaw32_ViewTrue_r3 (m : Nat) (s : ASt) : RO := joinW Try.prog GG (plenumlaw32_ViewTrue_env m) m ⟨101,[]⟩ (cdR (cdR (cdR (cdR (cdR (cdR (cdR (cdR (cdR plenumlaw32_ViewTrue_c))))))))) plenumlaw32_ViewTrue_h.r.r.r.r.r.r.r.r.r s (plenumlaw32_ViewTrue_fin)
noncomputable def plenumlaw32_ViewTrue_b1 (m : Nat) (s : ASt) (kc : ASt → RO) (kx : KO (AV × List AObj)) : RO := bodyW Try.prog GG (plenumlaw32_ViewTrue_env m) m ⟨101,[]⟩ (cdL (cdL (cdR (cdL (cdR (cdR (cdR (cdR (cdR (cdR (cdR (cdR plenumlaw32_ViewTrue_c)))))))))))) plenumlaw32_ViewTrue_h.r.r.r.r.r.r.r.r.l.r.c.c [2,3,9,11,12] [11] s kc kx
noncomputable def plenumlaw32_ViewTrue_r2 (m : Nat) (s : ASt) : RO := joinW Try.prog GG (plenumlaw32_ViewTrue_env m) m ⟨101,[]⟩ (cdR (cdR (cdR (cdR (cdR (cdR (cdR plenumlaw32_ViewTrue_c))))))) plenumlaw32_ViewTrue_h.r.r.r.r.r.r.r s (plenumlaw32_ViewTrue_fin)
noncomputable def plenumlaw32_ViewTrue_r1 (m : Nat) (s : ASt) : RO := joinW Try.prog GG (plenumlaw32_ViewTrue_env m) m ⟨101,[]⟩ (cdR (cdL (cdR (cdR (cdR (cdR (cdR (cdR plenumlaw32_ViewTrue_c)))))))) plenumlaw32_ViewTrue_h.r.r.r.r.r.r.l.r s (seqX (fun s=>plenumlaw32_ViewTrue_r2 m ⟨s.H,[(2,gt s.T 2),(3,gt s.T 3),(7,gt s.T 7),(9,gt s.T 9)]⟩) (plenumlaw32_ViewTrue_fin))
noncomputable def plenumlaw32_ViewTrue (m : Nat) (t0 t1 : AV) : RO := exec Try.prog GG (plenumlaw32_ViewTrue_env m) m ⟨101,[]⟩ plenumlaw32_ViewTrue_c plenumlaw32_ViewTrue_h ⟨[],argsT 0 [t0,t1]⟩ (plenumlaw32_ViewTrue_fin)
theorem plenumlaw32_ViewTrue_r6_eq (m : Nat) (n0 : Nat) (kc : ASt → RO) (kx : KO (AV × List AObj)) (H : List AObj) (t2 t3 t9 t11 t12 : AV) : plenumlaw32_ViewTrue_r6 m n0 kc kx ⟨H,[(2,t2),(3,t3),(9,t9),(11,t11),(12,t12)]⟩ =
 binE none false false .add t12 (V (.int .i64 1)) fun t74 =>
 backE n0 H [(2,t2),(3,t3),(9,t9),(11,t11),(12,t74)] kc := by
 refine (joinW_eq _ _ _ _ _ _ _ _ _).trans ?_
 kernel_rfl
theorem plenumlaw32_ViewTrue_r5_eq (m : Nat) (n0 : Nat) (kc : ASt → RO) (kx : KO (AV × List AObj)) (H : List AObj) (t2 t3 t9 t11 t12 : AV) : plenumlaw32_ViewTrue_r5 m n0 kc kx ⟨H,[(2,t2),(3,t3),(9,t9),(11,t11),(12,t12)]⟩ =
 condE t11 (
  plenumlaw32_ViewTrue_r6 m n0 kc kx ⟨H,[(2,t2),(3,t3),(9,t9),(11,(V (.bool true))),(12,t12)]⟩) (
  fieldE (some (2,1)) t2 fun t77 =>
  loadE 1 H t77 fun t78 =>
  idxSE 8 H t78 t12 fun t80 =>
  fieldE (some (0,1)) t80 fun t81 =>
  loadE 1 H t81 fun t82 =>
  fieldE (some (0,1)) t3 fun t83 =>
  loadE 1 H t83 fun t84 =>
  binE none false false .eql t82 t84 fun t85 =>
  condE t85 (
  fieldE (some (2,1)) t2 fun t87 =>
  loadE 1 H t87 fun t88 =>
  idxSE 8 H t88 t12 fun t90 =>
  fieldE (some (1,7)) t90 fun t91 =>
  loadE 7 H t91 fun t92 =>
  loadE 7 H t9 fun t93 =>
  binE (some [.i .i64, .i .i64, .i .i64, .i .i64, .i .i64]) false false .eql t92 t93 fun t94 =>
  plenumlaw32_ViewTrue_r6 m n0 kc kx ⟨H,[(2,t2),(3,t3),(9,t9),(11,t94),(12,t12)]⟩) (
  plenumlaw32_ViewTrue_r6 m n0 kc kx ⟨H,[(2,t2),(3,t3),(9,t9),(11,(V (.bool false))),(12,t12)]⟩)) := by
 refine (joinW_eq _ _ _ _ _ _ _ _ _).trans ?_
 kernel_rfl
theorem plenumlaw32_ViewTrue_r4_eq (m : Nat) (n0 : Nat) (kc : ASt → RO) (kx : KO (AV × List AObj)) (H : List AObj) (t2 t3 t9 t11 t12 t72 : AV) : plenumlaw32_ViewTrue_r4 m n0 kc kx ⟨H,[(2,t2),(3,t3),(9,t9),(11,t11),(12,t12),(72,t72)]⟩ =
 condE t72 (
  plenumlaw32_ViewTrue_r5 m n0 kc kx ⟨H,[(2,t2),(3,t3),(9,t9),(11,t11),(12,t12)]⟩) (
  kx (.exit 0) ⟨H,[(11,t11)]⟩) := by
 refine (joinW_eq _ _ _ _ _ _ _ _ _).trans ?_
 kernel_rfl
theorem plenumlaw32_ViewTrue_r3_eq (m : Nat) (H : List AObj) (t11 : AV) : plenumlaw32_ViewTrue_r3 m ⟨H,[(11,t11)]⟩ =
 condE t11 (
  tellE (plenumlaw32_awake m) [] fun t99 =>
  tellK H (ro H t99)) (
  tellK H (ro H (V (.bool false)))) := by
 refine (joinW_eq _ _ _ _ _ _ _ _ _).trans ?_
 kernel_rfl
theorem plenumlaw32_ViewTrue_b1_eq (m : Nat) (H : List AObj) (t2 t3 t9 t11 t12 : AV) (kc : ASt → RO) (kx : KO (AV × List AObj)) : plenumlaw32_ViewTrue_b1 m ⟨H,[(2,t2),(3,t3),(9,t9),(11,t11),(12,t12)]⟩ kc kx =
 fieldE (some (2,1)) t2 fun t65 =>
 loadE 1 H t65 fun t66 =>
 lenE false true H t66 fun t67 =>
 binE none false false .lss t12 t67 fun t68 =>
 condE t68 (
  binE none false false .lss t12 (V (.int .i64 120)) fun t71 =>
  plenumlaw32_ViewTrue_r4 m H.length kc kx ⟨H,[(2,t2),(3,t3),(9,t9),(11,t11),(12,t12),(72,t71)]⟩) (
  plenumlaw32_ViewTrue_r4 m H.length kc kx ⟨H,[(2,t2),(3,t3),(9,t9),(11,t11),(12,t12),(72,(V (.bool false)))]⟩) := by
 refine (bodyW_eq _ _ _ _ _ _ _ _ _ _ _ _).trans ?_
 kernel_rfl
theorem plenumlaw32_ViewTrue_r2_eq (m : Nat) (H : List AObj) (t2 t3 t7 t9 : AV) : plenumlaw32_ViewTrue_r2 m ⟨H,[(2,t2),(3,t3),(7,t7),(9,t9)]⟩ =
 nilE t7 fun t58 =>
 fieldE (some (1,5)) t58 fun t59 =>
 loadE 5 H t59 fun t60 =>
 fieldE (some (0,1)) t3 fun t61 =>
 loadE 1 H t61 fun t62 =>
 tellE (plenumref04_Ring_Bad m (ro H t60) (ro H t62)) [(ro H t60),(ro H t62)] fun t63 =>
 iterC m (plenumlaw32_ViewTrue_b1 m) ⟨H,[(2,t2),(3,t3),(9,t9),(11,t63),(12,(V (.int .i64 0)))]⟩ (blockX 0 (seqX (fun s=>plenumlaw32_ViewTrue_r3 m ⟨s.H,[(11,gt s.T 11)]⟩) (plenumlaw32_ViewTrue_fin))) := by
 refine (joinW_eq _ _ _ _ _ _ _ _ _).trans ?_
 kernel_rfl
theorem plenumlaw32_ViewTrue_r1_eq (m : Nat) (H : List AObj) (t2 t3 t7 t9 t56 : AV) : plenumlaw32_ViewTrue_r1 m ⟨H,[(2,t2),(3,t3),(7,t7),(9,t9),(56,t56)]⟩ =
 condE t56 (
  tellK H (ro H (V (.bool false)))) (
  plenumlaw32_ViewTrue_r2 m ⟨H,[(2,t2),(3,t3),(7,t7),(9,t9)]⟩) := by
 refine (joinW_eq _ _ _ _ _ _ _ _ _).trans ?_
 kernel_rfl
theorem plenumlaw32_ViewTrue_eq (m : Nat) (t0 t1 : AV) : plenumlaw32_ViewTrue m t0 t1 =
 boxE ty_plenumlaw32_Scene [] t0 fun t2 H1 =>
 boxE ty_api_Change H1 t1 fun t3 H2 =>
 loadE 8 H2 t3 fun t13 =>
 tellE (plenumlaw28_FewChange m (ro H2 t13)) [(ro H2 t13)] fun t14 =>
 storeE 8 H2 t3 t14 fun H3 =>
 loadE 5 H3 t2 fun t16 =>
 keepE (plenumlaw32_set m (ro H3 t16) H3) fun t17 H4 =>
 extE t17 0 fun t18 =>
 extE t17 1 fun t19 =>
 extE t17 2 fun t20 =>
 extE t17 3 fun t21 =>
 unE .not t21 fun t23 =>
 condE t23 (
  loadE 5 H4 t2 fun t24 =>
  tellE (plenumlaw32_bad m (ro H4 t24)) [(ro H4 t24)] fun t25 =>
  condE t25 (
   tellE (plenumlaw32_awake m) [] fun t27 =>
   tellK H4 (ro H4 t27)) (
   tellK H4 (ro H4 (V (.bool false))))) (
  loadE 8 H4 t3 fun t31 =>
  keepE (view_Change m (ro H4 t19) (ro H4 t18) (ro H4 t31) (V (.int .i64 7)) H4) fun t32 H5 =>
  unE .not t32 fun t33 =>
  condE t33 (
   tellE (plenumlaw32_awake m) [] fun t34 =>
   tellK H5 (ro H5 t34)) (
   loadE 8 H5 t3 fun t37 =>
   keepE (view_ChangeStmt m (ro H5 t18) (ro H5 t37) H5) fun t38 H6 =>
   extE t38 0 fun t39 =>
   extE t38 1 fun t40 =>
   allocE (some zc_api_Stmt) ty_api_Stmt H6 fun t9 H7 =>
   storeE 7 H7 t9 t39 fun H8 =>
   binE none false false .neq t40 (V (.int .i64 0)) fun t42 =>
   condE t42 (
    plenumlaw32_ViewTrue_r1 m ⟨H8,[(2,t2),(3,t3),(7,t20),(9,t9),(56,(V (.bool true)))]⟩) (
    fieldE (some (0,1)) t9 fun t44 =>
    loadE 1 H8 t44 fun t45 =>
    fieldE (some (0,1)) t3 fun t46 =>
    loadE 1 H8 t46 fun t47 =>
    binE none false false .neq t45 t47 fun t48 =>
    condE t48 (
    plenumlaw32_ViewTrue_r1 m ⟨H8,[(2,t2),(3,t3),(7,t20),(9,t9),(56,(V (.bool true)))]⟩) (
    fieldE (some (2,1)) t9 fun t51 =>
    loadE 1 H8 t51 fun t52 =>
    fieldE (some (1,1)) t3 fun t53 =>
    loadE 1 H8 t53 fun t54 =>
    binE none false false .neq t52 t54 fun t55 =>
    plenumlaw32_ViewTrue_r1 m ⟨H8,[(2,t2),(3,t3),(7,t20),(9,t9),(56,t55)]⟩)))) := by
 refine (tellX _ _ _ _ _ _ _ _ _).trans ?_
 kernel_rfl
noncomputable def plenumlaw32_ViewTrue_t (m : Nat) : List AV → RO|[t0,t1]=>plenumlaw32_ViewTrue m t0 t1|_=>none
theorem plenumlaw32_ViewTrue_ok (m : Nat) : ∀ args X H',plenumlaw32_ViewTrue_t m args = some (X,H') → ACp Try.prog GG 3 args X := by
 intro args X H' h
 unfold plenumlaw32_ViewTrue_t at h
 split at h
 ·exact tell_okK MIX (by
  intro f e h
  simp only [plenumlaw32_ViewTrue_env,Prod.mk.injEq,List.mem_cons,List.not_mem_nil,or_false] at h
  rcases h with ⟨rfl,rfl⟩|⟨rfl,rfl⟩|⟨rfl,rfl⟩|⟨rfl,rfl⟩|⟨rfl,rfl⟩|⟨rfl,rfl⟩|⟨rfl,rfl⟩
  ·exact plenumlaw28_FewChange_ok m
  ·exact plenumlaw32_set_ok m
  ·exact plenumlaw32_bad_ok m
  ·exact plenumlaw32_awake_ok m
  ·exact view_Change_ok m
  ·exact view_ChangeStmt_ok m
  ·exact plenumref04_Ring_Bad_ok m) (f := 3) (c := plenumlaw32_ViewTrue_c) Try.func3 rfl (by kernel_rfl) _ rfl Try.ntmps3 (Nat.le_of_ble_eq_true rfl) plenumlaw32_ViewTrue_h h
 ·cases h
end Go.Proofs.Ytaaogcnjfkgnoaa

namespace Go.Proofs.Ytaaogcnjfkgnoaa
open Go.RowKit
open Go.Maps (Keyed)
def posL {α : Type} [DecidableEq α] (L : List α) (s : α) : Nat := if s ∈ L then L.idxOf s + 1 else 0
def mpF {α : Type} (kb : α → List UInt8) : Nat → List α → List AV
 |_,[]=>[]
 |k,s :: r=>entA (kb s) .i64 ((k + 1 : Nat) : Int) :: mpF kb (k + 1) r
section
variable {α : Type} {kb : α → List UInt8}
theorem mpF_len : ∀ (L : List α) (k : Nat),(mpF kb k L).length = L.length
 |[],k=>rfl
 |s :: r,k=>by simp [mpF,mpF_len r]
theorem mpF_snoc (s : α) : ∀ (L : List α) (k : Nat),mpF kb k (L ++ [s]) = mpF kb k L ++ [entA (kb s) .i64 ((k + L.length + 1 : Nat) : Int)]
 |[],k=>rfl
 |x :: r,k=>by
  show entA (kb x) .i64 ((k + 1 : Nat) : Int) :: mpF kb (k + 1) (r ++ [s]) = entA (kb x) .i64 ((k + 1 : Nat) : Int) :: (mpF kb (k + 1) r ++ _)
  rw [mpF_snoc s r (k + 1),show k + 1 + r.length + 1 = k + (x :: r).length + 1 by simp;omega]
theorem mpF_lt (n : Nat) : ∀ (L : List α) (k : Nat),(mpF kb k L).all (ltA n) = true
 |[],k=>rfl
 |s :: r,k=>by
  show (ltA n (entA (kb s) .i64 ((k + 1 : Nat) : Int)) && (mpF kb (k + 1) r).all (ltA n)) = true
  rw [mpF_lt n r];rfl
def putD (D : DataW Unit) (e : AV) : DataW Unit := D.put (.string (entK e)) (entV e)
theorem entK_A (k : List UInt8) (q : IntKind) (c : Int) : entK (entA k q c) = k := by simp [entK,entA]
theorem fold_at [DecidableEq α] {s : α} : ∀ (L : List α) (k : Nat) (D : DataW Unit),Maps.IsMap D → L.Nodup → (∀ x ∈ L,kb x = kb s → x = s) →
  ((mpF kb k L).foldl putD D).atKey (.string (kb s)) (.lit (.int .i64 0)) = (if s ∈ L then .lit (.int .i64 ((k + L.idxOf s + 1 : Nat) : Int)) else D.atKey (.string (kb s)) (.lit (.int .i64 0))) ∧
  Maps.has ((mpF kb k L).foldl putD D) (.string (kb s)) = (decide (s ∈ L) || Maps.has D (.string (kb s)))
 |[],k,D,hD,_,_=>by simp [mpF]
 |x :: r,k,D,hD,hn,hi=>by
  have hn' := List.nodup_cons.1 hn
  obtain ⟨h1,h2⟩ := fold_at r (k + 1) (putD D (entA (kb x) .i64 ((k + 1 : Nat) : Int))) (hD.put _ _) hn'.2 (fun y hy=>hi y (List.mem_cons_of_mem _ hy))
  show ((mpF kb (k + 1) r).foldl putD (putD D _)).atKey _ _ = _ ∧ Maps.has ((mpF kb (k + 1) r).foldl putD (putD D _)) _ = _
  rw [h1,h2]
  by_cases e : x = s
  ·subst e
   rw [if_neg hn'.1,if_pos (List.mem_cons_self ..)]
   have hk : (Lit.string (kb x)) = .string (entK (entA (kb x) .i64 ((k + 1 : Nat) : Int))) := by rw [entK_A]
   constructor
   ·unfold putD
    rw [hk,Maps.atKey_put_same hD (show WideAt.IsKeyLit (.string (entK (entA (kb x) .i64 ((k + 1 : Nat) : Int)))) from trivial)]
    simp [entV,entA]
   ·unfold putD
    rw [hk,Maps.has_put_same hD (show WideAt.IsKeyLit (.string (entK (entA (kb x) .i64 ((k + 1 : Nat) : Int)))) from trivial)]
    simp
  ·have hne : (Lit.string (kb s)) ≠ .string (entK (entA (kb x) .i64 ((k + 1 : Nat) : Int))) := fun q=>by
    rw [entK_A] at q
    injection q with q
    exact e (hi x (List.mem_cons_self ..) q.symm)
   have hm : (s ∈ x :: r) = (s ∈ r) := by simp [show s ≠ x from fun q=>e q.symm]
   simp only [hm]
   unfold putD
   rw [Maps.atKey_put_other hne,Maps.has_put_other hne]
   refine ⟨?_,rfl⟩
   by_cases hs : s ∈ r
   ·rw [if_pos hs,if_pos hs,List.idxOf_cons,show (x == s) = false by simpa using e,cond_false,show k + 1 + r.idxOf s + 1 = k + (r.idxOf s + 1) + 1 by omega]
   ·rw [if_neg hs,if_neg hs]
theorem mapD_fold (c : List AV) : mapD c = c.foldl putD (.map []) := rfl
theorem mp_at [DecidableEq α] {L : List α} {s : α} (hn : L.Nodup) (hi : ∀ x ∈ L,kb x = kb s → x = s) :
  (mapD (mpF kb 0 L)).atKey (.string (kb s)) (.lit (.int .i64 0)) = .lit (.int .i64 (posL L s)) ∧ Maps.has (mapD (mpF kb 0 L)) (.string (kb s)) = decide (s ∈ L) := by
 obtain ⟨h1,h2⟩ := fold_at (kb := kb) (s := s) L 0 (.map []) ⟨[],rfl⟩ hn hi
 rw [mapD_fold,h1,h2]
 constructor
 ·unfold posL
  split
  ·rw [Nat.zero_add]
  ·rfl
 ·rw [Maps.has_eq];simp
end
theorem keyedT : Keyed Try.prog 9 := Maps.string_keyed Try.underlying9
theorem keyT {s : List UInt8} (h : s.length ≤ 9223372036854775807) : keyOf Try.prog 9 (.string ⟨s.toArray⟩) = some (.string s) := by
 unfold keyOf mapKey
 simp only [Try.underlying9]
 rw [if_pos (show ByteArray.size ⟨s.toArray⟩ ≤ maxLen by simp only [ByteArray.size,List.size_toArray];unfold maxLen;omega)]
theorem laidOut : laidOutB Try.prog = true := by kernel_rfl
theorem wideS : (match Try.prog.underlying 41 with|some (.array _ _)|some (.struct _)=>true|_=>false) = true := by rw [Try.underlying41]
theorem rowS : (41 : TypeId) < Try.prog.types.size := of_decide_eq_true (by kernel_rfl)
theorem keyedS : Keyed Try.prog 41 := Keyed.of_law (deep_law_laid laidOut (m := 3) (by omega) rowS (by kernel_rfl) wideS)
theorem zeroInt (w : World) : (zeroValue 3).run Try.prog w = .ok (.int .i64 0) w := by kernel_rfl
def I64 (i : Int) : Prop := -9223372036854775808 ≤ i ∧ i ≤ 9223372036854775807
def SmI (s : Sm) : Prop := I64 s.fr ∧ I64 s.kd ∧ I64 s.vw ∧ I64 s.sq ∧ I64 s.tm
theorem wf64 {i : Int} (h : I64 i) : (Lit.int .i64 i).wf = true := by
 have := h
 simp [I64,Lit.wf,IntKind.min,IntKind.max,IntKind.signed,IntKind.bits] at this ⊢
 omega
def kS (s : Sm) : List UInt8 := keyBytes [.int .i64 s.fr, .int .i64 s.kd, .int .i64 s.vw, .int .i64 s.sq, .int .i64 s.tm]
theorem keyS {s : Sm} (h : SmI s) : keyOf Try.prog 41 (.agg #[.int .i64 s.fr, .int .i64 s.kd, .int .i64 s.vw, .int .i64 s.sq, .int .i64 s.tm]) = some (.string (kS s)) := by
 obtain ⟨h1,h2,h3,h4,h5⟩ := h
 have w1 := wf64 h1;have w2 := wf64 h2;have w3 := wf64 h3;have w4 := wf64 h4;have w5 := wf64 h5
 have hkt : Try.prog.keyType 41 = true := by kernel_rfl
 have hce : Try.prog.cellsOf 41 = 5 := by kernel_rfl
 have hc3 : Try.prog.cellsOf 3 = 1 := by kernel_rfl
 obtain ⟨m,hm⟩ : ∃ m,Try.prog.types.size = m + 1 := Nat.exists_eq_succ_of_ne_zero (Nat.ne_of_gt (Nat.lt_of_le_of_lt (Nat.zero_le _) rowS))
 unfold keyOf
 simp only [Try.underlying41]
 rw [if_pos (by simp [hkt,Value.formed,Try.underlying41,hce]),hm]
 unfold Program.keyLits
 simp only [Try.underlying41,Value.cells]
 rw [if_pos ⟨by rw [hce];rfl,by simp⟩]
 simp [hc3,Program.keyLits,Try.underlying3,w1,w2,w3,w4,w5,kS]
theorem kS_inj {s t : Sm} (hs : SmI s) (ht : SmI t) (h : kS s = kS t) : s = t := by
 obtain ⟨a1,a2,a3,a4,a5⟩ := hs
 obtain ⟨b1,b2,b3,b4,b5⟩ := ht
 unfold kS at h
 have := keyBytes_inj (by simp [Alike,Lit.sameKind]) (by simp [Lit.keyWf,wf64 a1,wf64 a2,wf64 a3,wf64 a4,wf64 a5]) (by simp [Lit.keyWf,wf64 b1,wf64 b2,wf64 b3,wf64 b4,wf64 b5]) h
 simp at this
 obtain ⟨e1,e2,e3,e4,e5⟩ := this
 cases s;cases t;simp_all
def tmO (L : List (List UInt8)) : AObj := ⟨5,9,3,mpF _root_.id 0 L⟩
def rmO (R : List Sm) : AObj := ⟨5,41,3,mpF kS 0 R⟩
theorem u_lookT {R : Type} {H : List AObj} {i : Nat} {L : List (List UInt8)} {s : List UInt8} {K : AV → Option R} (hH : H[i]? = some (tmO L)) (hn : L.Nodup) (hs : s.length ≤ 9223372036854775807) :
  lookE Try.prog 105 H (MP i) (sA s) true K = K (TU [nA (posL L s),bA (decide (s ∈ L))]) := by
 obtain ⟨h1,h2⟩ := mp_at (kb := _root_.id) (L := L) (s := s) hn (fun x _ e=>e)
 refine u_lookE ⟨rfl,i,tmO L, .i64, .string ⟨s.toArray⟩, .string s,posL L s,rfl,hH,rfl,keyedT,Try.underlying105,Try.underlying3,zeroInt,rfl,keyT hs,h1,?_⟩
 rw [if_pos rfl]
 exact congrArg (fun b=>TU [nA (posL L s),bA b]) ((decide_eq_decide.2 Iff.rfl).trans h2.symm)
theorem u_lookS {R : Type} {H : List AObj} {i : Nat} {L : List Sm} {s : Sm} {K : AV → Option R} (hH : H[i]? = some (rmO L)) (hn : L.Nodup) (hL : ∀ x ∈ L,SmI x) (hs : SmI s) :
  lookE Try.prog 116 H (MP i) (.agg (smC s)) false K = K (nA (posL L s)) := by
 obtain ⟨h1,h2⟩ := mp_at (kb := kS) (L := L) (s := s) hn (fun x hx e=>kS_inj (hL x hx) hs e)
 exact u_lookE ⟨rfl,i,rmO L, .i64,_, .string (kS s),posL L s,rfl,hH,rfl,keyedS,Try.underlying116,Try.underlying3,zeroInt,rfl,keyS hs,h1,rfl⟩
theorem u_putT {R : Type} {H : List AObj} {i : Nat} {L : List (List UInt8)} {s : List UInt8} {K : List AObj → Option R} (hH : H[i]? = some (tmO L)) (hs : s.length ≤ 9223372036854775807) (hl : L.length < 100000) :
  putME Try.prog 105 H (MP i) (sA s) (nA ((L.length + 1 : Nat) : Int)) K = K (H.set i (tmO (L ++ [s]))) := by
 refine u_putME ⟨rfl,i,tmO L, .i64, .string ⟨s.toArray⟩,s,_,rfl,hH,rfl,keyedT,Try.underlying105,Try.underlying3,rfl,keyT hs,rfl,wf64 ⟨by omega,by omega⟩,?_,?_⟩
 ·rw [show (tmO L).c = mpF _root_.id 0 L from rfl,mpF_len];unfold maxLen;omega
 ·unfold tmO;rw [mpF_snoc,Nat.zero_add];rfl
theorem u_putS {R : Type} {H : List AObj} {i : Nat} {L : List Sm} {s : Sm} {K : List AObj → Option R} (hH : H[i]? = some (rmO L)) (hs : SmI s) (hl : L.length < 100000) :
  putME Try.prog 116 H (MP i) (.agg (smC s)) (nA ((L.length + 1 : Nat) : Int)) K = K (H.set i (rmO (L ++ [s]))) := by
 refine u_putME ⟨rfl,i,rmO L, .i64,_,kS s,_,rfl,hH,rfl,keyedS,Try.underlying116,Try.underlying3,rfl,keyS hs,rfl,wf64 ⟨by omega,by omega⟩,?_,?_⟩
 ·rw [show (rmO L).c = mpF kS 0 L from rfl,mpF_len];unfold maxLen;omega
 ·unfold rmO;rw [mpF_snoc,Nat.zero_add]
end Go.Proofs.Ytaaogcnjfkgnoaa

namespace Go.Proofs.Ytaaogcnjfkgnoaa
open Go.RowKit
theorem nthOA {R : Type} : ∀ (A : List AObj) {Z : List AObj} {k : Nat} {K : AObj → Option R},nthOE (A ++ Z) (A.length + k) K = nthOE Z k K
 |[],Z,k,K=>by simp
 |a :: A,Z,k,K=>by
  show nthOE (a :: (A ++ Z)) ((A.length + 1) + k) K = _
  rw [show A.length + 1 + k = (A.length + k) + 1 by omega]
  exact nthOA A
theorem setA : ∀ (A : List AObj) {Z : List AObj} {k : Nat} {o : AObj},(A ++ Z).set (A.length + k) o = A ++ Z.set k o
 |[],Z,k,o=>by simp
 |a :: A,Z,k,o=>by
  show (a :: (A ++ Z)).set ((A.length + 1) + k) o = _
  rw [show A.length + 1 + k = (A.length + k) + 1 by omega,List.set_cons_succ,setA A]
  rfl
theorem getA : ∀ (A : List AObj) {Z : List AObj} {k : Nat},(A ++ Z)[A.length + k]? = Z[k]? := fun A {Z k}=>by
 rw [List.getElem?_append_right (by omega)];congr 1;omega
def scM (A B : List AObj) (o0 o1 o2 o3 o4 o5 : AObj) : List AObj := A ++ (o0 :: o1 :: o2 :: o3 :: o4 :: o5 :: B)
def nAB (A B : List AObj) : Nat := A.length + (B.length + 6)
section
variable {R : Type} {A B Y : List AObj} {o0 o1 o2 o3 o4 o5 o : AObj} {K : AObj → Option R} {k : Nat}
theorem scM_len : (scM A B o0 o1 o2 o3 o4 o5).length = nAB A B := by simp [scM,nAB]
theorem scM_app : scM A (B ++ Y) o0 o1 o2 o3 o4 o5 = scM A B o0 o1 o2 o3 o4 o5 ++ Y := by simp [scM]
theorem nAB_app : nAB A (B ++ Y) = nAB A B + Y.length := by simp [nAB];omega
theorem scM_0 : nthOE (scM A B o0 o1 o2 o3 o4 o5) A.length K = K o0 := (nthOA A (k := 0))
theorem scM_1 : nthOE (scM A B o0 o1 o2 o3 o4 o5) (A.length + 1) K = K o1 := (nthOA A (k := 1))
theorem scM_2 : nthOE (scM A B o0 o1 o2 o3 o4 o5) (A.length + 2) K = K o2 := (nthOA A (k := 2))
theorem scM_3 : nthOE (scM A B o0 o1 o2 o3 o4 o5) (A.length + 3) K = K o3 := (nthOA A (k := 3))
theorem scM_4 : nthOE (scM A B o0 o1 o2 o3 o4 o5) (A.length + 4) K = K o4 := (nthOA A (k := 4))
theorem scM_5 : nthOE (scM A B o0 o1 o2 o3 o4 o5) (A.length + 5) K = K o5 := (nthOA A (k := 5))
theorem scY_0 : nthOE (scM A B o0 o1 o2 o3 o4 o5 ++ Y) A.length K = K o0 := by rw [← scM_app];exact scM_0
theorem scY_1 : nthOE (scM A B o0 o1 o2 o3 o4 o5 ++ Y) (A.length + 1) K = K o1 := by rw [← scM_app];exact scM_1
theorem scY_2 : nthOE (scM A B o0 o1 o2 o3 o4 o5 ++ Y) (A.length + 2) K = K o2 := by rw [← scM_app];exact scM_2
theorem scY_3 : nthOE (scM A B o0 o1 o2 o3 o4 o5 ++ Y) (A.length + 3) K = K o3 := by rw [← scM_app];exact scM_3
theorem scY_4 : nthOE (scM A B o0 o1 o2 o3 o4 o5 ++ Y) (A.length + 4) K = K o4 := by rw [← scM_app];exact scM_4
theorem scY_5 : nthOE (scM A B o0 o1 o2 o3 o4 o5 ++ Y) (A.length + 5) K = K o5 := by rw [← scM_app];exact scM_5
theorem scS_0 : (scM A B o0 o1 o2 o3 o4 o5).set A.length o = scM A B o o1 o2 o3 o4 o5 := (setA A (k := 0))
theorem scS_1 : (scM A B o0 o1 o2 o3 o4 o5).set (A.length + 1) o = scM A B o0 o o2 o3 o4 o5 := (setA A (k := 1))
theorem scS_2 : (scM A B o0 o1 o2 o3 o4 o5).set (A.length + 2) o = scM A B o0 o1 o o3 o4 o5 := (setA A (k := 2))
theorem scS_3 : (scM A B o0 o1 o2 o3 o4 o5).set (A.length + 3) o = scM A B o0 o1 o2 o o4 o5 := (setA A (k := 3))
theorem scS_4 : (scM A B o0 o1 o2 o3 o4 o5).set (A.length + 4) o = scM A B o0 o1 o2 o3 o o5 := (setA A (k := 4))
theorem scS_5 : (scM A B o0 o1 o2 o3 o4 o5).set (A.length + 5) o = scM A B o0 o1 o2 o3 o4 o := (setA A (k := 5))
theorem scT_0 : (scM A B o0 o1 o2 o3 o4 o5 ++ Y).set A.length o = scM A B o o1 o2 o3 o4 o5 ++ Y := by rw [← scM_app,← scM_app];exact scS_0
theorem scT_1 : (scM A B o0 o1 o2 o3 o4 o5 ++ Y).set (A.length + 1) o = scM A B o0 o o2 o3 o4 o5 ++ Y := by rw [← scM_app,← scM_app];exact scS_1
theorem scT_2 : (scM A B o0 o1 o2 o3 o4 o5 ++ Y).set (A.length + 2) o = scM A B o0 o1 o o3 o4 o5 ++ Y := by rw [← scM_app,← scM_app];exact scS_2
theorem scT_3 : (scM A B o0 o1 o2 o3 o4 o5 ++ Y).set (A.length + 3) o = scM A B o0 o1 o2 o o4 o5 ++ Y := by rw [← scM_app,← scM_app];exact scS_3
theorem scT_4 : (scM A B o0 o1 o2 o3 o4 o5 ++ Y).set (A.length + 4) o = scM A B o0 o1 o2 o3 o o5 ++ Y := by rw [← scM_app,← scM_app];exact scS_4
theorem scT_5 : (scM A B o0 o1 o2 o3 o4 o5 ++ Y).set (A.length + 5) o = scM A B o0 o1 o2 o3 o4 o ++ Y := by rw [← scM_app,← scM_app];exact scS_5
theorem scB_k : nthOE (scM A B o0 o1 o2 o3 o4 o5 ++ Y) (nAB A B + k) K = nthOE Y k K := by
 rw [← scM_len (o0 := o0) (o1 := o1) (o2 := o2) (o3 := o3) (o4 := o4) (o5 := o5)];exact nthOA _
theorem scB_0 : nthOE (scM A B o0 o1 o2 o3 o4 o5 ++ Y) (nAB A B) K = nthOE Y 0 K := scB_k (k := 0)
theorem scBs_k : (scM A B o0 o1 o2 o3 o4 o5 ++ Y).set (nAB A B + k) o = scM A B o0 o1 o2 o3 o4 o5 ++ Y.set k o := by
 rw [← scM_len (o0 := o0) (o1 := o1) (o2 := o2) (o3 := o3) (o4 := o4) (o5 := o5)];exact setA _
theorem scBs_0 : (scM A B o0 o1 o2 o3 o4 o5 ++ Y).set (nAB A B) o = scM A B o0 o1 o2 o3 o4 o5 ++ Y.set 0 o := scBs_k (k := 0)
theorem sc_take : (scM A B o0 o1 o2 o3 o4 o5).take (nAB A B) = scM A B o0 o1 o2 o3 o4 o5 := by
 rw [← scM_len (o0 := o0) (o1 := o1) (o2 := o2) (o3 := o3) (o4 := o4) (o5 := o5)];exact List.take_length
theorem sc_takeY : (scM A B o0 o1 o2 o3 o4 o5 ++ Y).take (nAB A B) = scM A B o0 o1 o2 o3 o4 o5 := by
 rw [← scM_len (o0 := o0) (o1 := o1) (o2 := o2) (o3 := o3) (o4 := o4) (o5 := o5)];exact List.take_left
end
def GB (A B : List AObj) : Prop := ∀ n,nAB A B ≤ n → A.all (ltO n) = true ∧ B.all (ltO n) = true
theorem GB.app {A B Y : List AObj} (h : GB A B) (hY : ∀ n,Y.all (ltO n) = true) : GB A (B ++ Y) := fun n hn=>by
 rw [nAB_app] at hn
 obtain ⟨h1,h2⟩ := h n (by omega)
 exact ⟨h1,by rw [List.all_append,h2,hY];rfl⟩
def ttO (a : Nat) (L : List (List UInt8)) : AObj := ⟨1,ty_term_Table,0,[MP a,OW (a + 2) L.length]⟩
def trO (L : List (List UInt8)) : AObj := ⟨2,ty_string,1,L.map sA⟩
def rgC (a : Nat) (n : Int) (bd : List Bool) (R : List Sm) : List AV := nA n :: (bd.map bA ++ [MP a,OW (a + 2) R.length])
def rgO (a : Nat) (n : Int) (bd : List Bool) (R : List Sm) : AObj := ⟨1,ty_ring_Ring,0,rgC a n bd R⟩
def rrO (R : List Sm) : AObj := ⟨2,ty_api_Stmt,5,R.map smE⟩
structure Sg where
 T : List (List UInt8)
 n : Int
 bd : List Bool
 R : List Sm
def sc (A B : List AObj) (σ : Sg) : List AObj := scM A B (tmO σ.T) (ttO A.length σ.T) (trO σ.T) (rmO σ.R) (rgO (A.length + 3) σ.n σ.bd σ.R) (rrO σ.R)
structure SgOk (σ : Sg) : Prop where
 tn : σ.T.Nodup
 tl : σ.T.length ≤ 65536
 ts : ∀ s ∈ σ.T,s.length ≤ 9223372036854775807
 n1 : 1 ≤ σ.n
 n2 : σ.n ≤ 64
 bl : σ.bd.length = 64
 rn : σ.R.Nodup
 rl : σ.R.length ≤ 65536
 ri : ∀ s ∈ σ.R,SmI s
 rf : ∀ s ∈ σ.R,0 ≤ s.fr ∧ s.fr < σ.n
theorem tmO_lt {n : Nat} {L : List (List UInt8)} : ltO n (tmO L) = true := mpF_lt n L 0
theorem rmO_lt {n : Nat} {L : List Sm} : ltO n (rmO L) = true := mpF_lt n L 0
theorem ttO_lt {n a : Nat} {L : List (List UInt8)} (h : a + 2 < n) : ltO n (ttO a L) = true := by
 simp [ltO,ttO,ltA,lt1];omega
theorem trO_lt {n : Nat} {L : List (List UInt8)} : ltO n (trO L) = true := by
 simp [ltO,trO,ltA,lt1]
theorem rrO_lt {n : Nat} {L : List Sm} : ltO n (rrO L) = true := by
 show ((2 : Nat) == 0 || (L.map smE).all (ltA n)) = true
 rw [List.all_map];exact sms_ltA
theorem rgO_lt {n a : Nat} {q : Int} {bd : List Bool} {R : List Sm} (h : a + 2 < n) : ltO n (rgO a q bd R) = true := by
 simp [ltO,rgO,rgC,ltA,lt1];omega
theorem sc_lt {A B : List AObj} {σ : Sg} (h : GB A B) {n : Nat} (hn : nAB A B ≤ n) : (sc A B σ).all (ltO n) = true := by
 obtain ⟨h1,h2⟩ := h n hn
 have h3 : A.length + 6 ≤ n := by unfold nAB at hn;omega
 unfold sc scM
 rw [List.all_append,h1]
 simp only [List.all_cons,tmO_lt,ttO_lt (show A.length + 2 < n by omega),trO_lt,rmO_lt,rgO_lt (show A.length + 3 + 2 < n by omega),rrO_lt,h2,Bool.and_self]
theorem sc_keepY {A B Y : List AObj} {σ : Sg} {X : AV} (h : GB A B) (hX : ltT (nAB A B) X = true) : keepK (nAB A B) (sc A B σ ++ Y) X = some (X,sc A B σ) := by
 rw [u_keepK]
 have h1 := sc_lt (σ := σ) h (Nat.le_refl _)
 unfold sc at h1 ⊢
 rw [sc_takeY,List.length_append,scM_len,h1,hX,decide_eq_true (by omega)]
 rfl
theorem sc_len {A B : List AObj} {σ : Sg} : (sc A B σ).length = nAB A B := scM_len
theorem sc_app {A B Y : List AObj} {σ : Sg} : sc A (B ++ Y) σ = sc A B σ ++ Y := scM_app
section
variable {R : Type} {A B Y : List AObj} {σ : Sg} {K : AObj → Option R} {k : Nat} {o : AObj}
theorem s_B0 : nthOE (sc A B σ ++ Y) (nAB A B) K = nthOE Y 0 K := scB_0
theorem s_Bk : nthOE (sc A B σ ++ Y) (nAB A B + k) K = nthOE Y k K := scB_k
theorem s_Bs0 : (sc A B σ ++ Y).set (nAB A B) o = sc A B σ ++ Y.set 0 o := scBs_0
theorem s_Bsk : (sc A B σ ++ Y).set (nAB A B + k) o = sc A B σ ++ Y.set k o := scBs_k
theorem s_takeY : (sc A B σ ++ Y).take (nAB A B) = sc A B σ := sc_takeY
theorem s_takeK : (sc A B σ ++ Y).take (nAB A B + k) = sc A B σ ++ Y.take k := by
 rw [← scM_len (A := A) (B := B) (o0 := tmO σ.T) (o1 := ttO A.length σ.T) (o2 := trO σ.T) (o3 := rmO σ.R) (o4 := rgO (A.length + 3) σ.n σ.bd σ.R) (o5 := rrO σ.R)]
 exact List.take_length_add_append ..
theorem s_get : (sc A B σ ++ Y)[nAB A B + k]? = Y[k]? := by
 rw [← scM_len (A := A) (B := B) (o0 := tmO σ.T) (o1 := ttO A.length σ.T) (o2 := trO σ.T) (o3 := rmO σ.R) (o4 := rgO (A.length + 3) σ.n σ.bd σ.R) (o5 := rrO σ.R)]
 exact getA _
theorem nas_ltA {n : Nat} {l : List Int} : (l.map nA).all (ltA n) = true := by rw [List.all_map];exact List.all_eq_true.2 fun _ _=>rfl
theorem nas_lt {n : Nat} {l : List Int} : ltT n (SL (l.map nA)) = true := _root_.id rfl
theorem ro1W {H : List AObj} {i n : Nat} {e z : Nat} {c : List AV} (h : H[i]? = some ⟨2,e,z,c⟩) (hn : n = c.length) : ro1 H (OW i n) = SL c := by
 subst hn
 unfold ro1
 dsimp only
 rw [h]
 simp
theorem s_take : (sc A B σ).take (nAB A B) = sc A B σ := sc_take
end
def oqT (L : List (List UInt8)) (s : List UInt8) : List (List UInt8) := if s ∈ L then L else if 65536 ≤ L.length then L else L ++ [s]
def ofN (L : List (List UInt8)) (s : List UInt8) : Nat := if s ∈ L then posL L s else if 65536 ≤ L.length then 0 else L.length + 1
def ofE (L : List (List UInt8)) (s : List UInt8) : Int := if s ∈ L then 0 else if 65536 ≤ L.length then 5 else 0
theorem tr_one {L : List (List UInt8)} {s : List UInt8} : (⟨2,ty_string,1,L.map sA ++ [sA s]⟩ : AObj) = trO (L ++ [s]) := by simp [trO]
end Go.Proofs.Ytaaogcnjfkgnoaa

namespace Go.Proofs.Ytaaogcnjfkgnoaa
open Go.RowKit
attribute [local go_sem] Nat.zero_add Nat.add_zero Nat.mul_one Int.toNat_natCast Int.natCast_zero Int.cast_ofNat_Int or_false false_or or_true true_or Nat.sub_zero Int.natCast_nonneg Int.toNat_zero Bool.true_and Bool.and_true Bool.false_and Bool.and_false Bool.true_or Bool.or_true Bool.false_or Bool.or_false Bool.not_true Bool.not_false Bool.not_not true_and and_true false_and and_false not_true_eq_false not_false_eq_true eq_self decide_true decide_false ne_eq implies_true forall_const true_implies false_implies Bool.true_eq_false Bool.false_eq_true List.map_cons List.map_nil List.all_cons List.all_nil List.length_cons List.length_nil List.length_map List.length_append List.nil_append List.cons_append List.set_cons_zero List.set_cons_succ List.set_nil List.drop_zero List.drop_succ_cons List.drop_nil List.take_zero List.take_succ_cons List.take_nil Option.map_some Option.map_none Option.isSome_some List.all_append List.all_map Function.comp_def decide_eq_true_eq Bool.and_eq_true beq_self_eq_true or_self and_self ite_true ite_false Nat.le_refl Bool.not_eq_true decide_not Bool.not_eq_true' decide_eq_false_iff_not Bool.not_eq_false Bool.or_eq_true if_true if_false ite_self u_roF u_cvF u_cvC u_ceT u_ceK u_appS sm_it sm_len sm_sure sm_ltA sm_lt1 sm_all1 sm_ro sm_take sm_sl sm_set sm_noT sm_fr sm_st_fr sm_set_fr sm_kd sm_st_kd sm_set_kd sm_vw sm_st_vw sm_set_vw sm_sq sm_st_sq sm_set_sq sm_tm sm_st_tm sm_set_tm zsm_len zsm_sure zsm_lt1 zsm_sl zsm_ro zsm_setz zsm_set zsm_setr zsm_take sms_ltA sms_len ce_it ce_len ce_sure ce_ltA ce_lt1 ce_all1 ce_ro ce_take ce_sl ce_set ce_noT ce_sq ce_st_sq ce_set_sq ce_vw ce_st_vw ce_set_vw ce_tm ce_st_tm ce_set_tm ce_body ce_st_body ce_set_body ce_vs ce_st_vs ce_set_vs zce_len zce_sure zce_lt1 zce_sl zce_ro zce_setz zce_set zce_setr zce_take ces_ltA ces_len cg_it cg_len cg_sure cg_ltA cg_lt1 cg_all1 cg_ro cg_take cg_sl cg_set cg_noT cg_fr cg_st_fr cg_set_fr cg_vw cg_st_vw cg_set_vw cg_st cg_st_st cg_set_st cg_rt cg_st_rt cg_set_rt cg_pf cg_st_pf cg_set_pf cg_cs cg_st_cs cg_set_cs zcg_len zcg_sure zcg_lt1 zcg_sl zcg_ro zcg_setz zcg_set zcg_setr zcg_take cgs_ltA cgs_len ms_it ms_len ms_sure ms_ltA ms_lt1 ms_all1 ms_ro ms_take ms_sl ms_set ms_noT ms_kd ms_st_kd ms_set_kd ms_fr ms_st_fr ms_set_fr ms_vw ms_st_vw ms_set_vw ms_sq ms_st_sq ms_set_sq ms_tm ms_st_tm ms_set_tm ms_body ms_st_body ms_set_body ms_vs ms_st_vs ms_set_vs ms_chs ms_st_chs ms_set_chs zms_len zms_sure zms_lt1 zms_sl zms_ro zms_setz zms_set zms_setr zms_take mss_ltA mss_len co_it co_len co_sure co_ltA co_lt1 co_all1 co_ro co_take co_sl co_set co_noT co_sq co_st_sq co_set_sq co_tm co_st_tm co_set_tm co_body co_st_body co_set_body co_nl co_st_nl co_set_nl zco_len zco_sure zco_lt1 zco_sl zco_ro zco_setz zco_set zco_setr zco_take cos_ltA cos_len sd_it sd_len sd_sure sd_ltA sd_lt1 sd_all1 sd_ro sd_take sd_sl sd_set sd_noT sd_wh sd_st_wh sd_set_wh sd_fr sd_st_fr sd_set_fr sd_kd sd_st_kd sd_set_kd sd_vw sd_st_vw sd_set_vw sd_sq sd_st_sq sd_set_sq sd_tm sd_st_tm sd_set_tm sds_ltA sds_len natInt u_nthM u_bz u_bi1 u_bi2 u_bi3 u_bi4 u_bi5 u_bi6 u_bi7 ltO_o ltO_r u_eqE scM_0 scM_1 scM_2 scM_3 scM_4 scM_5 scY_0 scY_1 scY_2 scY_3 scY_4 scY_5 scS_0 scS_1 scS_2 scS_3 scS_4 scS_5 scT_0 scT_1 scT_2 scT_3 scT_4 scT_5 scB_0 scB_k scBs_0 scBs_k List.append_assoc
attribute [local go_sem_proc] Nat.reduceAdd Nat.reduceSub Nat.reduceMul Nat.reduceLeDiff Nat.reduceLT Int.reduceEq Int.reduceNe Int.reduceLT Int.reduceLE Int.reduceAdd Int.reduceSub Int.reduceMul Int.reduceNeg Int.reduceToNat reduceCtorEq Nat.reduceEqDiff Nat.reduceBEq Nat.reduceGT
attribute [local go_sem_proc ↓] reduceIte
theorem sc_get0 {A B : List AObj} {o0 o1 o2 o3 o4 o5 : AObj} : (scM A B o0 o1 o2 o3 o4 o5)[A.length]? = some o0 := (getA A (k := 0))
theorem sc_get3 {A B : List AObj} {o0 o1 o2 o3 o4 o5 : AObj} : (scM A B o0 o1 o2 o3 o4 o5)[A.length + 3]? = some o3 := (getA A (k := 3))
section
variable {R : Type} {a : Nat} {L : List (List UInt8)} {K : List AV → Option R} {K2 : AObj → Option R}
theorem tt_cells : cellsE (ttO a L) K = K [MP a,OW (a + 2) L.length] := by unfold ttO;exact u_cl1
theorem tt_put {n : Nat} : putE (ttO a L) 1 1 (OW (a + 2) n) K2 = K2 ⟨1,ty_term_Table,0,[MP a,OW (a + 2) n]⟩ := by unfold ttO;rw [u_pt1];rfl
theorem tr_k : (trO L).k = 2 := _root_.id rfl
theorem tr_e : (trO L).e = ty_string := _root_.id rfl
theorem tr_z : (trO L).z = 1 := _root_.id rfl
theorem tr_c : (trO L).c = L.map sA := _root_.id rfl
end
theorem scM_lt {A B : List AObj} (hG : GB A B) {L : List (List UInt8)} {n : Int} {bd : List Bool} {R : List Sm} : (scM A B (tmO L) (ttO A.length L) (trO L) (rmO R) (rgO (A.length + 3) n bd R) (rrO R)).all (ltO (nAB A B)) = true := sc_lt (σ := ⟨L,n,bd,R⟩) hG (Nat.le_refl _)
theorem tof_s (m : Nat) (A B : List AObj) (σ : Sg) (s : List UInt8) (hG : GB A B) (hσ : SgOk σ) (hs : s.length ≤ 9223372036854775807) :
  term_Table_Of m (OP (A.length + 1) 0) (sA s) (sc A B σ) = some (TU [nA (ofN σ.T s),nA (ofE σ.T s)],sc A B { σ with T := oqT σ.T s }) := by
 have h0 := hσ.tl
 rw [term_Table_Of_eq]
 have hl := fun (K : AV → RO)=>u_lookT (K := K) (sc_get0 (A := A) (B := B) (o0 := tmO σ.T) (o1 := ttO A.length σ.T) (o2 := trO σ.T) (o3 := rmO σ.R) (o4 := rgO (A.length + 3) σ.n σ.bd σ.R) (o5 := rrO σ.R)) hσ.tn hs
 have hlt := fun {L : List (List UInt8)} {n : Int} {bd : List Bool} {R : List Sm}=>scM_lt hG (L := L) (n := n) (bd := bd) (R := R)
 clear hG
 unfold oqT ofN ofE sc
 obtain ⟨T,n,bd,R⟩ := σ
 dsimp only at *
 by_cases h1 : s ∈ T
 ·simp (config := {maxSteps := 4000000,implicitDefEqProofs := false}) (disch := omega) only [go_sem,tt_cells,hl,scM_len,hlt,sc_take,h1]
 ·by_cases h2 : 65536 ≤ T.length
  ·have h2' : (65536 : Int) ≤ (T.length : Int) := by omega
   simp (config := {maxSteps := 4000000,implicitDefEqProofs := false}) (disch := omega) only [go_sem,tt_cells,hl,scM_len,hlt,sc_take,h1,h2,h2']
  ·have h2' : ¬ (65536 : Int) ≤ (T.length : Int) := by omega
   have ht : (⟨1,ty_term_Table,0,[MP A.length,OW (A.length + 2) (T.length + 1)]⟩ : AObj) = ttO A.length (T ++ [s]) := by unfold ttO;rw [List.length_append];rfl
   have hp := fun (K : List AObj → RO)=>u_putT (K := K) (s := s) (sc_get0 (A := A) (B := B) (o0 := tmO T) (o1 := ttO A.length (T ++ [s])) (o2 := trO (T ++ [s])) (o3 := rmO R) (o4 := rgO (A.length + 3) n bd R) (o5 := rrO R)) hs (by omega)
   have hb : T.length + 1 ≤ 34359738368 := by omega
   have hx : (T ++ [s]).length = T.length + 1 := by simp
   simp (config := {maxSteps := 4000000,implicitDefEqProofs := false}) (disch := omega) only [go_sem,tt_cells,tt_put,tr_k,tr_e,tr_z,tr_c,tr_one,ht,hl,hp,hx,scM_len,hlt,sc_take,h1,h2,h2',hb]
theorem mapT_T : mapT Try.prog 105 = some (9,3) := by unfold mapT;rw [Try.underlying105]
theorem tnew_s (m : Nat) (H : List AObj) (hH : ∀ n,H.length ≤ n → H.all (ltO n) = true) : term_New m H = some (OP (H.length + 1) 0,H ++ [tmO [],ttO H.length [],trO []]) := by
 rw [term_New_eq,mapT_T]
 have e1 : ∀ K : AV → List AObj → RO,makeE (some (9,3)) H K = K (MP H.length) (H ++ [tmO []]) := fun K=>_root_.id rfl
 have e2 : ∀ (x : AV) (K : AV → RO),buildE (some pl_term_Table) (some zc_term_Table) [(0,MP H.length)] K = K (.agg [MP H.length,V (.slice none 0 0)]) := fun x K=>_root_.id rfl
 have e3 : ∀ (H' : List AObj) (K : AV → List AObj → RO),boxE ty_term_Table H' (.agg [MP H.length,V (.slice none 0 0)]) K = K (OP H'.length 0) (H' ++ [⟨1,ty_term_Table,0,[MP H.length,V (.slice none 0 0)]⟩]) := fun H' K=>_root_.id rfl
 rw [e1,e2 .nil,e3]
 have e4 : ghS 0 1 ty_string 1 ⟨H ++ [tmO []] ++ [⟨1,ty_term_Table,0,[MP H.length,V (.slice none 0 0)]⟩],[(0,OP (H ++ [tmO []]).length 0)]⟩ = ⟨H ++ [tmO [],ttO H.length [],trO []],[(0,OP (H.length + 1) 0)]⟩ := by
  unfold ghS
  show (match OP (H ++ [tmO []]).length 0 with|_=>_) = _
  have h1 : (H ++ [tmO []] ++ [⟨1,ty_term_Table,0,[MP H.length,V (.slice none 0 0)]⟩])[(H ++ [tmO []]).length]? = some ⟨1,ty_term_Table,0,[MP H.length,V (.slice none 0 0)]⟩ := by simp
  dsimp only
  rw [h1]
  simp [ttO,trO]
 rw [e4,term_New_r1_eq,u_openK]
 have h2 := hH (H.length + 3) (by omega)
 have h3 : (H ++ [tmO [],ttO H.length [],trO []]).all (ltO (H.length + 3)) = true := by
  rw [List.all_append,h2]
  simp [tmO_lt,ttO_lt (show H.length + 2 < H.length + 3 by omega),trO_lt]
 have h4 : (H ++ [tmO [],ttO H.length [],trO []]).length = H.length + 3 := by simp
 rw [h4,h3]
 have h5 : ltT (H.length + 3) (OP (H.length + 1) 0) = true := decide_eq_true (show H.length + 1 < H.length + 3 by omega)
 rw [show ro (H ++ [tmO [],ttO H.length [],trO []]) (OP (H.length + 1) 0) = OP (H.length + 1) 0 from rfl,h5]
 rfl
end Go.Proofs.Ytaaogcnjfkgnoaa

