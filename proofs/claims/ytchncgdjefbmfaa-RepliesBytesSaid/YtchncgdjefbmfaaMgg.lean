/-
  Texts laid together, part 7 of 7: laws of a walk over data, contracts of functions, each whole by itself.
-/
import Derived.Test.YtchncgdjefbmfaaMgf
import Derived.Test.YtchncgdjefbmfaaMge
set_option maxRecDepth 100000
set_option linter.unusedVariables false
set_option linter.unusedSimpArgs false
namespace Go.Proofs.Ytchncgdjefbmfaa
open Go.RowKit
theorem decB_len (b : Bytes) : (decB b).1.length ≤ 256 := by
 have hv := numR_le b 256 0 0
 have ha := numR_at (b := b) (most := 256) (a := 0) (e := 0) (Nat.zero_le _)
 unfold decB
 split
 ·exact Nat.zero_le _
 ·have := (goD_facts b (numR b 256 0 0).1 (numR b 256 0 0).2.1 [] ha (by simp)).2.1
  simp at this
  unfold finD
  split
  ·exact Nat.zero_le _
  ·split
   ·exact Nat.zero_le _
   ·split
    ·exact Nat.zero_le _
    ·dsimp only;omega
theorem bytes_r3 (m : Nat) (f : List La) (b w : Bytes) (hm : 1000 < m) (hf : f.length ≤ 260) (h : ∀ x ∈ f,x.r.In) (hb : b.length ≤ 3000) (hw : w = if isL f = true then encB f else []) :
  plenumlaw26_RepliesBytes_r3 m ⟨[],[(0,SL (f.map laE)),(1,SL (bC b)),(5,sA w)]⟩ = some (bA true,[]) := by
 rw [plenumlaw26_RepliesBytes_r3_eq]
 have hD := decode_s m b (by omega) (by omega)
 have hR := rdecode_s m b (by omega) (by omega)
 have hE := encode_s m f (by omega) (by omega) h
 have hA := awake26_s m (by omega)
 have hl := decB_len b
 rw [← hw] at hE
 generalize decB b = d at *
 obtain ⟨y,e⟩ := d
 dsimp only at hD hR hl
 have hS := same_s m y y (by omega) (by omega)
 rw [lL_def] at hD hR hE hS
 simp (config := {maxSteps := 4000000,implicitDefEqProofs := false}) (disch := omega) only [go_sem,↓reduceIte,Nat.reduceAdd,Nat.reduceSub,Nat.reduceMul,Nat.reduceLeDiff,Nat.reduceLT,Int.reduceEq,Int.reduceNe,Int.reduceLT,Int.reduceLE,Int.reduceAdd,Int.reduceSub,Int.reduceMul,Int.reduceNeg,Nat.zero_add,Nat.add_zero,Nat.mul_one,Int.toNat_natCast,Int.natCast_zero,Int.cast_ofNat_Int,or_false,false_or,or_true,true_or,Int.reduceToNat,Nat.sub_zero,Int.natCast_nonneg,Int.toNat_zero,Bool.true_and,Bool.and_true,Bool.false_and,Bool.and_false,Bool.true_or,Bool.or_true,Bool.false_or,Bool.or_false,Bool.not_true,Bool.not_false,Bool.not_not,true_and,and_true,false_and,and_false,not_true_eq_false,not_false_eq_true,eq_self,decide_true,decide_false,ne_eq,implies_true,forall_const,true_implies,false_implies,Bool.true_eq_false,Bool.false_eq_true,reduceCtorEq,List.map_cons,List.map_nil,List.all_cons,List.all_nil,List.length_cons,List.length_nil,List.length_map,List.length_append,List.nil_append,List.cons_append,List.set_cons_zero,List.set_cons_succ,List.set_nil,List.drop_zero,List.drop_succ_cons,List.drop_nil,List.take_zero,List.take_succ_cons,List.take_nil,Option.map_some,Option.map_none,Option.isSome_some,Nat.reduceEqDiff,Nat.reduceBEq,Nat.reduceGT,List.all_append,List.all_map,Function.comp_def,decide_eq_true_eq,Bool.and_eq_true,beq_self_eq_true,or_self,and_self,ite_true,ite_false,Nat.le_refl,Bool.not_eq_true,decide_not,Bool.not_eq_true',decide_eq_false_iff_not,Bool.not_eq_false,Bool.or_eq_true,if_true,if_false,ite_self,u_roF,u_cvF,u_cvC,u_ceT,u_ceK,u_appS,la_it,la_len,la_sure,la_ltA,la_lt1,la_all1,la_ro,la_take,la_cl,la_tm,la_r,la_sl,rc_len,rc_sure,rc_ltA,rc_lt1,rc_all1,rc_ro,rc_take,rc_sl,la_set,rc_set,zcL_eq,zcR_eq,la_allA,la_len7,all_tt,natInt,u_nthM,hD,hR,hE,hA,hS,u_bconv]
 try rfl
theorem bytes_r1 (m : Nat) (f : List La) (b : Bytes) (hm : 1000 < m) (hf : f.length ≤ 260) (h : ∀ x ∈ f,x.r.In) (hb : b.length ≤ 3000) :
  plenumlaw26_RepliesBytes_r1 m ⟨[],[(0,SL (f.map laE)),(1,SL (bC b))]⟩ = some (bA true,[]) := by
 rw [plenumlaw26_RepliesBytes_r1_eq]
 have hI := ris_s m f (by omega) (by omega)
 rw [lL_def] at hI
 cases hi : isL f with
 |false =>
  rw [hi] at hI
  have hr := bytes_r3 m f b [] hm hf h hb (by rw [hi];rfl)
  simp (config := {maxSteps := 4000000,implicitDefEqProofs := false}) (disch := omega) only [go_sem,↓reduceIte,Nat.reduceAdd,Nat.reduceSub,Nat.reduceMul,Nat.reduceLeDiff,Nat.reduceLT,Int.reduceEq,Int.reduceNe,Int.reduceLT,Int.reduceLE,Int.reduceAdd,Int.reduceSub,Int.reduceMul,Int.reduceNeg,Nat.zero_add,Nat.add_zero,Nat.mul_one,Int.toNat_natCast,Int.natCast_zero,Int.cast_ofNat_Int,or_false,false_or,or_true,true_or,Int.reduceToNat,Nat.sub_zero,Int.natCast_nonneg,Int.toNat_zero,Bool.true_and,Bool.and_true,Bool.false_and,Bool.and_false,Bool.true_or,Bool.or_true,Bool.false_or,Bool.or_false,Bool.not_true,Bool.not_false,Bool.not_not,true_and,and_true,false_and,and_false,not_true_eq_false,not_false_eq_true,eq_self,decide_true,decide_false,ne_eq,implies_true,forall_const,true_implies,false_implies,Bool.true_eq_false,Bool.false_eq_true,reduceCtorEq,List.map_cons,List.map_nil,List.all_cons,List.all_nil,List.length_cons,List.length_nil,List.length_map,List.length_append,List.nil_append,List.cons_append,List.set_cons_zero,List.set_cons_succ,List.set_nil,List.drop_zero,List.drop_succ_cons,List.drop_nil,List.take_zero,List.take_succ_cons,List.take_nil,Option.map_some,Option.map_none,Option.isSome_some,Nat.reduceEqDiff,Nat.reduceBEq,Nat.reduceGT,List.all_append,List.all_map,Function.comp_def,decide_eq_true_eq,Bool.and_eq_true,beq_self_eq_true,or_self,and_self,ite_true,ite_false,Nat.le_refl,Bool.not_eq_true,decide_not,Bool.not_eq_true',decide_eq_false_iff_not,Bool.not_eq_false,Bool.or_eq_true,if_true,if_false,ite_self,u_roF,u_cvF,u_cvC,u_ceT,u_ceK,u_appS,la_it,la_len,la_sure,la_ltA,la_lt1,la_all1,la_ro,la_take,la_cl,la_tm,la_r,la_sl,rc_len,rc_sure,rc_ltA,rc_lt1,rc_all1,rc_ro,rc_take,rc_sl,la_set,rc_set,zcL_eq,zcR_eq,la_allA,la_len7,all_tt,natInt,u_nthM,hI,hr]
  try exact hr
 |true =>
  rw [hi] at hI
  have hr := bytes_r3 m f b (encB f) hm hf h hb (by rw [hi];rfl)
  have hN := rencode_s m f (by omega) hi h
  have hE := encode_s m f (by omega) (by omega) h
  rw [hi,if_pos rfl] at hE
  have hbl : (encB f).length ≤ 100000 := by
   have h8 := isL_len hi
   have h1 := flat_len f fun x hx=>⟨((isL_iff.1 hi).1 x hx).1,h x hx⟩
   have h2 := put_len f.length (by omega)
   unfold encB
   rw [List.length_append]
   omega
  have hD := decode_s m (encB f) (by omega) (by omega)
  rw [dec_enc hi h] at hD
  have hS := same_s m f f (by omega) (by omega)
  rw [lL_def] at hN hE hD hS
  simp (config := {maxSteps := 4000000,implicitDefEqProofs := false}) (disch := omega) only [go_sem,↓reduceIte,Nat.reduceAdd,Nat.reduceSub,Nat.reduceMul,Nat.reduceLeDiff,Nat.reduceLT,Int.reduceEq,Int.reduceNe,Int.reduceLT,Int.reduceLE,Int.reduceAdd,Int.reduceSub,Int.reduceMul,Int.reduceNeg,Nat.zero_add,Nat.add_zero,Nat.mul_one,Int.toNat_natCast,Int.natCast_zero,Int.cast_ofNat_Int,or_false,false_or,or_true,true_or,Int.reduceToNat,Nat.sub_zero,Int.natCast_nonneg,Int.toNat_zero,Bool.true_and,Bool.and_true,Bool.false_and,Bool.and_false,Bool.true_or,Bool.or_true,Bool.false_or,Bool.or_false,Bool.not_true,Bool.not_false,Bool.not_not,true_and,and_true,false_and,and_false,not_true_eq_false,not_false_eq_true,eq_self,decide_true,decide_false,ne_eq,implies_true,forall_const,true_implies,false_implies,Bool.true_eq_false,Bool.false_eq_true,reduceCtorEq,List.map_cons,List.map_nil,List.all_cons,List.all_nil,List.length_cons,List.length_nil,List.length_map,List.length_append,List.nil_append,List.cons_append,List.set_cons_zero,List.set_cons_succ,List.set_nil,List.drop_zero,List.drop_succ_cons,List.drop_nil,List.take_zero,List.take_succ_cons,List.take_nil,Option.map_some,Option.map_none,Option.isSome_some,Nat.reduceEqDiff,Nat.reduceBEq,Nat.reduceGT,List.all_append,List.all_map,Function.comp_def,decide_eq_true_eq,Bool.and_eq_true,beq_self_eq_true,or_self,and_self,ite_true,ite_false,Nat.le_refl,Bool.not_eq_true,decide_not,Bool.not_eq_true',decide_eq_false_iff_not,Bool.not_eq_false,Bool.or_eq_true,if_true,if_false,ite_self,u_roF,u_cvF,u_cvC,u_ceT,u_ceK,u_appS,la_it,la_len,la_sure,la_ltA,la_lt1,la_all1,la_ro,la_take,la_cl,la_tm,la_r,la_sl,rc_len,rc_sure,rc_ltA,rc_lt1,rc_all1,rc_ro,rc_take,rc_sl,la_set,rc_set,zcL_eq,zcR_eq,la_allA,la_len7,all_tt,natInt,u_nthM,hI,hN,hE,hD,hS,plenumlaw26_RepliesBytes_r2_eq,hr]
  try exact hr
theorem bytes_s (m : Nat) (l : List La) (b : Bytes) (hm : 1000 < m) (hl : l.length ≤ maxLen) (hs : ∀ x ∈ l,x.r.s.length ≤ maxLen) (h : ∀ x ∈ fewL l,x.r.In) : plenumlaw26_RepliesBytes m (lL l) (SL (bC b)) = some (bA true,[]) := by
 rw [plenumlaw26_RepliesBytes_eq]
 have hF := few_s m l (by omega) hl hs
 have h9 : (fewL l).length ≤ 260 := by unfold fewL;rw [List.length_map,List.length_take];omega
 generalize fewL l = f at hF h h9
 rw [lL_def,lL_def] at hF
 rw [lL_def]
 by_cases hb : 3000 < b.length
 ·have hb' : (3000 : Int) < (b.length : Int) := by omega
  have hr := bytes_r1 m f (b.take 3000) hm h9 h (by rw [List.length_take];omega)
  have hc : cutE (bC b) 0 3000 = bC (b.take 3000) := by
   unfold cutE
   show ((bC b).take 3000).drop 0 = _
   rw [List.drop_zero,bC_take]
  simp (config := {maxSteps := 4000000,implicitDefEqProofs := false}) (disch := omega) only [go_sem,↓reduceIte,Nat.reduceAdd,Nat.reduceSub,Nat.reduceMul,Nat.reduceLeDiff,Nat.reduceLT,Int.reduceEq,Int.reduceNe,Int.reduceLT,Int.reduceLE,Int.reduceAdd,Int.reduceSub,Int.reduceMul,Int.reduceNeg,Nat.zero_add,Nat.add_zero,Nat.mul_one,Int.toNat_natCast,Int.natCast_zero,Int.cast_ofNat_Int,or_false,false_or,or_true,true_or,Int.reduceToNat,Nat.sub_zero,Int.natCast_nonneg,Int.toNat_zero,Bool.true_and,Bool.and_true,Bool.false_and,Bool.and_false,Bool.true_or,Bool.or_true,Bool.false_or,Bool.or_false,Bool.not_true,Bool.not_false,Bool.not_not,true_and,and_true,false_and,and_false,not_true_eq_false,not_false_eq_true,eq_self,decide_true,decide_false,ne_eq,implies_true,forall_const,true_implies,false_implies,Bool.true_eq_false,Bool.false_eq_true,reduceCtorEq,List.map_cons,List.map_nil,List.all_cons,List.all_nil,List.length_cons,List.length_nil,List.length_map,List.length_append,List.nil_append,List.cons_append,List.set_cons_zero,List.set_cons_succ,List.set_nil,List.drop_zero,List.drop_succ_cons,List.drop_nil,List.take_zero,List.take_succ_cons,List.take_nil,Option.map_some,Option.map_none,Option.isSome_some,Nat.reduceEqDiff,Nat.reduceBEq,Nat.reduceGT,List.all_append,List.all_map,Function.comp_def,decide_eq_true_eq,Bool.and_eq_true,beq_self_eq_true,or_self,and_self,ite_true,ite_false,Nat.le_refl,Bool.not_eq_true,decide_not,Bool.not_eq_true',decide_eq_false_iff_not,Bool.not_eq_false,Bool.or_eq_true,if_true,if_false,ite_self,u_roF,u_cvF,u_cvC,u_ceT,u_ceK,u_appS,la_it,la_len,la_sure,la_ltA,la_lt1,la_all1,la_ro,la_take,la_cl,la_tm,la_r,la_sl,rc_len,rc_sure,rc_ltA,rc_lt1,rc_all1,rc_ro,rc_take,rc_sl,la_set,rc_set,zcL_eq,zcR_eq,la_allA,la_len7,all_tt,natInt,u_nthM,hF,hb',bC_len,hc,bC_one',hr]
  rw [decide_eq_true (by omega),whenE_t]
 ·have hb' : ¬ (3000 : Int) < (b.length : Int) := by omega
  have hr := bytes_r1 m f b hm h9 h (by omega)
  simp (config := {maxSteps := 4000000,implicitDefEqProofs := false}) (disch := omega) only [go_sem,↓reduceIte,Nat.reduceAdd,Nat.reduceSub,Nat.reduceMul,Nat.reduceLeDiff,Nat.reduceLT,Int.reduceEq,Int.reduceNe,Int.reduceLT,Int.reduceLE,Int.reduceAdd,Int.reduceSub,Int.reduceMul,Int.reduceNeg,Nat.zero_add,Nat.add_zero,Nat.mul_one,Int.toNat_natCast,Int.natCast_zero,Int.cast_ofNat_Int,or_false,false_or,or_true,true_or,Int.reduceToNat,Nat.sub_zero,Int.natCast_nonneg,Int.toNat_zero,Bool.true_and,Bool.and_true,Bool.false_and,Bool.and_false,Bool.true_or,Bool.or_true,Bool.false_or,Bool.or_false,Bool.not_true,Bool.not_false,Bool.not_not,true_and,and_true,false_and,and_false,not_true_eq_false,not_false_eq_true,eq_self,decide_true,decide_false,ne_eq,implies_true,forall_const,true_implies,false_implies,Bool.true_eq_false,Bool.false_eq_true,reduceCtorEq,List.map_cons,List.map_nil,List.all_cons,List.all_nil,List.length_cons,List.length_nil,List.length_map,List.length_append,List.nil_append,List.cons_append,List.set_cons_zero,List.set_cons_succ,List.set_nil,List.drop_zero,List.drop_succ_cons,List.drop_nil,List.take_zero,List.take_succ_cons,List.take_nil,Option.map_some,Option.map_none,Option.isSome_some,Nat.reduceEqDiff,Nat.reduceBEq,Nat.reduceGT,List.all_append,List.all_map,Function.comp_def,decide_eq_true_eq,Bool.and_eq_true,beq_self_eq_true,or_self,and_self,ite_true,ite_false,Nat.le_refl,Bool.not_eq_true,decide_not,Bool.not_eq_true',decide_eq_false_iff_not,Bool.not_eq_false,Bool.or_eq_true,if_true,if_false,ite_self,u_roF,u_cvF,u_cvC,u_ceT,u_ceK,u_appS,la_it,la_len,la_sure,la_ltA,la_lt1,la_all1,la_ro,la_take,la_cl,la_tm,la_r,la_sl,rc_len,rc_sure,rc_ltA,rc_lt1,rc_all1,rc_ro,rc_take,rc_sl,la_set,rc_set,zcL_eq,zcR_eq,la_allA,la_len7,all_tt,natInt,u_nthM,hF,hb',bC_len,hr]
end Go.Proofs.Ytchncgdjefbmfaa

namespace Go.Proofs.Ytchncgdjefbmfaa
open Go.RowKit
theorem arg_by {W : World} {v : Value} (h : Arg Try.prog W 63 v) : ∃ l : List UInt8,l.length ≤ maxLen ∧ rep (SW W) [] (SL (bC l)) v := by
 obtain ⟨n,ds,h1,h2⟩ := h
 obtain ⟨m,es,rfl,hl,he⟩ := ofT_slice Try.underlying63 h1
 obtain ⟨l,rfl,_⟩ := list_of (f := fun b : UInt8=>V (cB b)) (Q := fun _=>True) fun x hx=>by
  obtain ⟨q1,q2⟩ := he x hx
  obtain ⟨i,hi,h3,h4⟩ := ofT_int Try.underlying5 q1
  have h3' : 0 ≤ i := h3
  have h4' : i ≤ 255 := h4
  refine ⟨UInt8.ofNat i.toNat,?_,trivial⟩
  have e := cells_lone (hi) (q2.trans (by kernel_rfl))
  rw [e]
  have : ((UInt8.ofNat i.toNat).toNat : Int) = i := by
   rw [UInt8.toNat_ofNat']
   omega
  unfold cB
  rw [this]
 rw [mk_lone (by kernel_rfl)] at h2
 exact ⟨l,by simpa using hl,h2⟩
theorem walk_RepliesBytes (W : World) (v0 : Value) (h0 : Arg Try.prog W 22 v0) (v1 : Value) (h1 : Arg Try.prog W 63 v1) :
  Calls Try.prog 7 #[v0,v1] W fun e W'=>e = .returned (.bool true) ∧ Below W.heap.size W W' := by
 obtain ⟨l,⟨hl,ht⟩,r0⟩ := arg_lasts h0
 obtain ⟨b,_,r1⟩ := arg_by h1
 exact run_tells (plenumlaw26_RepliesBytes_ok 16000001 [_,_] _ _ (bytes_s _ l b (by omega) hl (fun x hx=>(ht x hx).1) (few_in ht))) gok_nil (vs := [v0,v1]) rfl (reps2 r0 r1)
end Go.Proofs.Ytchncgdjefbmfaa

