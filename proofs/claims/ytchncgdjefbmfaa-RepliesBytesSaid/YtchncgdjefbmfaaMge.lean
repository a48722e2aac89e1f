/-
  Texts laid together, part 5 of 7: laws of a walk over data, contracts of functions, each whole by itself.
-/
import Derived.Test.YtchncgdjefbmfaaMgd
import Derived.KernelRfl
import Derived.Test.YtchncgdjefbmfaaMgc
import Derived.Test.YtchncgdjefbmfaaMga
import Derived.StillTail
set_option maxRecDepth 100000
set_option linter.unusedVariables false
set_option linter.unusedSimpArgs false
namespace Go.Proofs.Ytchncgdjefbmfaa
open Go.RowKit
def putL (l : List La) (p : Nat) (x : La) (b : Bool) : List La := match b with|true=>l.set p x|false=>l.take p ++ x :: l.drop p
def noteA (l : List La) (c t : Int) (r : Rs) : List La × Int := if (askA l c t).2 = 6 then (if rB r = true then (putL l (fndN l c) ⟨c,t,r⟩ (thereB l c),0) else ([],1)) else if (askA l c t).2 = 1 then ([],1) else if rB r = true then ([],18) else ([],1)
theorem old_s (m : Nat) (r : Rs) (h : r.In) : replies_old m (rA r) = some (nA (if rB r = true then 18 else 1),[]) := by
 have hE := enc_s m r h
 have hen := encR_len r
 rw [replies_old_eq,rA_def]
 cases hr : rB r with
 |false =>
  rw [hr] at hen
  have hen' : (encRes r.code r.kind r.i r.s r.ver).length = 0 := by rw [hen]
  simp (config := {maxSteps := 4000000,implicitDefEqProofs := false}) (disch := omega) only [go_sem,↓reduceIte,Nat.reduceAdd,Nat.reduceSub,Nat.reduceMul,Nat.reduceLeDiff,Nat.reduceLT,Int.reduceEq,Int.reduceNe,Int.reduceLT,Int.reduceLE,Int.reduceAdd,Int.reduceSub,Int.reduceMul,Int.reduceNeg,Nat.zero_add,Nat.add_zero,Nat.mul_one,Int.toNat_natCast,Int.natCast_zero,Int.cast_ofNat_Int,or_false,false_or,or_true,true_or,Int.reduceToNat,Nat.sub_zero,Int.natCast_nonneg,Int.toNat_zero,Bool.true_and,Bool.and_true,Bool.false_and,Bool.and_false,Bool.true_or,Bool.or_true,Bool.false_or,Bool.or_false,Bool.not_true,Bool.not_false,Bool.not_not,true_and,and_true,false_and,and_false,not_true_eq_false,not_false_eq_true,eq_self,decide_true,decide_false,ne_eq,implies_true,forall_const,true_implies,false_implies,Bool.true_eq_false,Bool.false_eq_true,reduceCtorEq,List.map_cons,List.map_nil,List.all_cons,List.all_nil,List.length_cons,List.length_nil,List.length_map,List.length_append,List.nil_append,List.cons_append,List.set_cons_zero,List.set_cons_succ,List.set_nil,List.drop_zero,List.drop_succ_cons,List.drop_nil,List.take_zero,List.take_succ_cons,List.take_nil,Option.map_some,Option.map_none,Option.isSome_some,Nat.reduceEqDiff,Nat.reduceBEq,Nat.reduceGT,List.all_append,List.all_map,Function.comp_def,decide_eq_true_eq,Bool.and_eq_true,beq_self_eq_true,or_self,and_self,ite_true,ite_false,Nat.le_refl,Bool.not_eq_true,decide_not,Bool.not_eq_true',decide_eq_false_iff_not,Bool.not_eq_false,Bool.or_eq_true,if_true,if_false,ite_self,u_roF,u_cvF,u_cvC,u_ceT,u_ceK,u_appS,la_it,la_len,la_sure,la_ltA,la_lt1,la_all1,la_ro,la_take,la_cl,la_tm,la_r,la_sl,rc_len,rc_sure,rc_ltA,rc_lt1,rc_all1,rc_ro,rc_take,rc_sl,la_set,rc_set,zcL_eq,zcR_eq,la_allA,la_len7,all_tt,natInt,u_nthM,hE,hen']
 |true =>
  rw [hr] at hen
  have hen' : ¬ ((encRes r.code r.kind r.i r.s r.ver).length : Int) = 0 := by
   intro q
   have q : (encRes r.code r.kind r.i r.s r.ver).length = 0 := by omega
   rw [hen] at q;cases q
  simp (config := {maxSteps := 4000000,implicitDefEqProofs := false}) (disch := omega) only [go_sem,↓reduceIte,Nat.reduceAdd,Nat.reduceSub,Nat.reduceMul,Nat.reduceLeDiff,Nat.reduceLT,Int.reduceEq,Int.reduceNe,Int.reduceLT,Int.reduceLE,Int.reduceAdd,Int.reduceSub,Int.reduceMul,Int.reduceNeg,Nat.zero_add,Nat.add_zero,Nat.mul_one,Int.toNat_natCast,Int.natCast_zero,Int.cast_ofNat_Int,or_false,false_or,or_true,true_or,Int.reduceToNat,Nat.sub_zero,Int.natCast_nonneg,Int.toNat_zero,Bool.true_and,Bool.and_true,Bool.false_and,Bool.and_false,Bool.true_or,Bool.or_true,Bool.false_or,Bool.or_false,Bool.not_true,Bool.not_false,Bool.not_not,true_and,and_true,false_and,and_false,not_true_eq_false,not_false_eq_true,eq_self,decide_true,decide_false,ne_eq,implies_true,forall_const,true_implies,false_implies,Bool.true_eq_false,Bool.false_eq_true,reduceCtorEq,List.map_cons,List.map_nil,List.all_cons,List.all_nil,List.length_cons,List.length_nil,List.length_map,List.length_append,List.nil_append,List.cons_append,List.set_cons_zero,List.set_cons_succ,List.set_nil,List.drop_zero,List.drop_succ_cons,List.drop_nil,List.take_zero,List.take_succ_cons,List.take_nil,Option.map_some,Option.map_none,Option.isSome_some,Nat.reduceEqDiff,Nat.reduceBEq,Nat.reduceGT,List.all_append,List.all_map,Function.comp_def,decide_eq_true_eq,Bool.and_eq_true,beq_self_eq_true,or_self,and_self,ite_true,ite_false,Nat.le_refl,Bool.not_eq_true,decide_not,Bool.not_eq_true',decide_eq_false_iff_not,Bool.not_eq_false,Bool.or_eq_true,if_true,if_false,ite_self,u_roF,u_cvF,u_cvC,u_ceT,u_ceK,u_appS,la_it,la_len,la_sure,la_ltA,la_lt1,la_all1,la_ro,la_take,la_cl,la_tm,la_r,la_sl,rc_len,rc_sure,rc_ltA,rc_lt1,rc_all1,rc_ro,rc_take,rc_sl,la_set,rc_set,zcL_eq,zcR_eq,la_allA,la_len7,all_tt,natInt,u_nthM,hE,hen']
theorem fz_two {H : List AObj} {i n : Nat} {e : TypeId} {z : Nat} {es : List AV} {k : Int} (h : H[i]? = some ⟨4,e,z,es⟩) (hn : n = es.length) (hl : es.all (ltA 0) = true) : fzV H (TU [PR i n,nA k]) = TU [SL es,nA k] := by
 subst hn
 simp [fzV,fzA,fz1,fzO,h,hl]
theorem lt_PR {i n : Nat} : ltA 0 (PR i n) = false := _root_.id rfl
theorem all_laE {l : List La} {n : Nat} : (l.map laE).all (ltA n) = true := by rw [List.all_map];exact List.all_eq_true.2 fun _ _=>rfl
theorem allC_laE {l : List La} : allCE 7 (l.map laE) = true := by unfold allCE;rw [List.all_map];exact la_len7
theorem note_s (m : Nat) (l : List La) (c t : Int) (r : Rs) (hm : 300 < m) (hlm : l.length < m) (hl : l.length ≤ 34359738367) (h : ∀ x ∈ l,x.r.In) (hr : r.In) : replies_Note m (lL l) (nA c) (nA t) (rA r) = some (TU [lL (noteA l c t r).1,nA (noteA l c t r).2],[]) := by
 have hA := ask_s m l c t hm hlm hl h
 have hO := old_s m r hr
 have hE := enc_s m r hr
 have hen := encR_len r
 rw [lL_def,rA_def] at hA
 rw [rA_def] at hO
 rw [replies_Note_eq,lL_def,rA_def]
 unfold noteA
 have hAA : (askA l c t).2 = 6 → isL l = true := fun e=>by
  unfold askA at e
  split at e
  ·rename_i q;exact q.1
  ·simp at e
 generalize askA l c t = A at hA hAA ⊢
 obtain ⟨q,e⟩ := A
 dsimp only at hA hAA ⊢
 by_cases he : e = 6
 ·cases hb : rB r with
  |false =>
   rw [hb] at hen
   have hen' : (encRes r.code r.kind r.i r.s r.ver).length = 0 := by rw [hen]
   rw [lL_def]
   simp (config := {maxSteps := 4000000,implicitDefEqProofs := false}) (disch := omega) only [go_sem,↓reduceIte,Nat.reduceAdd,Nat.reduceSub,Nat.reduceMul,Nat.reduceLeDiff,Nat.reduceLT,Int.reduceEq,Int.reduceNe,Int.reduceLT,Int.reduceLE,Int.reduceAdd,Int.reduceSub,Int.reduceMul,Int.reduceNeg,Nat.zero_add,Nat.add_zero,Nat.mul_one,Int.toNat_natCast,Int.natCast_zero,Int.cast_ofNat_Int,or_false,false_or,or_true,true_or,Int.reduceToNat,Nat.sub_zero,Int.natCast_nonneg,Int.toNat_zero,Bool.true_and,Bool.and_true,Bool.false_and,Bool.and_false,Bool.true_or,Bool.or_true,Bool.false_or,Bool.or_false,Bool.not_true,Bool.not_false,Bool.not_not,true_and,and_true,false_and,and_false,not_true_eq_false,not_false_eq_true,eq_self,decide_true,decide_false,ne_eq,implies_true,forall_const,true_implies,false_implies,Bool.true_eq_false,Bool.false_eq_true,reduceCtorEq,List.map_cons,List.map_nil,List.all_cons,List.all_nil,List.length_cons,List.length_nil,List.length_map,List.length_append,List.nil_append,List.cons_append,List.set_cons_zero,List.set_cons_succ,List.set_nil,List.drop_zero,List.drop_succ_cons,List.drop_nil,List.take_zero,List.take_succ_cons,List.take_nil,Option.map_some,Option.map_none,Option.isSome_some,Nat.reduceEqDiff,Nat.reduceBEq,Nat.reduceGT,List.all_append,List.all_map,Function.comp_def,decide_eq_true_eq,Bool.and_eq_true,beq_self_eq_true,or_self,and_self,ite_true,ite_false,Nat.le_refl,Bool.not_eq_true,decide_not,Bool.not_eq_true',decide_eq_false_iff_not,Bool.not_eq_false,Bool.or_eq_true,if_true,if_false,ite_self,u_roF,u_cvF,u_cvC,u_ceT,u_ceK,u_appS,la_it,la_len,la_sure,la_ltA,la_lt1,la_all1,la_ro,la_take,la_cl,la_tm,la_r,la_sl,rc_len,rc_sure,rc_ltA,rc_lt1,rc_all1,rc_ro,rc_take,rc_sl,la_set,rc_set,zcL_eq,zcR_eq,la_allA,la_len7,all_tt,natInt,u_nthM,hA,he,hE,hen']
  |true =>
   rw [hb] at hen
   have hen' : ¬ ((encRes r.code r.kind r.i r.s r.ver).length : Int) = 0 := by
    intro q
    have q : (encRes r.code r.kind r.i r.s r.ver).length = 0 := by omega
    rw [hen] at q;cases q
   have hi := hAA he
   have h8 := isL_len hi
   have hF := find_s m l c hm h8 (isL_inc hi)
   have hfl := fndN_le l c
   rw [lL_def] at hF
   have hth : thereB l c = true → fndN l c < l.length := fun q=>by
    unfold thereB at q
    rcases Nat.lt_or_ge (fndN l c) l.length with w|w
    ·exact w
    ·rw [List.getElem?_eq_none w] at q;cases q
   generalize fndN l c = p at hF hfl hth ⊢
   have hC : ∀ n,slices_Clone_Last_t m [SL (l.map laE)] n = some (PR n (l.map laE).length,[⟨4,ty_api_Last,7,l.map laE⟩]) := fun n=>slices_Clone_Last_e m n (l.map laE) allC_laE (by rw [List.length_map];omega)
   cases hb2 : thereB l c with
   |true =>
    rw [hb2] at hF
    have hp := hth hb2
    have hp' : (p : Int) < (l.length : Int) := by omega
    rw [lL_def]
    have hm7 : p * 7 % 7 = 0 := Nat.mul_mod_left p 7
    have hd7 : p * 7 / 7 = p := Nat.mul_div_cancel p (by omega)
    have hz : ∀ X Y W,fzV [X,Y,⟨4,ty_api_Last,7,(l.map laE).set p (.agg (laC ⟨c,t,r⟩))⟩,W] (TU [PR 2 l.length,nA 0]) = TU [SL ((l.set p ⟨c,t,r⟩).map laE),nA 0] := fun X Y W=>by
     have e : (l.map laE).set p (.agg (laC ⟨c,t,r⟩)) = (l.set p ⟨c,t,r⟩).map laE := by rw [List.map_set];rfl
     rw [e]
     exact fz_two rfl (by simp) all_laE
    simp (config := {maxSteps := 4000000,implicitDefEqProofs := false}) (disch := omega) only [go_sem,↓reduceIte,Nat.reduceAdd,Nat.reduceSub,Nat.reduceMul,Nat.reduceLeDiff,Nat.reduceLT,Int.reduceEq,Int.reduceNe,Int.reduceLT,Int.reduceLE,Int.reduceAdd,Int.reduceSub,Int.reduceMul,Int.reduceNeg,Nat.zero_add,Nat.add_zero,Nat.mul_one,Int.toNat_natCast,Int.natCast_zero,Int.cast_ofNat_Int,or_false,false_or,or_true,true_or,Int.reduceToNat,Nat.sub_zero,Int.natCast_nonneg,Int.toNat_zero,Bool.true_and,Bool.and_true,Bool.false_and,Bool.and_false,Bool.true_or,Bool.or_true,Bool.false_or,Bool.or_false,Bool.not_true,Bool.not_false,Bool.not_not,true_and,and_true,false_and,and_false,not_true_eq_false,not_false_eq_true,eq_self,decide_true,decide_false,ne_eq,implies_true,forall_const,true_implies,false_implies,Bool.true_eq_false,Bool.false_eq_true,reduceCtorEq,List.map_cons,List.map_nil,List.all_cons,List.all_nil,List.length_cons,List.length_nil,List.length_map,List.length_append,List.nil_append,List.cons_append,List.set_cons_zero,List.set_cons_succ,List.set_nil,List.drop_zero,List.drop_succ_cons,List.drop_nil,List.take_zero,List.take_succ_cons,List.take_nil,Option.map_some,Option.map_none,Option.isSome_some,Nat.reduceEqDiff,Nat.reduceBEq,Nat.reduceGT,List.all_append,List.all_map,Function.comp_def,decide_eq_true_eq,Bool.and_eq_true,beq_self_eq_true,or_self,and_self,ite_true,ite_false,Nat.le_refl,Bool.not_eq_true,decide_not,Bool.not_eq_true',decide_eq_false_iff_not,Bool.not_eq_false,Bool.or_eq_true,if_true,if_false,ite_self,u_roF,u_cvF,u_cvC,u_ceT,u_ceK,u_appS,la_it,la_len,la_sure,la_ltA,la_lt1,la_all1,la_ro,la_take,la_cl,la_tm,la_r,la_sl,rc_len,rc_sure,rc_ltA,rc_lt1,rc_all1,rc_ro,rc_take,rc_sl,la_set,rc_set,zcL_eq,zcR_eq,la_allA,la_len7,all_tt,natInt,u_nthM,hA,he,hE,hen',hF,hC,u_addS,la_bL,hp,hp',hm7,hd7,lt_PR,u_tellZ,hz,putL]
   |false =>
    rw [hb2] at hF
    have hIn : ∀ X Y W,slices_Insert_Last_t m [PR 2 l.length,nA (p : Int),SL [.agg (laC ⟨c,t,r⟩)]] [X,Y,⟨4,ty_api_Last,7,l.map laE⟩,W] = some (SL ((l.take p ++ ⟨c,t,r⟩ :: l.drop p).map laE),[X,Y,⟨0,ty_api_Last,7,[]⟩,W]) := fun X Y W=>by
     have := slices_Insert_Last_e m (i := 2) (H := [X,Y,⟨4,ty_api_Last,7,l.map laE⟩,W]) (x := .agg (laC ⟨c,t,r⟩)) rfl (by rw [List.length_map];exact hfl) (by rw [List.length_map];omega) all_laE rfl
     rw [List.length_map] at this
     refine this.trans ?_
     rw [List.map_append,List.map_take,List.map_cons,List.map_drop]
     rfl
    rw [lL_def]
    simp (config := {maxSteps := 4000000,implicitDefEqProofs := false}) (disch := omega) only [go_sem,↓reduceIte,Nat.reduceAdd,Nat.reduceSub,Nat.reduceMul,Nat.reduceLeDiff,Nat.reduceLT,Int.reduceEq,Int.reduceNe,Int.reduceLT,Int.reduceLE,Int.reduceAdd,Int.reduceSub,Int.reduceMul,Int.reduceNeg,Nat.zero_add,Nat.add_zero,Nat.mul_one,Int.toNat_natCast,Int.natCast_zero,Int.cast_ofNat_Int,or_false,false_or,or_true,true_or,Int.reduceToNat,Nat.sub_zero,Int.natCast_nonneg,Int.toNat_zero,Bool.true_and,Bool.and_true,Bool.false_and,Bool.and_false,Bool.true_or,Bool.or_true,Bool.false_or,Bool.or_false,Bool.not_true,Bool.not_false,Bool.not_not,true_and,and_true,false_and,and_false,not_true_eq_false,not_false_eq_true,eq_self,decide_true,decide_false,ne_eq,implies_true,forall_const,true_implies,false_implies,Bool.true_eq_false,Bool.false_eq_true,reduceCtorEq,List.map_cons,List.map_nil,List.all_cons,List.all_nil,List.length_cons,List.length_nil,List.length_map,List.length_append,List.nil_append,List.cons_append,List.set_cons_zero,List.set_cons_succ,List.set_nil,List.drop_zero,List.drop_succ_cons,List.drop_nil,List.take_zero,List.take_succ_cons,List.take_nil,Option.map_some,Option.map_none,Option.isSome_some,Nat.reduceEqDiff,Nat.reduceBEq,Nat.reduceGT,List.all_append,List.all_map,Function.comp_def,decide_eq_true_eq,Bool.and_eq_true,beq_self_eq_true,or_self,and_self,ite_true,ite_false,Nat.le_refl,Bool.not_eq_true,decide_not,Bool.not_eq_true',decide_eq_false_iff_not,Bool.not_eq_false,Bool.or_eq_true,if_true,if_false,ite_self,u_roF,u_cvF,u_cvC,u_ceT,u_ceK,u_appS,la_it,la_len,la_sure,la_ltA,la_lt1,la_all1,la_ro,la_take,la_cl,la_tm,la_r,la_sl,rc_len,rc_sure,rc_ltA,rc_lt1,rc_all1,rc_ro,rc_take,rc_sl,la_set,rc_set,zcL_eq,zcR_eq,la_allA,la_len7,all_tt,natInt,u_nthM,hA,he,hE,hen',hF,hC,u_addS,la_bL,hIn,putL]
 ·by_cases h1 : e = 1
  ·rw [lL_def]
   simp (config := {maxSteps := 4000000,implicitDefEqProofs := false}) (disch := omega) only [go_sem,↓reduceIte,Nat.reduceAdd,Nat.reduceSub,Nat.reduceMul,Nat.reduceLeDiff,Nat.reduceLT,Int.reduceEq,Int.reduceNe,Int.reduceLT,Int.reduceLE,Int.reduceAdd,Int.reduceSub,Int.reduceMul,Int.reduceNeg,Nat.zero_add,Nat.add_zero,Nat.mul_one,Int.toNat_natCast,Int.natCast_zero,Int.cast_ofNat_Int,or_false,false_or,or_true,true_or,Int.reduceToNat,Nat.sub_zero,Int.natCast_nonneg,Int.toNat_zero,Bool.true_and,Bool.and_true,Bool.false_and,Bool.and_false,Bool.true_or,Bool.or_true,Bool.false_or,Bool.or_false,Bool.not_true,Bool.not_false,Bool.not_not,true_and,and_true,false_and,and_false,not_true_eq_false,not_false_eq_true,eq_self,decide_true,decide_false,ne_eq,implies_true,forall_const,true_implies,false_implies,Bool.true_eq_false,Bool.false_eq_true,reduceCtorEq,List.map_cons,List.map_nil,List.all_cons,List.all_nil,List.length_cons,List.length_nil,List.length_map,List.length_append,List.nil_append,List.cons_append,List.set_cons_zero,List.set_cons_succ,List.set_nil,List.drop_zero,List.drop_succ_cons,List.drop_nil,List.take_zero,List.take_succ_cons,List.take_nil,Option.map_some,Option.map_none,Option.isSome_some,Nat.reduceEqDiff,Nat.reduceBEq,Nat.reduceGT,List.all_append,List.all_map,Function.comp_def,decide_eq_true_eq,Bool.and_eq_true,beq_self_eq_true,or_self,and_self,ite_true,ite_false,Nat.le_refl,Bool.not_eq_true,decide_not,Bool.not_eq_true',decide_eq_false_iff_not,Bool.not_eq_false,Bool.or_eq_true,if_true,if_false,ite_self,u_roF,u_cvF,u_cvC,u_ceT,u_ceK,u_appS,la_it,la_len,la_sure,la_ltA,la_lt1,la_all1,la_ro,la_take,la_cl,la_tm,la_r,la_sl,rc_len,rc_sure,rc_ltA,rc_lt1,rc_all1,rc_ro,rc_take,rc_sl,la_set,rc_set,zcL_eq,zcR_eq,la_allA,la_len7,all_tt,natInt,u_nthM,hA,he,h1]
  ·rw [lL_def]
   cases hb : rB r with
   |false =>
    rw [hb] at hO
    simp (config := {maxSteps := 4000000,implicitDefEqProofs := false}) (disch := omega) only [go_sem,↓reduceIte,Nat.reduceAdd,Nat.reduceSub,Nat.reduceMul,Nat.reduceLeDiff,Nat.reduceLT,Int.reduceEq,Int.reduceNe,Int.reduceLT,Int.reduceLE,Int.reduceAdd,Int.reduceSub,Int.reduceMul,Int.reduceNeg,Nat.zero_add,Nat.add_zero,Nat.mul_one,Int.toNat_natCast,Int.natCast_zero,Int.cast_ofNat_Int,or_false,false_or,or_true,true_or,Int.reduceToNat,Nat.sub_zero,Int.natCast_nonneg,Int.toNat_zero,Bool.true_and,Bool.and_true,Bool.false_and,Bool.and_false,Bool.true_or,Bool.or_true,Bool.false_or,Bool.or_false,Bool.not_true,Bool.not_false,Bool.not_not,true_and,and_true,false_and,and_false,not_true_eq_false,not_false_eq_true,eq_self,decide_true,decide_false,ne_eq,implies_true,forall_const,true_implies,false_implies,Bool.true_eq_false,Bool.false_eq_true,reduceCtorEq,List.map_cons,List.map_nil,List.all_cons,List.all_nil,List.length_cons,List.length_nil,List.length_map,List.length_append,List.nil_append,List.cons_append,List.set_cons_zero,List.set_cons_succ,List.set_nil,List.drop_zero,List.drop_succ_cons,List.drop_nil,List.take_zero,List.take_succ_cons,List.take_nil,Option.map_some,Option.map_none,Option.isSome_some,Nat.reduceEqDiff,Nat.reduceBEq,Nat.reduceGT,List.all_append,List.all_map,Function.comp_def,decide_eq_true_eq,Bool.and_eq_true,beq_self_eq_true,or_self,and_self,ite_true,ite_false,Nat.le_refl,Bool.not_eq_true,decide_not,Bool.not_eq_true',decide_eq_false_iff_not,Bool.not_eq_false,Bool.or_eq_true,if_true,if_false,ite_self,u_roF,u_cvF,u_cvC,u_ceT,u_ceK,u_appS,la_it,la_len,la_sure,la_ltA,la_lt1,la_all1,la_ro,la_take,la_cl,la_tm,la_r,la_sl,rc_len,rc_sure,rc_ltA,rc_lt1,rc_all1,rc_ro,rc_take,rc_sl,la_set,rc_set,zcL_eq,zcR_eq,la_allA,la_len7,all_tt,natInt,u_nthM,hA,he,h1,hO]
   |true =>
    rw [hb] at hO
    simp (config := {maxSteps := 4000000,implicitDefEqProofs := false}) (disch := omega) only [go_sem,↓reduceIte,Nat.reduceAdd,Nat.reduceSub,Nat.reduceMul,Nat.reduceLeDiff,Nat.reduceLT,Int.reduceEq,Int.reduceNe,Int.reduceLT,Int.reduceLE,Int.reduceAdd,Int.reduceSub,Int.reduceMul,Int.reduceNeg,Nat.zero_add,Nat.add_zero,Nat.mul_one,Int.toNat_natCast,Int.natCast_zero,Int.cast_ofNat_Int,or_false,false_or,or_true,true_or,Int.reduceToNat,Nat.sub_zero,Int.natCast_nonneg,Int.toNat_zero,Bool.true_and,Bool.and_true,Bool.false_and,Bool.and_false,Bool.true_or,Bool.or_true,Bool.false_or,Bool.or_false,Bool.not_true,Bool.not_false,Bool.not_not,true_and,and_true,false_and,and_false,not_true_eq_false,not_false_eq_true,eq_self,decide_true,decide_false,ne_eq,implies_true,forall_const,true_implies,false_implies,Bool.true_eq_false,Bool.false_eq_true,reduceCtorEq,List.map_cons,List.map_nil,List.all_cons,List.all_nil,List.length_cons,List.length_nil,List.length_map,List.length_append,List.nil_append,List.cons_append,List.set_cons_zero,List.set_cons_succ,List.set_nil,List.drop_zero,List.drop_succ_cons,List.drop_nil,List.take_zero,List.take_succ_cons,List.take_nil,Option.map_some,Option.map_none,Option.isSome_some,Nat.reduceEqDiff,Nat.reduceBEq,Nat.reduceGT,List.all_append,List.all_map,Function.comp_def,decide_eq_true_eq,Bool.and_eq_true,beq_self_eq_true,or_self,and_self,ite_true,ite_false,Nat.le_refl,Bool.not_eq_true,decide_not,Bool.not_eq_true',decide_eq_false_iff_not,Bool.not_eq_false,Bool.or_eq_true,if_true,if_false,ite_self,u_roF,u_cvF,u_cvC,u_ceT,u_ceK,u_appS,la_it,la_len,la_sure,la_ltA,la_lt1,la_all1,la_ro,la_take,la_cl,la_tm,la_r,la_sl,rc_len,rc_sure,rc_ltA,rc_lt1,rc_all1,rc_ro,rc_take,rc_sl,la_set,rc_set,zcL_eq,zcR_eq,la_allA,la_len7,all_tt,natInt,u_nthM,hA,he,h1,hO]
end Go.Proofs.Ytchncgdjefbmfaa

namespace Go.Proofs.Ytchncgdjefbmfaa
open Go.RowKit
def loL (l : List La) (c : Int) : List La := l.filter fun x=>decide (x.cl < c)
def hiL (l : List La) (c : Int) : List La := l.filter fun x=>decide (c < x.cl)
theorem filter_all' {α : Type} {l : List α} {p : α → Bool} (h : ∀ x ∈ l,p x = true) : l.filter p = l := List.filter_eq_self.2 h
theorem filter_none' {α : Type} {l : List α} {p : α → Bool} (h : ∀ x ∈ l,p x = false) : l.filter p = [] := by
 rw [List.filter_eq_nil_iff]
 intro x hx
 rw [h x hx];simp
theorem putL_eq {l : List La} (hi : isL l = true) (c : Int) (x : La) : putL l (fndN l c) x (thereB l c) = loL l c ++ x :: hiL l c := by
 have hinc := isL_inc hi
 have hfl := fndN_le l c
 have h1 : ∀ y ∈ l.take (fndN l c),y.cl < c := by
  intro y hy
  obtain ⟨i,hi,rfl⟩ := List.getElem_of_mem hy
  rw [List.length_take] at hi
  rw [List.getElem_take]
  exact fnd_lo (by omega) (by omega)
 have h2 : ∀ y ∈ l.drop (fndN l c),c ≤ y.cl := by
  intro y hy
  obtain ⟨i,hi,rfl⟩ := List.getElem_of_mem hy
  rw [List.length_drop] at hi
  rw [List.getElem_drop]
  have h3 := fnd_hi (l := l) (q := c) (by omega)
  rcases Nat.eq_zero_or_pos i with e|e
  ·subst e;exact h3
  ·have := hinc (fndN l c) (fndN l c + i) (by omega) (by omega);omega
 have hlo : loL l c = l.take (fndN l c) := by
  unfold loL
  conv=>lhs;rw [← List.take_append_drop (fndN l c) l,List.filter_append]
  rw [filter_all' (fun y hy=>by simpa using h1 y hy),filter_none' (fun y hy=>by have := h2 y hy;simp;omega),List.append_nil]
 have hhi : hiL l c = hiL (l.drop (fndN l c)) c := by
  unfold hiL
  conv=>lhs;rw [← List.take_append_drop (fndN l c) l,List.filter_append]
  rw [filter_none' (l := l.take (fndN l c)) (fun y hy=>by have := h1 y hy;simp;omega),List.nil_append]
 rw [hlo,hhi]
 unfold thereB
 rcases Nat.lt_or_ge (fndN l c) l.length with hp|hp
 ·rw [List.getElem?_eq_getElem hp]
  dsimp only
  by_cases he : l[fndN l c].cl = c
  ·rw [decide_eq_true he]
   show l.set (fndN l c) x = _
   rw [List.set_eq_take_append_cons_drop,if_pos hp,List.drop_eq_getElem_cons hp]
   unfold hiL
   rw [List.filter_cons,if_neg (by simp;omega),filter_all']
   intro y hy
   obtain ⟨i,hi,rfl⟩ := List.getElem_of_mem hy
   rw [List.length_drop] at hi
   rw [List.getElem_drop]
   have := hinc (fndN l c) (fndN l c + 1 + i) (by omega) (by omega)
   simp;omega
  ·rw [decide_eq_false he]
   show l.take (fndN l c) ++ x :: l.drop (fndN l c) = _
   unfold hiL
   rw [filter_all']
   intro y hy
   obtain ⟨i,hi,rfl⟩ := List.getElem_of_mem hy
   rw [List.length_drop] at hi
   rw [List.getElem_drop]
   have h3 := fnd_hi hp
   rcases Nat.eq_zero_or_pos i with e|e
   ·subst e;simp only [Nat.add_zero];simp;omega
   ·have := hinc (fndN l c) (fndN l c + i) (by omega) (by omega)
    simp;omega
 ·rw [List.getElem?_eq_none hp]
  show l.take (fndN l c) ++ x :: l.drop (fndN l c) = _
  rw [List.drop_of_length_le hp]
  rfl
theorem sameLa (x y : La) : sameKs [.int .i64 x.cl, .int .i64 x.tm, .int .i64 x.r.code, .int .i64 x.r.kind, .int .i64 x.r.i, .string ⟨x.r.s.toArray⟩, .int .i64 x.r.ver] [.int .i64 y.cl, .int .i64 y.tm, .int .i64 y.r.code, .int .i64 y.r.kind, .int .i64 y.r.i, .string ⟨y.r.s.toArray⟩, .int .i64 y.r.ver] = decide (x = y) := by
 obtain ⟨a1,a2,a3,a4,a5,a6,a7⟩ := x
 obtain ⟨b1,b2,b3,b4,b5,b6,b7⟩ := y
 rw [Bool.eq_iff_iff]
 show (decide (a1 = b1) && (decide (a2 = b2) && (decide (a3 = b3) && (decide (a4 = b4) && (decide (a5 = b5) && (decide (a6 = b6) && (decide (a7 = b7) && true))))))) = true ↔ _
 simp
section
variable {R : Type} {isB sl : Bool} {x y : La} {K1 : AV → Option R}
theorem u_neLa : binE (some [.i .i64, .i .i64, .i .i64, .i .i64, .i .i64, .s, .i .i64]) isB sl .neq (.agg (laC x)) (.agg (laC y)) K1 = K1 (bA (!decide (x = y))) := by
 rw [← sameLa];rfl
end
theorem same_s (m : Nat) (a b : List La) (hm : a.length < m) (hl : a.length ≤ 34359738367) : plenumref26_Same m (lL a) (lL b) = some (bA (decide (a = b)),[]) := by
 rw [plenumref26_Same_eq,lL_def,lL_def]
 by_cases hlen : a.length = b.length
 ·have hlen' : (a.length : Int) = (b.length : Int) := by omega
  simp (config := {maxSteps := 4000000,implicitDefEqProofs := false}) (disch := omega) only [go_sem,↓reduceIte,Nat.reduceAdd,Nat.reduceSub,Nat.reduceMul,Nat.reduceLeDiff,Nat.reduceLT,Int.reduceEq,Int.reduceNe,Int.reduceLT,Int.reduceLE,Int.reduceAdd,Int.reduceSub,Int.reduceMul,Int.reduceNeg,Nat.zero_add,Nat.add_zero,Nat.mul_one,Int.toNat_natCast,Int.natCast_zero,Int.cast_ofNat_Int,or_false,false_or,or_true,true_or,Int.reduceToNat,Nat.sub_zero,Int.natCast_nonneg,Int.toNat_zero,Bool.true_and,Bool.and_true,Bool.false_and,Bool.and_false,Bool.true_or,Bool.or_true,Bool.false_or,Bool.or_false,Bool.not_true,Bool.not_false,Bool.not_not,true_and,and_true,false_and,and_false,not_true_eq_false,not_false_eq_true,eq_self,decide_true,decide_false,ne_eq,implies_true,forall_const,true_implies,false_implies,Bool.true_eq_false,Bool.false_eq_true,reduceCtorEq,List.map_cons,List.map_nil,List.all_cons,List.all_nil,List.length_cons,List.length_nil,List.length_map,List.length_append,List.nil_append,List.cons_append,List.set_cons_zero,List.set_cons_succ,List.set_nil,List.drop_zero,List.drop_succ_cons,List.drop_nil,List.take_zero,List.take_succ_cons,List.take_nil,Option.map_some,Option.map_none,Option.isSome_some,Nat.reduceEqDiff,Nat.reduceBEq,Nat.reduceGT,List.all_append,List.all_map,Function.comp_def,decide_eq_true_eq,Bool.and_eq_true,beq_self_eq_true,or_self,and_self,ite_true,ite_false,Nat.le_refl,Bool.not_eq_true,decide_not,Bool.not_eq_true',decide_eq_false_iff_not,Bool.not_eq_false,Bool.or_eq_true,if_true,if_false,ite_self,u_roF,u_cvF,u_cvC,u_ceT,u_ceK,u_appS,hlen,hlen']
  refine iter_go (ι := {k : Nat // k ≤ a.length ∧ a.take k = b.take k}) (fun k=>⟨[],[(0,SL (a.map laE)),(1,SL (b.map laE)),(5,nA k.1)]⟩) (fun k=>a.length - k.1) (fun _=>some (bA (decide (a = b)),[])) ?_ ⟨0,Nat.zero_le _,rfl⟩ (by dsimp only;omega)
  rintro kx hkx ⟨k,hk,hinv⟩ kc hkc
  dsimp only at hkc ⊢
  rw [plenumref26_Same_b1_eq]
  by_cases hlt : k < a.length
  ·have hltb : k < b.length := by omega
   have hlt' : (k : Int) < (a.length : Int) := by omega
   have hltb' : (k : Int) < (b.length : Int) := by omega
   by_cases hq : a[k] = b[k]
   ·have step := hkc ⟨k + 1,by omega,by rw [List.take_succ_eq_append_getElem hlt,List.take_succ_eq_append_getElem hltb,hinv,hq]⟩ (by dsimp only;omega)
    simp (config := {maxSteps := 4000000,implicitDefEqProofs := false}) (disch := omega) only [go_sem,↓reduceIte,Nat.reduceAdd,Nat.reduceSub,Nat.reduceMul,Nat.reduceLeDiff,Nat.reduceLT,Int.reduceEq,Int.reduceNe,Int.reduceLT,Int.reduceLE,Int.reduceAdd,Int.reduceSub,Int.reduceMul,Int.reduceNeg,Nat.zero_add,Nat.add_zero,Nat.mul_one,Int.toNat_natCast,Int.natCast_zero,Int.cast_ofNat_Int,or_false,false_or,or_true,true_or,Int.reduceToNat,Nat.sub_zero,Int.natCast_nonneg,Int.toNat_zero,Bool.true_and,Bool.and_true,Bool.false_and,Bool.and_false,Bool.true_or,Bool.or_true,Bool.false_or,Bool.or_false,Bool.not_true,Bool.not_false,Bool.not_not,true_and,and_true,false_and,and_false,not_true_eq_false,not_false_eq_true,eq_self,decide_true,decide_false,ne_eq,implies_true,forall_const,true_implies,false_implies,Bool.true_eq_false,Bool.false_eq_true,reduceCtorEq,List.map_cons,List.map_nil,List.all_cons,List.all_nil,List.length_cons,List.length_nil,List.length_map,List.length_append,List.nil_append,List.cons_append,List.set_cons_zero,List.set_cons_succ,List.set_nil,List.drop_zero,List.drop_succ_cons,List.drop_nil,List.take_zero,List.take_succ_cons,List.take_nil,Option.map_some,Option.map_none,Option.isSome_some,Nat.reduceEqDiff,Nat.reduceBEq,Nat.reduceGT,List.all_append,List.all_map,Function.comp_def,decide_eq_true_eq,Bool.and_eq_true,beq_self_eq_true,or_self,and_self,ite_true,ite_false,Nat.le_refl,Bool.not_eq_true,decide_not,Bool.not_eq_true',decide_eq_false_iff_not,Bool.not_eq_false,Bool.or_eq_true,if_true,if_false,ite_self,u_roF,u_cvF,u_cvC,u_ceT,u_ceK,u_appS,la_it,la_len,la_sure,la_ltA,la_lt1,la_all1,la_ro,la_take,la_cl,la_tm,la_r,la_sl,rc_len,rc_sure,rc_ltA,rc_lt1,rc_all1,rc_ro,rc_take,rc_sl,la_set,rc_set,zcL_eq,zcR_eq,la_allA,la_len7,all_tt,natInt,u_nthM,hlt',hltb',u_neLa,hq,w_i64]
    exact step
   ·have hne : a ≠ b := fun e=>hq (by subst e;rfl)
    simp (config := {maxSteps := 4000000,implicitDefEqProofs := false}) (disch := omega) only [go_sem,↓reduceIte,Nat.reduceAdd,Nat.reduceSub,Nat.reduceMul,Nat.reduceLeDiff,Nat.reduceLT,Int.reduceEq,Int.reduceNe,Int.reduceLT,Int.reduceLE,Int.reduceAdd,Int.reduceSub,Int.reduceMul,Int.reduceNeg,Nat.zero_add,Nat.add_zero,Nat.mul_one,Int.toNat_natCast,Int.natCast_zero,Int.cast_ofNat_Int,or_false,false_or,or_true,true_or,Int.reduceToNat,Nat.sub_zero,Int.natCast_nonneg,Int.toNat_zero,Bool.true_and,Bool.and_true,Bool.false_and,Bool.and_false,Bool.true_or,Bool.or_true,Bool.false_or,Bool.or_false,Bool.not_true,Bool.not_false,Bool.not_not,true_and,and_true,false_and,and_false,not_true_eq_false,not_false_eq_true,eq_self,decide_true,decide_false,ne_eq,implies_true,forall_const,true_implies,false_implies,Bool.true_eq_false,Bool.false_eq_true,reduceCtorEq,List.map_cons,List.map_nil,List.all_cons,List.all_nil,List.length_cons,List.length_nil,List.length_map,List.length_append,List.nil_append,List.cons_append,List.set_cons_zero,List.set_cons_succ,List.set_nil,List.drop_zero,List.drop_succ_cons,List.drop_nil,List.take_zero,List.take_succ_cons,List.take_nil,Option.map_some,Option.map_none,Option.isSome_some,Nat.reduceEqDiff,Nat.reduceBEq,Nat.reduceGT,List.all_append,List.all_map,Function.comp_def,decide_eq_true_eq,Bool.and_eq_true,beq_self_eq_true,or_self,and_self,ite_true,ite_false,Nat.le_refl,Bool.not_eq_true,decide_not,Bool.not_eq_true',decide_eq_false_iff_not,Bool.not_eq_false,Bool.or_eq_true,if_true,if_false,ite_self,u_roF,u_cvF,u_cvC,u_ceT,u_ceK,u_appS,la_it,la_len,la_sure,la_ltA,la_lt1,la_all1,la_ro,la_take,la_cl,la_tm,la_r,la_sl,rc_len,rc_sure,rc_ltA,rc_lt1,rc_all1,rc_ro,rc_take,rc_sl,la_set,rc_set,zcL_eq,zcR_eq,la_allA,la_len7,all_tt,natInt,u_nthM,hkx,hlt',hltb',u_neLa,hq,hne]
  ·have hlt' : ¬ (k : Int) < (b.length : Int) := by omega
   have hlt2 : ¬ (k : Int) < (a.length : Int) := by omega
   have he : a = b := by rw [← List.take_of_length_le (l := a) (i := k) (by omega),← List.take_of_length_le (l := b) (i := k) (by omega)];exact hinv
   simp (config := {maxSteps := 4000000,implicitDefEqProofs := false}) (disch := omega) only [go_sem,↓reduceIte,Nat.reduceAdd,Nat.reduceSub,Nat.reduceMul,Nat.reduceLeDiff,Nat.reduceLT,Int.reduceEq,Int.reduceNe,Int.reduceLT,Int.reduceLE,Int.reduceAdd,Int.reduceSub,Int.reduceMul,Int.reduceNeg,Nat.zero_add,Nat.add_zero,Nat.mul_one,Int.toNat_natCast,Int.natCast_zero,Int.cast_ofNat_Int,or_false,false_or,or_true,true_or,Int.reduceToNat,Nat.sub_zero,Int.natCast_nonneg,Int.toNat_zero,Bool.true_and,Bool.and_true,Bool.false_and,Bool.and_false,Bool.true_or,Bool.or_true,Bool.false_or,Bool.or_false,Bool.not_true,Bool.not_false,Bool.not_not,true_and,and_true,false_and,and_false,not_true_eq_false,not_false_eq_true,eq_self,decide_true,decide_false,ne_eq,implies_true,forall_const,true_implies,false_implies,Bool.true_eq_false,Bool.false_eq_true,reduceCtorEq,List.map_cons,List.map_nil,List.all_cons,List.all_nil,List.length_cons,List.length_nil,List.length_map,List.length_append,List.nil_append,List.cons_append,List.set_cons_zero,List.set_cons_succ,List.set_nil,List.drop_zero,List.drop_succ_cons,List.drop_nil,List.take_zero,List.take_succ_cons,List.take_nil,Option.map_some,Option.map_none,Option.isSome_some,Nat.reduceEqDiff,Nat.reduceBEq,Nat.reduceGT,List.all_append,List.all_map,Function.comp_def,decide_eq_true_eq,Bool.and_eq_true,beq_self_eq_true,or_self,and_self,ite_true,ite_false,Nat.le_refl,Bool.not_eq_true,decide_not,Bool.not_eq_true',decide_eq_false_iff_not,Bool.not_eq_false,Bool.or_eq_true,if_true,if_false,ite_self,u_roF,u_cvF,u_cvC,u_ceT,u_ceK,u_appS,hkx,hlt',hlt2,he,plenumref26_Same_r1_eq]
 ·have hlen' : ¬ (a.length : Int) = (b.length : Int) := by omega
  have hne : a ≠ b := fun e=>hlen (by rw [e])
  simp (config := {maxSteps := 4000000,implicitDefEqProofs := false}) (disch := omega) only [go_sem,↓reduceIte,Nat.reduceAdd,Nat.reduceSub,Nat.reduceMul,Nat.reduceLeDiff,Nat.reduceLT,Int.reduceEq,Int.reduceNe,Int.reduceLT,Int.reduceLE,Int.reduceAdd,Int.reduceSub,Int.reduceMul,Int.reduceNeg,Nat.zero_add,Nat.add_zero,Nat.mul_one,Int.toNat_natCast,Int.natCast_zero,Int.cast_ofNat_Int,or_false,false_or,or_true,true_or,Int.reduceToNat,Nat.sub_zero,Int.natCast_nonneg,Int.toNat_zero,Bool.true_and,Bool.and_true,Bool.false_and,Bool.and_false,Bool.true_or,Bool.or_true,Bool.false_or,Bool.or_false,Bool.not_true,Bool.not_false,Bool.not_not,true_and,and_true,false_and,and_false,not_true_eq_false,not_false_eq_true,eq_self,decide_true,decide_false,ne_eq,implies_true,forall_const,true_implies,false_implies,Bool.true_eq_false,Bool.false_eq_true,reduceCtorEq,List.map_cons,List.map_nil,List.all_cons,List.all_nil,List.length_cons,List.length_nil,List.length_map,List.length_append,List.nil_append,List.cons_append,List.set_cons_zero,List.set_cons_succ,List.set_nil,List.drop_zero,List.drop_succ_cons,List.drop_nil,List.take_zero,List.take_succ_cons,List.take_nil,Option.map_some,Option.map_none,Option.isSome_some,Nat.reduceEqDiff,Nat.reduceBEq,Nat.reduceGT,List.all_append,List.all_map,Function.comp_def,decide_eq_true_eq,Bool.and_eq_true,beq_self_eq_true,or_self,and_self,ite_true,ite_false,Nat.le_refl,Bool.not_eq_true,decide_not,Bool.not_eq_true',decide_eq_false_iff_not,Bool.not_eq_false,Bool.or_eq_true,if_true,if_false,ite_self,u_roF,u_cvF,u_cvC,u_ceT,u_ceK,u_appS,hlen,hlen',hne]
theorem la_set5 {x : La} {s : Bytes} : setCells (laC x) 5 [sA s] = laC { x with r := { x.r with s := s } } := _root_.id rfl
def fewN (x : La) : La := { x with r := { x.r with s := x.r.s.take 200 } }
def fewL (l : List La) : List La := (l.take 260).map fewN
theorem few_s (m : Nat) (l : List La) (hm : 260 < m) (hl : l.length ≤ maxLen) (hs : ∀ x ∈ l,x.r.s.length ≤ maxLen) : plenumlaw26_Few m (lL l) = some (lL (fewL l),[]) := by
 have main : ∀ a : List La,a.length ≤ 260 → (∀ x ∈ a,x.r.s.length ≤ maxLen) → plenumlaw26_Few_r1 m ⟨[],[(0,SL (a.map laE))]⟩ = some (SL ((a.map fewN).map laE),[]) := by
  intro a ha h
  rw [plenumlaw26_Few_r1_eq]
  simp (config := {maxSteps := 4000000,implicitDefEqProofs := false}) (disch := omega) only [go_sem,↓reduceIte,Nat.reduceAdd,Nat.reduceSub,Nat.reduceMul,Nat.reduceLeDiff,Nat.reduceLT,Int.reduceEq,Int.reduceNe,Int.reduceLT,Int.reduceLE,Int.reduceAdd,Int.reduceSub,Int.reduceMul,Int.reduceNeg,Nat.zero_add,Nat.add_zero,Nat.mul_one,Int.toNat_natCast,Int.natCast_zero,Int.cast_ofNat_Int,or_false,false_or,or_true,true_or,Int.reduceToNat,Nat.sub_zero,Int.natCast_nonneg,Int.toNat_zero,Bool.true_and,Bool.and_true,Bool.false_and,Bool.and_false,Bool.true_or,Bool.or_true,Bool.false_or,Bool.or_false,Bool.not_true,Bool.not_false,Bool.not_not,true_and,and_true,false_and,and_false,not_true_eq_false,not_false_eq_true,eq_self,decide_true,decide_false,ne_eq,implies_true,forall_const,true_implies,false_implies,Bool.true_eq_false,Bool.false_eq_true,reduceCtorEq,List.map_cons,List.map_nil,List.all_cons,List.all_nil,List.length_cons,List.length_nil,List.length_map,List.length_append,List.nil_append,List.cons_append,List.set_cons_zero,List.set_cons_succ,List.set_nil,List.drop_zero,List.drop_succ_cons,List.drop_nil,List.take_zero,List.take_succ_cons,List.take_nil,Option.map_some,Option.map_none,Option.isSome_some,Nat.reduceEqDiff,Nat.reduceBEq,Nat.reduceGT,List.all_append,List.all_map,Function.comp_def,decide_eq_true_eq,Bool.and_eq_true,beq_self_eq_true,or_self,and_self,ite_true,ite_false,Nat.le_refl,Bool.not_eq_true,decide_not,Bool.not_eq_true',decide_eq_false_iff_not,Bool.not_eq_false,Bool.or_eq_true,if_true,if_false,ite_self,u_roF,u_cvF,u_cvC,u_ceT,u_ceK,u_appS,ha]
  refine iter_go (ι := {k : Nat // k ≤ a.length}) (fun k=>⟨[⟨2,ty_api_Last,7,((a.take k.1).map fewN).map laE⟩],[(0,SL (a.map laE)),(3,OW 0 k.1),(4,nA k.1)]⟩) (fun k=>a.length - k.1) (fun _=>some (SL ((a.map fewN).map laE),[])) ?_ ⟨0,Nat.zero_le _⟩ (by dsimp only;omega)
  rintro kx hkx ⟨k,hk⟩ kc hkc
  dsimp only at hkc ⊢
  rw [plenumlaw26_Few_b1_eq]
  by_cases hlt : k < a.length
  ·have hlt' : (k : Int) < (a.length : Int) := by omega
   have step := hkc ⟨k + 1,by omega⟩ (by dsimp only;omega)
   dsimp only at step
   rw [List.take_succ_eq_append_getElem hlt,List.map_append,List.map_append] at step
   have hkm : k + 1 ≤ 34359738368 := by omega
   by_cases h2 : 200 < a[k].r.s.length
   ·have h2' : (200 : Int) < (a[k].r.s.length : Int) := by omega
    have h2l : (200 : Int) ≤ (a[k].r.s.length : Int) := by omega
    simp (config := {maxSteps := 4000000,implicitDefEqProofs := false}) (disch := omega) only [go_sem,↓reduceIte,Nat.reduceAdd,Nat.reduceSub,Nat.reduceMul,Nat.reduceLeDiff,Nat.reduceLT,Int.reduceEq,Int.reduceNe,Int.reduceLT,Int.reduceLE,Int.reduceAdd,Int.reduceSub,Int.reduceMul,Int.reduceNeg,Nat.zero_add,Nat.add_zero,Nat.mul_one,Int.toNat_natCast,Int.natCast_zero,Int.cast_ofNat_Int,or_false,false_or,or_true,true_or,Int.reduceToNat,Nat.sub_zero,Int.natCast_nonneg,Int.toNat_zero,Bool.true_and,Bool.and_true,Bool.false_and,Bool.and_false,Bool.true_or,Bool.or_true,Bool.false_or,Bool.or_false,Bool.not_true,Bool.not_false,Bool.not_not,true_and,and_true,false_and,and_false,not_true_eq_false,not_false_eq_true,eq_self,decide_true,decide_false,ne_eq,implies_true,forall_const,true_implies,false_implies,Bool.true_eq_false,Bool.false_eq_true,reduceCtorEq,List.map_cons,List.map_nil,List.all_cons,List.all_nil,List.length_cons,List.length_nil,List.length_map,List.length_append,List.nil_append,List.cons_append,List.set_cons_zero,List.set_cons_succ,List.set_nil,List.drop_zero,List.drop_succ_cons,List.drop_nil,List.take_zero,List.take_succ_cons,List.take_nil,Option.map_some,Option.map_none,Option.isSome_some,Nat.reduceEqDiff,Nat.reduceBEq,Nat.reduceGT,List.all_append,List.all_map,Function.comp_def,decide_eq_true_eq,Bool.and_eq_true,beq_self_eq_true,or_self,and_self,ite_true,ite_false,Nat.le_refl,Bool.not_eq_true,decide_not,Bool.not_eq_true',decide_eq_false_iff_not,Bool.not_eq_false,Bool.or_eq_true,if_true,if_false,ite_self,u_roF,u_cvF,u_cvC,u_ceT,u_ceK,u_appS,la_it,la_len,la_sure,la_ltA,la_lt1,la_all1,la_ro,la_take,la_cl,la_tm,la_r,la_sl,rc_len,rc_sure,rc_ltA,rc_lt1,rc_all1,rc_ro,rc_take,rc_sl,la_set,rc_set,zcL_eq,zcR_eq,la_allA,la_len7,all_tt,natInt,u_nthM,la_s,la_set5,hlt',h2',h2l,w_i64,hkm,List.length_take,Nat.min_eq_left,plenumlaw26_Few_r3_eq,plenumlaw26_Few_r4_eq]
    exact step
   ·have h2' : ¬ (200 : Int) < (a[k].r.s.length : Int) := by omega
    have hf : fewN a[k] = a[k] := by unfold fewN;rw [List.take_of_length_le (by omega)]
    rw [List.map_singleton,hf] at step
    simp (config := {maxSteps := 4000000,implicitDefEqProofs := false}) (disch := omega) only [go_sem,↓reduceIte,Nat.reduceAdd,Nat.reduceSub,Nat.reduceMul,Nat.reduceLeDiff,Nat.reduceLT,Int.reduceEq,Int.reduceNe,Int.reduceLT,Int.reduceLE,Int.reduceAdd,Int.reduceSub,Int.reduceMul,Int.reduceNeg,Nat.zero_add,Nat.add_zero,Nat.mul_one,Int.toNat_natCast,Int.natCast_zero,Int.cast_ofNat_Int,or_false,false_or,or_true,true_or,Int.reduceToNat,Nat.sub_zero,Int.natCast_nonneg,Int.toNat_zero,Bool.true_and,Bool.and_true,Bool.false_and,Bool.and_false,Bool.true_or,Bool.or_true,Bool.false_or,Bool.or_false,Bool.not_true,Bool.not_false,Bool.not_not,true_and,and_true,false_and,and_false,not_true_eq_false,not_false_eq_true,eq_self,decide_true,decide_false,ne_eq,implies_true,forall_const,true_implies,false_implies,Bool.true_eq_false,Bool.false_eq_true,reduceCtorEq,List.map_cons,List.map_nil,List.all_cons,List.all_nil,List.length_cons,List.length_nil,List.length_map,List.length_append,List.nil_append,List.cons_append,List.set_cons_zero,List.set_cons_succ,List.set_nil,List.drop_zero,List.drop_succ_cons,List.drop_nil,List.take_zero,List.take_succ_cons,List.take_nil,Option.map_some,Option.map_none,Option.isSome_some,Nat.reduceEqDiff,Nat.reduceBEq,Nat.reduceGT,List.all_append,List.all_map,Function.comp_def,decide_eq_true_eq,Bool.and_eq_true,beq_self_eq_true,or_self,and_self,ite_true,ite_false,Nat.le_refl,Bool.not_eq_true,decide_not,Bool.not_eq_true',decide_eq_false_iff_not,Bool.not_eq_false,Bool.or_eq_true,if_true,if_false,ite_self,u_roF,u_cvF,u_cvC,u_ceT,u_ceK,u_appS,la_it,la_len,la_sure,la_ltA,la_lt1,la_all1,la_ro,la_take,la_cl,la_tm,la_r,la_sl,rc_len,rc_sure,rc_ltA,rc_lt1,rc_all1,rc_ro,rc_take,rc_sl,la_set,rc_set,zcL_eq,zcR_eq,la_allA,la_len7,all_tt,natInt,u_nthM,la_s,hlt',h2',w_i64,hkm,List.length_take,Nat.min_eq_left,plenumlaw26_Few_r3_eq,plenumlaw26_Few_r4_eq]
    exact step
  ·have hlt' : ¬ (k : Int) < (a.length : Int) := by omega
   have : k = a.length := by omega
   subst this
   simp (config := {maxSteps := 4000000,implicitDefEqProofs := false}) (disch := omega) only [go_sem,↓reduceIte,Nat.reduceAdd,Nat.reduceSub,Nat.reduceMul,Nat.reduceLeDiff,Nat.reduceLT,Int.reduceEq,Int.reduceNe,Int.reduceLT,Int.reduceLE,Int.reduceAdd,Int.reduceSub,Int.reduceMul,Int.reduceNeg,Nat.zero_add,Nat.add_zero,Nat.mul_one,Int.toNat_natCast,Int.natCast_zero,Int.cast_ofNat_Int,or_false,false_or,or_true,true_or,Int.reduceToNat,Nat.sub_zero,Int.natCast_nonneg,Int.toNat_zero,Bool.true_and,Bool.and_true,Bool.false_and,Bool.and_false,Bool.true_or,Bool.or_true,Bool.false_or,Bool.or_false,Bool.not_true,Bool.not_false,Bool.not_not,true_and,and_true,false_and,and_false,not_true_eq_false,not_false_eq_true,eq_self,decide_true,decide_false,ne_eq,implies_true,forall_const,true_implies,false_implies,Bool.true_eq_false,Bool.false_eq_true,reduceCtorEq,List.map_cons,List.map_nil,List.all_cons,List.all_nil,List.length_cons,List.length_nil,List.length_map,List.length_append,List.nil_append,List.cons_append,List.set_cons_zero,List.set_cons_succ,List.set_nil,List.drop_zero,List.drop_succ_cons,List.drop_nil,List.take_zero,List.take_succ_cons,List.take_nil,Option.map_some,Option.map_none,Option.isSome_some,Nat.reduceEqDiff,Nat.reduceBEq,Nat.reduceGT,List.all_append,List.all_map,Function.comp_def,decide_eq_true_eq,Bool.and_eq_true,beq_self_eq_true,or_self,and_self,ite_true,ite_false,Nat.le_refl,Bool.not_eq_true,decide_not,Bool.not_eq_true',decide_eq_false_iff_not,Bool.not_eq_false,Bool.or_eq_true,if_true,if_false,ite_self,u_roF,u_cvF,u_cvC,u_ceT,u_ceK,u_appS,la_it,la_len,la_sure,la_ltA,la_lt1,la_all1,la_ro,la_take,la_cl,la_tm,la_r,la_sl,rc_len,rc_sure,rc_ltA,rc_lt1,rc_all1,rc_ro,rc_take,rc_sl,la_set,rc_set,zcL_eq,zcR_eq,la_allA,la_len7,all_tt,natInt,u_nthM,hlt',hkx,List.take_length,plenumlaw26_Few_r4_eq,plenumlaw26_Few_r3_eq,plenumlaw26_Few_r2_eq,plenumlaw26_Few_r1_eq]
 rw [plenumlaw26_Few_eq,lL_def,lL_def]
 unfold fewL
 by_cases h10 : 260 < l.length
 ·have h10' : (260 : Int) < (l.length : Int) := by omega
  have h10l : 260 ≤ l.length := by omega
  have := main (l.take 260) (by rw [List.length_take];omega) (fun x hx=>hs x (List.mem_of_mem_take hx))
  have h10z : (260 : Int) ≤ (l.length : Int) := by omega
  simp (config := {maxSteps := 4000000,implicitDefEqProofs := false}) (disch := omega) only [go_sem,↓reduceIte,Nat.reduceAdd,Nat.reduceSub,Nat.reduceMul,Nat.reduceLeDiff,Nat.reduceLT,Int.reduceEq,Int.reduceNe,Int.reduceLT,Int.reduceLE,Int.reduceAdd,Int.reduceSub,Int.reduceMul,Int.reduceNeg,Nat.zero_add,Nat.add_zero,Nat.mul_one,Int.toNat_natCast,Int.natCast_zero,Int.cast_ofNat_Int,or_false,false_or,or_true,true_or,Int.reduceToNat,Nat.sub_zero,Int.natCast_nonneg,Int.toNat_zero,Bool.true_and,Bool.and_true,Bool.false_and,Bool.and_false,Bool.true_or,Bool.or_true,Bool.false_or,Bool.or_false,Bool.not_true,Bool.not_false,Bool.not_not,true_and,and_true,false_and,and_false,not_true_eq_false,not_false_eq_true,eq_self,decide_true,decide_false,ne_eq,implies_true,forall_const,true_implies,false_implies,Bool.true_eq_false,Bool.false_eq_true,reduceCtorEq,List.map_cons,List.map_nil,List.all_cons,List.all_nil,List.length_cons,List.length_nil,List.length_map,List.length_append,List.nil_append,List.cons_append,List.set_cons_zero,List.set_cons_succ,List.set_nil,List.drop_zero,List.drop_succ_cons,List.drop_nil,List.take_zero,List.take_succ_cons,List.take_nil,Option.map_some,Option.map_none,Option.isSome_some,Nat.reduceEqDiff,Nat.reduceBEq,Nat.reduceGT,List.all_append,List.all_map,Function.comp_def,decide_eq_true_eq,Bool.and_eq_true,beq_self_eq_true,or_self,and_self,ite_true,ite_false,Nat.le_refl,Bool.not_eq_true,decide_not,Bool.not_eq_true',decide_eq_false_iff_not,Bool.not_eq_false,Bool.or_eq_true,if_true,if_false,ite_self,u_roF,u_cvF,u_cvC,u_ceT,u_ceK,u_appS,la_it,la_len,la_sure,la_ltA,la_lt1,la_all1,la_ro,la_take,la_cl,la_tm,la_r,la_sl,rc_len,rc_sure,rc_ltA,rc_lt1,rc_all1,rc_ro,rc_take,rc_sl,la_set,rc_set,zcL_eq,zcR_eq,la_allA,la_len7,all_tt,natInt,u_nthM,h10',h10l,h10z]
  rw [← List.map_take]
  exact this
 ·have h10' : ¬ (260 : Int) < (l.length : Int) := by omega
  rw [List.take_of_length_le (by omega)]
  have := main l (by omega) hs
  simp (config := {maxSteps := 4000000,implicitDefEqProofs := false}) (disch := omega) only [go_sem,↓reduceIte,Nat.reduceAdd,Nat.reduceSub,Nat.reduceMul,Nat.reduceLeDiff,Nat.reduceLT,Int.reduceEq,Int.reduceNe,Int.reduceLT,Int.reduceLE,Int.reduceAdd,Int.reduceSub,Int.reduceMul,Int.reduceNeg,Nat.zero_add,Nat.add_zero,Nat.mul_one,Int.toNat_natCast,Int.natCast_zero,Int.cast_ofNat_Int,or_false,false_or,or_true,true_or,Int.reduceToNat,Nat.sub_zero,Int.natCast_nonneg,Int.toNat_zero,Bool.true_and,Bool.and_true,Bool.false_and,Bool.and_false,Bool.true_or,Bool.or_true,Bool.false_or,Bool.or_false,Bool.not_true,Bool.not_false,Bool.not_not,true_and,and_true,false_and,and_false,not_true_eq_false,not_false_eq_true,eq_self,decide_true,decide_false,ne_eq,implies_true,forall_const,true_implies,false_implies,Bool.true_eq_false,Bool.false_eq_true,reduceCtorEq,List.map_cons,List.map_nil,List.all_cons,List.all_nil,List.length_cons,List.length_nil,List.length_map,List.length_append,List.nil_append,List.cons_append,List.set_cons_zero,List.set_cons_succ,List.set_nil,List.drop_zero,List.drop_succ_cons,List.drop_nil,List.take_zero,List.take_succ_cons,List.take_nil,Option.map_some,Option.map_none,Option.isSome_some,Nat.reduceEqDiff,Nat.reduceBEq,Nat.reduceGT,List.all_append,List.all_map,Function.comp_def,decide_eq_true_eq,Bool.and_eq_true,beq_self_eq_true,or_self,and_self,ite_true,ite_false,Nat.le_refl,Bool.not_eq_true,decide_not,Bool.not_eq_true',decide_eq_false_iff_not,Bool.not_eq_false,Bool.or_eq_true,if_true,if_false,ite_self,u_roF,u_cvF,u_cvC,u_ceT,u_ceK,u_appS,h10']
  exact this
end Go.Proofs.Ytchncgdjefbmfaa

namespace Go.Proofs.Ytchncgdjefbmfaa
open Go.RowKit
structure Tx where
 cl : Int
 tm : Int
 rd : AV
 wr : AV
 src : Bytes
 gas : Int
def tC (t : Tx) : List AV := [nA t.cl,nA t.tm,t.rd,t.wr,sA t.src,nA t.gas]
def tE (t : Tx) : AV := .agg (tC t)
def Tx.Ok (t : Tx) : Prop := (sure t.rd = true ∧ sure t.wr = true) ∧ (∀ n,lt1 n t.rd = true) ∧ (∀ n,lt1 n t.wr = true)
theorem te_it (t : Tx) : tE t = .agg (tC t) := _root_.id rfl
section
variable {R : Type} {t u : Tx} {n : Nat} {K1 : AV → Option R}
theorem tc_len : (tC t).length = 6 := _root_.id rfl
theorem tc_sure (h : t.Ok) : (tC t).all sure = true := by
 show (true && (true && (sure t.rd && (sure t.wr && (true && (true && true)))))) = true
 rw [h.1.1,h.1.2];rfl
theorem tc_lt1 (h : t.Ok) : (tC t).all (lt1 n) = true := by
 show (true && (true && (lt1 n t.rd && (lt1 n t.wr && (true && (true && true)))))) = true
 rw [h.2.1 n,h.2.2 n];rfl
theorem tc_ltA (h : t.Ok) : ltA n (.agg (tC t)) = true := tc_lt1 h
theorem tc_sl (h : t.Ok) : ((tC t).all fun y=>sure y && lt1 n y) = true := by
 show (true && (true && ((sure t.rd && lt1 n t.rd) && ((sure t.wr && lt1 n t.wr) && (true && (true && true)))))) = true
 rw [h.2.1 n,h.2.2 n,h.1.1,h.1.2];rfl
theorem tc_take : (tC t).take 6 = tC t := _root_.id rfl
theorem tc_cl : nthE (tC t) 0 K1 = K1 (nA t.cl) := _root_.id rfl
theorem tc_tm : nthE (tC t) 1 K1 = K1 (nA t.tm) := _root_.id rfl
theorem tc_set : setCells (tC u) 0 (tC t) = tC t := _root_.id rfl
def Tx.zero : Tx := ⟨0,0,V (.slice none 0 0),V (.slice none 0 0),[],0⟩
theorem zcT_eq : zc_api_Txn = tC Tx.zero := _root_.id rfl
def timeT (k : Int) : Tx := ⟨3,k,V (.slice none 0 0),V (.slice none 0 0),[],0⟩
theorem tc_bT {k : Int} : buildE (some pl_api_Txn) (some (tC Tx.zero)) [(0,nA 3),(1,nA k)] K1 = K1 (.agg (tC (timeT k))) := _root_.id rfl
theorem timeT_ok {k : Int} : (timeT k).Ok := ⟨⟨rfl,rfl⟩,fun _=>rfl,fun _=>rfl⟩
end
theorem all_tE' {l : List Tx} {n : Nat} (h : ∀ t ∈ l,t.Ok) : (l.all fun t=>ltA n (tE t)) = true := List.all_eq_true.2 fun t ht=>tc_ltA (h t ht)
theorem times_s (m : Nat) (l : List Int) (hm : l.length < m) (hl : l.length ≤ 1000) : plenumlaw26_times m (SL (l.map fun k=>nA k)) = some (SL ((l.map timeT).map tE),[]) := by
 rw [plenumlaw26_times_eq]
 simp (config := {maxSteps := 4000000,implicitDefEqProofs := false}) (disch := omega) only [go_sem,↓reduceIte,Nat.reduceAdd,Nat.reduceSub,Nat.reduceMul,Nat.reduceLeDiff,Nat.reduceLT,Int.reduceEq,Int.reduceNe,Int.reduceLT,Int.reduceLE,Int.reduceAdd,Int.reduceSub,Int.reduceMul,Int.reduceNeg,Nat.zero_add,Nat.add_zero,Nat.mul_one,Int.toNat_natCast,Int.natCast_zero,Int.cast_ofNat_Int,or_false,false_or,or_true,true_or,Int.reduceToNat,Nat.sub_zero,Int.natCast_nonneg,Int.toNat_zero,Bool.true_and,Bool.and_true,Bool.false_and,Bool.and_false,Bool.true_or,Bool.or_true,Bool.false_or,Bool.or_false,Bool.not_true,Bool.not_false,Bool.not_not,true_and,and_true,false_and,and_false,not_true_eq_false,not_false_eq_true,eq_self,decide_true,decide_false,ne_eq,implies_true,forall_const,true_implies,false_implies,Bool.true_eq_false,Bool.false_eq_true,reduceCtorEq,List.map_cons,List.map_nil,List.all_cons,List.all_nil,List.length_cons,List.length_nil,List.length_map,List.length_append,List.nil_append,List.cons_append,List.set_cons_zero,List.set_cons_succ,List.set_nil,List.drop_zero,List.drop_succ_cons,List.drop_nil,List.take_zero,List.take_succ_cons,List.take_nil,Option.map_some,Option.map_none,Option.isSome_some,Nat.reduceEqDiff,Nat.reduceBEq,Nat.reduceGT,List.all_append,List.all_map,Function.comp_def,decide_eq_true_eq,Bool.and_eq_true,beq_self_eq_true,or_self,and_self,ite_true,ite_false,Nat.le_refl,Bool.not_eq_true,decide_not,Bool.not_eq_true',decide_eq_false_iff_not,Bool.not_eq_false,Bool.or_eq_true,if_true,if_false,ite_self,u_roF,u_cvF,u_cvC,u_ceT,u_ceK,u_appS,hl]
 refine iter_go (ι := {k : Nat // k ≤ l.length}) (fun k=>⟨[⟨2,ty_api_Txn,6,((l.take k.1).map timeT).map tE⟩],[(0,SL (l.map fun k=>nA k)),(3,OW 0 k.1),(4,nA k.1)]⟩) (fun k=>l.length - k.1) (fun _=>some (SL ((l.map timeT).map tE),[])) ?_ ⟨0,Nat.zero_le _⟩ (by dsimp only;omega)
 rintro kx hkx ⟨k,hk⟩ kc hkc
 dsimp only at hkc ⊢
 rw [plenumlaw26_times_b1_eq]
 by_cases hlt : k < l.length
 ·have hlt' : (k : Int) < (l.length : Int) := by omega
  have step := hkc ⟨k + 1,by omega⟩ (by dsimp only;omega)
  dsimp only at step
  rw [List.take_succ_eq_append_getElem hlt,List.map_append,List.map_append] at step
  have hkm : k + 1 ≤ 34359738368 := by omega
  have hq : ∀ {n : Nat},ltA n (.agg (tC (timeT l[k]))) = true := tc_ltA timeT_ok
  have hq1 : ∀ {n : Nat},(tC (timeT l[k])).all (lt1 n) = true := tc_lt1 timeT_ok
  have hq2 : (tC (timeT l[k])).all sure = true := tc_sure timeT_ok
  have hq3 : ∀ {n : Nat},((tC (timeT l[k])).all fun y=>sure y && lt1 n y) = true := tc_sl timeT_ok
  have hq4 : ∀ {n : Nat},(l.take k).all ((ltA n) ∘ tE ∘ timeT) = true := List.all_eq_true.2 fun t ht=>tc_ltA timeT_ok
  have hq5 : ∀ {n : Nat},((l.take k).all fun x=>ltA n (tE (timeT x))) = true := List.all_eq_true.2 fun t ht=>tc_ltA timeT_ok
  simp (config := {maxSteps := 4000000,implicitDefEqProofs := false}) (disch := omega) only [go_sem,↓reduceIte,Nat.reduceAdd,Nat.reduceSub,Nat.reduceMul,Nat.reduceLeDiff,Nat.reduceLT,Int.reduceEq,Int.reduceNe,Int.reduceLT,Int.reduceLE,Int.reduceAdd,Int.reduceSub,Int.reduceMul,Int.reduceNeg,Nat.zero_add,Nat.add_zero,Nat.mul_one,Int.toNat_natCast,Int.natCast_zero,Int.cast_ofNat_Int,or_false,false_or,or_true,true_or,Int.reduceToNat,Nat.sub_zero,Int.natCast_nonneg,Int.toNat_zero,Bool.true_and,Bool.and_true,Bool.false_and,Bool.and_false,Bool.true_or,Bool.or_true,Bool.false_or,Bool.or_false,Bool.not_true,Bool.not_false,Bool.not_not,true_and,and_true,false_and,and_false,not_true_eq_false,not_false_eq_true,eq_self,decide_true,decide_false,ne_eq,implies_true,forall_const,true_implies,false_implies,Bool.true_eq_false,Bool.false_eq_true,reduceCtorEq,List.map_cons,List.map_nil,List.all_cons,List.all_nil,List.length_cons,List.length_nil,List.length_map,List.length_append,List.nil_append,List.cons_append,List.set_cons_zero,List.set_cons_succ,List.set_nil,List.drop_zero,List.drop_succ_cons,List.drop_nil,List.take_zero,List.take_succ_cons,List.take_nil,Option.map_some,Option.map_none,Option.isSome_some,Nat.reduceEqDiff,Nat.reduceBEq,Nat.reduceGT,List.all_append,List.all_map,Function.comp_def,decide_eq_true_eq,Bool.and_eq_true,beq_self_eq_true,or_self,and_self,ite_true,ite_false,Nat.le_refl,Bool.not_eq_true,decide_not,Bool.not_eq_true',decide_eq_false_iff_not,Bool.not_eq_false,Bool.or_eq_true,if_true,if_false,ite_self,u_roF,u_cvF,u_cvC,u_ceT,u_ceK,u_appS,natInt,u_nthM,hlt',tc_len,zcT_eq,tc_bT,hq,hq1,hq2,hq3,hq5,w_i64,hkm,all_tt,List.length_take,Nat.min_eq_left]
  exact step
 ·have hlt' : ¬ (k : Int) < (l.length : Int) := by omega
  have : k = l.length := by omega
  subst this
  have hq5 : ∀ {n : Nat},(l.all fun x=>ltA n (tE (timeT x))) = true := List.all_eq_true.2 fun t ht=>tc_ltA timeT_ok
  simp (config := {maxSteps := 4000000,implicitDefEqProofs := false}) (disch := omega) only [go_sem,↓reduceIte,Nat.reduceAdd,Nat.reduceSub,Nat.reduceMul,Nat.reduceLeDiff,Nat.reduceLT,Int.reduceEq,Int.reduceNe,Int.reduceLT,Int.reduceLE,Int.reduceAdd,Int.reduceSub,Int.reduceMul,Int.reduceNeg,Nat.zero_add,Nat.add_zero,Nat.mul_one,Int.toNat_natCast,Int.natCast_zero,Int.cast_ofNat_Int,or_false,false_or,or_true,true_or,Int.reduceToNat,Nat.sub_zero,Int.natCast_nonneg,Int.toNat_zero,Bool.true_and,Bool.and_true,Bool.false_and,Bool.and_false,Bool.true_or,Bool.or_true,Bool.false_or,Bool.or_false,Bool.not_true,Bool.not_false,Bool.not_not,true_and,and_true,false_and,and_false,not_true_eq_false,not_false_eq_true,eq_self,decide_true,decide_false,ne_eq,implies_true,forall_const,true_implies,false_implies,Bool.true_eq_false,Bool.false_eq_true,reduceCtorEq,List.map_cons,List.map_nil,List.all_cons,List.all_nil,List.length_cons,List.length_nil,List.length_map,List.length_append,List.nil_append,List.cons_append,List.set_cons_zero,List.set_cons_succ,List.set_nil,List.drop_zero,List.drop_succ_cons,List.drop_nil,List.take_zero,List.take_succ_cons,List.take_nil,Option.map_some,Option.map_none,Option.isSome_some,Nat.reduceEqDiff,Nat.reduceBEq,Nat.reduceGT,List.all_append,List.all_map,Function.comp_def,decide_eq_true_eq,Bool.and_eq_true,beq_self_eq_true,or_self,and_self,ite_true,ite_false,Nat.le_refl,Bool.not_eq_true,decide_not,Bool.not_eq_true',decide_eq_false_iff_not,Bool.not_eq_false,Bool.or_eq_true,if_true,if_false,ite_self,u_roF,u_cvF,u_cvC,u_ceT,u_ceK,u_appS,hlt',hkx,hq5,List.take_length,plenumlaw26_times_r1_eq]
def frG : List La → Nat → List Tx → List Tx × List Nat
 |_,_,[]=>([],[])
 |l,k,t :: r=>if (noteA l t.cl t.tm Rs.zero).2 = 0 then (t :: (frG (noteA l t.cl t.tm Rs.zero).1 (k + 1) r).1,k :: (frG (noteA l t.cl t.tm Rs.zero).1 (k + 1) r).2) else frG l (k + 1) r
def freshA (l : List La) (b : List Tx) : List Tx × List Nat := if isL l = true then frG l 0 b else ([],[])
theorem note_ok {l : List La} {c t : Int} {r : Rs} (h : (noteA l c t r).2 = 0) : isL l = true ∧ could c t = true ∧ rB r = true ∧ (askA l c t).2 = 6 ∧ (noteA l c t r).1 = loL l c ++ ⟨c,t,r⟩ :: hiL l c := by
 have ha : (askA l c t).2 = 6 → isL l = true ∧ could c t = true := fun e=>by
  unfold askA at e
  split at e
  ·rename_i q;exact q
  ·simp at e
 unfold noteA at h ⊢
 by_cases h6 : (askA l c t).2 = 6
 ·rw [if_pos h6] at h ⊢
  by_cases hb : rB r = true
  ·obtain ⟨q1,q2⟩ := ha h6
   rw [if_pos hb]
   exact ⟨q1,q2,hb,h6,putL_eq q1 c ⟨c,t,r⟩⟩
  ·rw [if_neg hb] at h;simp at h
 ·rw [if_neg h6] at h
  split at h
  ·simp at h
  ·split at h <;> simp at h
theorem mid_ok {l : List La} {c t : Int} {r : Rs} (hi : isL l = true) (hc : could c t = true) (hr : rB r = true) : isL (loL l c ++ ⟨c,t,r⟩ :: hiL l c) = true := by
 obtain ⟨h1,h2⟩ := isL_iff.1 hi
 refine isL_iff.2 ⟨fun x hx=>?_,?_⟩
 ·rcases List.mem_append.1 hx with q|q
  ·exact h1 x ((List.mem_filter.1 q).1)
  ·rcases List.mem_cons.1 q with rfl|q
   ·exact ⟨hc,hr⟩
   ·exact h1 x ((List.mem_filter.1 q).1)
 ·rw [List.pairwise_append]
  refine ⟨h2.sublist List.filter_sublist,List.pairwise_cons.2 ⟨fun y hy=>?_,h2.sublist List.filter_sublist⟩,fun x hx y hy=>?_⟩
  ·have := (List.mem_filter.1 hy).2
   simpa using this
  ·have q1 : x.cl < c := by have := (List.mem_filter.1 hx).2;simpa using this
   rcases List.mem_cons.1 hy with rfl|hy
   ·exact q1
   ·have q2 : c < y.cl := by have := (List.mem_filter.1 hy).2;simpa using this
    omega
theorem note_isL {l : List La} {c t : Int} {r : Rs} (h : (noteA l c t r).2 = 0) : isL (noteA l c t r).1 = true := by
 obtain ⟨h1,h2,h3,_,h5⟩ := note_ok h
 rw [h5]
 exact mid_ok h1 h2 h3
theorem note_in {l : List La} {c t : Int} {r : Rs} (h : (noteA l c t r).2 = 0) (hl : ∀ x ∈ l,x.r.In) (hr : r.In) : ∀ x ∈ (noteA l c t r).1,x.r.In := by
 obtain ⟨_,_,_,_,h5⟩ := note_ok h
 rw [h5]
 intro x hx
 rcases List.mem_append.1 hx with q|q
 ·exact hl x ((List.mem_filter.1 q).1)
 ·rcases List.mem_cons.1 q with rfl|q
  ·exact hr
  ·exact hl x ((List.mem_filter.1 q).1)
theorem zero_in : Rs.zero.In := ⟨by show (-9223372036854775808 : Int) ≤ 0;omega,by show (0 : Int) < 9223372036854775808;omega⟩
def nLs (l : List Nat) : List AV := l.map fun (k : Nat)=>nA (k : Int)
theorem nLs_len (l : List Nat) : (nLs l).length = l.length := by simp [nLs]
theorem nLs_ltA {l : List Nat} {n : Nat} : (nLs l).all (ltA n) = true := by unfold nLs;rw [List.all_map];exact List.all_eq_true.2 fun _ _=>rfl
theorem nLs_app (l : List Nat) (k : Nat) : nLs (l ++ [k]) = nLs l ++ [nA (k : Int)] := by simp [nLs]
theorem fresh_s (m : Nat) (l : List La) (b : List Tx) (hm : 300 < m) (hlm : l.length < m) (hbm : b.length < m) (hl : l.length ≤ 34359738367) (hb : b.length ≤ 1000000) (h : ∀ x ∈ l,x.r.In) (ht : ∀ t ∈ b,t.Ok) : replies_Fresh m (lL l) (SL (b.map tE)) = some (TU [SL ((freshA l b).1.map tE),SL (nLs (freshA l b).2)],[]) := by
 have hI := is_s m l hlm hl h
 rw [lL_def] at hI
 rw [replies_Fresh_eq,lL_def]
 unfold freshA
 cases hi : isL l with
 |false =>
  rw [hi] at hI
  simp (config := {maxSteps := 4000000,implicitDefEqProofs := false}) (disch := omega) only [go_sem,↓reduceIte,Nat.reduceAdd,Nat.reduceSub,Nat.reduceMul,Nat.reduceLeDiff,Nat.reduceLT,Int.reduceEq,Int.reduceNe,Int.reduceLT,Int.reduceLE,Int.reduceAdd,Int.reduceSub,Int.reduceMul,Int.reduceNeg,Nat.zero_add,Nat.add_zero,Nat.mul_one,Int.toNat_natCast,Int.natCast_zero,Int.cast_ofNat_Int,or_false,false_or,or_true,true_or,Int.reduceToNat,Nat.sub_zero,Int.natCast_nonneg,Int.toNat_zero,Bool.true_and,Bool.and_true,Bool.false_and,Bool.and_false,Bool.true_or,Bool.or_true,Bool.false_or,Bool.or_false,Bool.not_true,Bool.not_false,Bool.not_not,true_and,and_true,false_and,and_false,not_true_eq_false,not_false_eq_true,eq_self,decide_true,decide_false,ne_eq,implies_true,forall_const,true_implies,false_implies,Bool.true_eq_false,Bool.false_eq_true,reduceCtorEq,List.map_cons,List.map_nil,List.all_cons,List.all_nil,List.length_cons,List.length_nil,List.length_map,List.length_append,List.nil_append,List.cons_append,List.set_cons_zero,List.set_cons_succ,List.set_nil,List.drop_zero,List.drop_succ_cons,List.drop_nil,List.take_zero,List.take_succ_cons,List.take_nil,Option.map_some,Option.map_none,Option.isSome_some,Nat.reduceEqDiff,Nat.reduceBEq,Nat.reduceGT,List.all_append,List.all_map,Function.comp_def,decide_eq_true_eq,Bool.and_eq_true,beq_self_eq_true,or_self,and_self,ite_true,ite_false,Nat.le_refl,Bool.not_eq_true,decide_not,Bool.not_eq_true',decide_eq_false_iff_not,Bool.not_eq_false,Bool.or_eq_true,if_true,if_false,ite_self,u_roF,u_cvF,u_cvC,u_ceT,u_ceK,u_appS,la_it,la_len,la_sure,la_ltA,la_lt1,la_all1,la_ro,la_take,la_cl,la_tm,la_r,la_sl,rc_len,rc_sure,rc_ltA,rc_lt1,rc_all1,rc_ro,rc_take,rc_sl,la_set,rc_set,zcL_eq,zcR_eq,la_allA,la_len7,all_tt,natInt,u_nthM,hI]
  rfl
 |true =>
  rw [hi] at hI
  rw [if_pos rfl]
  generalize hF : frG l 0 b = F
  obtain ⟨F1,F2⟩ := F
  simp (config := {maxSteps := 4000000,implicitDefEqProofs := false}) (disch := omega) only [go_sem,↓reduceIte,Nat.reduceAdd,Nat.reduceSub,Nat.reduceMul,Nat.reduceLeDiff,Nat.reduceLT,Int.reduceEq,Int.reduceNe,Int.reduceLT,Int.reduceLE,Int.reduceAdd,Int.reduceSub,Int.reduceMul,Int.reduceNeg,Nat.zero_add,Nat.add_zero,Nat.mul_one,Int.toNat_natCast,Int.natCast_zero,Int.cast_ofNat_Int,or_false,false_or,or_true,true_or,Int.reduceToNat,Nat.sub_zero,Int.natCast_nonneg,Int.toNat_zero,Bool.true_and,Bool.and_true,Bool.false_and,Bool.and_false,Bool.true_or,Bool.or_true,Bool.false_or,Bool.or_false,Bool.not_true,Bool.not_false,Bool.not_not,true_and,and_true,false_and,and_false,not_true_eq_false,not_false_eq_true,eq_self,decide_true,decide_false,ne_eq,implies_true,forall_const,true_implies,false_implies,Bool.true_eq_false,Bool.false_eq_true,reduceCtorEq,List.map_cons,List.map_nil,List.all_cons,List.all_nil,List.length_cons,List.length_nil,List.length_map,List.length_append,List.nil_append,List.cons_append,List.set_cons_zero,List.set_cons_succ,List.set_nil,List.drop_zero,List.drop_succ_cons,List.drop_nil,List.take_zero,List.take_succ_cons,List.take_nil,Option.map_some,Option.map_none,Option.isSome_some,Nat.reduceEqDiff,Nat.reduceBEq,Nat.reduceGT,List.all_append,List.all_map,Function.comp_def,decide_eq_true_eq,Bool.and_eq_true,beq_self_eq_true,or_self,and_self,ite_true,ite_false,Nat.le_refl,Bool.not_eq_true,decide_not,Bool.not_eq_true',decide_eq_false_iff_not,Bool.not_eq_false,Bool.or_eq_true,if_true,if_false,ite_self,u_roF,u_cvF,u_cvC,u_ceT,u_ceK,u_appS,la_it,la_len,la_sure,la_ltA,la_lt1,la_all1,la_ro,la_take,la_cl,la_tm,la_r,la_sl,rc_len,rc_sure,rc_ltA,rc_lt1,rc_all1,rc_ro,rc_take,rc_sl,la_set,rc_set,zcL_eq,zcR_eq,la_allA,la_len7,all_tt,natInt,u_nthM,hI]
  refine iter_go (ι := {p : Nat × List La × List Tx × List Nat // p.1 ≤ b.length ∧ isL p.2.1 = true ∧ (∀ x ∈ p.2.1,x.r.In) ∧ p.2.2.1.length ≤ p.1 ∧ p.2.2.2.length ≤ p.1 ∧ (∀ t ∈ p.2.2.1,t.Ok) ∧ p.2.2.1 ++ (frG p.2.1 p.1 (b.drop p.1)).1 = F1 ∧ p.2.2.2 ++ (frG p.2.1 p.1 (b.drop p.1)).2 = F2})
   (fun p=>⟨[⟨2,ty_api_Txn,6,p.1.2.2.1.map tE⟩,⟨2,ty_int,1,nLs p.1.2.2.2⟩],[(0,SL (p.1.2.1.map laE)),(6,OW 0 p.1.2.2.1.length),(7,OW 1 p.1.2.2.2.length),(15,SL (b.map tE)),(16,nA b.length),(17,nA p.1.1)]⟩) (fun p=>b.length - p.1.1) (fun _=>some (TU [SL (F1.map tE),SL (nLs F2)],[])) ?_ ⟨(0,l,[],[]),Nat.zero_le _,hi,h,Nat.zero_le _,Nat.zero_le _,fun t q=>by simp at q,by rw [List.drop_zero,hF];rfl,by rw [List.drop_zero,hF];rfl⟩ (by dsimp only;omega)
  rintro kx hkx ⟨⟨k,cur,outs,pls⟩,hk,hci,hcin,ho,hp,hok,hq1,hq2⟩ kc hkc
  dsimp only at hkc hk hci hcin ho hp hok hq1 hq2 ⊢
  rw [replies_Fresh_b1_eq]
  have hcl := isL_len hci
  have a1 : ∀ {n : Nat},(outs.all fun t=>ltA n (tE t)) = true := all_tE' hok
  have a2 : ∀ {n : Nat},(outs.all fun x=>(tC x).all (lt1 n)) = true := all_tE' hok
  by_cases hlt : k < b.length
  ·have hlt' : (k : Int) < (b.length : Int) := by omega
   have hN := note_s m cur b[k].cl b[k].tm Rs.zero hm (by omega) (by omega) hcin zero_in
   rw [lL_def,rA_def,lL_def] at hN
   have hT := ht _ (List.getElem_mem hlt)
   have b1 : ∀ {n : Nat},ltA n (.agg (tC b[k])) = true := tc_ltA hT
   have b2 : ∀ {n : Nat},(tC b[k]).all (lt1 n) = true := tc_lt1 hT
   have b3 : (tC b[k]).all sure = true := tc_sure hT
   have b4 : ∀ {n : Nat},((tC b[k]).all fun y=>sure y && lt1 n y) = true := tc_sl hT
   have hol : outs.length + 1 ≤ 34359738368 := by omega
   have hpl : pls.length + 1 ≤ 34359738368 := by omega
   rw [List.drop_eq_getElem_cons hlt] at hq1 hq2
   unfold frG at hq1 hq2
   by_cases he : (noteA cur b[k].cl b[k].tm Rs.zero).2 = 0
   ·rw [if_pos he] at hq1 hq2
    have step := hkc ⟨(k + 1,(noteA cur b[k].cl b[k].tm Rs.zero).1,outs ++ [b[k]],pls ++ [k]),by dsimp only;omega,note_isL he,note_in he hcin zero_in,by simp;omega,by simp;omega,by
     intro t q
     rcases List.mem_append.1 q with q|q
     ·exact hok t q
     ·rw [List.mem_singleton.1 q];exact hT,by dsimp only;rw [List.append_assoc];exact hq1,by dsimp only;rw [List.append_assoc];exact hq2⟩ (by dsimp only;omega)
    dsimp only at step
    rw [nLs_app,List.map_append,List.length_append,List.length_append] at step
    generalize noteA cur b[k].cl b[k].tm Rs.zero = N at hN he step
    obtain ⟨N1,N2⟩ := N
    dsimp only at hN he step
    simp (config := {maxSteps := 4000000,implicitDefEqProofs := false}) (disch := omega) only [go_sem,↓reduceIte,Nat.reduceAdd,Nat.reduceSub,Nat.reduceMul,Nat.reduceLeDiff,Nat.reduceLT,Int.reduceEq,Int.reduceNe,Int.reduceLT,Int.reduceLE,Int.reduceAdd,Int.reduceSub,Int.reduceMul,Int.reduceNeg,Nat.zero_add,Nat.add_zero,Nat.mul_one,Int.toNat_natCast,Int.natCast_zero,Int.cast_ofNat_Int,or_false,false_or,or_true,true_or,Int.reduceToNat,Nat.sub_zero,Int.natCast_nonneg,Int.toNat_zero,Bool.true_and,Bool.and_true,Bool.false_and,Bool.and_false,Bool.true_or,Bool.or_true,Bool.false_or,Bool.or_false,Bool.not_true,Bool.not_false,Bool.not_not,true_and,and_true,false_and,and_false,not_true_eq_false,not_false_eq_true,eq_self,decide_true,decide_false,ne_eq,implies_true,forall_const,true_implies,false_implies,Bool.true_eq_false,Bool.false_eq_true,reduceCtorEq,List.map_cons,List.map_nil,List.all_cons,List.all_nil,List.length_cons,List.length_nil,List.length_map,List.length_append,List.nil_append,List.cons_append,List.set_cons_zero,List.set_cons_succ,List.set_nil,List.drop_zero,List.drop_succ_cons,List.drop_nil,List.take_zero,List.take_succ_cons,List.take_nil,Option.map_some,Option.map_none,Option.isSome_some,Nat.reduceEqDiff,Nat.reduceBEq,Nat.reduceGT,List.all_append,List.all_map,Function.comp_def,decide_eq_true_eq,Bool.and_eq_true,beq_self_eq_true,or_self,and_self,ite_true,ite_false,Nat.le_refl,Bool.not_eq_true,decide_not,Bool.not_eq_true',decide_eq_false_iff_not,Bool.not_eq_false,Bool.or_eq_true,if_true,if_false,ite_self,u_roF,u_cvF,u_cvC,u_ceT,u_ceK,u_appS,la_it,la_len,la_sure,la_ltA,la_lt1,la_all1,la_ro,la_take,la_cl,la_tm,la_r,la_sl,rc_len,rc_sure,rc_ltA,rc_lt1,rc_all1,rc_ro,rc_take,rc_sl,la_set,rc_set,zcL_eq,zcR_eq,la_allA,la_len7,all_tt,natInt,u_nthM,te_it,tc_len,tc_take,tc_cl,tc_tm,tc_set,zcT_eq,rc_b0,hN,he,hlt',b1,b2,b3,b4,a1,a2,nLs_ltA,nLs_len,hol,hpl,w_i64,replies_Fresh_r2_eq]
    exact step
   ·rw [if_neg he] at hq1 hq2
    have step := hkc ⟨(k + 1,cur,outs,pls),by dsimp only;omega,hci,hcin,by dsimp only;omega,by dsimp only;omega,hok,hq1,hq2⟩ (by dsimp only;omega)
    dsimp only at step
    generalize noteA cur b[k].cl b[k].tm Rs.zero = N at hN he
    obtain ⟨N1,N2⟩ := N
    dsimp only at hN he
    simp (config := {maxSteps := 4000000,implicitDefEqProofs := false}) (disch := omega) only [go_sem,↓reduceIte,Nat.reduceAdd,Nat.reduceSub,Nat.reduceMul,Nat.reduceLeDiff,Nat.reduceLT,Int.reduceEq,Int.reduceNe,Int.reduceLT,Int.reduceLE,Int.reduceAdd,Int.reduceSub,Int.reduceMul,Int.reduceNeg,Nat.zero_add,Nat.add_zero,Nat.mul_one,Int.toNat_natCast,Int.natCast_zero,Int.cast_ofNat_Int,or_false,false_or,or_true,true_or,Int.reduceToNat,Nat.sub_zero,Int.natCast_nonneg,Int.toNat_zero,Bool.true_and,Bool.and_true,Bool.false_and,Bool.and_false,Bool.true_or,Bool.or_true,Bool.false_or,Bool.or_false,Bool.not_true,Bool.not_false,Bool.not_not,true_and,and_true,false_and,and_false,not_true_eq_false,not_false_eq_true,eq_self,decide_true,decide_false,ne_eq,implies_true,forall_const,true_implies,false_implies,Bool.true_eq_false,Bool.false_eq_true,reduceCtorEq,List.map_cons,List.map_nil,List.all_cons,List.all_nil,List.length_cons,List.length_nil,List.length_map,List.length_append,List.nil_append,List.cons_append,List.set_cons_zero,List.set_cons_succ,List.set_nil,List.drop_zero,List.drop_succ_cons,List.drop_nil,List.take_zero,List.take_succ_cons,List.take_nil,Option.map_some,Option.map_none,Option.isSome_some,Nat.reduceEqDiff,Nat.reduceBEq,Nat.reduceGT,List.all_append,List.all_map,Function.comp_def,decide_eq_true_eq,Bool.and_eq_true,beq_self_eq_true,or_self,and_self,ite_true,ite_false,Nat.le_refl,Bool.not_eq_true,decide_not,Bool.not_eq_true',decide_eq_false_iff_not,Bool.not_eq_false,Bool.or_eq_true,if_true,if_false,ite_self,u_roF,u_cvF,u_cvC,u_ceT,u_ceK,u_appS,la_it,la_len,la_sure,la_ltA,la_lt1,la_all1,la_ro,la_take,la_cl,la_tm,la_r,la_sl,rc_len,rc_sure,rc_ltA,rc_lt1,rc_all1,rc_ro,rc_take,rc_sl,la_set,rc_set,zcL_eq,zcR_eq,la_allA,la_len7,all_tt,natInt,u_nthM,te_it,tc_len,tc_take,tc_cl,tc_tm,tc_set,zcT_eq,rc_b0,hN,he,hlt',b1,b2,b3,b4,a1,a2,nLs_ltA,nLs_len,w_i64,replies_Fresh_r2_eq]
    exact step
  ·have hlt' : ¬ (k : Int) < (b.length : Int) := by omega
   rw [List.drop_of_length_le (by omega)] at hq1 hq2
   unfold frG at hq1 hq2
   rw [List.append_nil] at hq1 hq2
   subst hq1 hq2
   simp (config := {maxSteps := 4000000,implicitDefEqProofs := false}) (disch := omega) only [go_sem,↓reduceIte,Nat.reduceAdd,Nat.reduceSub,Nat.reduceMul,Nat.reduceLeDiff,Nat.reduceLT,Int.reduceEq,Int.reduceNe,Int.reduceLT,Int.reduceLE,Int.reduceAdd,Int.reduceSub,Int.reduceMul,Int.reduceNeg,Nat.zero_add,Nat.add_zero,Nat.mul_one,Int.toNat_natCast,Int.natCast_zero,Int.cast_ofNat_Int,or_false,false_or,or_true,true_or,Int.reduceToNat,Nat.sub_zero,Int.natCast_nonneg,Int.toNat_zero,Bool.true_and,Bool.and_true,Bool.false_and,Bool.and_false,Bool.true_or,Bool.or_true,Bool.false_or,Bool.or_false,Bool.not_true,Bool.not_false,Bool.not_not,true_and,and_true,false_and,and_false,not_true_eq_false,not_false_eq_true,eq_self,decide_true,decide_false,ne_eq,implies_true,forall_const,true_implies,false_implies,Bool.true_eq_false,Bool.false_eq_true,reduceCtorEq,List.map_cons,List.map_nil,List.all_cons,List.all_nil,List.length_cons,List.length_nil,List.length_map,List.length_append,List.nil_append,List.cons_append,List.set_cons_zero,List.set_cons_succ,List.set_nil,List.drop_zero,List.drop_succ_cons,List.drop_nil,List.take_zero,List.take_succ_cons,List.take_nil,Option.map_some,Option.map_none,Option.isSome_some,Nat.reduceEqDiff,Nat.reduceBEq,Nat.reduceGT,List.all_append,List.all_map,Function.comp_def,decide_eq_true_eq,Bool.and_eq_true,beq_self_eq_true,or_self,and_self,ite_true,ite_false,Nat.le_refl,Bool.not_eq_true,decide_not,Bool.not_eq_true',decide_eq_false_iff_not,Bool.not_eq_false,Bool.or_eq_true,if_true,if_false,ite_self,u_roF,u_cvF,u_cvC,u_ceT,u_ceK,u_appS,la_it,la_len,la_sure,la_ltA,la_lt1,la_all1,la_ro,la_take,la_cl,la_tm,la_r,la_sl,rc_len,rc_sure,rc_ltA,rc_lt1,rc_all1,rc_ro,rc_take,rc_sl,la_set,rc_set,zcL_eq,zcR_eq,la_allA,la_len7,all_tt,natInt,u_nthM,hkx,hlt',a1,a2,nLs_ltA,nLs_len,replies_Fresh_r2_eq,replies_Fresh_r1_eq]
def encLa (x : La) : Bytes := put x.cl.toNat ++ put x.tm.toNat ++ put (encRes x.r.code x.r.kind x.r.i x.r.s x.r.ver).length ++ encRes x.r.code x.r.kind x.r.i x.r.s x.r.ver
def encB (l : List La) : Bytes := put l.length ++ l.flatMap encLa
def bC (l : Bytes) : List AV := l.map fun b=>V (cB b)
theorem bC_app (a b : Bytes) : bC (a ++ b) = bC a ++ bC b := List.map_append
theorem bC_len (a : Bytes) : (bC a).length = a.length := by simp [bC]
theorem bC_ltA {a : Bytes} {n : Nat} : (bC a).all (ltA n) = true := by unfold bC;rw [List.all_map];exact List.all_eq_true.2 fun _ _=>rfl
theorem bC_one {a : Bytes} : allCE 1 (bC a) = true := by unfold allCE bC;rw [List.all_map];exact List.all_eq_true.2 fun _ _=>rfl
theorem bC_one' {a : Bytes} : ((bC a).all fun d=>decide ((cellsOf d).length = 1)) = true := bC_one
theorem encRes_len {r : Rs} (h : r.In) : (encRes r.code r.kind r.i r.s r.ver).length ≤ 200 := by
 unfold encRes
 split
 ·rename_i hb
  have hb' := hb
  unfold resB at hb'
  simp only [Bool.and_eq_true,decide_eq_true_eq] at hb'
  have h1 := resLen h.1 h.2 hb'.1.1.2
  have h2 := put_len r.ver.toNat (by omega)
  rw [List.length_cons,List.length_append]
  omega
 ·simp
theorem encLa_len {x : La} (h : could x.cl x.tm = true) (hr : x.r.In) : (encLa x).length ≤ 300 := by
 have h1 := could_cl h
 have h2 := put_len x.cl.toNat (by omega)
 have h3 := put_len x.tm.toNat (by omega)
 have h4 := encRes_len hr
 have h5 := put_len (encRes x.r.code x.r.kind x.r.i x.r.s x.r.ver).length (by omega)
 unfold encLa
 rw [List.length_append,List.length_append,List.length_append]
 omega
theorem flat_len : ∀ (l : List La),(∀ x ∈ l,could x.cl x.tm = true ∧ x.r.In) → (l.flatMap encLa).length ≤ 300 * l.length
 |[],_=>Nat.zero_le _
 |x :: r,h=>by
  have := flat_len r fun y hy=>h y (List.mem_cons_of_mem _ hy)
  have h2 := encLa_len (h x (List.mem_cons_self ..)).1 (h x (List.mem_cons_self ..)).2
  rw [List.flatMap_cons,List.length_append,List.length_cons]
  omega
theorem encode_s (m : Nat) (l : List La) (hlm : l.length < m) (hl : l.length ≤ 34359738367) (h : ∀ x ∈ l,x.r.In) : replies_Encode m (lL l) = some (SL (bC (if isL l = true then encB l else [])),[]) := by
 have hI := is_s m l hlm hl h
 rw [lL_def] at hI
 rw [replies_Encode_eq,lL_def]
 cases hi : isL l with
 |false =>
  rw [hi] at hI
  simp (config := {maxSteps := 4000000,implicitDefEqProofs := false}) (disch := omega) only [go_sem,↓reduceIte,Nat.reduceAdd,Nat.reduceSub,Nat.reduceMul,Nat.reduceLeDiff,Nat.reduceLT,Int.reduceEq,Int.reduceNe,Int.reduceLT,Int.reduceLE,Int.reduceAdd,Int.reduceSub,Int.reduceMul,Int.reduceNeg,Nat.zero_add,Nat.add_zero,Nat.mul_one,Int.toNat_natCast,Int.natCast_zero,Int.cast_ofNat_Int,or_false,false_or,or_true,true_or,Int.reduceToNat,Nat.sub_zero,Int.natCast_nonneg,Int.toNat_zero,Bool.true_and,Bool.and_true,Bool.false_and,Bool.and_false,Bool.true_or,Bool.or_true,Bool.false_or,Bool.or_false,Bool.not_true,Bool.not_false,Bool.not_not,true_and,and_true,false_and,and_false,not_true_eq_false,not_false_eq_true,eq_self,decide_true,decide_false,ne_eq,implies_true,forall_const,true_implies,false_implies,Bool.true_eq_false,Bool.false_eq_true,reduceCtorEq,List.map_cons,List.map_nil,List.all_cons,List.all_nil,List.length_cons,List.length_nil,List.length_map,List.length_append,List.nil_append,List.cons_append,List.set_cons_zero,List.set_cons_succ,List.set_nil,List.drop_zero,List.drop_succ_cons,List.drop_nil,List.take_zero,List.take_succ_cons,List.take_nil,Option.map_some,Option.map_none,Option.isSome_some,Nat.reduceEqDiff,Nat.reduceBEq,Nat.reduceGT,List.all_append,List.all_map,Function.comp_def,decide_eq_true_eq,Bool.and_eq_true,beq_self_eq_true,or_self,and_self,ite_true,ite_false,Nat.le_refl,Bool.not_eq_true,decide_not,Bool.not_eq_true',decide_eq_false_iff_not,Bool.not_eq_false,Bool.or_eq_true,if_true,if_false,ite_self,u_roF,u_cvF,u_cvC,u_ceT,u_ceK,u_appS,la_it,la_len,la_sure,la_ltA,la_lt1,la_all1,la_ro,la_take,la_cl,la_tm,la_r,la_sl,rc_len,rc_sure,rc_ltA,rc_lt1,rc_all1,rc_ro,rc_take,rc_sl,la_set,rc_set,zcL_eq,zcR_eq,la_allA,la_len7,all_tt,natInt,u_nthM,hI]
  rfl
 |true =>
  rw [hi] at hI
  rw [if_pos rfl]
  have h8 := isL_len hi
  have hall := (isL_iff.1 hi).1
  have hP : ∀ (n v : Nat),v < 18446744073709551616 → varint_Put_t m [V (.int .u64 v)] n = some (OW n (bC (put v)).length,[⟨2,ty_uint8,1,bC (put v)⟩]) := fun n v hv=>by rw [bC_len];exact varint_Put_e m n v hv
  have hP0 : ∀ n,varint_Put_t m [V (.int .u64 (l.length : Int))] n = some (OW n (bC (put l.length)).length,[⟨2,ty_uint8,1,bC (put l.length)⟩]) := fun n=>hP n l.length (by omega)
  have hpl := put_len l.length (by omega)
  simp (config := {maxSteps := 4000000,implicitDefEqProofs := false}) (disch := omega) only [go_sem,↓reduceIte,Nat.reduceAdd,Nat.reduceSub,Nat.reduceMul,Nat.reduceLeDiff,Nat.reduceLT,Int.reduceEq,Int.reduceNe,Int.reduceLT,Int.reduceLE,Int.reduceAdd,Int.reduceSub,Int.reduceMul,Int.reduceNeg,Nat.zero_add,Nat.add_zero,Nat.mul_one,Int.toNat_natCast,Int.natCast_zero,Int.cast_ofNat_Int,or_false,false_or,or_true,true_or,Int.reduceToNat,Nat.sub_zero,Int.natCast_nonneg,Int.toNat_zero,Bool.true_and,Bool.and_true,Bool.false_and,Bool.and_false,Bool.true_or,Bool.or_true,Bool.false_or,Bool.or_false,Bool.not_true,Bool.not_false,Bool.not_not,true_and,and_true,false_and,and_false,not_true_eq_false,not_false_eq_true,eq_self,decide_true,decide_false,ne_eq,implies_true,forall_const,true_implies,false_implies,Bool.true_eq_false,Bool.false_eq_true,reduceCtorEq,List.map_cons,List.map_nil,List.all_cons,List.all_nil,List.length_cons,List.length_nil,List.length_map,List.length_append,List.nil_append,List.cons_append,List.set_cons_zero,List.set_cons_succ,List.set_nil,List.drop_zero,List.drop_succ_cons,List.drop_nil,List.take_zero,List.take_succ_cons,List.take_nil,Option.map_some,Option.map_none,Option.isSome_some,Nat.reduceEqDiff,Nat.reduceBEq,Nat.reduceGT,List.all_append,List.all_map,Function.comp_def,decide_eq_true_eq,Bool.and_eq_true,beq_self_eq_true,or_self,and_self,ite_true,ite_false,Nat.le_refl,Bool.not_eq_true,decide_not,Bool.not_eq_true',decide_eq_false_iff_not,Bool.not_eq_false,Bool.or_eq_true,if_true,if_false,ite_self,u_roF,u_cvF,u_cvC,u_ceT,u_ceK,u_appS,la_it,la_len,la_sure,la_ltA,la_lt1,la_all1,la_ro,la_take,la_cl,la_tm,la_r,la_sl,rc_len,rc_sure,rc_ltA,rc_lt1,rc_all1,rc_ro,rc_take,rc_sl,la_set,rc_set,zcL_eq,zcR_eq,la_allA,la_len7,all_tt,natInt,u_nthM,hI,hP0,u_addS,w_u64,bC_len]
  have e0 : put l.length ++ (l.take 0).flatMap encLa = put l.length := by simp
  rw [← e0]
  refine iter_go (ι := {k : Nat // k ≤ l.length}) (fun k=>⟨[⟨2,ty_uint8,1,bC (put l.length ++ (l.take k.1).flatMap encLa)⟩],[(3,OW 0 (put l.length ++ (l.take k.1).flatMap encLa).length),(14,SL (l.map laE)),(15,nA l.length),(16,nA k.1)]⟩) (fun k=>l.length - k.1) (fun _=>some (SL (bC (encB l)),[])) ?_ ⟨0,Nat.zero_le _⟩ (by dsimp only;omega)
  rintro kx hkx ⟨k,hk⟩ kc hkc
  dsimp only at hkc ⊢
  rw [replies_Encode_b1_eq]
  have hpre : (put l.length ++ (l.take k).flatMap encLa).length ≤ 100000 := by
   have := flat_len (l.take k) fun x hx=>⟨(hall x (List.mem_of_mem_take hx)).1,h x (List.mem_of_mem_take hx)⟩
   rw [List.length_take] at this
   rw [List.length_append]
   have : min k l.length ≤ 256 := by omega
   omega
  by_cases hlt : k < l.length
  ·have hlt' : (k : Int) < (l.length : Int) := by omega
   have hm1 := List.getElem_mem hlt
   have hE := enc_s m l[k].r (h _ hm1)
   have hc := could_cl (hall _ hm1).1
   have q1 : (0 : Int) ≤ l[k].cl := hc.1
   have q2 : l[k].cl ≤ 18446744073709551615 := by omega
   have q3 : (0 : Int) ≤ l[k].tm := by omega
   have q4 : l[k].tm ≤ 18446744073709551615 := by omega
   have hPc : ∀ n,varint_Put_t m [V (.int .u64 l[k].cl)] n = some (OW n (bC (put l[k].cl.toNat)).length,[⟨2,ty_uint8,1,bC (put l[k].cl.toNat)⟩]) := fun n=>by
    have := hP n l[k].cl.toNat (by omega)
    rwa [Int.toNat_of_nonneg q1] at this
   have hPt : ∀ n,varint_Put_t m [V (.int .u64 l[k].tm)] n = some (OW n (bC (put l[k].tm.toNat)).length,[⟨2,ty_uint8,1,bC (put l[k].tm.toNat)⟩]) := fun n=>by
    have := hP n l[k].tm.toNat (by omega)
    rwa [Int.toNat_of_nonneg q3] at this
   have hrl := encRes_len (h _ hm1)
   have hPr : ∀ n,varint_Put_t m [V (.int .u64 ((encRes l[k].r.code l[k].r.kind l[k].r.i l[k].r.s l[k].r.ver).length : Int))] n = some (OW n (bC (put (encRes l[k].r.code l[k].r.kind l[k].r.i l[k].r.s l[k].r.ver).length)).length,[⟨2,ty_uint8,1,bC (put (encRes l[k].r.code l[k].r.kind l[k].r.i l[k].r.s l[k].r.ver).length)⟩]) := fun n=>hP n _ (by omega)
   have l1 := put_len l[k].cl.toNat (by omega)
   have l2 := put_len l[k].tm.toNat (by omega)
   have l3 := put_len (encRes l[k].r.code l[k].r.kind l[k].r.i l[k].r.s l[k].r.ver).length (by omega)
   have hEl : ((encRes l[k].r.code l[k].r.kind l[k].r.i l[k].r.s l[k].r.ver).map fun b=>V (cB b)) = bC (encRes l[k].r.code l[k].r.kind l[k].r.i l[k].r.s l[k].r.ver) := rfl
   rw [hEl] at hE
   have step := hkc ⟨k + 1,by omega⟩ (by dsimp only;omega)
   dsimp only at step
   rw [List.take_succ_eq_append_getElem hlt,List.flatMap_append,← List.append_assoc] at step
   have e2 : [l[k]].flatMap encLa = encLa l[k] := by simp
   rw [e2] at step
   generalize put l.length ++ (l.take k).flatMap encLa = P at hpre step ⊢
   unfold encLa at step
   generalize encRes l[k].r.code l[k].r.kind l[k].r.i l[k].r.s l[k].r.ver = E at hE hrl hPr l3 step
   generalize put l[k].cl.toNat = A at hPc l1 step
   generalize put l[k].tm.toNat = B at hPt l2 step
   generalize put E.length = C at hPr l3 step
   have z1 : P.length + A.length ≤ 34359738368 := by omega
   have z2 : P.length + A.length + B.length ≤ 34359738368 := by omega
   have z3 : P.length + A.length + B.length + C.length ≤ 34359738368 := by omega
   have z4 : P.length + A.length + B.length + C.length + E.length ≤ 34359738368 := by omega
   simp only [bC_app,List.length_append,← List.append_assoc,← Nat.add_assoc] at step
   simp (config := {maxSteps := 4000000,implicitDefEqProofs := false}) (disch := omega) only [go_sem,↓reduceIte,Nat.reduceAdd,Nat.reduceSub,Nat.reduceMul,Nat.reduceLeDiff,Nat.reduceLT,Int.reduceEq,Int.reduceNe,Int.reduceLT,Int.reduceLE,Int.reduceAdd,Int.reduceSub,Int.reduceMul,Int.reduceNeg,Nat.zero_add,Nat.add_zero,Nat.mul_one,Int.toNat_natCast,Int.natCast_zero,Int.cast_ofNat_Int,or_false,false_or,or_true,true_or,Int.reduceToNat,Nat.sub_zero,Int.natCast_nonneg,Int.toNat_zero,Bool.true_and,Bool.and_true,Bool.false_and,Bool.and_false,Bool.true_or,Bool.or_true,Bool.false_or,Bool.or_false,Bool.not_true,Bool.not_false,Bool.not_not,true_and,and_true,false_and,and_false,not_true_eq_false,not_false_eq_true,eq_self,decide_true,decide_false,ne_eq,implies_true,forall_const,true_implies,false_implies,Bool.true_eq_false,Bool.false_eq_true,reduceCtorEq,List.map_cons,List.map_nil,List.all_cons,List.all_nil,List.length_cons,List.length_nil,List.length_map,List.length_append,List.nil_append,List.cons_append,List.set_cons_zero,List.set_cons_succ,List.set_nil,List.drop_zero,List.drop_succ_cons,List.drop_nil,List.take_zero,List.take_succ_cons,List.take_nil,Option.map_some,Option.map_none,Option.isSome_some,Nat.reduceEqDiff,Nat.reduceBEq,Nat.reduceGT,List.all_append,List.all_map,Function.comp_def,decide_eq_true_eq,Bool.and_eq_true,beq_self_eq_true,or_self,and_self,ite_true,ite_false,Nat.le_refl,Bool.not_eq_true,decide_not,Bool.not_eq_true',decide_eq_false_iff_not,Bool.not_eq_false,Bool.or_eq_true,if_true,if_false,ite_self,u_roF,u_cvF,u_cvC,u_ceT,u_ceK,u_appS,la_it,la_len,la_sure,la_ltA,la_lt1,la_all1,la_ro,la_take,la_cl,la_tm,la_r,la_sl,rc_len,rc_sure,rc_ltA,rc_lt1,rc_all1,rc_ro,rc_take,rc_sl,la_set,rc_set,zcL_eq,zcR_eq,la_allA,la_len7,all_tt,natInt,u_nthM,hE,hPc,hPt,hPr,u_addS,w_u64,w_i64,bC_len,bC_ltA,bC_one',hlt',z1,z2,z3,z4]
   exact step
  ·have hlt' : ¬ (k : Int) < (l.length : Int) := by omega
   have : k = l.length := by omega
   subst this
   rw [List.take_length] at hpre ⊢
   have hz : encB l = put l.length ++ l.flatMap encLa := rfl
   rw [hz]
   simp (config := {maxSteps := 4000000,implicitDefEqProofs := false}) (disch := omega) only [go_sem,↓reduceIte,Nat.reduceAdd,Nat.reduceSub,Nat.reduceMul,Nat.reduceLeDiff,Nat.reduceLT,Int.reduceEq,Int.reduceNe,Int.reduceLT,Int.reduceLE,Int.reduceAdd,Int.reduceSub,Int.reduceMul,Int.reduceNeg,Nat.zero_add,Nat.add_zero,Nat.mul_one,Int.toNat_natCast,Int.natCast_zero,Int.cast_ofNat_Int,or_false,false_or,or_true,true_or,Int.reduceToNat,Nat.sub_zero,Int.natCast_nonneg,Int.toNat_zero,Bool.true_and,Bool.and_true,Bool.false_and,Bool.and_false,Bool.true_or,Bool.or_true,Bool.false_or,Bool.or_false,Bool.not_true,Bool.not_false,Bool.not_not,true_and,and_true,false_and,and_false,not_true_eq_false,not_false_eq_true,eq_self,decide_true,decide_false,ne_eq,implies_true,forall_const,true_implies,false_implies,Bool.true_eq_false,Bool.false_eq_true,reduceCtorEq,List.map_cons,List.map_nil,List.all_cons,List.all_nil,List.length_cons,List.length_nil,List.length_map,List.length_append,List.nil_append,List.cons_append,List.set_cons_zero,List.set_cons_succ,List.set_nil,List.drop_zero,List.drop_succ_cons,List.drop_nil,List.take_zero,List.take_succ_cons,List.take_nil,Option.map_some,Option.map_none,Option.isSome_some,Nat.reduceEqDiff,Nat.reduceBEq,Nat.reduceGT,List.all_append,List.all_map,Function.comp_def,decide_eq_true_eq,Bool.and_eq_true,beq_self_eq_true,or_self,and_self,ite_true,ite_false,Nat.le_refl,Bool.not_eq_true,decide_not,Bool.not_eq_true',decide_eq_false_iff_not,Bool.not_eq_false,Bool.or_eq_true,if_true,if_false,ite_self,u_roF,u_cvF,u_cvC,u_ceT,u_ceK,u_appS,la_it,la_len,la_sure,la_ltA,la_lt1,la_all1,la_ro,la_take,la_cl,la_tm,la_r,la_sl,rc_len,rc_sure,rc_ltA,rc_lt1,rc_all1,rc_ro,rc_take,rc_sl,la_set,rc_set,zcL_eq,zcR_eq,la_allA,la_len7,all_tt,natInt,u_nthM,hkx,hlt',bC_len,bC_ltA,replies_Encode_r1_eq]
end Go.Proofs.Ytchncgdjefbmfaa

namespace Go.Proofs.Ytchncgdjefbmfaa
open Go.RowKit
theorem sameRs (x y : Rs) : sameKs [.int .i64 x.code, .int .i64 x.kind, .int .i64 x.i, .string ⟨x.s.toArray⟩, .int .i64 x.ver] [.int .i64 y.code, .int .i64 y.kind, .int .i64 y.i, .string ⟨y.s.toArray⟩, .int .i64 y.ver] = decide (x = y) := by
 obtain ⟨a3,a4,a5,a6,a7⟩ := x
 obtain ⟨b3,b4,b5,b6,b7⟩ := y
 rw [Bool.eq_iff_iff]
 show (decide (a3 = b3) && (decide (a4 = b4) && (decide (a5 = b5) && (decide (a6 = b6) && (decide (a7 = b7) && true))))) = true ↔ _
 simp
section
variable {R : Type} {isB sl : Bool} {x y : Rs} {K1 : AV → Option R}
theorem u_eqRs : binE (some [.i .i64, .i .i64, .i .i64, .s, .i .i64]) isB sl .eql (.agg (rC x)) (.agg (rC y)) K1 = K1 (bA (decide (x = y))) := by
 rw [← sameRs];rfl
end
theorem u_bconv {R : Type} {K1 : AV → Option R} {isS so it : Bool} {dk : Option IntKind} {l : Bytes} : convE isS dk so true it (SL (bC l)) K1 = K1 (V (.string ⟨l.toArray⟩)) := by
 have h : bytesOf (bC l) = some l := bytesOf_map l
 show whenE true (match bytesOf (bC l) with|some l=>K1 (V (.string ⟨l.toArray⟩))|none=>none) = _
 rw [h]
 exact whenE_t
theorem u_bs4 {R : Type} {t : TypeId} {a b c d : Int} {K1 : AV → Option R} : buildSE (some (t,1)) 4 [(0,V (.int .i64 a)),(1,V (.int .i64 b)),(2,V (.int .i64 c)),(3,V (.int .i64 d))] K1 = K1 (SL [nA a,nA b,nA c,nA d]) := by
 simp [buildSE,whenE]
 rfl
def L9 : List La := [⟨3,5,Rs.zero⟩]
theorem in_L9 : ∀ x ∈ L9,x.r.In := fun x hx=>by rw [List.mem_singleton.1 hx];exact zero_in
theorem ex_n : noteA [] 3 5 Rs.zero = (L9,0) := by kernel_rfl
theorem ex_a1 : askA L9 3 5 = (Rs.zero,0) := by kernel_rfl
theorem ex_a2 : askA L9 3 6 = (Rs.zero,6) := by kernel_rfl
theorem ex_a3 : askA L9 3 4 = (Rs.zero,18) := by kernel_rfl
theorem ex_f : freshA L9 ([5,6,6,7].map timeT) = ([timeT 6,timeT 7],[1,3]) := by kernel_rfl
theorem ex_e : (if isL L9 = true then encB L9 else []) = [1,3,5,3,0,0,0] := by kernel_rfl
theorem awake26_s (m : Nat) (hm : 300 < m) : plenumlaw26_awake m = some (bA true,[]) := by
 have h1 := note_s m [] 3 5 Rs.zero hm (by simp;omega) (by simp) (fun x hx=>absurd hx List.not_mem_nil) zero_in
 have h2 := ask_s m L9 3 5 hm (by show 1 < m;omega) (by show (1 : Nat) ≤ 34359738367;omega) in_L9
 have h3 := ask_s m L9 3 6 hm (by show 1 < m;omega) (by show (1 : Nat) ≤ 34359738367;omega) in_L9
 have h4 := ask_s m L9 3 4 hm (by show 1 < m;omega) (by show (1 : Nat) ≤ 34359738367;omega) in_L9
 have h5 := times_s m [5,6,6,7] (by show 4 < m;omega) (by show (4 : Nat) ≤ 1000;omega)
 have h6 := fresh_s m L9 ([5,6,6,7].map timeT) hm (by show 1 < m;omega) (by show 4 < m;omega) (by show (1 : Nat) ≤ 34359738367;omega) (by show (4 : Nat) ≤ 1000000;omega) in_L9 (fun t ht=>by obtain ⟨k,_,rfl⟩ := List.mem_map.1 ht;exact timeT_ok)
 have h7 := encode_s m L9 (by show 1 < m;omega) (by show (1 : Nat) ≤ 34359738367;omega) in_L9
 rw [ex_n,lL_def,lL_def,rA_def] at h1
 rw [ex_a1,lL_def,rA_def] at h2
 rw [ex_a2,lL_def,rA_def] at h3
 rw [ex_a3,lL_def,rA_def] at h4
 rw [ex_f,lL_def] at h6
 rw [ex_e,lL_def] at h7
 simp only [List.map_nil] at h1
 have hlen : (L9.map laE).length = 1 := rfl
 have hts : ∀ {n : Nat},(((([5,6,6,7] : List Int).map timeT).map tE).all fun x=>ltA n x) = true := fun {n}=>rfl
 generalize hL : L9.map laE = es at h1 h2 h3 h4 h6 h7 hlen
 have hall : ∀ {n : Nat},es.all (ltA n) = true := fun {n}=>by rw [← hL];exact all_laE
 generalize (([5,6,6,7] : List Int).map timeT).map tE = ts at h5 h6 hts
 have h5' : plenumlaw26_times m (SL [nA 5,nA 6,nA 6,nA 7]) = some (SL ts,[]) := h5
 rw [plenumlaw26_awake_eq]
 simp (config := {maxSteps := 4000000,implicitDefEqProofs := false}) (disch := omega) only [go_sem,↓reduceIte,Nat.reduceAdd,Nat.reduceSub,Nat.reduceMul,Nat.reduceLeDiff,Nat.reduceLT,Int.reduceEq,Int.reduceNe,Int.reduceLT,Int.reduceLE,Int.reduceAdd,Int.reduceSub,Int.reduceMul,Int.reduceNeg,Nat.zero_add,Nat.add_zero,Nat.mul_one,Int.toNat_natCast,Int.natCast_zero,Int.cast_ofNat_Int,or_false,false_or,or_true,true_or,Int.reduceToNat,Nat.sub_zero,Int.natCast_nonneg,Int.toNat_zero,Bool.true_and,Bool.and_true,Bool.false_and,Bool.and_false,Bool.true_or,Bool.or_true,Bool.false_or,Bool.or_false,Bool.not_true,Bool.not_false,Bool.not_not,true_and,and_true,false_and,and_false,not_true_eq_false,not_false_eq_true,eq_self,decide_true,decide_false,ne_eq,implies_true,forall_const,true_implies,false_implies,Bool.true_eq_false,Bool.false_eq_true,reduceCtorEq,List.map_cons,List.map_nil,List.all_cons,List.all_nil,List.length_cons,List.length_nil,List.length_map,List.length_append,List.nil_append,List.cons_append,List.set_cons_zero,List.set_cons_succ,List.set_nil,List.drop_zero,List.drop_succ_cons,List.drop_nil,List.take_zero,List.take_succ_cons,List.take_nil,Option.map_some,Option.map_none,Option.isSome_some,Nat.reduceEqDiff,Nat.reduceBEq,Nat.reduceGT,List.all_append,List.all_map,Function.comp_def,decide_eq_true_eq,Bool.and_eq_true,beq_self_eq_true,or_self,and_self,ite_true,ite_false,Nat.le_refl,Bool.not_eq_true,decide_not,Bool.not_eq_true',decide_eq_false_iff_not,Bool.not_eq_false,Bool.or_eq_true,if_true,if_false,ite_self,u_roF,u_cvF,u_cvC,u_ceT,u_ceK,u_appS,la_it,la_len,la_sure,la_ltA,la_lt1,la_all1,la_ro,la_take,la_cl,la_tm,la_r,la_sl,rc_len,rc_sure,rc_ltA,rc_lt1,rc_all1,rc_ro,rc_take,rc_sl,la_set,rc_set,zcL_eq,zcR_eq,la_allA,la_len7,all_tt,natInt,u_nthM,rc_b0,h1,h2,h3,h4,h5',h6,h7,hlen,hall,hts,u_eqRs,u_bconv,u_bs4,nLs]
end Go.Proofs.Ytchncgdjefbmfaa

namespace Go.Proofs.Ytchncgdjefbmfaa
open Go.RowKit
def La.Ok (x : La) : Prop := x.r.s.length ≤ maxLen ∧ x.r.In
theorem ofT_res {n : Nat} {ds : List AV} (h : ofT Try.prog n 32 ds) : ∃ r : Rs,ds = rC r ∧ (r.s.length ≤ maxLen ∧ r.In) := by
 obtain ⟨m,a1,b1,rfl,h1,a2,b2,rfl,h2,a3,b3,rfl,h3,rfl⟩ := ofT_struct Try.underlying32 h
 obtain ⟨c,rfl,_⟩ := ofT_i64 Try.underlying24 h1
 obtain ⟨m2,q1,p1,rfl,k1,q2,p2,rfl,k2,q3,p3,rfl,k3,rfl⟩ := ofT_struct Try.underlying30 h2
 obtain ⟨k,rfl,_⟩ := ofT_i64 Try.underlying3 k1
 obtain ⟨i,rfl,hi⟩ := ofT_i64 Try.underlying2 k2
 obtain ⟨s,rfl,hs⟩ := ofT_str Try.underlying9 k3
 obtain ⟨v,rfl,_⟩ := ofT_i64 Try.underlying3 h3
 exact ⟨⟨c,k,i,s,v⟩,rfl,hs,hi⟩
theorem ofT_last {n : Nat} {ds : List AV} (h : ofT Try.prog n 40 ds) : ∃ x : La,ds = laC x ∧ x.Ok := by
 obtain ⟨m,a1,b1,rfl,h1,a2,b2,rfl,h2,a3,b3,rfl,h3,rfl⟩ := ofT_struct Try.underlying40 h
 obtain ⟨c,rfl,_⟩ := ofT_i64 Try.underlying3 h1
 obtain ⟨t,rfl,_⟩ := ofT_i64 Try.underlying3 h2
 obtain ⟨r,rfl,hr⟩ := ofT_res h3
 exact ⟨⟨c,t,r⟩,by rw [List.append_nil];rfl,hr⟩
theorem ofT_lasts {n : Nat} {ds : List AV} (h : ofT Try.prog n 22 ds) : ∃ l : List La,ds = [lL l] ∧ l.length ≤ maxLen ∧ ∀ x ∈ l,x.Ok := by
 obtain ⟨m,es,rfl,hl,he⟩ := ofT_slice Try.underlying22 h
 obtain ⟨l,rfl,hi⟩ := list_of (f := laE) (Q := La.Ok) fun x hx=>by
  obtain ⟨q1,q2⟩ := he x hx
  obtain ⟨y,hy,hi⟩ := ofT_last q1
  exact ⟨y,by rw [cells_agg (q2.trans (by kernel_rfl)),hy];rfl,hi⟩
 exact ⟨l,rfl,by simpa using hl,hi⟩
theorem arg_lasts {W : World} {v : Value} (h : Arg Try.prog W 22 v) : ∃ l : List La,(l.length ≤ maxLen ∧ ∀ x ∈ l,x.Ok) ∧ rep (SW W) [] (lL l) v := by
 obtain ⟨n,ds,h1,h2⟩ := h
 obtain ⟨t,rfl,ht⟩ := ofT_lasts h1
 rw [mk_lone (by kernel_rfl)] at h2
 exact ⟨t,ht,h2⟩
theorem few_in {l : List La} (h : ∀ x ∈ l,x.Ok) : ∀ x ∈ fewL l,x.r.In := by
 intro x hx
 unfold fewL at hx
 obtain ⟨y,hy,rfl⟩ := List.mem_map.1 hx
 exact (h y (List.mem_of_mem_take hy)).2
end Go.Proofs.Ytchncgdjefbmfaa

namespace Go.Proofs.Ytchncgdjefbmfaa
open Go.RowKit
theorem bC_drop (a : List UInt8) (n : Nat) : (bC a).drop n = bC (a.drop n) := by simp [bC,List.map_drop]
theorem bC_take (a : List UInt8) (n : Nat) : (bC a).take n = bC (a.take n) := by simp [bC,List.map_take]
theorem bytesOf_bC (l : List UInt8) : bytesOf (bC l) = some l := bytesOf_map l
theorem bC_inj {a b : List UInt8} (h : bC a = bC b) : a = b := by
 have := congrArg bytesOf h
 rw [bytesOf_bC,bytesOf_bC] at this
 injection this
theorem SLb_inj {a b : List UInt8} (h : ([SL (bC a)] : List AV) = [SL (bC b)]) : a = b := by
 injection h with h
 injection h with h
 exact bC_inj h
theorem sAs_inj {a b : List UInt8} (h : ([sA a] : List AV) = [sA b]) : a = b := by
 injection h with h
 exact sA_inj h
theorem strA_of (s : List UInt8) : strA ⟨s.toArray⟩ = bC s := by simp [strA,bC,cB]
theorem bs_of {w : World} {S : SS} {l : List UInt8} (hr : Rel w S [] []) {v : Value} (h : rep S [] (SL (bC l)) v) : ∃ A c,v = .slice A l.length c ∧ l.length ≤ c ∧ c ≤ maxLen ∧ Bs w A l := by
 obtain ⟨A,c,rfl,h1,h2,h3⟩ := h
 rw [bC_len] at h1 ⊢
 refine ⟨A,c,rfl,h1,h2,by simp,fun hn=>?_⟩
 obtain ⟨b,o,z,rfl,hin⟩ := h3 (by intro e;have := congrArg List.length e;rw [bC_len] at this;simp at this;simp [this] at hn)
 have hz : z = 1 := by
  have hh : (bC l)[0]? = some (V (cB l[0])) := by simp [bC,List.getElem?_eq_getElem hn]
  exact ((hin 0 _ hh).1).symm
 subst hz
 have hcell : ∀ j u,(l.map cB)[j]? = some u → S b (o + j) (V u) := by
  intro j u hj
  rw [List.getElem?_map] at hj
  cases hb : l[j]? with
  |none=>rw [hb] at hj;cases hj
  |some y =>
   rw [hb] at hj;cases hj
   have := (hin j (V (cB y)) (by simp [bC,hb])).2 0 (V (cB y)) rfl
   simpa using this
 refine ⟨b,o,rfl,hr.still_lt (hcell 0 (cB l[0]) (by simp [List.getElem?_eq_getElem hn])),fun j u hj=>?_⟩
 obtain ⟨u',h4,_,h5⟩ := hr.still _ _ _ (hcell j u hj)
 rw [h4,h5.1]
theorem rep_three (S : SS) {a b c : Value} (ha : a.oneCell' = true) (hb : b.oneCell' = true) (hc : c.oneCell' = true) : rep S [] (TU [V a,V b,V c]) (.tuple #[a,b,c]) := by
 refine ⟨[a,b,c],rfl,rfl,fun j d u hd hu=>?_⟩
 match j with
 |0=>cases hd;cases hu;exact ⟨rfl,ha⟩
 |1=>cases hd;cases hu;exact ⟨rfl,hb⟩
 |2=>cases hd;cases hu;exact ⟨rfl,hc⟩
 |n + 3=>cases hd
def cutX (l : List UInt8) : AV := TU [V (.int .u64 (cut l).1),nA (cut l).2.1,nA (cut l).2.2]
def cutTX (l : List UInt8) : AV := TU [sA (CutText l).1,nA (CutText l).2.1,nA (CutText l).2.2]
theorem cut_acp (l : List UInt8) (hl : l.length ≤ 34359738368) : ACp Try.prog GG 61 [SL (bC l)] (cutX l) := by
 refine acp_of_tells (by kernel_rfl) fun w S vs hr hg hv hrep=>?_
 obtain ⟨v0,rfl⟩ : ∃ v,vs = [v] := by
  match vs,hv with
  |[v],_=>exact ⟨v,rfl⟩
 obtain ⟨A,c,rfl,h1,h2,h3⟩ := bs_of hr (hrep 0 _ _ rfl rfl)
 refine (cut_any A l c w h3 hl).mono ?_
 rintro e w' ⟨rfl,rfl⟩
 exact ⟨_,rfl,Below.refl _ _,rep_three S rfl rfl rfl⟩
theorem cuttext_acp (l : List UInt8) (hl : l.length ≤ 34359738368) : ACp Try.prog GG 63 [SL (bC l)] (cutTX l) := by
 refine acp_of_tells (by kernel_rfl) fun w S vs hr hg hv hrep=>?_
 obtain ⟨v0,rfl⟩ : ∃ v,vs = [v] := by
  match vs,hv with
  |[v],_=>exact ⟨v,rfl⟩
 obtain ⟨A,c,rfl,h1,h2,h3⟩ := bs_of hr (hrep 0 _ _ rfl rfl)
 refine (cuttext_any A l c w h3 hl h1 h2).mono ?_
 rintro e w' ⟨rfl,rfl⟩
 exact ⟨_,rfl,Below.refl _ _,rep_three S rfl rfl rfl⟩
theorem rcut_acp (l : List UInt8) (hl : l.length ≤ 34359738368) : ACp Try.prog GG 66 [sA l] (cutX l) := by
 refine acp_of_tells (by kernel_rfl) fun w S vs hr hg hv hrep=>?_
 obtain ⟨v0,rfl⟩ : ∃ v,vs = [v] := by
  match vs,hv with
  |[v],_=>exact ⟨v,rfl⟩
 obtain ⟨rfl,_⟩ := hrep 0 _ _ rfl rfl
 refine (rcut_any l w hl).mono ?_
 rintro e w' ⟨rfl,rfl⟩
 exact ⟨_,rfl,Below.refl _ _,rep_three S rfl rfl rfl⟩
theorem rcuttext_acp (l : List UInt8) (hl : l.length ≤ 34359738368) : ACp Try.prog GG 67 [sA l] (cutTX l) := by
 refine acp_of_tells (by kernel_rfl) fun w S vs hr hg hv hrep=>?_
 obtain ⟨v0,rfl⟩ : ∃ v,vs = [v] := by
  match vs,hv with
  |[v],_=>exact ⟨v,rfl⟩
 obtain ⟨rfl,_⟩ := hrep 0 _ _ rfl rfl
 refine (rcuttext_any l w hl).mono ?_
 rintro e w' ⟨rfl,rfl⟩
 exact ⟨_,rfl,Below.refl _ _,rep_three S rfl rfl rfl⟩
theorem rput_acp (v : Nat) (hv : v < 18446744073709551616) : ACp Try.prog GG 37 [V (.int .u64 v)] (sA (put v)) := by
 refine acp_of_tells (by kernel_rfl) fun w S vs hr hg hv' hrep=>?_
 obtain ⟨v0,rfl⟩ : ∃ v,vs = [v] := by
  match vs,hv' with
  |[v],_=>exact ⟨v,rfl⟩
 obtain ⟨rfl,_⟩ := hrep 0 _ _ rfl rfl
 refine (rput_any (v : Int) (by omega) (by omega) w).mono ?_
 rintro e w' ⟨rfl,hb⟩
 rw [Int.toNat_natCast]
 exact ⟨_,rfl,hb,rfl,rfl⟩
theorem rtext_acp (s : List UInt8) (hs : s.length ≤ 140737488351232) : ACp Try.prog GG 38 [sA s] (sA (put s.length ++ s)) := by
 refine acp_of_tells (by kernel_rfl) fun w S vs hr hg hv' hrep=>?_
 obtain ⟨v0,rfl⟩ : ∃ v,vs = [v] := by
  match vs,hv' with
  |[v],_=>exact ⟨v,rfl⟩
 obtain ⟨rfl,_⟩ := hrep 0 _ _ rfl rfl
 refine (rtext_any s hs w).mono ?_
 rintro e w' ⟨rfl,hb⟩
 exact ⟨_,rfl,hb,rfl,rfl⟩
theorem renc_acp (k i : Int) (s : List UInt8) (hi : -9223372036854775808 ≤ i ∧ i < 9223372036854775808) (hv : valB k i s = true) : ACp Try.prog GG 58 [.agg [nA k,nA i,sA s]] (sA (encV k i s)) := by
 refine acp_of_tells (by kernel_rfl) fun w S vs hr hg hv' hrep=>?_
 obtain ⟨v0,rfl⟩ : ∃ v,vs = [v] := by
  match vs,hv' with
  |[v],_=>exact ⟨v,rfl⟩
 obtain ⟨us,rfl,hl,hu⟩ := hrep 0 _ _ rfl rfl
 match us,hl with
 |[a,b,c],_ =>
  have e1 := (hu 0 _ _ rfl rfl).2.1
  have e2 := (hu 1 _ _ rfl rfl).2.1
  have e3 := (hu 2 _ _ rfl rfl).2.1
  subst e1 e2 e3
  refine (renc_any k i s hi.1 hi.2 hv w).mono ?_
  rintro e w' ⟨rfl,hb⟩
  exact ⟨_,rfl,hb,rfl,rfl⟩
noncomputable def varint_Cut_t (m : Nat) : List AV → RO := orac (ι := List UInt8) (fun l=>[SL (bC l)]) cutX (fun l=>l.length ≤ 34359738368)
theorem varint_Cut_ok (m : Nat) : ∀ args X H',varint_Cut_t m args = some (X,H') → ACp Try.prog GG 61 args X := orac_ok cut_acp
theorem varint_Cut_e (m : Nat) (l : List UInt8) (hl : l.length ≤ 34359738368) : varint_Cut_t m [SL (bC l)] = some (cutX l,[]) := orac_eq (ι := List UInt8) (fun a b h=>by rw [SLb_inj h]) (i := l) hl
noncomputable def varint_CutText_t (m : Nat) : List AV → RO := orac (ι := List UInt8) (fun l=>[SL (bC l)]) cutTX (fun l=>l.length ≤ 34359738368)
theorem varint_CutText_ok (m : Nat) : ∀ args X H',varint_CutText_t m args = some (X,H') → ACp Try.prog GG 63 args X := orac_ok cuttext_acp
theorem varint_CutText_e (m : Nat) (l : List UInt8) (hl : l.length ≤ 34359738368) : varint_CutText_t m [SL (bC l)] = some (cutTX l,[]) := orac_eq (ι := List UInt8) (fun a b h=>by rw [SLb_inj h]) (i := l) hl
noncomputable def plenumref01_Cut_t (m : Nat) : List AV → RO := orac (ι := List UInt8) (fun l=>[sA l]) cutX (fun l=>l.length ≤ 34359738368)
theorem plenumref01_Cut_ok (m : Nat) : ∀ args X H',plenumref01_Cut_t m args = some (X,H') → ACp Try.prog GG 66 args X := orac_ok rcut_acp
theorem plenumref01_Cut_e (m : Nat) (l : List UInt8) (hl : l.length ≤ 34359738368) : plenumref01_Cut_t m [sA l] = some (cutX l,[]) := orac_eq (ι := List UInt8) (fun a b h=>by rw [sAs_inj h]) (i := l) hl
noncomputable def plenumref01_CutText_t (m : Nat) : List AV → RO := orac (ι := List UInt8) (fun l=>[sA l]) cutTX (fun l=>l.length ≤ 34359738368)
theorem plenumref01_CutText_ok (m : Nat) : ∀ args X H',plenumref01_CutText_t m args = some (X,H') → ACp Try.prog GG 67 args X := orac_ok rcuttext_acp
theorem plenumref01_CutText_e (m : Nat) (l : List UInt8) (hl : l.length ≤ 34359738368) : plenumref01_CutText_t m [sA l] = some (cutTX l,[]) := orac_eq (ι := List UInt8) (fun a b h=>by rw [sAs_inj h]) (i := l) hl
noncomputable def plenumref01_Text_t (m : Nat) : List AV → RO := orac (ι := List UInt8) (fun l=>[sA l]) (fun l=>sA (put l.length ++ l)) (fun l=>l.length ≤ 140737488351232)
theorem plenumref01_Text_ok (m : Nat) : ∀ args X H',plenumref01_Text_t m args = some (X,H') → ACp Try.prog GG 38 args X := orac_ok rtext_acp
theorem plenumref01_Text_e (m : Nat) (l : List UInt8) (hl : l.length ≤ 140737488351232) : plenumref01_Text_t m [sA l] = some (sA (put l.length ++ l),[]) := orac_eq (ι := List UInt8) (fun a b h=>by rw [sAs_inj h]) (i := l) hl
noncomputable def plenumref01_Put_t (m : Nat) : List AV → RO := orac (ι := Nat) (fun v=>[V (.int .u64 v)]) (fun v=>sA (put v)) (fun v=>v < 18446744073709551616)
theorem plenumref01_Put_ok (m : Nat) : ∀ args X H',plenumref01_Put_t m args = some (X,H') → ACp Try.prog GG 37 args X := orac_ok rput_acp
theorem plenumref01_Put_e (m : Nat) (v : Nat) (hv : v < 18446744073709551616) : plenumref01_Put_t m [V (.int .u64 v)] = some (sA (put v),[]) := orac_eq (ι := Nat) (fun a b h=>by
 have : a = b := by
  injection h with h
  injection h with h;injection h with h;injection h with h1 h2
  omega
 rw [this]) (i := v) hv
noncomputable def plenumref07_Encode_t (m : Nat) : List AV → RO := orac (ι := Int × Int × Bytes) (fun q=>[.agg [nA q.1,nA q.2.1,sA q.2.2]]) (fun q=>sA (encV q.1 q.2.1 q.2.2)) (fun q=>(-9223372036854775808 ≤ q.2.1 ∧ q.2.1 < 9223372036854775808) ∧ valB q.1 q.2.1 q.2.2 = true)
theorem plenumref07_Encode_ok (m : Nat) : ∀ args X H',plenumref07_Encode_t m args = some (X,H') → ACp Try.prog GG 58 args X := orac_ok fun q h=>renc_acp q.1 q.2.1 q.2.2 h.1 h.2
theorem plenumref07_Encode_e (m : Nat) (k i : Int) (s : Bytes) (hi : -9223372036854775808 ≤ i ∧ i < 9223372036854775808) (hv : valB k i s = true) : plenumref07_Encode_t m [.agg [nA k,nA i,sA s]] = some (sA (encV k i s),[]) := orac_eq (ι := Int × Int × Bytes) (by
 rintro ⟨k,i,s⟩ ⟨k',i',s'⟩ h
 dsimp only at h ⊢
 obtain ⟨rfl,rfl,rfl⟩ := arg3_inj h
 rfl) (i := (k,i,s)) ⟨hi,hv⟩
end Go.Proofs.Ytchncgdjefbmfaa

namespace Go.Proofs.Ytchncgdjefbmfaa
open Go.RowKit
theorem gr2 (w : World) (o p : Obj) : Below w.heap.size w ((w.alloc o).alloc p) := (gr1 _ _).alloc (by simp) _
theorem vnil_any (w : World) : Calls Try.prog 75 #[] w fun e w'=>e = .returned (.agg #[.int .i64 0, .int .i64 0, .string ⟨#[]⟩]) ∧ Below w.heap.size w w' := by
 go_enter Try.func75,Try.ntmps75
 go_wp2_with fail
 exact bodyPost_ret (v := .agg #[.int .i64 0, .int .i64 0, .string ⟨#[]⟩]) (by simp [results,Try.results75,go_sem]) rfl ⟨rfl,by first|exact gr1 _ _|exact gr2 _ _ _⟩
theorem vint_any (n : Int) (w : World) : Calls Try.prog 78 #[.int .i64 n] w fun e w'=>e = .returned (.agg #[.int .i64 2, .int .i64 n, .string ⟨#[]⟩]) ∧ Below w.heap.size w w' := by
 go_enter Try.func78,Try.ntmps78
 go_wp2_with fail
 exact bodyPost_ret (v := .agg #[.int .i64 2, .int .i64 n, .string ⟨#[]⟩]) (by simp [results,Try.results78,go_sem]) rfl ⟨rfl,by first|exact gr1 _ _|exact gr2 _ _ _⟩
theorem vbool_any (b : Bool) (w : World) : Calls Try.prog 76 #[.bool b] w fun e w'=>e = .returned (.agg #[.int .i64 1, .int .i64 b.toNat, .string ⟨#[]⟩]) ∧ Below w.heap.size w w' := by
 cases b
 all_goals
  go_enter Try.func76,Try.ntmps76
  go_wp2_with fail
 ·exact bodyPost_ret (v := .agg #[.int .i64 1, .int .i64 0, .string ⟨#[]⟩]) (by simp [results,Try.results76,go_sem]) rfl ⟨rfl,by first|exact gr1 _ _|exact gr2 _ _ _⟩
 ·exact bodyPost_ret (v := .agg #[.int .i64 1, .int .i64 1, .string ⟨#[]⟩]) (by simp [results,Try.results76,go_sem]) rfl ⟨rfl,by first|exact gr1 _ _|exact gr2 _ _ _⟩
theorem vtext_no (s : Bytes) (h : 64 < s.length) (w : World) : Calls Try.prog 79 #[.string ⟨s.toArray⟩] w fun e w'=>e = .returned (.tuple #[.agg #[.int .i64 0, .int .i64 0, .string ⟨#[]⟩], .int .i64 5]) ∧ Below w.heap.size w w' := by
 have h' : (64 : Int) < s.length := by omega
 go_enter Try.func79,Try.ntmps79
 go_wp2_with fail
 exact bodyPost_ret (v := .tuple #[.agg #[.int .i64 0, .int .i64 0, .string ⟨#[]⟩], .int .i64 5]) (by simp [results,Try.results79,go_sem]) rfl ⟨rfl,by first|exact gr1 _ _|exact gr2 _ _ _⟩
theorem vtext_yes (s : Bytes) (h : s.length ≤ 64) (w : World) : Calls Try.prog 79 #[.string ⟨s.toArray⟩] w fun e w'=>e = .returned (.tuple #[.agg #[.int .i64 3, .int .i64 0, .string ⟨s.toArray⟩], .int .i64 0]) ∧ Below w.heap.size w w' := by
 have h' : ¬ (64 : Int) < s.length := by omega
 go_enter Try.func79,Try.ntmps79
 go_wp2_with fail
 exact bodyPost_ret (v := .tuple #[.agg #[.int .i64 3, .int .i64 0, .string ⟨s.toArray⟩], .int .i64 0]) (by simp [results,Try.results79,go_sem]) rfl ⟨rfl,by first|exact gr1 _ _|exact gr2 _ _ _⟩
theorem rbool7_any (b : Bool) (w : World) : Calls Try.prog 80 #[.bool b] w fun e w'=>e = .returned (.agg #[.int .i64 1, .int .i64 b.toNat, .string ⟨#[]⟩]) ∧ Below w.heap.size w w' := by
 cases b
 all_goals
  go_enter Try.func80,Try.ntmps80
  go_wp2_with fail
 ·exact bodyPost_ret (v := .agg #[.int .i64 1, .int .i64 0, .string ⟨#[]⟩]) (by simp [results,Try.results80,go_sem]) rfl ⟨rfl,by first|exact gr1 _ _|exact gr2 _ _ _⟩
 ·exact bodyPost_ret (v := .agg #[.int .i64 1, .int .i64 1, .string ⟨#[]⟩]) (by simp [results,Try.results80,go_sem]) rfl ⟨rfl,by first|exact gr1 _ _|exact gr2 _ _ _⟩
structure CutV where
 kind : Int
 i : Int
 s : Bytes
 n : Nat
 e : Nat
def cutV : Bytes → CutV
 |[]=>⟨0,0,[],0,2⟩
 |t :: r =>
  if t.toNat = 0 then ⟨0,0,[],1,0⟩
  else if t.toNat = 1 then (match r with|[]=>⟨0,0,[],0,2⟩|b :: _=>if 1 < b.toNat then ⟨0,0,[],0,3⟩ else ⟨1,b.toNat,[],2,0⟩)
  else if t.toNat = 2 then (if (cut r).2.2 = 0 then ⟨2,zag (cut r).1,[],(cut r).2.1 + 1,0⟩ else ⟨0,0,[],0,(cut r).2.2⟩)
  else if t.toNat = 3 then (if (CutText r).2.2 ≠ 0 then ⟨0,0,[],0,(CutText r).2.2⟩ else if 64 < (CutText r).1.length then ⟨0,0,[],0,5⟩ else ⟨3,0,(CutText r).1,(CutText r).2.1 + 1,0⟩)
  else ⟨0,0,[],0,3⟩
def CutOut (w : World) (x : CutV) (e : Ending) (w' : World) : Prop :=
 e = .returned (.tuple #[.agg #[.int .i64 x.kind, .int .i64 x.i, .string ⟨x.s.toArray⟩], .int .i64 x.n, .int .i64 x.e]) ∧ Below w.heap.size w w'
theorem set3 {w w1 : World} (h : Below w.heap.size w w1) (u0 u1 u2 : Value) :
  Below w.heap.size w (((w1.setCell ⟨w.heap.size,0,none⟩ u0).setCell ⟨w.heap.size,1,none⟩ u1).setCell ⟨w.heap.size,2,none⟩ u2) :=
 ((h.setCell (Nat.le_refl _) _).setCell (Nat.le_refl _) _).setCell (Nat.le_refl _) _
theorem set3a {w w1 : World} (h : Below w.heap.size w w1) (u0 u1 u2 : Value) (o : Obj) :
  Below w.heap.size w ((((w1.setCell ⟨w.heap.size,0,none⟩ u0).setCell ⟨w.heap.size,1,none⟩ u1).setCell ⟨w.heap.size,2,none⟩ u2).alloc o) :=
 (set3 h u0 u1 u2).alloc (set3 h u0 u1 u2).size o
theorem cutOut_of {w w' : World} {x : CutV} {n : Int} (h : (x.n : Int) = n) (hb : Below w.heap.size w w') : CutOut w x (.returned (.tuple #[.agg #[.int .i64 x.kind, .int .i64 x.i, .string ⟨x.s.toArray⟩], .int .i64 n, .int .i64 x.e])) w' := ⟨by rw [← h],hb⟩
theorem cutText_n (l : Bytes) : (CutText l).2.1 ≤ l.length := by
 have := cut_n l
 unfold CutText;split
 ·simp
 ·split
  ·simp
  ·split
   ·simp
   ·simp only;omega
theorem nat_ne8 {n k : Nat} (h : ¬ n = k) : ((n : Int) == (k : Int)) = false := by rw [beq_eq_false_iff_ne];omega
set_option maxHeartbeats 4000000 in
theorem cutv_any (A : Option Addr) (l : Bytes) (c : Nat) (w : World) (hF : Bs w A l) (hl : l.length ≤ 34359738368) (hlc : l.length ≤ c) (hcm : c ≤ maxLen) :
  Calls Try.prog 64 #[.slice A l.length c] w (CutOut w (cutV l)) := by
 have HF := hide hF
 clear hF
 match l with
 |[] =>
  go_enter Try.func64,Try.ntmps64
  go_wp2_with fail
  exact bodyPost_ret (v := .tuple #[.agg #[.int .i64 0, .int .i64 0, .string ⟨#[]⟩], .int .i64 0, .int .i64 2]) (by simp [results,Try.results64,go_sem]) rfl ⟨rfl,by first|exact gr1 _ _|exact gr2 _ _ _⟩
 |t :: r =>
  have hrl : r.length + 1 ≤ c := hlc
  have hr2 : r.length ≤ 34359738368 := by simp at hl;omega
  obtain ⟨b,off,rfl,hbl,hcell⟩ := HF.out.cell (by simp)
  have h0 : w.cell? ⟨b,off,none⟩ = some (.int .u8 t.toNat) := by have := hcell 0 (by simp);simpa using this
  have hcut := fun w=>run_cut_from Try.underlying63 size_u8 (some ⟨b,off,none⟩) (r.length + 1) c 1 (by omega) 1 rfl w
  rw [show r.length + 1 - 1 = r.length from rfl] at hcut
  have hR : Bs w (cutA (some ⟨b,off,none⟩) c 1 1) r := by
   have := HF.out.cutA (lo := 1) (n := r.length) (c := c) (by simp;omega) hlc
   simpa using this
  generalize cutA (some ⟨b,off,none⟩) c 1 1 = A2 at hcut hR
  have HRr := hide hR
  clear hcell hR
  show Calls Try.prog 64 #[.slice (some ⟨b,off,none⟩) (r.length + 1) c] w _
  by_cases t0 : t.toNat = 0
  ·have HR := hide (show cutV (t :: r) = ⟨0,0,[],1,0⟩ from by simp [cutV,t0])
   rw [t0] at h0
   clear t0
   go_enter Try.func64,Try.ntmps64
   go_wp2_with (go_at_call 75;refine (vnil_any _).mono ?_;rintro e w2 ⟨rfl,hb2⟩;obtain ⟨hc2,hf2⟩ := bcell hb2;have hz2 := bz hb2)
   exact bodyPost_ret (v := .tuple #[.agg #[.int .i64 0, .int .i64 0, .string ⟨#[]⟩], .int .i64 1, .int .i64 0]) (by simp [results,Try.results64,go_sem,hc2,hz2]) rfl (by rw [HR.out];exact cutOut_of (rfl) (set3 (below_trans (gr1 _ _) hb2) _ _ _))
  by_cases t1 : t.toNat = 1
  ·rw [t1] at h0
   by_cases hz : r.length = 0
   ·have hri : ((r.length : Int) == 0) = true := by rw [hz];rfl
    have hre : r = [] := List.length_eq_zero_iff.1 hz
    have HR := hide (show cutV (t :: r) = ⟨0,0,[],0,2⟩ from by rw [hre];simp [cutV,t1])
    clear hre hz
    clear t0 t1
    go_enter Try.func64,Try.ntmps64
    go_wp2_with fail
    exact bodyPost_ret (v := .tuple #[.agg #[.int .i64 0, .int .i64 0, .string ⟨#[]⟩], .int .i64 0, .int .i64 2]) (by simp [results,Try.results64,go_sem]) rfl (by rw [HR.out];exact cutOut_of (rfl) (gr1 _ _))
   ·have hri : ((r.length : Int) == 0) = false := nat_ne8 (k := 0) hz
    have hpos : 0 < r.length := by omega
    obtain ⟨b2,off2,rfl,hbl2,hcell2⟩ := HRr.out.cell hpos
    obtain ⟨b1,r1,hrr0⟩ : ∃ b1 r1,r = b1 :: r1 := by cases r with|nil=>simp at hpos|cons x y=>exact ⟨x,y,rfl⟩
    have hrr := hide hrr0
    clear hrr0
    have h1 : w.cell? ⟨b2,off2,none⟩ = some (.int .u8 b1.toNat) := by have := hcell2 0 hpos;rw [show r[0] = b1 from by simp [hrr.out]] at this;simpa using this
    clear hcell2 hz
    by_cases hb0 : b1.toNat = 0
    ·have HR := hide (show cutV (t :: r) = ⟨1,0,[],2,0⟩ from by rw [hrr.out];simp [cutV,t1,hb0])
     rw [hb0] at h1
     clear hb0 t0 t1
     go_enter Try.func64,Try.ntmps64
     go_wp2_with (go_at_call 76;refine (vbool_any false _).mono ?_;rintro e w2 ⟨rfl,hb2⟩;obtain ⟨hc2,hf2⟩ := bcell hb2;have hz2 := bz hb2)
     exact bodyPost_ret (v := .tuple #[.agg #[.int .i64 1, .int .i64 0, .string ⟨#[]⟩], .int .i64 2, .int .i64 0]) (by simp [results,Try.results64,go_sem,hc2,hz2]) rfl (by rw [HR.out];exact cutOut_of (rfl) (set3 (below_trans (gr1 _ _) hb2) _ _ _))
    by_cases hb1' : b1.toNat = 1
    ·have HR := hide (show cutV (t :: r) = ⟨1,1,[],2,0⟩ from by rw [hrr.out];simp [cutV,t1,hb1'])
     rw [hb1'] at h1
     clear hb0 hb1' t0 t1
     go_enter Try.func64,Try.ntmps64
     go_wp2_with (go_at_call 76;refine (vbool_any true _).mono ?_;rintro e w2 ⟨rfl,hb2⟩;obtain ⟨hc2,hf2⟩ := bcell hb2;have hz2 := bz hb2)
     exact bodyPost_ret (v := .tuple #[.agg #[.int .i64 1, .int .i64 1, .string ⟨#[]⟩], .int .i64 2, .int .i64 0]) (by simp [results,Try.results64,go_sem,hc2,hz2]) rfl (by rw [HR.out];exact cutOut_of (rfl) (set3 (below_trans (gr1 _ _) hb2) _ _ _))
    ·have hbg : 1 < b1.toNat := by omega
     have hbg' : (1 : Int) < b1.toNat := by omega
     have HR := hide (show cutV (t :: r) = ⟨0,0,[],0,3⟩ from by rw [hrr.out];simp [cutV,t1,hbg])
     clear hbg hb0 hb1' t0 t1
     go_enter Try.func64,Try.ntmps64
     go_wp2_with fail
     exact bodyPost_ret (v := .tuple #[.agg #[.int .i64 0, .int .i64 0, .string ⟨#[]⟩], .int .i64 0, .int .i64 3]) (by simp [results,Try.results64,go_sem]) rfl (by rw [HR.out];exact cutOut_of (rfl) (gr1 _ _))
  by_cases t2 : t.toNat = 2
  ·rw [t2] at h0
   have hn := cut_n r
   by_cases he : (cut r).2.2 = 0
   ·have he' : (((cut r).2.2 : Int) != 0) = false := by rw [he];rfl
    have HR := hide (show cutV (t :: r) = ⟨2,zag (cut r).1,[],(cut r).2.1 + 1,0⟩ from by simp [cutV,t0,t1,t2,he])
    clear t0 t1 t2 he
    go_enter Try.func64,Try.ntmps64
    go_wp2_with (first
     |(go_at_call 78;refine (vint_any _ _).mono ?_;rintro e w2 ⟨rfl,hb2⟩;obtain ⟨hc2,hf2⟩ := bcell hb2;have hz2 := bz hb2)
     |(go_at_call 77;refine (cutint_any A2 r (c - 1) _ (HRr.out.below (gr1 _ _)) hr2).mono ?_;rintro e w' ⟨rfl,rfl⟩))
    exact bodyPost_ret (v := .tuple #[.agg #[.int .i64 2, .int .i64 (zag (cut r).1), .string ⟨#[]⟩], .int .i64 (1 + ((cut r).2.1 : Int)), .int .i64 0]) (by simp [results,Try.results64,go_sem,hc2,hz2]) rfl (by rw [HR.out];exact cutOut_of (by simp;omega) (set3 (below_trans (gr1 _ _) hb2) _ _ _))
   ·have he' : (((cut r).2.2 : Int) != 0) = true := by rw [bne_iff_ne];omega
    have HR := hide (show cutV (t :: r) = ⟨0,0,[],0,(cut r).2.2⟩ from by simp [cutV,t0,t1,t2,he])
    clear t0 t1 t2 he
    go_enter Try.func64,Try.ntmps64
    go_wp2_with (go_at_call 77;refine (cutint_any A2 r (c - 1) _ (HRr.out.below (gr1 _ _)) hr2).mono ?_;rintro e w' ⟨rfl,rfl⟩)
    exact bodyPost_ret (v := .tuple #[.agg #[.int .i64 0, .int .i64 0, .string ⟨#[]⟩], .int .i64 0, .int .i64 (cut r).2.2]) (by simp [results,Try.results64,go_sem]) rfl (by rw [HR.out];exact cutOut_of (rfl) (gr1 _ _))
  by_cases t3 : t.toNat = 3
  ·rw [t3] at h0
   have hcm2 : c - 1 ≤ 9223372036854775807 := by unfold maxLen at hcm;omega
   have hn := cutText_n r
   by_cases he : (CutText r).2.2 = 0
   ·have he' : (((CutText r).2.2 : Int) != 0) = false := by rw [he];rfl
    by_cases hlong : 64 < (CutText r).1.length
    ·have HR := hide (show cutV (t :: r) = ⟨0,0,[],0,5⟩ from by simp [cutV,t0,t1,t2,t3,he,hlong])
     clear t0 t1 t2 t3 he
     go_enter Try.func64,Try.ntmps64
     go_wp2_with (first
      |(go_at_call 79;refine (vtext_no _ hlong _).mono ?_;rintro e w2 ⟨rfl,hb2⟩;obtain ⟨hc2,hf2⟩ := bcell hb2;have hz2 := bz hb2)
      |(go_at_call 63;refine (cuttext_any A2 r (c - 1) _ (HRr.out.below (gr1 _ _)) hr2 (by omega) hcm2).mono ?_;rintro e w' ⟨rfl,rfl⟩))
     exact bodyPost_ret (v := .tuple #[.agg #[.int .i64 0, .int .i64 0, .string ⟨#[]⟩], .int .i64 0, .int .i64 5]) (by simp [results,Try.results64,go_sem,hc2,hz2]) rfl (by rw [HR.out];exact cutOut_of (rfl) (set3a (below_trans (gr1 _ _) hb2) _ _ _ _))
    ·have hshort : (CutText r).1.length ≤ 64 := by omega
     have HR := hide (show cutV (t :: r) = ⟨3,0,(CutText r).1,(CutText r).2.1 + 1,0⟩ from by simp [cutV,t0,t1,t2,t3,he,hlong])
     clear t0 t1 t2 t3 he hlong
     go_enter Try.func64,Try.ntmps64
     go_wp2_with (first
      |(go_at_call 79;refine (vtext_yes _ hshort _).mono ?_;rintro e w2 ⟨rfl,hb2⟩;obtain ⟨hc2,hf2⟩ := bcell hb2;have hz2 := bz hb2)
      |(go_at_call 63;refine (cuttext_any A2 r (c - 1) _ (HRr.out.below (gr1 _ _)) hr2 (by omega) hcm2).mono ?_;rintro e w' ⟨rfl,rfl⟩))
     exact bodyPost_ret (v := .tuple #[.agg #[.int .i64 3, .int .i64 0, .string ⟨(CutText r).1.toArray⟩], .int .i64 (1 + ((CutText r).2.1 : Int)), .int .i64 0]) (by simp [results,Try.results64,go_sem,hc2,hz2]) rfl (by rw [HR.out];exact cutOut_of (by simp;omega) (set3a (below_trans (gr1 _ _) hb2) _ _ _ _))
   ·have he' : (((CutText r).2.2 : Int) != 0) = true := by rw [bne_iff_ne];omega
    have HR := hide (show cutV (t :: r) = ⟨0,0,[],0,(CutText r).2.2⟩ from by simp [cutV,t0,t1,t2,t3,he])
    clear t0 t1 t2 t3 he
    go_enter Try.func64,Try.ntmps64
    go_wp2_with (go_at_call 63;refine (cuttext_any A2 r (c - 1) _ (HRr.out.below (gr1 _ _)) hr2 (by omega) hcm2).mono ?_;rintro e w' ⟨rfl,rfl⟩)
    exact bodyPost_ret (v := .tuple #[.agg #[.int .i64 0, .int .i64 0, .string ⟨#[]⟩], .int .i64 0, .int .i64 (CutText r).2.2]) (by simp [results,Try.results64,go_sem]) rfl (by rw [HR.out];exact cutOut_of (rfl) (gr1 _ _))
  have e0 : ((t.toNat : Int) == 0) = false := nat_ne8 (k := 0) t0
  have e1 : ((t.toNat : Int) == 1) = false := nat_ne8 (k := 1) t1
  have e2 : ((t.toNat : Int) == 2) = false := nat_ne8 (k := 2) t2
  have e3 : ((t.toNat : Int) == 3) = false := nat_ne8 (k := 3) t3
  have HR := hide (show cutV (t :: r) = ⟨0,0,[],0,3⟩ from by simp [cutV,t0,t1,t2,t3])
  clear t0 t1 t2 t3
  go_enter Try.func64,Try.ntmps64
  go_wp2_with fail
  exact bodyPost_ret (v := .tuple #[.agg #[.int .i64 0, .int .i64 0, .string ⟨#[]⟩], .int .i64 0, .int .i64 3]) (by simp [results,Try.results64,go_sem]) rfl (by rw [HR.out];exact cutOut_of (rfl) (gr1 _ _))
end Go.Proofs.Ytchncgdjefbmfaa

namespace Go.Proofs.Ytchncgdjefbmfaa
open Go.RowKit
theorem rint7_any (n : Int) (w : World) : Calls Try.prog 82 #[.int .i64 n] w fun e w'=>e = .returned (.agg #[.int .i64 2, .int .i64 n, .string ⟨#[]⟩]) ∧ Below w.heap.size w w' := by
 go_enter Try.func82,Try.ntmps82
 go_wp2_with fail
 exact bodyPost_ret (v := .agg #[.int .i64 2, .int .i64 n, .string ⟨#[]⟩]) (by simp [results,Try.results82,go_sem]) rfl ⟨rfl,by first|exact gr1 _ _|exact gr2 _ _ _⟩
set_option maxHeartbeats 4000000 in
theorem rcutv_any (l : Bytes) (w : World) (hl : l.length ≤ 34359738368) :
  Calls Try.prog 68 #[.string ⟨l.toArray⟩] w (CutOut w (cutV l)) := by
 match l with
 |[] =>
  go_enter Try.func68,Try.ntmps68
  go_wp2_with fail
  exact bodyPost_ret (v := .tuple #[.agg #[.int .i64 0, .int .i64 0, .string ⟨#[]⟩], .int .i64 0, .int .i64 2]) (by simp [results,Try.results68,go_sem]) rfl ⟨rfl,gr1 _ _⟩
 |t :: r =>
  have hr2 : r.length ≤ 34359738368 := by simp at hl;omega
  have hcut : ∀ w,(Instr.slice 9 (.string ⟨(t :: r).toArray⟩) (some (.int .i64 1)) none none).run Try.prog w = .ok (.string ⟨r.toArray⟩) w := fun w=>run_strCutL Try.underlying9 (t :: r) 1 (by simp) 1 rfl w
  have hix : ∀ h,((⟨(t :: r).toArray⟩ : ByteArray)[0]'h) = t := fun _=>rfl
  by_cases t0 : t.toNat = 0
  ·have HR := hide (show cutV (t :: r) = ⟨0,0,[],1,0⟩ from by simp [cutV,t0])
   have t0i : (t.toNat : Int) = 0 := by omega
   clear t0
   go_enter Try.func68,Try.ntmps68
   go_wp2_with fail
   exact bodyPost_ret (v := .tuple #[.agg #[.int .i64 0, .int .i64 0, .string ⟨#[]⟩], .int .i64 1, .int .i64 0]) (by simp [results,Try.results68,go_sem]) rfl (by rw [HR.out];exact cutOut_of rfl (gr1 _ _))
  by_cases t1 : t.toNat = 1
  ·have t1i : (t.toNat : Int) = 1 := by omega
   match r with
   |[] =>
    have HR := hide (show cutV [t] = ⟨0,0,[],0,2⟩ from by simp [cutV,t1])
    clear t0 t1
    go_enter Try.func68,Try.ntmps68
    go_wp2_with fail
    exact bodyPost_ret (v := .tuple #[.agg #[.int .i64 0, .int .i64 0, .string ⟨#[]⟩], .int .i64 0, .int .i64 2]) (by simp [results,Try.results68,go_sem]) rfl (by rw [HR.out];exact cutOut_of (rfl) (gr1 _ _))
   |b1 :: r1 =>
    have hix1 : ∀ h,((⟨(t :: b1 :: r1).toArray⟩ : ByteArray)[1]'h) = b1 := fun _=>rfl
    have hlen : ¬ ((r1.length : Int) + 1 + 1 < 2) := by omega
    by_cases hb0 : b1.toNat = 0
    ·have HR := hide (show cutV (t :: b1 :: r1) = ⟨1,0,[],2,0⟩ from by simp [cutV,t1,hb0])
     have hbi : (b1.toNat : Int) = 0 := by omega
     clear t0 t1 hb0
     go_enter Try.func68,Try.ntmps68
     go_wp2_with (go_at_call 80;refine (rbool7_any false _).mono ?_;rintro e w2 ⟨rfl,hb2⟩;obtain ⟨hc2,hf2⟩ := bcell hb2;have hz2 := bz hb2)
     exact bodyPost_ret (v := .tuple #[.agg #[.int .i64 1, .int .i64 0, .string ⟨#[]⟩], .int .i64 2, .int .i64 0]) (by simp [results,Try.results68,go_sem,hc2,hz2]) rfl (by rw [HR.out];exact cutOut_of (rfl) (set3 (below_trans (gr1 _ _) hb2) _ _ _))
    by_cases hb1 : b1.toNat = 1
    ·have HR := hide (show cutV (t :: b1 :: r1) = ⟨1,1,[],2,0⟩ from by simp [cutV,t1,hb1])
     have hbi : (b1.toNat : Int) = 1 := by omega
     clear t0 t1 hb1
     go_enter Try.func68,Try.ntmps68
     go_wp2_with (go_at_call 80;refine (rbool7_any true _).mono ?_;rintro e w2 ⟨rfl,hb2⟩;obtain ⟨hc2,hf2⟩ := bcell hb2;have hz2 := bz hb2)
     exact bodyPost_ret (v := .tuple #[.agg #[.int .i64 1, .int .i64 1, .string ⟨#[]⟩], .int .i64 2, .int .i64 0]) (by simp [results,Try.results68,go_sem,hc2,hz2]) rfl (by rw [HR.out];exact cutOut_of (rfl) (set3 (below_trans (gr1 _ _) hb2) _ _ _))
    ·have hbi : (1 : Int) < b1.toNat := by omega
     have HR := hide (show cutV (t :: b1 :: r1) = ⟨0,0,[],0,3⟩ from by simp [cutV,t1];omega)
     clear t0 t1 hb0 hb1
     go_enter Try.func68,Try.ntmps68
     go_wp2_with fail
     exact bodyPost_ret (v := .tuple #[.agg #[.int .i64 0, .int .i64 0, .string ⟨#[]⟩], .int .i64 0, .int .i64 3]) (by simp [results,Try.results68,go_sem]) rfl (by rw [HR.out];exact cutOut_of (rfl) (gr1 _ _))
  by_cases t2 : t.toNat = 2
  ·have t2i : (t.toNat : Int) = 2 := by omega
   have hn := cut_n r
   by_cases he : (cut r).2.2 = 0
   ·have he' : (((cut r).2.2 : Int) != 0) = false := by rw [he];rfl
    have HR := hide (show cutV (t :: r) = ⟨2,zag (cut r).1,[],(cut r).2.1 + 1,0⟩ from by simp [cutV,t2,he])
    clear t0 t1 t2 he
    go_enter Try.func68,Try.ntmps68
    go_wp2_with (first
     |(go_at_call 82;refine (rint7_any _ _).mono ?_;rintro e w2 ⟨rfl,hb2⟩;obtain ⟨hc2,hf2⟩ := bcell hb2;have hz2 := bz hb2)
     |(go_at_call 81;refine (rcutint_any r _ hr2).mono ?_;rintro e w' ⟨rfl,rfl⟩))
    exact bodyPost_ret (v := .tuple #[.agg #[.int .i64 2, .int .i64 (zag (cut r).1), .string ⟨#[]⟩], .int .i64 (((cut r).2.1 : Int) + 1), .int .i64 0]) (by simp [results,Try.results68,go_sem,hc2,hz2]) rfl (by rw [HR.out];exact cutOut_of (by simp) (set3 (below_trans (gr1 _ _) hb2) _ _ _))
   ·have he' : (((cut r).2.2 : Int) != 0) = true := by rw [bne_iff_ne];omega
    have HR := hide (show cutV (t :: r) = ⟨0,0,[],0,(cut r).2.2⟩ from by simp [cutV,t2,he])
    clear t0 t1 t2 he
    go_enter Try.func68,Try.ntmps68
    go_wp2_with (go_at_call 81;refine (rcutint_any r _ hr2).mono ?_;rintro e w' ⟨rfl,rfl⟩)
    exact bodyPost_ret (v := .tuple #[.agg #[.int .i64 0, .int .i64 0, .string ⟨#[]⟩], .int .i64 0, .int .i64 (cut r).2.2]) (by simp [results,Try.results68,go_sem]) rfl (by rw [HR.out];exact cutOut_of (rfl) (gr1 _ _))
  by_cases t3 : t.toNat = 3
  ·have t3i : (t.toNat : Int) = 3 := by omega
   have hn := cutText_n r
   by_cases he : (CutText r).2.2 = 0
   ·have hei : ((CutText r).2.2 : Int) = 0 := by omega
    by_cases hlong : 64 < (CutText r).1.length
    ·have hli : (64 : Int) < ((CutText r).1.length : Int) := by omega
     have HR := hide (show cutV (t :: r) = ⟨0,0,[],0,5⟩ from by simp [cutV,t3,he,hlong])
     clear t0 t1 t2 t3 he hlong
     go_enter Try.func68,Try.ntmps68
     go_wp2_with (go_at_call 67;refine (rcuttext_any r _ hr2).mono ?_;rintro e w' ⟨rfl,rfl⟩)
     exact bodyPost_ret (v := .tuple #[.agg #[.int .i64 0, .int .i64 0, .string ⟨#[]⟩], .int .i64 0, .int .i64 5]) (by simp [results,Try.results68,go_sem]) rfl (by rw [HR.out];exact cutOut_of (rfl) (gr1 _ _))
    ·have hli : ¬ (64 : Int) < ((CutText r).1.length : Int) := by omega
     have HR := hide (show cutV (t :: r) = ⟨3,0,(CutText r).1,(CutText r).2.1 + 1,0⟩ from by simp [cutV,t3,he,hlong])
     clear t0 t1 t2 t3 he hlong
     go_enter Try.func68,Try.ntmps68
     go_wp2_with (go_at_call 67;refine (rcuttext_any r _ hr2).mono ?_;rintro e w' ⟨rfl,rfl⟩)
     exact bodyPost_ret (v := .tuple #[.agg #[.int .i64 3, .int .i64 0, .string ⟨(CutText r).1.toArray⟩], .int .i64 (((CutText r).2.1 : Int) + 1), .int .i64 0]) (by simp [results,Try.results68,go_sem]) rfl (by rw [HR.out];exact cutOut_of (by simp) (gr1 _ _))
   ·have he0 : (((CutText r).2.2 : Int) == 0) = false := nat_ne8 (k := 0) he
    have he' : (((CutText r).2.2 : Int) != 0) = true := by rw [bne_iff_ne];omega
    have HR := hide (show cutV (t :: r) = ⟨0,0,[],0,(CutText r).2.2⟩ from by simp [cutV,t3,he])
    clear t0 t1 t2 t3 he
    go_enter Try.func68,Try.ntmps68
    go_wp2_with (go_at_call 67;refine (rcuttext_any r _ hr2).mono ?_;rintro e w' ⟨rfl,rfl⟩)
    exact bodyPost_ret (v := .tuple #[.agg #[.int .i64 0, .int .i64 0, .string ⟨#[]⟩], .int .i64 0, .int .i64 (CutText r).2.2]) (by simp [results,Try.results68,go_sem]) rfl (by rw [HR.out];exact cutOut_of (rfl) (gr1 _ _))
  have tgi : (3 : Int) < (t.toNat : Int) := by omega
  have HR := hide (show cutV (t :: r) = ⟨0,0,[],0,3⟩ from by simp [cutV,t0,t1,t2,t3])
  clear t0 t1 t2 t3
  go_enter Try.func68,Try.ntmps68
  go_wp2_with fail
  exact bodyPost_ret (v := .tuple #[.agg #[.int .i64 0, .int .i64 0, .string ⟨#[]⟩], .int .i64 0, .int .i64 3]) (by simp [results,Try.results68,go_sem]) rfl (by rw [HR.out];exact cutOut_of (rfl) (gr1 _ _))
end Go.Proofs.Ytchncgdjefbmfaa

namespace Go.Proofs.Ytchncgdjefbmfaa
open Go.RowKit
def valX (k i : Int) (s : Bytes) : AV := .agg [nA k,nA i,sA s]
def cutVX (l : Bytes) : AV := TU [valX (cutV l).kind (cutV l).i (cutV l).s,nA (cutV l).n,nA (cutV l).e]
theorem rep_cutv (S : SS) (k i : Int) (s : Bytes) (a b : Int) : rep S [] (TU [valX k i s,nA a,nA b]) (.tuple #[.agg #[.int .i64 k, .int .i64 i, .string ⟨s.toArray⟩], .int .i64 a, .int .i64 b]) := by
 refine ⟨[.agg #[.int .i64 k, .int .i64 i, .string ⟨s.toArray⟩], .int .i64 a, .int .i64 b],rfl,rfl,fun j d u hd hu=>?_⟩
 match j with
 |0 =>
  cases hd;cases hu
  refine ⟨[.int .i64 k, .int .i64 i, .string ⟨s.toArray⟩],rfl,rfl,fun j d u hd hu=>?_⟩
  match j with
  |0=>cases hd;cases hu;exact ⟨rfl,rfl,rfl⟩
  |1=>cases hd;cases hu;exact ⟨rfl,rfl,rfl⟩
  |2=>cases hd;cases hu;exact ⟨rfl,rfl,rfl⟩
  |n + 3=>cases hd
 |1=>cases hd;cases hu;exact ⟨rfl,rfl⟩
 |2=>cases hd;cases hu;exact ⟨rfl,rfl⟩
 |n + 3=>cases hd
theorem cutv_acp (l : Bytes) (hl : l.length ≤ 34359738368) : ACp Try.prog GG 64 [SL (bC l)] (cutVX l) := by
 refine acp_of_tells (by kernel_rfl) fun w S vs hr hg hv hrep=>?_
 obtain ⟨v0,rfl⟩ : ∃ v,vs = [v] := by
  match vs,hv with
  |[v],_=>exact ⟨v,rfl⟩
 obtain ⟨A,c,rfl,h1,h2,h3⟩ := bs_of hr (hrep 0 _ _ rfl rfl)
 refine (cutv_any A l c w h3 hl h1 h2).mono ?_
 rintro e w' ⟨rfl,hb⟩
 exact ⟨_,rfl,hb,rep_cutv S _ _ _ _ _⟩
theorem rcutv_acp (l : Bytes) (hl : l.length ≤ 34359738368) : ACp Try.prog GG 68 [sA l] (cutVX l) := by
 refine acp_of_tells (by kernel_rfl) fun w S vs hr hg hv hrep=>?_
 obtain ⟨v0,rfl⟩ : ∃ v,vs = [v] := by
  match vs,hv with
  |[v],_=>exact ⟨v,rfl⟩
 obtain ⟨rfl,_⟩ := hrep 0 _ _ rfl rfl
 refine (rcutv_any l w hl).mono ?_
 rintro e w' ⟨rfl,hb⟩
 exact ⟨_,rfl,hb,rep_cutv S _ _ _ _ _⟩
noncomputable def value_Cut_t (m : Nat) : List AV → RO := orac (ι := Bytes) (fun l=>[SL (bC l)]) cutVX (fun l=>l.length ≤ 34359738368)
theorem value_Cut_ok (m : Nat) : ∀ args X H',value_Cut_t m args = some (X,H') → ACp Try.prog GG 64 args X := orac_ok cutv_acp
theorem value_Cut_e (m : Nat) (l : Bytes) (hl : l.length ≤ 34359738368) : value_Cut_t m [SL (bC l)] = some (cutVX l,[]) := orac_eq (ι := Bytes) (fun a b h=>by rw [SLb_inj h]) (i := l) hl
noncomputable def plenumref07_Cut_t (m : Nat) : List AV → RO := orac (ι := Bytes) (fun l=>[sA l]) cutVX (fun l=>l.length ≤ 34359738368)
theorem plenumref07_Cut_ok (m : Nat) : ∀ args X H',plenumref07_Cut_t m args = some (X,H') → ACp Try.prog GG 68 args X := orac_ok rcutv_acp
theorem plenumref07_Cut_e (m : Nat) (l : Bytes) (hl : l.length ≤ 34359738368) : plenumref07_Cut_t m [sA l] = some (cutVX l,[]) := orac_eq (ι := Bytes) (fun a b h=>by rw [sAs_inj h]) (i := l) hl
end Go.Proofs.Ytchncgdjefbmfaa

namespace Go.Proofs.Ytchncgdjefbmfaa
open Go.RowKit
def ty_uint64 : TypeId := 79
def ty_varint_Reader : TypeId := 101
def zc_varint_Reader : List AV := [(V (.slice none 0 0)),(V (.int .i64 0)),(V (.int .i64 0))]
def pl_varint_Reader : List (Nat × Nat) := [(0,1),(1,1),(2,1)]
noncomputable def varint_Reader_rest_c : Code := (Try.f73.body).getD .skip
def varint_Reader_rest_h : Hint := (.two .n (.two (.two .n (.two (.two .n .n) .n)) (.two .n .n)))
noncomputable def varint_Reader_rest_env (m : Nat) : Env := []
noncomputable abbrev varint_Reader_rest_fin (n0 : Nat) : KO (AV × List AObj) := keepFK Try.prog n0 [.tmp 2]
noncomputable def varint_Reader_rest (m : Nat) (t0 : AV) (H : List AObj) : RO := exec Try.prog GG (varint_Reader_rest_env m) m ⟨17,[]⟩ varint_Reader_rest_c varint_Reader_rest_h ⟨H,argsT 0 [t0]⟩ (varint_Reader_rest_fin H.length)
theorem varint_Reader_rest_eq (m : Nat) (t0 : AV) (H : List AObj) : varint_Reader_rest m t0 H =
 nilE t0 fun t4 =>
 fieldE (some (2,1)) t4 fun t5 =>
 loadE 1 H t5 fun t6 =>
 binE none false false .neq t6 (V (.int .i64 0)) fun t7 =>
 condE t7 (
  keepK H.length H (ro H (V (.slice none 0 0)))) (
  nilE t0 fun t9 =>
  fieldE (some (0,1)) t9 fun t10 =>
  loadE 1 H t10 fun t11 =>
  nilE t0 fun t13 =>
  fieldE (some (1,1)) t13 fun t14 =>
  loadE 1 H t14 fun t15 =>
  sliceE false (some (ty_uint8,1)) H t11 (some t15) none fun t16 =>
  keepK H.length H (ro H t16)) := by
 refine (keepX Try.prog GG (varint_Reader_rest_env m) m ⟨17,[]⟩ H.length varint_Reader_rest_c varint_Reader_rest_h ⟨H,argsT 0 [t0]⟩ [.tmp 2]).trans ?_
 kernel_rfl
noncomputable def varint_Reader_rest_t (m : Nat) : List AV → List AObj → RO|[t0],H=>varint_Reader_rest m t0 H|_,_=>none
theorem varint_Reader_rest_ok (m : Nat) : ∀ args H X H',varint_Reader_rest_t m args H = some (X,H') → AC Try.prog GG 73 args H (Is X H') := by
 intro args H X H' h
 unfold varint_Reader_rest_t at h
 split at h
 ·exact keep_okK MIX (by intro f e h;cases h) (f := 73) (c := varint_Reader_rest_c) Try.func73 rfl (by kernel_rfl) _ rfl Try.ntmps73 (Nat.le_of_ble_eq_true rfl) varint_Reader_rest_h h
 ·cases h
noncomputable def varint_Reader_Fail_c : Code := (Try.f74.body).getD .skip
def varint_Reader_Fail_h : Hint := (.two .n (.two .n .n))
noncomputable def varint_Reader_Fail_env (m : Nat) : Env := []
noncomputable abbrev varint_Reader_Fail_fin (n0 : Nat) : KO (AV × List AObj) := keepFK Try.prog n0 []
noncomputable def varint_Reader_Fail (m : Nat) (t0 t1 : AV) (H : List AObj) : RO := exec Try.prog GG (varint_Reader_Fail_env m) m ⟨13,[]⟩ varint_Reader_Fail_c varint_Reader_Fail_h ⟨H,argsT 0 [t0,t1]⟩ (varint_Reader_Fail_fin H.length)
theorem varint_Reader_Fail_eq (m : Nat) (t0 t1 : AV) (H : List AObj) : varint_Reader_Fail m t0 t1 H =
 nilE t0 fun t5 =>
 fieldE (some (2,1)) t5 fun t6 =>
 loadE 1 H t6 fun t7 =>
 binE none false false .eql t7 (V (.int .i64 0)) fun t8 =>
 condE t8 (
  nilE t0 fun t11 =>
  fieldE (some (2,1)) t11 fun t12 =>
  storeE 1 H t12 t1 fun H2 =>
  keepK H.length H2 (ro H2 (TU []))) (
  keepK H.length H (ro H (TU []))) := by
 refine (keepX Try.prog GG (varint_Reader_Fail_env m) m ⟨13,[]⟩ H.length varint_Reader_Fail_c varint_Reader_Fail_h ⟨H,argsT 0 [t0,t1]⟩ []).trans ?_
 kernel_rfl
noncomputable def varint_Reader_Fail_t (m : Nat) : List AV → List AObj → RO|[t0,t1],H=>varint_Reader_Fail m t0 t1 H|_,_=>none
theorem varint_Reader_Fail_ok (m : Nat) : ∀ args H X H',varint_Reader_Fail_t m args H = some (X,H') → AC Try.prog GG 74 args H (Is X H') := by
 intro args H X H' h
 unfold varint_Reader_Fail_t at h
 split at h
 ·exact keep_okK MIX (by intro f e h;cases h) (f := 74) (c := varint_Reader_Fail_c) Try.func74 rfl (by kernel_rfl) _ rfl Try.ntmps74 (Nat.le_of_ble_eq_true rfl) varint_Reader_Fail_h h
 ·cases h
noncomputable def varint_Reader_Num_1_c : Code := (Try.f60.body).getD .skip
def varint_Reader_Num_1_h : Hint := (.two .n (.two .n (.join [6,7,8] (.join [6,7,8,21] .n (.two .n .n)) (.two .n .n))))
noncomputable def varint_Reader_Num_1_env (m : Nat) : Env := [(61, .tell (varint_Cut_t m))]
noncomputable abbrev varint_Reader_Num_1_fin (n0 : Nat) : KO (AV × List AObj) := keepFK Try.prog n0 [.tmp 3, .tmp 4, .tmp 5]
noncomputable def varint_Reader_Num_1_r2 (m : Nat) (n0k : Nat) (s : ASt) : RO := joinW Try.prog GG (varint_Reader_Num_1_env m) m ⟨25,[]⟩ (cdR (cdR (cdR varint_Reader_Num_1_c))) varint_Reader_Num_1_h.r.r.r s (varint_Reader_Num_1_fin n0k)
noncomputable def varint_Reader_Num_1_r1 (m : Nat) (n0k : Nat) (s : ASt) : RO := joinW Try.prog GG (varint_Reader_Num_1_env m) m ⟨25,[]⟩ (cdR (cdL (cdR (cdR varint_Reader_Num_1_c)))) varint_Reader_Num_1_h.r.r.l.r s (seqX (fun s=>varint_Reader_Num_1_r2 m n0k ⟨s.H,[(6,gt s.T 6),(7,gt s.T 7),(8,gt s.T 8)]⟩) (varint_Reader_Num_1_fin n0k))
noncomputable def varint_Reader_Num_1 (m : Nat) (t0 t1 : AV) (H : List AObj) : RO := exec Try.prog GG (varint_Reader_Num_1_env m) m ⟨25,[]⟩ varint_Reader_Num_1_c varint_Reader_Num_1_h ⟨H,argsT 0 [t0,t1]⟩ (varint_Reader_Num_1_fin H.length)
theorem varint_Reader_Num_1_r2_eq (m : Nat) (n0k : Nat) (H : List AObj) (t6 t7 t8 : AV) : varint_Reader_Num_1_r2 m n0k ⟨H,[(6,t6),(7,t7),(8,t8)]⟩ =
 keepK n0k H (ro H (TU [noT t6,noT t7,noT t8])) := by
 refine (joinW_eq _ _ _ _ _ _ _ _ _).trans ?_
 kernel_rfl
theorem varint_Reader_Num_1_r1_eq (m : Nat) (n0k : Nat) (H : List AObj) (t6 t7 t8 t21 : AV) : varint_Reader_Num_1_r1 m n0k ⟨H,[(6,t6),(7,t7),(8,t8),(21,t21)]⟩ =
 condE t21 (
  varint_Reader_Num_1_r2 m n0k ⟨H,[(6,t6),(7,t7),(8,(V (.int .i64 8)))]⟩) (
  varint_Reader_Num_1_r2 m n0k ⟨H,[(6,t6),(7,t7),(8,t8)]⟩) := by
 refine (joinW_eq _ _ _ _ _ _ _ _ _).trans ?_
 kernel_rfl
theorem varint_Reader_Num_1_eq (m : Nat) (t0 t1 : AV) (H : List AObj) : varint_Reader_Num_1 m t0 t1 H =
 tellE (varint_Cut_t m [(ro H t0)]) [(ro H t0)] fun t11 =>
 extE t11 0 fun t12 =>
 extE t11 1 fun t13 =>
 extE t11 2 fun t14 =>
 binE none false false .eql t14 (V (.int .i64 0)) fun t16 =>
 condE t16 (
  loadE 1 H t1 fun t19 =>
  binE none false false .gtr t12 t19 fun t20 =>
  varint_Reader_Num_1_r1 m H.length ⟨H,[(6,t12),(7,t13),(8,t14),(21,t20)]⟩) (
  varint_Reader_Num_1_r1 m H.length ⟨H,[(6,t12),(7,t13),(8,t14),(21,(V (.bool false)))]⟩) := by
 refine (keepX Try.prog GG (varint_Reader_Num_1_env m) m ⟨25,[]⟩ H.length varint_Reader_Num_1_c varint_Reader_Num_1_h ⟨H,argsT 0 [t0,t1]⟩ [.tmp 3, .tmp 4, .tmp 5]).trans ?_
 kernel_rfl
noncomputable def varint_Reader_Num_1_t (m : Nat) : List AV → List AObj → RO|[t0,t1],H=>varint_Reader_Num_1 m t0 t1 H|_,_=>none
theorem varint_Reader_Num_1_ok (m : Nat) : ∀ args H X H',varint_Reader_Num_1_t m args H = some (X,H') → AC Try.prog GG 60 args H (Is X H') := by
 intro args H X H' h
 unfold varint_Reader_Num_1_t at h
 split at h
 ·exact keep_okK MIX (by
  intro f e h
  simp only [varint_Reader_Num_1_env,Prod.mk.injEq,List.mem_cons,List.not_mem_nil,or_false] at h
  obtain ⟨rfl,rfl⟩ := h
  ·exact varint_Cut_ok m) (f := 60) (c := varint_Reader_Num_1_c) Try.func60 rfl (by kernel_rfl) _ rfl Try.ntmps60 (Nat.le_of_ble_eq_true rfl) varint_Reader_Num_1_h h
 ·cases h
noncomputable def varint_step_uint64_c : Code := (Try.f59.body).getD .skip
def varint_step_uint64_h : Hint := (.two .n (.two .n (.two (.two .n (.two (.two .n .n) .n)) (.two .n (.two (.two .n (.two (.two .n (.two .n .n)) .n)) (.two .n (.two .n .n)))))))
noncomputable def varint_step_uint64_env (m : Nat) : Env := [(73, .keep (varint_Reader_rest_t m)),(74, .keep (varint_Reader_Fail_t m)),(60, .keep (varint_Reader_Num_1_t m))]
noncomputable abbrev varint_step_uint64_fin (n0 : Nat) : KO (AV × List AObj) := keepFK Try.prog n0 [.tmp 4]
noncomputable def varint_step_uint64 (m : Nat) (t0 t1 : AV) (H : List AObj) : RO := exec Try.prog GG (varint_step_uint64_env m) m ⟨38,[]⟩ varint_step_uint64_c varint_step_uint64_h ⟨H,argsT 0 [t0,t1]⟩ (varint_step_uint64_fin H.length)
theorem varint_step_uint64_eq (m : Nat) (t0 t1 : AV) (H : List AObj) : varint_step_uint64 m t0 t1 H =
 nilE t0 fun t10 =>
 fieldE (some (2,1)) t10 fun t11 =>
 loadE 1 H t11 fun t12 =>
 binE none false false .neq t12 (V (.int .i64 0)) fun t13 =>
 condE t13 (
  keepK H.length H (ro H (V (.int .u64 0)))) (
  keepE (varint_Reader_rest m (ro H t0) H) fun t18 H2 =>
  callVE (varint_step_uint64_env m) t1 [t18] H2 fun t19 H3 =>
  extE t19 0 fun t20 =>
  extE t19 1 fun t21 =>
  extE t19 2 fun t22 =>
  binE none false false .neq t22 (V (.int .i64 0)) fun t24 =>
  condE t24 (
   keepE (varint_Reader_Fail m (ro H3 t0) (ro H3 t22) H3) fun t27 H4 =>
   keepK H.length H4 (ro H4 (V (.int .u64 0)))) (
   nilE t0 fun t30 =>
   fieldE (some (1,1)) t30 fun t31 =>
   loadE 1 H3 t31 fun t32 =>
   binE none false false .add t32 t21 fun t34 =>
   nilE t0 fun t35 =>
   fieldE (some (1,1)) t35 fun t36 =>
   storeE 1 H3 t36 t34 fun H4 =>
   keepK H.length H4 (ro H4 t20))) := by
 refine (keepX Try.prog GG (varint_step_uint64_env m) m ⟨38,[]⟩ H.length varint_step_uint64_c varint_step_uint64_h ⟨H,argsT 0 [t0,t1]⟩ [.tmp 4]).trans ?_
 kernel_rfl
noncomputable def varint_step_uint64_t (m : Nat) : List AV → List AObj → RO|[t0,t1],H=>varint_step_uint64 m t0 t1 H|_,_=>none
theorem varint_step_uint64_ok (m : Nat) : ∀ args H X H',varint_step_uint64_t m args H = some (X,H') → AC Try.prog GG 59 args H (Is X H') := by
 intro args H X H' h
 unfold varint_step_uint64_t at h
 split at h
 ·exact keep_okK MIX (by
  intro f e h
  simp only [varint_step_uint64_env,Prod.mk.injEq,List.mem_cons,List.not_mem_nil,or_false] at h
  rcases h with ⟨rfl,rfl⟩|⟨rfl,rfl⟩|⟨rfl,rfl⟩
  ·exact varint_Reader_rest_ok m
  ·exact varint_Reader_Fail_ok m
  ·exact varint_Reader_Num_1_ok m) (f := 59) (c := varint_step_uint64_c) Try.func59 rfl (by kernel_rfl) _ rfl Try.ntmps59 (Nat.le_of_ble_eq_true rfl) varint_step_uint64_h h
 ·cases h
noncomputable def varint_step_string_c : Code := (Try.f62.body).getD .skip
def varint_step_string_h : Hint := (.two .n (.two .n (.two (.two .n (.two (.two .n .n) .n)) (.two .n (.two (.two .n (.two (.two .n (.two .n .n)) .n)) (.two .n (.two .n .n)))))))
noncomputable def varint_step_string_env (m : Nat) : Env := [(73, .keep (varint_Reader_rest_t m)),(74, .keep (varint_Reader_Fail_t m)),(63, .tell (varint_CutText_t m))]
noncomputable abbrev varint_step_string_fin (n0 : Nat) : KO (AV × List AObj) := keepFK Try.prog n0 [.tmp 4]
noncomputable def varint_step_string (m : Nat) (t0 t1 : AV) (H : List AObj) : RO := exec Try.prog GG (varint_step_string_env m) m ⟨38,[]⟩ varint_step_string_c varint_step_string_h ⟨H,argsT 0 [t0,t1]⟩ (varint_step_string_fin H.length)
theorem varint_step_string_eq (m : Nat) (t0 t1 : AV) (H : List AObj) : varint_step_string m t0 t1 H =
 nilE t0 fun t10 =>
 fieldE (some (2,1)) t10 fun t11 =>
 loadE 1 H t11 fun t12 =>
 binE none false false .neq t12 (V (.int .i64 0)) fun t13 =>
 condE t13 (
  keepK H.length H (ro H (V (.string ⟨#[]⟩)))) (
  keepE (varint_Reader_rest m (ro H t0) H) fun t18 H2 =>
  callVE (varint_step_string_env m) t1 [t18] H2 fun t19 H3 =>
  extE t19 0 fun t20 =>
  extE t19 1 fun t21 =>
  extE t19 2 fun t22 =>
  binE none false false .neq t22 (V (.int .i64 0)) fun t24 =>
  condE t24 (
   keepE (varint_Reader_Fail m (ro H3 t0) (ro H3 t22) H3) fun t27 H4 =>
   keepK H.length H4 (ro H4 (V (.string ⟨#[]⟩)))) (
   nilE t0 fun t30 =>
   fieldE (some (1,1)) t30 fun t31 =>
   loadE 1 H3 t31 fun t32 =>
   binE none false false .add t32 t21 fun t34 =>
   nilE t0 fun t35 =>
   fieldE (some (1,1)) t35 fun t36 =>
   storeE 1 H3 t36 t34 fun H4 =>
   keepK H.length H4 (ro H4 t20))) := by
 refine (keepX Try.prog GG (varint_step_string_env m) m ⟨38,[]⟩ H.length varint_step_string_c varint_step_string_h ⟨H,argsT 0 [t0,t1]⟩ [.tmp 4]).trans ?_
 kernel_rfl
noncomputable def varint_step_string_t (m : Nat) : List AV → List AObj → RO|[t0,t1],H=>varint_step_string m t0 t1 H|_,_=>none
theorem varint_step_string_ok (m : Nat) : ∀ args H X H',varint_step_string_t m args H = some (X,H') → AC Try.prog GG 62 args H (Is X H') := by
 intro args H X H' h
 unfold varint_step_string_t at h
 split at h
 ·exact keep_okK MIX (by
  intro f e h
  simp only [varint_step_string_env,Prod.mk.injEq,List.mem_cons,List.not_mem_nil,or_false] at h
  rcases h with ⟨rfl,rfl⟩|⟨rfl,rfl⟩|⟨rfl,rfl⟩
  ·exact varint_Reader_rest_ok m
  ·exact varint_Reader_Fail_ok m
  ·exact varint_CutText_ok m) (f := 62) (c := varint_step_string_c) Try.func62 rfl (by kernel_rfl) _ rfl Try.ntmps62 (Nat.le_of_ble_eq_true rfl) varint_step_string_h h
 ·cases h
noncomputable def varint_Reader_Num_c : Code := (Try.f41.body).getD .skip
def varint_Reader_Num_h : Hint := (.two .n (.two .n .n))
noncomputable def varint_Reader_Num_env (m : Nat) : Env := [(59, .keep (varint_step_uint64_t m))]
noncomputable abbrev varint_Reader_Num_fin (n0 : Nat) : KO (AV × List AObj) := keepFK Try.prog n0 [.tmp 4]
noncomputable def varint_Reader_Num (m : Nat) (t0 t1 : AV) (H : List AObj) : RO := exec Try.prog GG (varint_Reader_Num_env m) m ⟨8,[]⟩ varint_Reader_Num_c varint_Reader_Num_h ⟨H,argsT 0 [t0,t1]⟩ (varint_Reader_Num_fin H.length)
theorem varint_Reader_Num_eq (m : Nat) (t0 t1 : AV) (H : List AObj) : varint_Reader_Num m t0 t1 H =
 boxE ty_uint64 H t1 fun t3 H2 =>
 whenE (([t3] : List AV).all cap0) (
 keepE (varint_step_uint64 m (ro H2 t0) (ro H2 (CL (.func 60) 0 [t3])) H2) fun t7 H3 =>
 keepK H.length H3 (ro H3 t7)) := by
 refine (keepX Try.prog GG (varint_Reader_Num_env m) m ⟨8,[]⟩ H.length varint_Reader_Num_c varint_Reader_Num_h ⟨H,argsT 0 [t0,t1]⟩ [.tmp 4]).trans ?_
 kernel_rfl
noncomputable def varint_Reader_Num_t (m : Nat) : List AV → List AObj → RO|[t0,t1],H=>varint_Reader_Num m t0 t1 H|_,_=>none
theorem varint_Reader_Num_ok (m : Nat) : ∀ args H X H',varint_Reader_Num_t m args H = some (X,H') → AC Try.prog GG 41 args H (Is X H') := by
 intro args H X H' h
 unfold varint_Reader_Num_t at h
 split at h
 ·exact keep_okK MIX (by
  intro f e h
  simp only [varint_Reader_Num_env,Prod.mk.injEq,List.mem_cons,List.not_mem_nil,or_false] at h
  obtain ⟨rfl,rfl⟩ := h
  ·exact varint_step_uint64_ok m) (f := 41) (c := varint_Reader_Num_c) Try.func41 rfl (by kernel_rfl) _ rfl Try.ntmps41 (Nat.le_of_ble_eq_true rfl) varint_Reader_Num_h h
 ·cases h
noncomputable def varint_Reader_Text_c : Code := (Try.f42.body).getD .skip
def varint_Reader_Text_h : Hint := (.two .n (.two .n .n))
noncomputable def varint_Reader_Text_env (m : Nat) : Env := [(62, .keep (varint_step_string_t m))]
noncomputable abbrev varint_Reader_Text_fin (n0 : Nat) : KO (AV × List AObj) := keepFK Try.prog n0 [.tmp 2]
noncomputable def varint_Reader_Text (m : Nat) (t0 : AV) (H : List AObj) : RO := exec Try.prog GG (varint_Reader_Text_env m) m ⟨5,[]⟩ varint_Reader_Text_c varint_Reader_Text_h ⟨H,argsT 0 [t0]⟩ (varint_Reader_Text_fin H.length)
theorem varint_Reader_Text_eq (m : Nat) (t0 : AV) (H : List AObj) : varint_Reader_Text m t0 H =
 keepE (varint_step_string m (ro H t0) (ro H (V (.func (.func 63) #[] #[]))) H) fun t4 H2 =>
 keepK H.length H2 (ro H2 t4) := by
 refine (keepX Try.prog GG (varint_Reader_Text_env m) m ⟨5,[]⟩ H.length varint_Reader_Text_c varint_Reader_Text_h ⟨H,argsT 0 [t0]⟩ [.tmp 2]).trans ?_
 kernel_rfl
noncomputable def varint_Reader_Text_t (m : Nat) : List AV → List AObj → RO|[t0],H=>varint_Reader_Text m t0 H|_,_=>none
theorem varint_Reader_Text_ok (m : Nat) : ∀ args H X H',varint_Reader_Text_t m args H = some (X,H') → AC Try.prog GG 42 args H (Is X H') := by
 intro args H X H' h
 unfold varint_Reader_Text_t at h
 split at h
 ·exact keep_okK MIX (by
  intro f e h
  simp only [varint_Reader_Text_env,Prod.mk.injEq,List.mem_cons,List.not_mem_nil,or_false] at h
  obtain ⟨rfl,rfl⟩ := h
  ·exact varint_step_string_ok m) (f := 42) (c := varint_Reader_Text_c) Try.func42 rfl (by kernel_rfl) _ rfl Try.ntmps42 (Nat.le_of_ble_eq_true rfl) varint_Reader_Text_h h
 ·cases h
noncomputable def varint_Reader_Err_c : Code := (Try.f43.body).getD .skip
def varint_Reader_Err_h : Hint := (.two .n (.two (.two .n (.two (.two .n .n) .n)) (.two .n .n)))
noncomputable def varint_Reader_Err_env (m : Nat) : Env := []
noncomputable abbrev varint_Reader_Err_fin (n0 : Nat) : KO (AV × List AObj) := keepFK Try.prog n0 [.tmp 2, .tmp 3]
noncomputable def varint_Reader_Err (m : Nat) (t0 : AV) (H : List AObj) : RO := exec Try.prog GG (varint_Reader_Err_env m) m ⟨17,[]⟩ varint_Reader_Err_c varint_Reader_Err_h ⟨H,argsT 0 [t0]⟩ (varint_Reader_Err_fin H.length)
theorem varint_Reader_Err_eq (m : Nat) (t0 : AV) (H : List AObj) : varint_Reader_Err m t0 H =
 nilE t0 fun t5 =>
 fieldE (some (2,1)) t5 fun t6 =>
 loadE 1 H t6 fun t7 =>
 binE none false false .eql t7 (V (.int .i64 0)) fun t8 =>
 condE t8 (
  keepK H.length H (ro H (TU [noT (V (.int .i64 0)),noT (V (.int .i64 0))]))) (
  nilE t0 fun t10 =>
  fieldE (some (2,1)) t10 fun t11 =>
  loadE 1 H t11 fun t12 =>
  nilE t0 fun t14 =>
  fieldE (some (1,1)) t14 fun t15 =>
  loadE 1 H t15 fun t16 =>
  keepK H.length H (ro H (TU [noT t12,noT t16]))) := by
 refine (keepX Try.prog GG (varint_Reader_Err_env m) m ⟨17,[]⟩ H.length varint_Reader_Err_c varint_Reader_Err_h ⟨H,argsT 0 [t0]⟩ [.tmp 2, .tmp 3]).trans ?_
 kernel_rfl
noncomputable def varint_Reader_Err_t (m : Nat) : List AV → List AObj → RO|[t0],H=>varint_Reader_Err m t0 H|_,_=>none
theorem varint_Reader_Err_ok (m : Nat) : ∀ args H X H',varint_Reader_Err_t m args H = some (X,H') → AC Try.prog GG 43 args H (Is X H') := by
 intro args H X H' h
 unfold varint_Reader_Err_t at h
 split at h
 ·exact keep_okK MIX (by intro f e h;cases h) (f := 43) (c := varint_Reader_Err_c) Try.func43 rfl (by kernel_rfl) _ rfl Try.ntmps43 (Nat.le_of_ble_eq_true rfl) varint_Reader_Err_h h
 ·cases h
noncomputable def varint_Reader_End_c : Code := (Try.f45.body).getD .skip
def varint_Reader_End_h : Hint := (.two .n (.join [0] (.join [0,20] .n (.two (.two .n .n) .n)) (.two .n .n)))
noncomputable def varint_Reader_End_env (m : Nat) : Env := [(43, .keep (varint_Reader_Err_t m))]
noncomputable abbrev varint_Reader_End_fin (n0 : Nat) : KO (AV × List AObj) := keepFK Try.prog n0 [.tmp 2, .tmp 3]
noncomputable def varint_Reader_End_r2 (m : Nat) (n0k : Nat) (s : ASt) : RO := joinW Try.prog GG (varint_Reader_End_env m) m ⟨29,[]⟩ (cdR (cdR varint_Reader_End_c)) varint_Reader_End_h.r.r s (varint_Reader_End_fin n0k)
noncomputable def varint_Reader_End_r1 (m : Nat) (n0k : Nat) (s : ASt) : RO := joinW Try.prog GG (varint_Reader_End_env m) m ⟨29,[]⟩ (cdR (cdL (cdR varint_Reader_End_c))) varint_Reader_End_h.r.l.r s (seqX (fun s=>varint_Reader_End_r2 m n0k ⟨s.H,[(0,gt s.T 0)]⟩) (varint_Reader_End_fin n0k))
noncomputable def varint_Reader_End (m : Nat) (t0 : AV) (H : List AObj) : RO := exec Try.prog GG (varint_Reader_End_env m) m ⟨29,[]⟩ varint_Reader_End_c varint_Reader_End_h ⟨H,argsT 0 [t0]⟩ (varint_Reader_End_fin H.length)
theorem varint_Reader_End_r2_eq (m : Nat) (n0k : Nat) (H : List AObj) (t0 : AV) : varint_Reader_End_r2 m n0k ⟨H,[(0,t0)]⟩ =
 keepE (varint_Reader_Err m (ro H t0) H) fun t26 H2 =>
 extE t26 0 fun t27 =>
 extE t26 1 fun t28 =>
 keepK n0k H2 (ro H2 (TU [noT t27,noT t28])) := by
 refine (joinW_eq _ _ _ _ _ _ _ _ _).trans ?_
 kernel_rfl
theorem varint_Reader_End_r1_eq (m : Nat) (n0k : Nat) (H : List AObj) (t0 t20 : AV) : varint_Reader_End_r1 m n0k ⟨H,[(0,t0),(20,t20)]⟩ =
 condE t20 (
  nilE t0 fun t22 =>
  fieldE (some (1,1)) t22 fun t23 =>
  loadE 1 H t23 fun t24 =>
  keepK n0k H (ro H (TU [noT (V (.int .i64 7)),noT t24]))) (
  varint_Reader_End_r2 m n0k ⟨H,[(0,t0)]⟩) := by
 refine (joinW_eq _ _ _ _ _ _ _ _ _).trans ?_
 kernel_rfl
theorem varint_Reader_End_eq (m : Nat) (t0 : AV) (H : List AObj) : varint_Reader_End m t0 H =
 nilE t0 fun t5 =>
 fieldE (some (2,1)) t5 fun t6 =>
 loadE 1 H t6 fun t7 =>
 binE none false false .eql t7 (V (.int .i64 0)) fun t8 =>
 condE t8 (
  nilE t0 fun t11 =>
  fieldE (some (1,1)) t11 fun t12 =>
  loadE 1 H t12 fun t13 =>
  nilE t0 fun t15 =>
  fieldE (some (0,1)) t15 fun t16 =>
  loadE 1 H t16 fun t17 =>
  lenE false true H t17 fun t18 =>
  binE none false false .lss t13 t18 fun t19 =>
  varint_Reader_End_r1 m H.length ⟨H,[(0,t0),(20,t19)]⟩) (
  varint_Reader_End_r1 m H.length ⟨H,[(0,t0),(20,(V (.bool false)))]⟩) := by
 refine (keepX Try.prog GG (varint_Reader_End_env m) m ⟨29,[]⟩ H.length varint_Reader_End_c varint_Reader_End_h ⟨H,argsT 0 [t0]⟩ [.tmp 2, .tmp 3]).trans ?_
 kernel_rfl
noncomputable def varint_Reader_End_t (m : Nat) : List AV → List AObj → RO|[t0],H=>varint_Reader_End m t0 H|_,_=>none
theorem varint_Reader_End_ok (m : Nat) : ∀ args H X H',varint_Reader_End_t m args H = some (X,H') → AC Try.prog GG 45 args H (Is X H') := by
 intro args H X H' h
 unfold varint_Reader_End_t at h
 split at h
 ·exact keep_okK MIX (by
  intro f e h
  simp only [varint_Reader_End_env,Prod.mk.injEq,List.mem_cons,List.not_mem_nil,or_false] at h
  obtain ⟨rfl,rfl⟩ := h
  ·exact varint_Reader_Err_ok m) (f := 45) (c := varint_Reader_End_c) Try.func45 rfl (by kernel_rfl) _ rfl Try.ntmps45 (Nat.le_of_ble_eq_true rfl) varint_Reader_End_h h
 ·cases h
noncomputable def varint_Read_c : Code := (Try.f40.body).getD .skip
def varint_Read_h : Hint := (.two .n (.two .n .n))
noncomputable def varint_Read_env (m : Nat) : Env := []
noncomputable abbrev varint_Read_fin (n0 : Nat) : KO (AV × List AObj) := openFK Try.prog n0 [.tmp 2]
noncomputable def varint_Read (m : Nat) (t0 : AV) (H : List AObj) : RO := exec Try.prog GG (varint_Read_env m) m ⟨7,[]⟩ varint_Read_c varint_Read_h ⟨H,argsT 0 [t0]⟩ (varint_Read_fin H.length)
theorem varint_Read_eq (m : Nat) (t0 : AV) (H : List AObj) : varint_Read m t0 H =
 appE (some (ty_uint8,1)) H (V (.slice none 0 0)) t0 fun t4 H2 =>
 buildE (some pl_varint_Reader) (some zc_varint_Reader) [(0,t4)] fun t5 =>
 boxE ty_varint_Reader H2 t5 fun t6 H3 =>
 openK H3 (ro H3 t6) := by
 refine (openX Try.prog GG (varint_Read_env m) m ⟨7,[]⟩ H.length varint_Read_c varint_Read_h ⟨H,argsT 0 [t0]⟩ [.tmp 2]).trans ?_
 kernel_rfl
noncomputable def varint_Read_t (m : Nat) : List AV → List AObj → RO|[t0],H=>varint_Read m t0 H|_,_=>none
theorem varint_Read_ok (m : Nat) : ∀ args H X H',varint_Read_t m args H = some (X,H') → AC Try.prog GG 40 args H (Is X H') := by
 intro args H X H' h
 unfold varint_Read_t at h
 split at h
 ·exact open_ok (n := H.length) MIX (by intro f e h;cases h) (f := 40) (c := varint_Read_c) Try.func40 rfl (by kernel_rfl) _ rfl Try.ntmps40 (Nat.le_of_ble_eq_true rfl) varint_Read_h h
 ·cases h
noncomputable def plenumref01_Take_Num_c : Code := (Try.f47.body).getD .skip
def plenumref01_Take_Num_h : Hint := (.two .n (.two (.two .n (.two (.two .n .n) .n)) (.two .n (.join [0,5,6,7] (.join [0,5,6,7,33] .n (.two .n .n)) (.two (.two .n (.two (.two .n (.two .n .n)) .n)) (.two .n (.two .n .n)))))))
noncomputable def plenumref01_Take_Num_env (m : Nat) : Env := [(66, .tell (plenumref01_Cut_t m))]
noncomputable abbrev plenumref01_Take_Num_fin (n0 : Nat) : KO (AV × List AObj) := keepFK Try.prog n0 [.tmp 4]
noncomputable def plenumref01_Take_Num_r2 (m : Nat) (n0k : Nat) (s : ASt) : RO := joinW Try.prog GG (plenumref01_Take_Num_env m) m ⟨49,[]⟩ (cdR (cdR (cdR (cdR plenumref01_Take_Num_c)))) plenumref01_Take_Num_h.r.r.r.r s (plenumref01_Take_Num_fin n0k)
noncomputable def plenumref01_Take_Num_r1 (m : Nat) (n0k : Nat) (s : ASt) : RO := joinW Try.prog GG (plenumref01_Take_Num_env m) m ⟨49,[]⟩ (cdR (cdL (cdR (cdR (cdR plenumref01_Take_Num_c))))) plenumref01_Take_Num_h.r.r.r.l.r s (seqX (fun s=>plenumref01_Take_Num_r2 m n0k ⟨s.H,[(0,gt s.T 0),(5,gt s.T 5),(6,gt s.T 6),(7,gt s.T 7)]⟩) (plenumref01_Take_Num_fin n0k))
noncomputable def plenumref01_Take_Num (m : Nat) (t0 t1 : AV) (H : List AObj) : RO := exec Try.prog GG (plenumref01_Take_Num_env m) m ⟨49,[]⟩ plenumref01_Take_Num_c plenumref01_Take_Num_h ⟨H,argsT 0 [t0,t1]⟩ (plenumref01_Take_Num_fin H.length)
theorem plenumref01_Take_Num_r2_eq (m : Nat) (n0k : Nat) (H : List AObj) (t0 t5 t6 t7 : AV) : plenumref01_Take_Num_r2 m n0k ⟨H,[(0,t0),(5,t5),(6,t6),(7,t7)]⟩ =
 binE none false false .neq t7 (V (.int .i64 0)) fun t35 =>
 condE t35 (
  nilE t0 fun t38 =>
  fieldE (some (2,1)) t38 fun t39 =>
  storeE 1 H t39 t7 fun H2 =>
  keepK n0k H2 (ro H2 (V (.int .u64 0)))) (
  nilE t0 fun t41 =>
  fieldE (some (1,1)) t41 fun t42 =>
  loadE 1 H t42 fun t43 =>
  binE none false false .add t43 t6 fun t45 =>
  nilE t0 fun t46 =>
  fieldE (some (1,1)) t46 fun t47 =>
  storeE 1 H t47 t45 fun H2 =>
  keepK n0k H2 (ro H2 t5)) := by
 refine (joinW_eq _ _ _ _ _ _ _ _ _).trans ?_
 kernel_rfl
theorem plenumref01_Take_Num_r1_eq (m : Nat) (n0k : Nat) (H : List AObj) (t0 t5 t6 t7 t33 : AV) : plenumref01_Take_Num_r1 m n0k ⟨H,[(0,t0),(5,t5),(6,t6),(7,t7),(33,t33)]⟩ =
 condE t33 (
  plenumref01_Take_Num_r2 m n0k ⟨H,[(0,t0),(5,t5),(6,t6),(7,(V (.int .i64 8)))]⟩) (
  plenumref01_Take_Num_r2 m n0k ⟨H,[(0,t0),(5,t5),(6,t6),(7,t7)]⟩) := by
 refine (joinW_eq _ _ _ _ _ _ _ _ _).trans ?_
 kernel_rfl
theorem plenumref01_Take_Num_eq (m : Nat) (t0 t1 : AV) (H : List AObj) : plenumref01_Take_Num m t0 t1 H =
 nilE t0 fun t9 =>
 fieldE (some (2,1)) t9 fun t10 =>
 loadE 1 H t10 fun t11 =>
 binE none false false .neq t11 (V (.int .i64 0)) fun t12 =>
 condE t12 (
  keepK H.length H (ro H (V (.int .u64 0)))) (
  nilE t0 fun t15 =>
  fieldE (some (0,1)) t15 fun t16 =>
  loadE 1 H t16 fun t17 =>
  nilE t0 fun t19 =>
  fieldE (some (1,1)) t19 fun t20 =>
  loadE 1 H t20 fun t21 =>
  sliceE true none H t17 (some t21) none fun t22 =>
  tellE (plenumref01_Cut_t m [(ro H t22)]) [(ro H t22)] fun t23 =>
  extE t23 0 fun t24 =>
  extE t23 1 fun t25 =>
  extE t23 2 fun t26 =>
  binE none false false .eql t26 (V (.int .i64 0)) fun t28 =>
  condE t28 (
   binE none false false .gtr t24 t1 fun t32 =>
   plenumref01_Take_Num_r1 m H.length ⟨H,[(0,t0),(5,t24),(6,t25),(7,t26),(33,t32)]⟩) (
   plenumref01_Take_Num_r1 m H.length ⟨H,[(0,t0),(5,t24),(6,t25),(7,t26),(33,(V (.bool false)))]⟩)) := by
 refine (keepX Try.prog GG (plenumref01_Take_Num_env m) m ⟨49,[]⟩ H.length plenumref01_Take_Num_c plenumref01_Take_Num_h ⟨H,argsT 0 [t0,t1]⟩ [.tmp 4]).trans ?_
 kernel_rfl
noncomputable def plenumref01_Take_Num_t (m : Nat) : List AV → List AObj → RO|[t0,t1],H=>plenumref01_Take_Num m t0 t1 H|_,_=>none
theorem plenumref01_Take_Num_ok (m : Nat) : ∀ args H X H',plenumref01_Take_Num_t m args H = some (X,H') → AC Try.prog GG 47 args H (Is X H') := by
 intro args H X H' h
 unfold plenumref01_Take_Num_t at h
 split at h
 ·exact keep_okK MIX (by
  intro f e h
  simp only [plenumref01_Take_Num_env,Prod.mk.injEq,List.mem_cons,List.not_mem_nil,or_false] at h
  obtain ⟨rfl,rfl⟩ := h
  ·exact plenumref01_Cut_ok m) (f := 47) (c := plenumref01_Take_Num_c) Try.func47 rfl (by kernel_rfl) _ rfl Try.ntmps47 (Nat.le_of_ble_eq_true rfl) plenumref01_Take_Num_h h
 ·cases h
noncomputable def plenumref01_Take_Text_c : Code := (Try.f48.body).getD .skip
def plenumref01_Take_Text_h : Hint := (.two .n (.two (.two .n (.two (.two .n .n) .n)) (.two .n (.two .n (.two .n (.two .n .n))))))
noncomputable def plenumref01_Take_Text_env (m : Nat) : Env := [(67, .tell (plenumref01_CutText_t m))]
noncomputable abbrev plenumref01_Take_Text_fin (n0 : Nat) : KO (AV × List AObj) := keepFK Try.prog n0 [.tmp 2]
noncomputable def plenumref01_Take_Text (m : Nat) (t0 : AV) (H : List AObj) : RO := exec Try.prog GG (plenumref01_Take_Text_env m) m ⟨38,[]⟩ plenumref01_Take_Text_c plenumref01_Take_Text_h ⟨H,argsT 0 [t0]⟩ (plenumref01_Take_Text_fin H.length)
theorem plenumref01_Take_Text_eq (m : Nat) (t0 : AV) (H : List AObj) : plenumref01_Take_Text m t0 H =
 nilE t0 fun t7 =>
 fieldE (some (2,1)) t7 fun t8 =>
 loadE 1 H t8 fun t9 =>
 binE none false false .neq t9 (V (.int .i64 0)) fun t10 =>
 condE t10 (
  keepK H.length H (ro H (V (.string ⟨#[]⟩)))) (
  nilE t0 fun t13 =>
  fieldE (some (0,1)) t13 fun t14 =>
  loadE 1 H t14 fun t15 =>
  nilE t0 fun t17 =>
  fieldE (some (1,1)) t17 fun t18 =>
  loadE 1 H t18 fun t19 =>
  sliceE true none H t15 (some t19) none fun t20 =>
  tellE (plenumref01_CutText_t m [(ro H t20)]) [(ro H t20)] fun t21 =>
  extE t21 0 fun t22 =>
  extE t21 1 fun t23 =>
  extE t21 2 fun t24 =>
  nilE t0 fun t26 =>
  fieldE (some (1,1)) t26 fun t27 =>
  loadE 1 H t27 fun t28 =>
  binE none false false .add t28 t23 fun t30 =>
  nilE t0 fun t31 =>
  fieldE (some (1,1)) t31 fun t32 =>
  storeE 1 H t32 t30 fun H2 =>
  nilE t0 fun t35 =>
  fieldE (some (2,1)) t35 fun t36 =>
  storeE 1 H2 t36 t24 fun H3 =>
  keepK H.length H3 (ro H3 t22)) := by
 refine (keepX Try.prog GG (plenumref01_Take_Text_env m) m ⟨38,[]⟩ H.length plenumref01_Take_Text_c plenumref01_Take_Text_h ⟨H,argsT 0 [t0]⟩ [.tmp 2]).trans ?_
 kernel_rfl
noncomputable def plenumref01_Take_Text_t (m : Nat) : List AV → List AObj → RO|[t0],H=>plenumref01_Take_Text m t0 H|_,_=>none
theorem plenumref01_Take_Text_ok (m : Nat) : ∀ args H X H',plenumref01_Take_Text_t m args H = some (X,H') → AC Try.prog GG 48 args H (Is X H') := by
 intro args H X H' h
 unfold plenumref01_Take_Text_t at h
 split at h
 ·exact keep_okK MIX (by
  intro f e h
  simp only [plenumref01_Take_Text_env,Prod.mk.injEq,List.mem_cons,List.not_mem_nil,or_false] at h
  obtain ⟨rfl,rfl⟩ := h
  ·exact plenumref01_CutText_ok m) (f := 48) (c := plenumref01_Take_Text_c) Try.func48 rfl (by kernel_rfl) _ rfl Try.ntmps48 (Nat.le_of_ble_eq_true rfl) plenumref01_Take_Text_h h
 ·cases h
noncomputable def plenumref01_Take_End_c : Code := (Try.f50.body).getD .skip
def plenumref01_Take_End_h : Hint := (.two .n (.join [0] (.join [0,20] .n (.two (.two .n .n) .n)) (.two (.two .n (.two (.two .n .n) .n)) (.two .n .n))))
noncomputable def plenumref01_Take_End_env (m : Nat) : Env := []
noncomputable abbrev plenumref01_Take_End_fin (n0 : Nat) : KO (AV × List AObj) := keepFK Try.prog n0 [.tmp 2, .tmp 3]
noncomputable def plenumref01_Take_End_r2 (m : Nat) (n0k : Nat) (s : ASt) : RO := joinW Try.prog GG (plenumref01_Take_End_env m) m ⟨38,[]⟩ (cdR (cdR plenumref01_Take_End_c)) plenumref01_Take_End_h.r.r s (plenumref01_Take_End_fin n0k)
noncomputable def plenumref01_Take_End_r1 (m : Nat) (n0k : Nat) (s : ASt) : RO := joinW Try.prog GG (plenumref01_Take_End_env m) m ⟨38,[]⟩ (cdR (cdL (cdR plenumref01_Take_End_c))) plenumref01_Take_End_h.r.l.r s (seqX (fun s=>plenumref01_Take_End_r2 m n0k ⟨s.H,[(0,gt s.T 0)]⟩) (plenumref01_Take_End_fin n0k))
noncomputable def plenumref01_Take_End (m : Nat) (t0 : AV) (H : List AObj) : RO := exec Try.prog GG (plenumref01_Take_End_env m) m ⟨38,[]⟩ plenumref01_Take_End_c plenumref01_Take_End_h ⟨H,argsT 0 [t0]⟩ (plenumref01_Take_End_fin H.length)
theorem plenumref01_Take_End_r2_eq (m : Nat) (n0k : Nat) (H : List AObj) (t0 : AV) : plenumref01_Take_End_r2 m n0k ⟨H,[(0,t0)]⟩ =
 nilE t0 fun t26 =>
 fieldE (some (2,1)) t26 fun t27 =>
 loadE 1 H t27 fun t28 =>
 binE none false false .eql t28 (V (.int .i64 0)) fun t29 =>
 condE t29 (
  keepK n0k H (ro H (TU [noT (V (.int .i64 0)),noT (V (.int .i64 0))]))) (
  nilE t0 fun t31 =>
  fieldE (some (2,1)) t31 fun t32 =>
  loadE 1 H t32 fun t33 =>
  nilE t0 fun t35 =>
  fieldE (some (1,1)) t35 fun t36 =>
  loadE 1 H t36 fun t37 =>
  keepK n0k H (ro H (TU [noT t33,noT t37]))) := by
 refine (joinW_eq _ _ _ _ _ _ _ _ _).trans ?_
 kernel_rfl
theorem plenumref01_Take_End_r1_eq (m : Nat) (n0k : Nat) (H : List AObj) (t0 t20 : AV) : plenumref01_Take_End_r1 m n0k ⟨H,[(0,t0),(20,t20)]⟩ =
 condE t20 (
  nilE t0 fun t22 =>
  fieldE (some (1,1)) t22 fun t23 =>
  loadE 1 H t23 fun t24 =>
  keepK n0k H (ro H (TU [noT (V (.int .i64 7)),noT t24]))) (
  plenumref01_Take_End_r2 m n0k ⟨H,[(0,t0)]⟩) := by
 refine (joinW_eq _ _ _ _ _ _ _ _ _).trans ?_
 kernel_rfl
theorem plenumref01_Take_End_eq (m : Nat) (t0 : AV) (H : List AObj) : plenumref01_Take_End m t0 H =
 nilE t0 fun t5 =>
 fieldE (some (2,1)) t5 fun t6 =>
 loadE 1 H t6 fun t7 =>
 binE none false false .eql t7 (V (.int .i64 0)) fun t8 =>
 condE t8 (
  nilE t0 fun t11 =>
  fieldE (some (1,1)) t11 fun t12 =>
  loadE 1 H t12 fun t13 =>
  nilE t0 fun t15 =>
  fieldE (some (0,1)) t15 fun t16 =>
  loadE 1 H t16 fun t17 =>
  lenE true false H t17 fun t18 =>
  binE none false false .lss t13 t18 fun t19 =>
  plenumref01_Take_End_r1 m H.length ⟨H,[(0,t0),(20,t19)]⟩) (
  plenumref01_Take_End_r1 m H.length ⟨H,[(0,t0),(20,(V (.bool false)))]⟩) := by
 refine (keepX Try.prog GG (plenumref01_Take_End_env m) m ⟨38,[]⟩ H.length plenumref01_Take_End_c plenumref01_Take_End_h ⟨H,argsT 0 [t0]⟩ [.tmp 2, .tmp 3]).trans ?_
 kernel_rfl
noncomputable def plenumref01_Take_End_t (m : Nat) : List AV → List AObj → RO|[t0],H=>plenumref01_Take_End m t0 H|_,_=>none
theorem plenumref01_Take_End_ok (m : Nat) : ∀ args H X H',plenumref01_Take_End_t m args H = some (X,H') → AC Try.prog GG 50 args H (Is X H') := by
 intro args H X H' h
 unfold plenumref01_Take_End_t at h
 split at h
 ·exact keep_okK MIX (by intro f e h;cases h) (f := 50) (c := plenumref01_Take_End_c) Try.func50 rfl (by kernel_rfl) _ rfl Try.ntmps50 (Nat.le_of_ble_eq_true rfl) plenumref01_Take_End_h h
 ·cases h
end Go.Proofs.Ytchncgdjefbmfaa

namespace Go.Proofs.Ytchncgdjefbmfaa
open Go.RowKit
def ty_api_Value : TypeId := 30
def ty_plenumref01_Take : TypeId := 91
def zc_api_Value : List AV := [(V (.int .i64 0)),(V (.int .i64 0)),(V (.string ⟨#[]⟩))]
def zc_plenumref01_Take : List AV := [(V (.string ⟨#[]⟩)),(V (.int .i64 0)),(V (.int .i64 0))]
def pl_plenumref01_Take : List (Nat × Nat) := [(0,1),(1,1),(2,1)]
noncomputable def txn_cutter_num_c : Code := (Try.f65.body).getD .skip
def txn_cutter_num_h : Hint := (.two .n (.two (.two .n (.two (.two .n .n) .n)) (.two .n (.join [0,5,6,7] (.join [0,5,6,7,28] .n (.two .n .n)) (.two (.two .n (.two (.two .n (.two .n .n)) .n)) (.two .n (.two .n .n)))))))
noncomputable def txn_cutter_num_env (m : Nat) : Env := [(61, .tell (varint_Cut_t m))]
noncomputable abbrev txn_cutter_num_fin (n0 : Nat) : KO (AV × List AObj) := keepFK Try.prog n0 [.tmp 4]
noncomputable def txn_cutter_num_r2 (m : Nat) (n0k : Nat) (s : ASt) : RO := joinW Try.prog GG (txn_cutter_num_env m) m ⟨46,[]⟩ (cdR (cdR (cdR (cdR txn_cutter_num_c)))) txn_cutter_num_h.r.r.r.r s (txn_cutter_num_fin n0k)
noncomputable def txn_cutter_num_r1 (m : Nat) (n0k : Nat) (s : ASt) : RO := joinW Try.prog GG (txn_cutter_num_env m) m ⟨46,[]⟩ (cdR (cdL (cdR (cdR (cdR txn_cutter_num_c))))) txn_cutter_num_h.r.r.r.l.r s (seqX (fun s=>txn_cutter_num_r2 m n0k ⟨s.H,[(0,gt s.T 0),(5,gt s.T 5),(6,gt s.T 6),(7,gt s.T 7)]⟩) (txn_cutter_num_fin n0k))
noncomputable def txn_cutter_num (m : Nat) (t0 t1 : AV) (H : List AObj) : RO := exec Try.prog GG (txn_cutter_num_env m) m ⟨46,[]⟩ txn_cutter_num_c txn_cutter_num_h ⟨H,argsT 0 [t0,t1]⟩ (txn_cutter_num_fin H.length)
theorem txn_cutter_num_r2_eq (m : Nat) (n0k : Nat) (H : List AObj) (t0 t5 t6 t7 : AV) : txn_cutter_num_r2 m n0k ⟨H,[(0,t0),(5,t5),(6,t6),(7,t7)]⟩ =
 binE none false false .neq t7 (V (.int .i64 0)) fun t30 =>
 condE t30 (
  nilE t0 fun t33 =>
  fieldE (some (1,1)) t33 fun t34 =>
  storeE 1 H t34 t7 fun H2 =>
  keepK n0k H2 (ro H2 (V (.int .i64 0)))) (
  nilE t0 fun t37 =>
  fieldE (some (0,1)) t37 fun t38 =>
  loadE 1 H t38 fun t39 =>
  sliceE false (some (ty_uint8,1)) H t39 (some t6) none fun t41 =>
  nilE t0 fun t42 =>
  fieldE (some (0,1)) t42 fun t43 =>
  storeE 1 H t43 t41 fun H2 =>
  convE false (some .i64) true false false (ro H2 t5) fun t45 =>
  keepK n0k H2 (ro H2 t45)) := by
 refine (joinW_eq _ _ _ _ _ _ _ _ _).trans ?_
 kernel_rfl
theorem txn_cutter_num_r1_eq (m : Nat) (n0k : Nat) (H : List AObj) (t0 t5 t6 t7 t28 : AV) : txn_cutter_num_r1 m n0k ⟨H,[(0,t0),(5,t5),(6,t6),(7,t7),(28,t28)]⟩ =
 condE t28 (
  txn_cutter_num_r2 m n0k ⟨H,[(0,t0),(5,t5),(6,t6),(7,(V (.int .i64 8)))]⟩) (
  txn_cutter_num_r2 m n0k ⟨H,[(0,t0),(5,t5),(6,t6),(7,t7)]⟩) := by
 refine (joinW_eq _ _ _ _ _ _ _ _ _).trans ?_
 kernel_rfl
theorem txn_cutter_num_eq (m : Nat) (t0 t1 : AV) (H : List AObj) : txn_cutter_num m t0 t1 H =
 nilE t0 fun t9 =>
 fieldE (some (1,1)) t9 fun t10 =>
 loadE 1 H t10 fun t11 =>
 binE none false false .neq t11 (V (.int .i64 0)) fun t12 =>
 condE t12 (
  keepK H.length H (ro H (V (.int .i64 0)))) (
  nilE t0 fun t15 =>
  fieldE (some (0,1)) t15 fun t16 =>
  loadE 1 H t16 fun t17 =>
  tellE (varint_Cut_t m [(ro H t17)]) [(ro H t17)] fun t18 =>
  extE t18 0 fun t19 =>
  extE t18 1 fun t20 =>
  extE t18 2 fun t21 =>
  binE none false false .eql t21 (V (.int .i64 0)) fun t23 =>
  condE t23 (
   binE none false false .gtr t19 t1 fun t27 =>
   txn_cutter_num_r1 m H.length ⟨H,[(0,t0),(5,t19),(6,t20),(7,t21),(28,t27)]⟩) (
   txn_cutter_num_r1 m H.length ⟨H,[(0,t0),(5,t19),(6,t20),(7,t21),(28,(V (.bool false)))]⟩)) := by
 refine (keepX Try.prog GG (txn_cutter_num_env m) m ⟨46,[]⟩ H.length txn_cutter_num_c txn_cutter_num_h ⟨H,argsT 0 [t0,t1]⟩ [.tmp 4]).trans ?_
 kernel_rfl
noncomputable def txn_cutter_num_t (m : Nat) : List AV → List AObj → RO|[t0,t1],H=>txn_cutter_num m t0 t1 H|_,_=>none
theorem txn_cutter_num_ok (m : Nat) : ∀ args H X H',txn_cutter_num_t m args H = some (X,H') → AC Try.prog GG 65 args H (Is X H') := by
 intro args H X H' h
 unfold txn_cutter_num_t at h
 split at h
 ·exact keep_okK MIX (by
  intro f e h
  simp only [txn_cutter_num_env,Prod.mk.injEq,List.mem_cons,List.not_mem_nil,or_false] at h
  obtain ⟨rfl,rfl⟩ := h
  ·exact varint_Cut_ok m) (f := 65) (c := txn_cutter_num_c) Try.func65 rfl (by kernel_rfl) _ rfl Try.ntmps65 (Nat.le_of_ble_eq_true rfl) txn_cutter_num_h h
 ·cases h
noncomputable def plenumref22_EncodeResult_c : Code := (Try.f39.body).getD .skip
def plenumref22_EncodeResult_h : Hint := (.two .n (.two .n .n))
noncomputable def plenumref22_EncodeResult_env (m : Nat) : Env := [(58, .tell (plenumref07_Encode_t m)),(37, .tell (plenumref01_Put_t m))]
noncomputable abbrev plenumref22_EncodeResult_fin : KO (AV × List AObj) := tellFK Try.prog [.tmp 2]
noncomputable def plenumref22_EncodeResult (m : Nat) (t0 : AV) : RO := exec Try.prog GG (plenumref22_EncodeResult_env m) m ⟨17,[]⟩ plenumref22_EncodeResult_c plenumref22_EncodeResult_h ⟨[],argsT 0 [t0]⟩ (plenumref22_EncodeResult_fin)
theorem plenumref22_EncodeResult_eq (m : Nat) (t0 : AV) : plenumref22_EncodeResult m t0 =
 boxE ty_api_Result [] t0 fun t1 H1 =>
 fieldE (some (0,1)) t1 fun t3 =>
 loadE 1 H1 t3 fun t4 =>
 convE false (some .u8) true false false (ro H1 t4) fun t5 =>
 buildSE (some (ty_uint8,1)) 1 [(0,t5)] fun t6 =>
 convE false none true true false (ro H1 t6) fun t7 =>
 fieldE (some (1,5)) t1 fun t8 =>
 loadE 5 H1 t8 fun t9 =>
 tellE (plenumref07_Encode_t m [(ro H1 t9)]) [(ro H1 t9)] fun t10 =>
 binE none false false .add t7 t10 fun t11 =>
 fieldE (some (4,1)) t1 fun t12 =>
 loadE 1 H1 t12 fun t13 =>
 convE false (some .u64) true false false (ro H1 t13) fun t14 =>
 tellE (plenumref01_Put_t m [(ro H1 t14)]) [(ro H1 t14)] fun t15 =>
 binE none false false .add t11 t15 fun t16 =>
 tellK H1 (ro H1 t16) := by
 refine (tellX _ _ _ _ _ _ _ _ _).trans ?_
 kernel_rfl
noncomputable def plenumref22_EncodeResult_t (m : Nat) : List AV → RO|[t0]=>plenumref22_EncodeResult m t0|_=>none
theorem plenumref22_EncodeResult_ok (m : Nat) : ∀ args X H',plenumref22_EncodeResult_t m args = some (X,H') → ACp Try.prog GG 39 args X := by
 intro args X H' h
 unfold plenumref22_EncodeResult_t at h
 split at h
 ·exact tell_okK MIX (by
  intro f e h
  simp only [plenumref22_EncodeResult_env,Prod.mk.injEq,List.mem_cons,List.not_mem_nil,or_false] at h
  rcases h with ⟨rfl,rfl⟩|⟨rfl,rfl⟩
  ·exact plenumref07_Encode_ok m
  ·exact plenumref01_Put_ok m) (f := 39) (c := plenumref22_EncodeResult_c) Try.func39 rfl (by kernel_rfl) _ rfl Try.ntmps39 (Nat.le_of_ble_eq_true rfl) plenumref22_EncodeResult_h h
 ·cases h
noncomputable def plenumref22_DecodeResult_c : Code := (Try.f49.body).getD .skip
def plenumref22_DecodeResult_h : Hint := (.two .n (.two (.two .n (.two (.two .n .n) .n)) (.two .n (.two (.two .n (.two (.two .n .n) .n)) (.two .n (.two .n (.two (.two .n (.two (.two .n .n) .n)) (.two (.two .n (.two (.two .n .n) .n)) (.two (.two .n (.two (.two .n .n) .n)) (.two .n .n))))))))))
noncomputable def plenumref22_DecodeResult_env (m : Nat) : Env := [(68, .tell (plenumref07_Cut_t m)),(47, .keep (plenumref01_Take_Num_t m))]
noncomputable abbrev plenumref22_DecodeResult_fin : KO (AV × List AObj) := tellFK Try.prog [.cell 2 32, .tmp 3]
noncomputable def plenumref22_DecodeResult (m : Nat) (t0 : AV) : RO := exec Try.prog GG (plenumref22_DecodeResult_env m) m ⟨59,[]⟩ plenumref22_DecodeResult_c plenumref22_DecodeResult_h ⟨[],argsT 0 [t0]⟩ (plenumref22_DecodeResult_fin)
theorem plenumref22_DecodeResult_eq (m : Nat) (t0 : AV) : plenumref22_DecodeResult m t0 =
 allocE (some zc_api_Result) ty_api_Result [] fun t2 H1 =>
 binE none false false .eql t0 (V (.string ⟨#[]⟩)) fun t10 =>
 condE t10 (
  buildE (some pl_api_Result) (some zc_api_Result) [] fun t11 =>
  storeE 7 H1 t2 t11 fun H2 =>
  loadE 7 H2 t2 fun t9000 =>
  tellK H2 (ro H2 (TU [noT t9000,noT (V (.int .i64 2))]))) (
  sliceE true none H1 t0 (some (V (.int .i64 1))) none fun t14 =>
  tellE (plenumref07_Cut_t m [(ro H1 t14)]) [(ro H1 t14)] fun t15 =>
  extE t15 0 fun t16 =>
  extE t15 1 fun t17 =>
  extE t15 2 fun t18 =>
  allocE (some zc_api_Value) ty_api_Value H1 fun t4 H2 =>
  storeE 5 H2 t4 t16 fun H3 =>
  binE none false false .neq t18 (V (.int .i64 0)) fun t20 =>
  condE t20 (
   buildE (some pl_api_Result) (some zc_api_Result) [] fun t21 =>
   storeE 7 H3 t2 t21 fun H4 =>
   loadE 7 H4 t2 fun t9000 =>
   tellK H4 (ro H4 (TU [noT t9000,noT t18]))) (
   binE none false false .add (V (.int .i64 1)) t17 fun t25 =>
   buildE (some pl_plenumref01_Take) (some zc_plenumref01_Take) [(0,t0),(1,t25)] fun t26 =>
   boxE ty_plenumref01_Take H3 t26 fun t27 H4 =>
   keepE (plenumref01_Take_Num m (ro H4 t27) (V (.int .u64 2147483647)) H4) fun t29 H5 =>
   convE false (some .i64) true false false (ro H5 t29) fun t30 =>
   nilE t27 fun t32 =>
   fieldE (some (2,1)) t32 fun t33 =>
   loadE 1 H5 t33 fun t34 =>
   binE none false false .neq t34 (V (.int .i64 0)) fun t35 =>
   condE t35 (
    buildE (some pl_api_Result) (some zc_api_Result) [] fun t36 =>
    nilE t27 fun t38 =>
    fieldE (some (2,1)) t38 fun t39 =>
    loadE 1 H5 t39 fun t40 =>
    storeE 7 H5 t2 t36 fun H6 =>
    loadE 1 H6 t39 fun t8029 =>
    eqE t40 t8029 (
    loadE 7 H6 t2 fun t9000 =>
    tellK H6 (ro H6 (TU [noT t9000,noT t40])))) (
    idxVE true none t0 (V (.int .i64 0)) fun t42 =>
    binE none false false .gtr t42 (V (.int .u8 23)) fun t43 =>
    condE t43 (
     buildE (some pl_api_Result) (some zc_api_Result) [] fun t44 =>
     storeE 7 H5 t2 t44 fun H6 =>
     loadE 7 H6 t2 fun t9000 =>
     tellK H6 (ro H6 (TU [noT t9000,noT (V (.int .i64 3))]))) (
     nilE t27 fun t46 =>
     fieldE (some (1,1)) t46 fun t47 =>
     loadE 1 H5 t47 fun t48 =>
     lenE true false H5 t0 fun t50 =>
     binE none false false .lss t48 t50 fun t51 =>
     condE t51 (
      buildE (some pl_api_Result) (some zc_api_Result) [] fun t52 =>
      storeE 7 H5 t2 t52 fun H6 =>
      loadE 7 H6 t2 fun t9000 =>
      tellK H6 (ro H6 (TU [noT t9000,noT (V (.int .i64 7))]))) (
      idxVE true none t0 (V (.int .i64 0)) fun t54 =>
      convE false (some .i64) true false false (ro H5 t54) fun t55 =>
      loadE 5 H5 t4 fun t56 =>
      buildE (some pl_api_Result) (some zc_api_Result) [(0,t55),(1,t56),(2,t30)] fun t58 =>
      storeE 7 H5 t2 t58 fun H6 =>
      loadE 7 H6 t2 fun t9000 =>
      tellK H6 (ro H6 (TU [noT t9000,noT (V (.int .i64 0))]))))))) := by
 refine (tellX _ _ _ _ _ _ _ _ _).trans ?_
 kernel_rfl
noncomputable def plenumref22_DecodeResult_t (m : Nat) : List AV → RO|[t0]=>plenumref22_DecodeResult m t0|_=>none
theorem plenumref22_DecodeResult_ok (m : Nat) : ∀ args X H',plenumref22_DecodeResult_t m args = some (X,H') → ACp Try.prog GG 49 args X := by
 intro args X H' h
 unfold plenumref22_DecodeResult_t at h
 split at h
 ·exact tell_okK MIX (by
  intro f e h
  simp only [plenumref22_DecodeResult_env,Prod.mk.injEq,List.mem_cons,List.not_mem_nil,or_false] at h
  rcases h with ⟨rfl,rfl⟩|⟨rfl,rfl⟩
  ·exact plenumref07_Cut_ok m
  ·exact plenumref01_Take_Num_ok m) (f := 49) (c := plenumref22_DecodeResult_c) Try.func49 rfl (by kernel_rfl) _ rfl Try.ntmps49 (Nat.le_of_ble_eq_true rfl) plenumref22_DecodeResult_h h
 ·cases h
end Go.Proofs.Ytchncgdjefbmfaa

namespace Go.Proofs.Ytchncgdjefbmfaa
open Go.RowKit
end Go.Proofs.Ytchncgdjefbmfaa

namespace Go.Proofs.Ytchncgdjefbmfaa
open Go.RowKit
noncomputable abbrev sltK (T : Tm) (l : List Tmp) : List AV := List.rec (motive := fun _=>List AV) [] (fun t _ ih=>slotK T t :: ih) l
noncomputable abbrev nslFK (rs : List Tmp) : KO (AV × List AObj) := fun e s=>match e with
 |.normal=>some (TU (sltK s.T rs),s.H)
 |_=>none
theorem nslX (P : Program) (G : Gl) (E : Env) (M : Nat) (N : FS) (c : Code) (h : Hint) (s : ASt) (rs : List Tmp) : exec P G E M N c h s (nslFK rs) = execK P G E M N c h s (nslFK rs) := (execK_eq c h s _).symm
section
variable {P : Program} {G : Gl} {E : Env} {M n : Nat} {H : List AObj}
end
end Go.Proofs.Ytchncgdjefbmfaa

namespace Go.Proofs.Ytchncgdjefbmfaa
open Go.RowKit
def ty_txn_cutter : TypeId := 111
def zc_txn_cutter : List AV := [(V (.slice none 0 0)),(V (.int .i64 0))]
def pl_txn_cutter : List (Nat × Nat) := [(0,1),(1,1)]
noncomputable def DecResF_c : Code := farC 5 (endC 0 ((Try.f44.body).getD .skip)) .skip
def DecResF_h : Hint := (.two .n (.two (.two .n (.two (.two .n .n) .n)) (.two .n (.two (.two .n (.two (.two .n .n) .n)) (.two .n .n)))))
noncomputable def DecResF_env (m : Nat) : Env := [(64, .tell (value_Cut_t m))]
noncomputable abbrev DecResF_fin (n0 : Nat) : KO (AV × List AObj) := nslFK [0,2,3,4,7]
noncomputable def DecResF (m : Nat) (D : List Deferred) (t0 : AV) (H : List AObj) : RO := exec Try.prog GG (DecResF_env m) m ⟨63,D⟩ DecResF_c DecResF_h ⟨H,[(0,t0)]⟩ (DecResF_fin H.length)
theorem DecResF_eq (m : Nat) (D : List Deferred) (t0 : AV) (H : List AObj) : DecResF m D t0 H =
 allocE (some zc_api_Result) ty_api_Result H fun t2 H2 =>
 lenE false true H2 t0 fun t10 =>
 binE none false false .eql t10 (V (.int .i64 0)) fun t11 =>
 condE t11 (
  buildE (some pl_api_Result) (some zc_api_Result) [] fun t12 =>
  storeE 7 H2 t2 t12 fun H3 =>
  none) (
  sliceE false (some (ty_uint8,1)) H2 t0 (some (V (.int .i64 1))) none fun t15 =>
  tellE (value_Cut_t m [(ro H2 t15)]) [(ro H2 t15)] fun t16 =>
  extE t16 0 fun t17 =>
  extE t16 1 fun t18 =>
  extE t16 2 fun t19 =>
  allocE (some zc_api_Value) ty_api_Value H2 fun t4 H3 =>
  storeE 5 H3 t4 t17 fun H4 =>
  binE none false false .neq t19 (V (.int .i64 0)) fun t21 =>
  condE t21 (
   buildE (some pl_api_Result) (some zc_api_Result) [] fun t22 =>
   storeE 7 H4 t2 t22 fun H5 =>
   none) (
   binE none false false .add (V (.int .i64 1)) t18 fun t26 =>
   sliceE false (some (ty_uint8,1)) H4 t0 (some t26) none fun t27 =>
   buildE (some pl_txn_cutter) (some zc_txn_cutter) [(0,t27)] fun t28 =>
   boxE ty_txn_cutter H4 t28 fun t29 H5 =>
   some (TU [t0,t2,(V (.int .i64 0)),t4,t29],H5))) := by
 refine (nslX _ _ _ _ _ _ _ _ _).trans ?_
 kernel_rfl
theorem DecResF_hE (m : Nat) : EnvOk Try.prog GG (DecResF_env m) := (by
 intro f e h
 simp only [DecResF_env,Prod.mk.injEq,List.mem_cons,List.not_mem_nil,or_false] at h
 obtain ⟨rfl,rfl⟩ := h
 ·exact value_Cut_ok m)
end Go.Proofs.Ytchncgdjefbmfaa

namespace Go.Proofs.Ytchncgdjefbmfaa
open Go.RowKit
noncomputable def DecResR_c : Code := (endC 6 ((Try.f44.body).getD .skip))
def DecResR_h : Hint := (.two (.one (.two .n (.two (.two .n .n) (.two .n (.two (.two .n .n) (.two .n (.two (.two .n .n) .n))))))) (.two .n .n))
noncomputable def DecResR_env (m : Nat) : Env := []
noncomputable abbrev DecResR_fin (n0 : Nat) : KO (AV × List AObj) := rawFK Try.prog n0 [.cell 2 32, .tmp 3]
noncomputable def DecResR (m : Nat) (D : List Deferred) (t2 t3 t7 t8 : AV) (H : List AObj) : RO := exec Try.prog GG (DecResR_env m) m ⟨63,D⟩ DecResR_c DecResR_h ⟨H,[(2,t2),(3,t3),(7,t7),(8,t8)]⟩ (DecResR_fin H.length)
theorem DecResR_eq (m : Nat) (D : List Deferred) (t2 t3 t7 t8 : AV) (H : List AObj) : DecResR m D t2 t3 t7 t8 H =
 nilE t7 fun t40 =>
 fieldE (some (1,1)) t40 fun t41 =>
 loadE 1 H t41 fun t42 =>
 binE none false false .neq t42 (V (.int .i64 0)) fun t43 =>
 condE t43 (
  buildE (some pl_api_Result) (some zc_api_Result) [] fun t44 =>
  nilE t7 fun t46 =>
  fieldE (some (1,1)) t46 fun t47 =>
  loadE 1 H t47 fun t48 =>
  storeE 7 H t2 t44 fun H2 =>
  loadE 1 H2 t47 fun t8014 =>
  eqE t48 t8014 (
  loadE 7 H2 t2 fun t9000 =>
  some (ro H2 (TU [noT t9000,noT t48]),H2))) (
  fieldE (some (0,1)) t8 fun t50 =>
  loadE 1 H t50 fun t51 =>
  binE none false false .gtr t51 (V (.int .i64 23)) fun t52 =>
  condE t52 (
   buildE (some pl_api_Result) (some zc_api_Result) [] fun t53 =>
   storeE 7 H t2 t53 fun H2 =>
   loadE 7 H2 t2 fun t9000 =>
   some (ro H2 (TU [noT t9000,noT (V (.int .i64 3))]),H2)) (
   nilE t7 fun t56 =>
   fieldE (some (0,1)) t56 fun t57 =>
   loadE 1 H t57 fun t58 =>
   lenE false true H t58 fun t59 =>
   binE none false false .gtr t59 (V (.int .i64 0)) fun t60 =>
   condE t60 (
    buildE (some pl_api_Result) (some zc_api_Result) [] fun t61 =>
    storeE 7 H t2 t61 fun H2 =>
    loadE 7 H2 t2 fun t9000 =>
    some (ro H2 (TU [noT t9000,noT (V (.int .i64 7))]),H2)) (
    loadE 7 H t8 fun t62 =>
    storeE 7 H t2 t62 fun H2 =>
    loadE 7 H2 t2 fun t9000 =>
    some (ro H2 (TU [noT t9000,noT (V (.int .i64 0))]),H2)))) := by
 refine (rawX Try.prog GG (DecResR_env m) m ⟨63,D⟩ H.length DecResR_c DecResR_h ⟨H,[(2,t2),(3,t3),(7,t7),(8,t8)]⟩ [.cell 2 32, .tmp 3]).trans ?_
 kernel_rfl
theorem DecResR_hE (m : Nat) : EnvOk Try.prog GG (DecResR_env m) := (by intro f e h;cases h)
end Go.Proofs.Ytchncgdjefbmfaa

namespace Go.Proofs.Ytchncgdjefbmfaa
open Go.RowKit
section
variable {P : Program} {ops : Array Oper}
theorem filter_less {p q : Nat → Bool} {j : Nat} : ∀ {l : List Nat},l.Nodup → j ∈ l → p j = true → q j = false → (∀ x,x ≠ j → q x = p x) → (l.filter q).length + 1 = (l.filter p).length
 |[],_,h,_,_,_=>by cases h
 |x :: r,hn,hj,hp,hq,he=>by
  obtain ⟨n1,n2⟩ := List.nodup_cons.1 hn
  simp only [List.filter_cons]
  by_cases hx : x = j
  ·subst hx
   rw [hp,hq]
   have : r.filter q = r.filter p := List.filter_congr fun y hy=>he y fun e=>n1 (e ▸ hy)
   rw [if_pos rfl,if_neg (by decide),this];rfl
  ·have hj' : j ∈ r := by
    rcases List.mem_cons.1 hj with e|h
    ·exact absurd e.symm hx
    ·exact h
   have ih := filter_less n2 hj' hp hq he
   rw [he x hx]
   cases p x
   ·exact ih
   ·simp only [if_true,List.length_cons];omega
def headL (size n : Nat) : Array Bool := ((List.range size).map fun i=>decide (i < n)).toArray
def tailB (l : List Oper) (n : Nat) : Bool := Region.sinkB .any l.toArray n && Region.chainB .any l.toArray n && decide (n < l.length) && Region.seqB .any l.toArray (l.length - n) n (headL l.length n)
end
end Go.Proofs.Ytchncgdjefbmfaa

namespace Go.Proofs.Ytchncgdjefbmfaa
open Go.RowKit
section
variable {P : Program} {ops : Array Oper}
def slotShapeN (ops : Array Oper) (size n : Nat) : Bool :=
  (List.range n).all fun k => ((ops[k]?).map fun ok =>
    (match ok.dst with | some d => decide (d < size) && (List.range n).all (fun m => m == k || ((ops[m]?).map fun om => om.dst != some d).getD true) | none => false) &&
    ok.after.all fun e => !Region.binds .any e || decide (e.on < k)).getD true
theorem slotShapeN_spec {size n : Nat} (h : slotShapeN ops size n = true) {k : Nat} {ok : Oper} (hn : k < n) (hk : ops[k]? = some ok) :
  ∃ d,ok.dst = some d ∧ d < size ∧ (∀ m om,m < n → ops[m]? = some om → om.dst = some d → m = k) ∧ ∀ e ∈ ok.after,Region.binds .any e = true → e.on < k := by
 unfold slotShapeN at h
 rw [List.all_eq_true] at h
 have h1 := h k (List.mem_range.2 hn)
 rw [hk] at h1
 simp only [Option.map_some,Option.getD_some,Bool.and_eq_true] at h1
 obtain ⟨h2,h3⟩ := h1
 cases hd : ok.dst with
 |none=>rw [hd] at h2;cases h2
 |some d =>
  rw [hd] at h2
  simp only [Bool.and_eq_true,decide_eq_true_eq] at h2
  refine ⟨d,rfl,h2.1,fun m om hml hm hmd=>?_,fun e he hb=>?_⟩
  ·have h4 := List.all_eq_true.1 h2.2 m (List.mem_range.2 hml)
   rw [hm] at h4
   simp [hmd] at h4
   exact h4
  ·rw [Array.all_eq_true_iff_forall_mem] at h3
   have := h3 e he
   simpa [hb] using this
def untouchedN (ops : Array Oper) (n d : Nat) : Bool := (List.range n).all fun k=>((ops[k]?).map fun ok=>ok.dst != some d).getD true
structure SlotInvR (ops : Array Oper) (n : Nat) (Φ : Nat → Value → World → Prop) (Pre : Nat → World → Prop) (a0 : Act) (listed : Array Bool) (a : Act) (w : World) : Prop where
 len : listed.size = ops.size
 tail : ∀ t,n ≤ t → t < ops.size → listed.getD t true = false
 pre : ∀ k,k < n → listed.getD k false = false → Pre k w
 defers : a.defers = a0.defers
 size : a.tmps.size = a0.tmps.size
 done : ∀ k ok d,k < n → ops[k]? = some ok → ok.dst = some d → listed.getD k false = true → Φ k (a.tmps.getD d undef) w
 kept : ∀ d,(∀ k ok,k < n → ops[k]? = some ok → ok.dst = some d → listed.getD k false = false) → a.tmps.getD d undef = a0.tmps.getD d undef
 closed : ∀ k ok,ops[k]? = some ok → listed.getD k false = true → ∀ e ∈ ok.after,Region.binds .any e = true → listed.getD e.on false = true
end
end Go.Proofs.Ytchncgdjefbmfaa

namespace Go.Proofs.Ytchncgdjefbmfaa
open Go.RowKit
inductive Unbad (bad : AV → Prop) : AV → Prop
 |nil : Unbad bad .nil
 |held (x) : Unbad bad (.held x)
 |slice (es : List AV) : (∀ d ∈ es,∀ y ∈ cellsOf d,¬ bad y) → (∀ d ∈ es,∀ y ∈ cellsOf d,Unbad bad y) → Unbad bad (.slice es [])
 |ptr (d : AV) : (∀ y ∈ cellsOf d,¬ bad y) → (∀ y ∈ cellsOf d,Unbad bad y) → Unbad bad (.ptr d)
section
variable {P : Program} {G : Gl} {S S2 : SS} {n0 : Nat} {bad : AV → Prop}
end
end Go.Proofs.Ytchncgdjefbmfaa

namespace Go.Proofs.Ytchncgdjefbmfaa
open Go.RowKit
section
variable {P : Program} {G : Gl} {N : FS} {n : Nat}
def StepW (P : Program) (G : Gl) (N : FS) (o : Oper) (s : ASt) (K : AV → List AObj → Prop) : Prop :=
 ∀ (w : World) (S : SS) (μ : List Value) (a : Act),Rel w S μ s.H → Fr S μ N s.T a → GOk G S → ∀ Q,o.wp P a w (OpPost w S μ s.H a o K) Q
theorem stepW_of {o : Oper} {s : ASt} {K : AV → List AObj → Prop} (h : stepOp P G o s K) : StepW P G N o s K := fun w S μ a hr hf hg Q=>stepOp_wp h hr hf hg Q
def runW (P : Program) (G : Gl) (N : FS) : List Oper → ASt → (ASt → Prop) → Prop
 |[],s,K=>K s
 |o :: r,s,K=>o.guard = none ∧ ∃ K',StepW P G N o s K' ∧ ∀ d H,K' d H → runW P G N r (s.set H o.dst d) K
theorem runW_wp {ops : Array Oper} {K : ASt → Prop} {Q : Exit → ASt → Prop} (hK : ∀ s,K s → Q .normal s) {w0 : World} {S0 : SS} {μ0 : List Value} {H0 : List AObj} (hn : n ≤ H0.length) (hl0 : μ0.length = H0.length) : ∀ (l : List Oper) (s : ASt),runW P G N l s K → fits N l = true →
  ∀ w S μ a,Rel w S μ s.H → Fr S μ N s.T a → GOk G S → Step n w0 S0 μ0 H0 w S μ s.H → wpList P ops (Lift N n w0 S0 μ0 H0 Q) l a w
 |[],s,h,_,w,S,μ,a,hr,hf,hg,hs=>⟨s,S,μ,hK s h,hr,hf,hs⟩
 |o :: r,s,h,hfit,w,S,μ,a,hr,hf,hg,hs=>by
  have hfit' := hfit
  simp only [fits,List.all_cons,Bool.and_eq_true] at hfit'
  have hd : ∀ i,o.dst = some i → i < N := fun i e=>by have := hfit'.1;rw [e] at this;simpa using this
  obtain ⟨hgd,K',hstep,hrest⟩ := h
  unfold wpList
  rw [if_pos (by simp [Region.wanted,hgd])]
  refine .inl ?_
  have hop := hstep w S μ a hr hf hg (Lift N n w0 S0 μ0 H0 Q)
  refine _root_.Go.Proofs.Ytchncgdjefbmfaa.Oper.wp_next hop fun a' w'=>?_
  rintro ⟨d,u,H',S',μ',hk,rfl,hrep,hr',hs',_⟩
  have hst := (hf.ext (hs'.toExt hr)).put o.dst hd hrep
  have hn' : n ≤ s.H.length := by
   have := hs.objs
   rcases Nat.lt_or_ge s.H.length n with hlt|hge
   ·have hlm : s.H.length < μ0.length := by omega
    obtain ⟨x',hx',_⟩ := hs.objs s.H.length μ0[s.H.length] hlt (List.getElem?_eq_getElem hlm)
    have := (List.getElem?_eq_some_iff.1 hx').1
    rw [hr.len] at this;omega
   ·exact hge
  exact runW_wp hK hn hl0 r _ (hrest d H' hk) hfit'.2 w' S' μ' _ hr' hst (hg.ext hs'.still) (hs.trans (hs'.less hn'))
theorem get_some {T : Tm} : ∀ (l : Tm), (∀ p ∈ l, get T p.1 = p.2) → ∀ i, get l i = get T i ∨ get l i = .nil
  | [], _, i => .inr rfl
  | (j, d) :: r, h, i => by
    simp only [get]
    split
    · rename_i e
      subst e
      exact .inl (h (j, d) (List.mem_cons_self ..)).symm
    · exact get_some r (fun p hp => h p (List.mem_cons_of_mem _ hp)) i
theorem keep_slots {Q : Exit → ASt → Prop} {c : Code} {H : List AObj} {T : Tm} (l : Tm) (hl : ∀ p ∈ l,get T p.1 = p.2) (h : AWp P G N n c Q ⟨H,l⟩) : AWp P G N n c Q ⟨H,T⟩ := AWp.forget (get_some l hl) h
end
end Go.Proofs.Ytchncgdjefbmfaa

namespace Go.Proofs.Ytchncgdjefbmfaa
open Go.RowKit
section
variable {P : Program} {G : Gl} {N : FS} {n : Nat}
structure InvF (G : Gl) (N : FS) (n : Nat) (ops : Array Oper) (nh : Nat) (vs : Nat → AV) (Hs : (Nat → Bool) → List AObj) (T : Tm) (w0 : World) (S0 : SS) (μ0 : List Value) (H0 : List AObj) (listed : Array Bool) (a : Act) (w : World) (S : SS) (μ : List Value) : Prop where
 len : listed.size = ops.size
 tail : ∀ t,nh ≤ t → t < ops.size → listed.getD t true = false
 rel : Rel w S μ (Hs fun j=>listed.getD j false)
 step : Step n w0 S0 μ0 H0 w S μ (Hs fun j=>listed.getD j false)
 gok : GOk G S
 size : a.tmps.size = N.n
 nodef : a.defers = N.d
 done : ∀ k ok d,k < nh → ops[k]? = some ok → ok.dst = some d → listed.getD k false = true → rep S μ (vs k) (a.tmps.getD d undef)
 kept : ∀ d,(∀ k ok,k < nh → ops[k]? = some ok → ok.dst = some d → listed.getD k false = false) → rep S μ (get T d) (a.tmps.getD d undef)
 closed : ∀ k ok,ops[k]? = some ok → listed.getD k false = true → ∀ e ∈ ok.after,Region.binds .any e = true → listed.getD e.on false = true
def slotsF (ops : Array Oper) (vs : Nat → AV) (T : Tm) (ps fs : List Nat) : Tm := ps.map (fun k=>((((ops[k]?).bind (·.dst)).getD 0),vs k)) ++ fs.map fun d=>(d,get T d)
def seesF (ops : Array Oper) (nh k : Nat) (ps fs : List Nat) : Bool :=
 ps.all (fun p=>decide (p < nh) && Region.waitsFor .any ops k p && ((ops[p]?).bind (·.dst)).isSome) && fs.all fun d=>untouchedN ops nh d
theorem untN {ops : Array Oper} {nh d : Nat} (h : untouchedN ops nh d = true) {k : Nat} {ok : Oper} (hk : k < nh) (hok : ops[k]? = some ok) (hd : ok.dst = some d) : False := by
 unfold untouchedN at h
 have := List.all_eq_true.1 h k (List.mem_range.2 hk)
 rw [hok] at this
 simp [hd] at this
theorem get_list {S : SS} {μ : List Value} {a : Act} : ∀ (l : Tm), (∀ p ∈ l, rep S μ p.2 (a.tmps.getD p.1 undef)) → ∀ i, rep S μ (get l i) (a.tmps.getD i undef)
  | [], _, i => rep_any _ _ _
  | (j, d) :: r, h, i => by
    simp only [get]
    split
    · rename_i e
      subst e
      exact h (j, d) (List.mem_cons_self ..)
    · exact get_list r (fun p hp => h p (List.mem_cons_of_mem _ hp)) i
theorem drawF_any {ops : Array Oper} {nh : Nat} (vs : Nat → AV) (Hs : (Nat → Bool) → List AObj) (ps fs : Nat → List Nat) {T : Tm} {w0 : World} {S0 : SS} {μ0 : List Value} {H0 : List AObj} {Q : Exit → Act → World → Prop}
    (hsh : slotShapeN ops N.n nh = true) (hs : Region.sinkB .any ops nh = true) (hc : Region.chainB .any ops nh = true) (hn : nh < ops.size) (hseq : Region.seqB .any ops (ops.size - nh) nh (headL ops.size nh) = true)
    (hgd : ∀ k o, k < nh → ops[k]? = some o → o.guard = none) (hl : ∀ L, n ≤ (Hs L).length)
    (hsee : ∀ k, k < nh → seesF ops nh k (ps k) (fs k) = true)
    (hop : ∀ k o, k < nh → ops[k]? = some o → ∀ L : Nat → Bool, L k = false → (∀ e ∈ o.after, Region.binds .any e = true → L e.on = true) → StepW P G N o ⟨Hs L, slotsF ops vs T (ps k) (fs k)⟩ fun d H' => d = vs k ∧ H' = Hs fun j => j == k || L j)
    (htail : ∀ a w S μ, Rel w S μ (Hs fun j => decide (j < nh)) → Step n w0 S0 μ0 H0 w S μ (Hs fun j => decide (j < nh)) → GOk G S → a.tmps.size = N.n → a.defers = N.d → (∀ k ok d, k < nh → ops[k]? = some ok → ok.dst = some d → rep S μ (vs k) (a.tmps.getD d undef)) →
      (∀ d, untouchedN ops nh d = true → rep S μ (get T d) (a.tmps.getD d undef)) → wpList P ops Q (ops.toList.drop nh) a w) :
    ∀ (f : Nat) (listed : Array Bool) (a : Act) (w : World) (S : SS) (μ : List Value), InvF G N n ops nh vs Hs T w0 S0 μ0 H0 listed a w S μ → ((List.range nh).filter fun i => !listed.getD i false).length = f → wpAny P .any ops Q (f + (ops.size - nh)) listed a w := by
  have all_of : ∀ {listed : Array Bool}, ((List.range nh).filter fun i => !listed.getD i false).length = 0 → ∀ k, k < nh → listed.getD k false = true := by
    intro listed h k hk
    have h0 := List.filter_eq_nil_iff.1 (List.eq_nil_of_length_eq_zero h) k (List.mem_range.2 hk)
    simpa using h0
  have fst : ∀ {listed : Array Bool} {t : Nat}, listed.getD t true = false → listed.getD t false = false := fun {listed t} h => getD_both h
  intro f
  induction f with
  | zero =>
    intro listed a w S μ hI hlen
    have hall := all_of hlen
    have e : listed = headL ops.size nh := by
      apply Array.ext
      · simp [headL, hI.len]
      · intro i h1 h2
        have hi : i < ops.size := by rw [← hI.len]; exact h1
        have e2 : (headL ops.size nh)[i] = decide (i < nh) := by simp [headL]
        rw [e2]
        rcases Nat.lt_or_ge i nh with q | q
        · have := hall i q
          simp only [Array.getD_eq_getD_getElem?, Array.getElem?_eq_getElem h1, Option.getD_some] at this
          rw [this, decide_eq_true q]
        · have := hI.tail i q hi
          simp only [Array.getD_eq_getD_getElem?, Array.getElem?_eq_getElem h1, Option.getD_some] at this
          rw [this, decide_eq_false (by omega)]
    have eL : (fun j => listed.getD j false) = fun j => decide (j < nh) := by
      funext j
      rcases Nat.lt_or_ge j nh with q | q
      · rw [hall j q, decide_eq_true q]
      · rw [decide_eq_false (by omega)]
        rcases Nat.lt_or_ge j ops.size with q2 | q2
        · exact fst (hI.tail j q q2)
        · simp [Array.getElem?_eq_none (show listed.size ≤ j by rw [hI.len]; exact q2)]
    have hr := hI.rel
    have hst := hI.step
    rw [eL] at hr hst
    have hl2 : (ops.toList.drop nh).length = ops.size - nh := by simp
    have key := wpAny_of_seq (P := P) (md := .any) (ops := ops) (Q' := Q) (ops.toList.drop nh) nh listed a w (fun j => by simp [List.getElem?_drop]) (by rw [hl2, e]; exact hseq) (htail a w S μ hr hst hI.gok hI.size hI.nodef (fun k ok d hk hok hd => hI.done k ok d hk hok hd (hall k hk)) (fun d hd => hI.kept d fun k ok hk hok hkd => (untN hd hk hok hkd).elim))
    rw [hl2] at key
    rw [Nat.zero_add]
    exact key
  | succ f ih =>
    intro listed a w S μ hI hlen
    rw [show f + 1 + (ops.size - nh) = (f + (ops.size - nh)) + 1 by omega]
    have hinv : HeadInv .any ops nh listed := ⟨hI.len, hI.closed, hI.tail⟩
    obtain ⟨i, hin, hiun⟩ : ∃ i, i < nh ∧ listed.getD i false = false := by
      cases hf : (List.range nh).filter fun i => !listed.getD i false with
      | nil => rw [hf] at hlen; cases hlen
      | cons x r =>
        have : x ∈ (List.range nh).filter fun i => !listed.getD i false := by rw [hf]; exact List.mem_cons_self ..
        obtain ⟨h1, h2⟩ := List.mem_filter.1 this
        exact ⟨x, List.mem_range.1 h1, by simpa using h2⟩
    have his : i < listed.size := by rw [hI.len]; omega
    refine ⟨fun hr => ?_, fun j hj => ?_⟩
    · exfalso
      have hall : ∀ m k, k < m → k < nh → listed.getD k false = true := by
        intro m
        induction m with
        | zero => intro k hk; omega
        | succ m ihm =>
          intro k hk hkn
          cases hl : listed.getD k false with
          | true => rfl
          | false =>
            exfalso
            have hks : k < ops.size := by omega
            have hk' : ops[k]? = some ops[k] := Array.getElem?_eq_getElem hks
            have : k ∈ Region.ready .any ops listed := by
              rw [mem_ready]
              refine ⟨getD_in (by rw [hI.len]; exact hks) hl, _, hk', fun e he hb => ?_⟩
              obtain ⟨d, _, _, _, he2⟩ := slotShapeN_spec hsh hkn hk'
              have := he2 e he hb
              exact ihm e.on (by omega) (by omega)
            rw [hr] at this; cases this
      rw [hall (i + 1) i (by omega) hin] at hiun
      cases hiun
    · have hjn : j < nh := by
        rcases Nat.lt_or_ge j nh with h | h
        · exact h
        · exact absurd hj (tail_waits hs hc hn hinv _ i rfl hin (getD_in his hiun) j h)
      obtain ⟨h1, o, ho, hedges⟩ := mem_ready.1 hj
      have hjl : j < ops.size := (Array.getElem?_eq_some_iff.1 ho).1
      have hjs : j < listed.size := by rw [hI.len]; exact hjl
      have hjf := getD_false_of_true hjs h1
      obtain ⟨d, hd, hds, huniq, hback⟩ := slotShapeN_spec hsh hjn ho
      have hset : ∀ k, k ≠ j → (listed.setIfInBounds j true).getD k false = listed.getD k false := fun k hk => getD_set_ne false (fun e => hk e.symm)
      have hself := getD_set_self hjs
      have eL : (fun k => (listed.setIfInBounds j true).getD k false) = fun k => k == j || listed.getD k false := by
        funext k
        by_cases hk : k = j
        · subst hk; rw [hself]; simp
        · rw [hset k hk, beq_false_of_ne hk]; rfl
      have hsee := hsee j hjn
      unfold seesF at hsee
      simp only [Bool.and_eq_true] at hsee
      have hfr : Fr S μ N (slotsF ops vs T (ps j) (fs j)) a := by
        refine ⟨hI.size, hI.nodef, get_list _ fun p hp => ?_⟩
        unfold slotsF at hp
        rcases List.mem_append.1 hp with hp | hp
        · obtain ⟨k, hk, rfl⟩ := List.mem_map.1 hp
          have q := List.all_eq_true.1 hsee.1 k hk
          simp only [Bool.and_eq_true, decide_eq_true_eq] at q
          obtain ⟨⟨q1, q2⟩, q3⟩ := q
          obtain ⟨dk, hdk⟩ := Option.isSome_iff_exists.1 q3
          obtain ⟨ok, hok, hokd⟩ := Option.bind_eq_some_iff.1 hdk
          obtain ⟨o', ho', e, he, hb, hon⟩ := Region.waitsFor_spec q2
          have : o' = o := Option.some.inj (ho'.symm.trans ho)
          subst this
          have hlk := hedges e he hb
          rw [hon] at hlk
          dsimp only
          rw [hdk]
          exact hI.done k ok dk q1 hok hokd hlk
        · obtain ⟨dd, hdd, rfl⟩ := List.mem_map.1 hp
          have q := List.all_eq_true.1 hsee.2 dd hdd
          exact hI.kept dd fun k ok hk hok hkd => (untN q hk hok hkd).elim
      have hstep := hop j o hjn ho (fun k => listed.getD k false) hjf (fun e he hb => hedges e he hb) w S μ a hI.rel hfr hI.gok Q
      unfold wpOp
      rw [ho]
      simp only
      rw [if_pos (by simp [Region.wanted, hgd j o hjn ho])]
      refine .inl (Oper.wp_mono2 (fun a' w' hh => ?_) (fun _ _ _ _ h => h) hstep)
      obtain ⟨dv, u, H', S', μ', ⟨rfl, rfl⟩, rfl, hrep, hr', hs', _⟩ := hh
      have hext := hs'.toExt hI.rel
      refine ih _ _ _ S' μ' ⟨by simp [hI.len], fun t h2 h3 => by rw [getD_set_ne true (by omega)]; exact hI.tail t h2 h3, by rw [eL]; exact hr', by rw [eL]; exact hI.step.trans (hs'.less (hl _)), hI.gok.ext hs'.still, ?_, ?_, ?_, ?_, ?_⟩ ?_
      · rw [hd]; simp [Act.put, hI.size]
      · rw [hd]; exact hI.nodef
      · intro k ok d' hkn hk hkd hlk
        by_cases hkj : k = j
        · subst hkj
          rw [ho] at hk; injection hk with hk; subst hk
          rw [hd] at hkd; injection hkd with hkd; subst hkd
          rw [hd, getD_put_same _ _ _ (by rw [hI.size]; exact hds)]
          exact hrep
        · rw [hset k hkj] at hlk
          have hne : d' ≠ d := fun e => hkj (huniq k ok hkn hk (by rw [hkd, e]))
          rw [hd, getD_put_other _ _ _ _ hne]
          exact (hI.done k ok d' hkn hk hkd hlk).ext hext
      · intro d' hf
        have hne : d' ≠ d := by
          intro e; subst e
          have := hf j o hjn ho hd
          rw [hself] at this; cases this
        rw [hd, getD_put_other _ _ _ _ hne]
        refine (hI.kept d' fun k ok hkn hk hkd => ?_).ext hext
        have hkj : k ≠ j := by rintro rfl; rw [ho] at hk; injection hk with hk; subst hk; rw [hd] at hkd; injection hkd with hkd; exact hne hkd.symm
        have := hf k ok hkn hk hkd
        rwa [hset k hkj] at this
      · intro k ok hk hl e he hb
        have mono : ∀ m, listed.getD m false = true → (listed.setIfInBounds j true).getD m false = true := fun m hm => getD_set_true hm
        by_cases hkj : k = j
        · subst hkj
          rw [ho] at hk; injection hk with hk; subst hk
          exact mono _ (hedges e he hb)
        · rw [hset k hkj] at hl
          exact mono _ (hI.closed k ok hk hl e he hb)
      · have := filter_less (p := fun i => !listed.getD i false) (q := fun i => !(listed.setIfInBounds j true).getD i false) (j := j) List.nodup_range (List.mem_range.2 hjn) (by rw [hjf]; rfl) (by rw [getD_set_self hjs]; rfl) (fun x hx => by
          show (!(listed.setIfInBounds j true).getD x false) = !listed.getD x false
          rw [getD_set_ne false (fun e => hx e.symm)])
        omega
def EachF (P : Program) (G : Gl) (N : FS) (ops : Array Oper) (vs : Nat → AV) (Hs : (Nat → Bool) → List AObj) (ps fs : Nat → List Nat) (T : Tm) : Nat → List Oper → Prop
 |_,[]=>True
 |k,o :: r=>(o.guard = none ∧ ∀ L : Nat → Bool,L k = false → (∀ e ∈ o.after,Region.binds .any e = true → L e.on = true) → StepW P G N o ⟨Hs L,slotsF ops vs T (ps k) (fs k)⟩ fun d H'=>d = vs k ∧ H' = Hs fun j=>j == k || L j) ∧ EachF P G N ops vs Hs ps fs T (k + 1) r
theorem eachF_get {ops : Array Oper} {vs : Nat → AV} {Hs : (Nat → Bool) → List AObj} {ps fs : Nat → List Nat} {T : Tm} : ∀ (l : List Oper) (k : Nat),EachF P G N ops vs Hs ps fs T k l → ∀ j o,l[j]? = some o → o.guard = none ∧ ∀ L : Nat → Bool,L (k + j) = false → (∀ e ∈ o.after,Region.binds .any e = true → L e.on = true) → StepW P G N o ⟨Hs L,slotsF ops vs T (ps (k + j)) (fs (k + j))⟩ fun d H'=>d = vs (k + j) ∧ H' = Hs fun i=>i == k + j || L i
 |[],_,_,j,o,h=>by simp at h
 |x :: r,k,h,0,o,ho=>by simp at ho;subst ho;exact h.1
 |x :: r,k,h,j + 1,o,ho=>by
  have := eachF_get r (k + 1) h.2 j o (by simpa using ho)
  rwa [show k + 1 + j = k + (j + 1) from by omega] at this
theorem awp_drawF {id : Nat} (l : List Oper) (nh : Nat) (vs : Nat → AV) (Hs : (Nat → Bool) → List AObj) (ps fs : Nat → List Nat) (keep : List Nat) {T : Tm} {Q : Exit → ASt → Prop} (hm : P.follows .mixedOrders = true)
    (hsh : slotShapeN l.toArray N.n nh = true) (hB : tailB l nh = true) (hl : ∀ L, n ≤ (Hs L).length) (hsee : ((List.range nh).all fun k => seesF l.toArray nh k (ps k) (fs k)) = true) (hkeep : (keep.all fun d => untouchedN l.toArray nh d) = true)
    (hop : EachF P G N l.toArray vs Hs ps fs T 0 (l.take nh)) (hfit : fits N (l.drop nh) = true)
    (htail : runW P G N (l.drop nh) ⟨Hs fun j => decide (j < nh), ((List.range nh).map fun k => ((((l[k]?).bind (·.dst)).getD 0), vs k)) ++ keep.map fun d => (d, get T d)⟩ fun s => Q .normal s) :
    AWp P G N n (.region id l.toArray true) Q ⟨Hs fun _ => false, T⟩ := by
  intro w S μ a hr hf hg
  simp only [tailB, Bool.and_eq_true, decide_eq_true_eq] at hB
  obtain ⟨⟨⟨h1, h2⟩, h3⟩, h4⟩ := hB
  have hn' : nh < l.toArray.size := by simpa using h3
  refine wp_region_any hm ?_
  have eL : (fun j => (Array.replicate l.toArray.size false).getD j false) = fun _ => false := by funext j; exact getD_replicate_false _ _
  have hrd : Rel { w with drawn := w.drawn + 1 } S μ (Hs fun _ => false) := by
    obtain ⟨q, _⟩ := hr.grow (S' := S) (Gr.drew w) (fun _ _ _ h => h) (fun _ _ _ h => .inl h) (fun b j d h hb => by have := hr.still_lt h; exact absurd this (by have := hb; omega))
    exact q
  have hsd : Step n w S μ (Hs fun _ => false) { w with drawn := w.drawn + 1 } S μ (Hs fun _ => false) := by
    obtain ⟨_, q⟩ := hr.grow (S' := S) (Gr.drew w) (fun _ _ _ h => h) (fun _ _ _ h => .inl h) (fun b j d h hb => by have := hr.still_lt h; exact absurd this (by have := hb; omega))
    exact q.less (hl _)
  have hstart : InvF G N n l.toArray nh vs Hs T w S μ (Hs fun _ => false) (Array.replicate l.toArray.size false) a { w with drawn := w.drawn + 1 } S μ :=
    ⟨by simp, fun t _ ht => getD_in (by simpa using ht) (getD_replicate_false _ _), by rw [eL]; exact hrd, by rw [eL]; exact hsd, hg, hf.size, hf.nodef, fun k ok d _ _ _ hl => (by rw [getD_replicate_false] at hl; cases hl), fun d _ => hf.slot d, fun k ok _ hl => (by rw [getD_replicate_false] at hl; cases hl)⟩
  have hop' := fun k o (hk : k < nh) (ho : l.toArray[k]? = some o) => eachF_get (l.take nh) 0 hop k o (by rw [List.getElem?_take, if_pos hk]; simpa using ho)
  have key := drawF_any (P := P) (G := G) (N := N) (n := n) (ops := l.toArray) (nh := nh) vs Hs ps fs (T := T) (w0 := w) (S0 := S) (μ0 := μ) (H0 := Hs fun _ => false) (Q := Lift N n w S μ (Hs fun _ => false) Q) hsh h1 h2 hn' (by simpa using h4)
    (fun k o hk ho => (hop' k o hk ho).1) hl (fun k hk => List.all_eq_true.1 hsee k (List.mem_range.2 hk))
    (fun k o hk ho L hL hE => by have := (hop' k o hk ho).2 L (by rw [Nat.zero_add]; exact hL) hE; rwa [Nat.zero_add] at this)
    (fun a w' S' μ' hr' hs' hg' hsz hnd hdone hkept => by
      have hfr : Fr S' μ' N (((List.range nh).map fun k => ((((l[k]?).bind (·.dst)).getD 0), vs k)) ++ keep.map fun d => (d, get T d)) a := by
        refine ⟨hsz, hnd, get_list _ fun p hp => ?_⟩
        rcases List.mem_append.1 hp with hp | hp
        · obtain ⟨k, hk, rfl⟩ := List.mem_map.1 hp
          have hkn := List.mem_range.1 hk
          have hk' : l[k]? = some l[k] := List.getElem?_eq_getElem (by have := h3; omega)
          obtain ⟨d, hd, _, _, _⟩ := slotShapeN_spec hsh hkn (show l.toArray[k]? = some l[k] by simp [hk'])
          dsimp only
          rw [hk']
          show rep S' μ' (vs k) (a.tmps.getD ((l[k].dst).getD 0) undef)
          rw [hd]
          exact hdone k l[k] d hkn (by simp [hk']) hd
        · obtain ⟨d, hd, rfl⟩ := List.mem_map.1 hp
          exact hkept d (List.all_eq_true.1 hkeep d hd)
      have := runW_wp (P := P) (ops := l.toArray) (n := n) (K := fun s => Q .normal s) (Q := Q) (fun s h => h) (w0 := w) (S0 := S) (μ0 := μ) (H0 := Hs fun _ => false) (hl _) hr.len (l.drop nh) _ htail hfit w' S' μ' a hr' hfr hg' hs'
      simpa using this)
    nh _ a { w with drawn := w.drawn + 1 } S μ hstart (by
      rw [List.filter_eq_self.2 (fun i _ => by rw [getD_replicate_false]; rfl), List.length_range])
  rwa [show nh + (l.toArray.size - nh) = l.toArray.size by omega] at key
end
end Go.Proofs.Ytchncgdjefbmfaa

namespace Go.Proofs.Ytchncgdjefbmfaa
open Go.RowKit
noncomputable abbrev retFK (P : Program) (n : Nat) (rs : List ResultVar) : KO (AV × List AObj) := fun e s=>match e with
 |.ret=>resEK P s.H s.T rs fun ds=>some (ro s.H (oneOf ds),s.H)
 |_=>none
theorem retX (P : Program) (G : Gl) (E : Env) (M : Nat) (N : FS) (n : Nat) (c : Code) (h : Hint) (s : ASt) (rs : List ResultVar) : exec P G E M N c h s (retFK P n rs) = execK P G E M N c h s (retFK P n rs) := (execK_eq c h s _).symm
noncomputable def DecResE (m : Nat) (D : List Deferred) (t0 : AV) (H : List AObj) : RO := exec Try.prog GG (DecResF_env m) m ⟨63,D⟩ DecResF_c DecResF_h ⟨H,[(0,t0)]⟩ (retFK Try.prog H.length [.cell 2 32, .tmp 3])
theorem DecResE_eq (m : Nat) (D : List Deferred) (t0 : AV) (H : List AObj) : DecResE m D t0 H =
 allocE (some zc_api_Result) ty_api_Result H fun t2 H2 =>
 lenE false true H2 t0 fun t10 =>
 binE none false false .eql t10 (V (.int .i64 0)) fun t11 =>
 condE t11 (
  buildE (some pl_api_Result) (some zc_api_Result) [] fun t12 =>
  storeE 7 H2 t2 t12 fun H3 =>
  loadE 7 H3 t2 fun t9000 =>
  some (ro H3 (TU [noT t9000,noT (V (.int .i64 2))]),H3)) (
  sliceE false (some (ty_uint8,1)) H2 t0 (some (V (.int .i64 1))) none fun t15 =>
  tellE (value_Cut_t m [(ro H2 t15)]) [(ro H2 t15)] fun t16 =>
  extE t16 0 fun t17 =>
  extE t16 1 fun t18 =>
  extE t16 2 fun t19 =>
  allocE (some zc_api_Value) ty_api_Value H2 fun t4 H3 =>
  storeE 5 H3 t4 t17 fun H4 =>
  binE none false false .neq t19 (V (.int .i64 0)) fun t21 =>
  condE t21 (
   buildE (some pl_api_Result) (some zc_api_Result) [] fun t22 =>
   storeE 7 H4 t2 t22 fun H5 =>
   loadE 7 H5 t2 fun t9000 =>
   some (ro H5 (TU [noT t9000,noT t19]),H5)) (
   binE none false false .add (V (.int .i64 1)) t18 fun t26 =>
   sliceE false (some (ty_uint8,1)) H4 t0 (some t26) none fun t27 =>
   buildE (some pl_txn_cutter) (some zc_txn_cutter) [(0,t27)] fun t28 =>
   boxE ty_txn_cutter H4 t28 fun t29 H5 =>
   none)) := by
 refine (retX Try.prog GG (DecResF_env m) m ⟨63,D⟩ DecResF_c DecResF_h ⟨H,[(0,t0)]⟩ [.cell 2 32, .tmp 3] (n := H.length)).trans ?_
 kernel_rfl
end Go.Proofs.Ytchncgdjefbmfaa

namespace Go.Proofs.Ytchncgdjefbmfaa
open Go.RowKit
def decRes : Bytes → Rs × Nat
 |[]=>(Rs.zero,2)
 |t :: r =>
  if (cutV r).e ≠ 0 then (Rs.zero,(cutV r).e)
  else if (cut (r.drop (cutV r).n)).2.2 ≠ 0 then (Rs.zero,(cut (r.drop (cutV r).n)).2.2)
  else if 2147483647 < (cut (r.drop (cutV r).n)).1 then (Rs.zero,8)
  else if 23 < t.toNat then (Rs.zero,3)
  else if (cut (r.drop (cutV r).n)).2.1 < (r.drop (cutV r).n).length then (Rs.zero,7)
  else (⟨t.toNat,(cutV r).kind,(cutV r).i,(cutV r).s,(cut (r.drop (cutV r).n)).1⟩,0)
theorem cutV_n : ∀ l : Bytes,(cutV l).n ≤ l.length
 |[]=>Nat.le_refl _
 |t :: r=>by
  have h1 := (cut_n r).2.1
  have h2 := cutText_n r
  by_cases t0 : t.toNat = 0
  ·simp [cutV,t0]
  by_cases t1 : t.toNat = 1
  ·cases r with
   |nil=>simp [cutV,t1]
   |cons b r' =>
    by_cases hb : 1 < b.toNat
    ·simp [cutV,t1,hb]
    ·simp [cutV,t1,hb]
  by_cases t2 : t.toNat = 2
  ·by_cases hr : (cut r).2.2 = 0
   ·simp [cutV,t2,hr];omega
   ·simp [cutV,t2,hr]
  by_cases t3 : t.toNat = 3
  ·by_cases hr : (CutText r).2.2 = 0
   ·by_cases h64 : 64 < (CutText r).1.length
    ·simp [cutV,t3,hr,h64]
    ·simp [cutV,t3,hr,h64];omega
   ·simp [cutV,t3,hr]
  ·simp [cutV,t0,t1,t2,t3]
end Go.Proofs.Ytchncgdjefbmfaa

namespace Go.Proofs.Ytchncgdjefbmfaa
open Go.RowKit
abbrev oR (r : Rs) : AObj := ⟨1,ty_api_Result,0,rC r⟩
abbrev oV (k i : Int) (s : Bytes) : AObj := ⟨1,ty_api_Value,0,[nA k,nA i,sA s]⟩
abbrev oC (b : Bytes) (e : Int) : AObj := ⟨1,ty_txn_cutter,0,[SL (bC b),nA e]⟩
def numC (b : Bytes) : Int × Bytes × Nat := if (cut b).2.2 ≠ 0 then (0,b,(cut b).2.2) else if 2147483647 < (cut b).1 then (0,b,8) else ((cut b).1,b.drop (cut b).2.1,0)
theorem cutE_drop {b : Bytes} {n : Int} {k : Nat} (hn : n.toNat = k) : cutE (bC b) n ((b.length : Nat) : Int) = bC (b.drop k) := by
 unfold cutE
 rw [Int.toNat_natCast,hn,List.take_of_length_le (by rw [bC_len];exact Nat.le_refl _),bC_drop]
theorem num_s (m : Nat) (b : Bytes) (k i : Int) (s : Bytes) (R : List AObj) (hR : R = [] ∨ R = [oR Rs.zero]) (hb : b.length ≤ 34359738368) :
  txn_cutter_num m (OP 2 0) (V (.int .u64 2147483647)) ([oR Rs.zero,oV k i s,oC b 0] ++ R) = some (nA (numC b).1,[oR Rs.zero,oV k i s,oC (numC b).2.1 (numC b).2.2] ++ R) := by
 rw [txn_cutter_num_eq]
 have hC := varint_Cut_e m b hb
 have hn := cut_n b
 unfold cutX at hC
 unfold numC
 rcases hR with rfl|rfl
 all_goals
  by_cases h1 : (cut b).2.2 = 0
  ·rw [if_neg (by simpa using h1)]
   by_cases h2 : 2147483647 < (cut b).1
   ·rw [if_pos h2]
    have h2' : (2147483647 : Int) < ((cut b).1 : Int) := by omega
    rw [h1] at hC
    generalize cut b = c at *
    simp (config := {maxSteps := 4000000,implicitDefEqProofs := false}) (disch := omega) only [go_sem,↓reduceIte,Nat.reduceAdd,Nat.reduceSub,Nat.reduceMul,Nat.reduceLeDiff,Nat.reduceLT,Int.reduceEq,Int.reduceNe,Int.reduceLT,Int.reduceLE,Int.reduceAdd,Int.reduceSub,Int.reduceMul,Int.reduceNeg,Nat.zero_add,Nat.add_zero,Nat.mul_one,Int.toNat_natCast,Int.natCast_zero,Int.cast_ofNat_Int,or_false,false_or,or_true,true_or,Int.reduceToNat,Nat.sub_zero,Int.natCast_nonneg,Int.toNat_zero,Bool.true_and,Bool.and_true,Bool.false_and,Bool.and_false,Bool.true_or,Bool.or_true,Bool.false_or,Bool.or_false,Bool.not_true,Bool.not_false,Bool.not_not,true_and,and_true,false_and,and_false,not_true_eq_false,not_false_eq_true,eq_self,decide_true,decide_false,ne_eq,implies_true,forall_const,true_implies,false_implies,Bool.true_eq_false,Bool.false_eq_true,reduceCtorEq,List.map_cons,List.map_nil,List.all_cons,List.all_nil,List.length_cons,List.length_nil,List.length_map,List.length_append,List.nil_append,List.cons_append,List.set_cons_zero,List.set_cons_succ,List.set_nil,List.drop_zero,List.drop_succ_cons,List.drop_nil,List.take_zero,List.take_succ_cons,List.take_nil,Option.map_some,Option.map_none,Option.isSome_some,Nat.reduceEqDiff,Nat.reduceBEq,Nat.reduceGT,List.all_append,List.all_map,Function.comp_def,decide_eq_true_eq,Bool.and_eq_true,beq_self_eq_true,or_self,and_self,ite_true,ite_false,Nat.le_refl,Bool.not_eq_true,decide_not,Bool.not_eq_true',decide_eq_false_iff_not,Bool.not_eq_false,Bool.or_eq_true,if_true,if_false,ite_self,u_roF,u_cvF,u_cvC,u_ceT,u_ceK,u_appS,la_it,la_len,la_sure,la_ltA,la_lt1,la_all1,la_ro,la_take,la_cl,la_tm,la_r,la_sl,rc_len,rc_sure,rc_ltA,rc_lt1,rc_all1,rc_ro,rc_take,rc_sl,la_set,rc_set,zcL_eq,zcR_eq,la_allA,la_len7,all_tt,natInt,u_nthM,hC,h2',txn_cutter_num_r1_eq,txn_cutter_num_r2_eq,bC_ltA,bC_len]
    try rfl
   ·rw [if_neg h2]
    have h2' : ¬ (2147483647 : Int) < ((cut b).1 : Int) := by omega
    rw [h1] at hC
    have hcut := cutE_drop (b := b) (n := ((cut b).2.1 : Int)) (k := (cut b).2.1) (Int.toNat_natCast _)
    have hle : decide ((0 : Int) ≤ ((cut b).2.1 : Int)) = true := decide_eq_true (by omega)
    have hle2 : decide (((cut b).2.1 : Int) ≤ (b.length : Int)) = true := decide_eq_true (by omega)
    have hw : IntKind.i64.wrap ((cut b).1 : Int) = ((cut b).1 : Int) := w_i64 (by omega) (by omega)
    generalize cut b = c at *
    simp (config := {maxSteps := 4000000,implicitDefEqProofs := false}) (disch := omega) only [go_sem,↓reduceIte,Nat.reduceAdd,Nat.reduceSub,Nat.reduceMul,Nat.reduceLeDiff,Nat.reduceLT,Int.reduceEq,Int.reduceNe,Int.reduceLT,Int.reduceLE,Int.reduceAdd,Int.reduceSub,Int.reduceMul,Int.reduceNeg,Nat.zero_add,Nat.add_zero,Nat.mul_one,Int.toNat_natCast,Int.natCast_zero,Int.cast_ofNat_Int,or_false,false_or,or_true,true_or,Int.reduceToNat,Nat.sub_zero,Int.natCast_nonneg,Int.toNat_zero,Bool.true_and,Bool.and_true,Bool.false_and,Bool.and_false,Bool.true_or,Bool.or_true,Bool.false_or,Bool.or_false,Bool.not_true,Bool.not_false,Bool.not_not,true_and,and_true,false_and,and_false,not_true_eq_false,not_false_eq_true,eq_self,decide_true,decide_false,ne_eq,implies_true,forall_const,true_implies,false_implies,Bool.true_eq_false,Bool.false_eq_true,reduceCtorEq,List.map_cons,List.map_nil,List.all_cons,List.all_nil,List.length_cons,List.length_nil,List.length_map,List.length_append,List.nil_append,List.cons_append,List.set_cons_zero,List.set_cons_succ,List.set_nil,List.drop_zero,List.drop_succ_cons,List.drop_nil,List.take_zero,List.take_succ_cons,List.take_nil,Option.map_some,Option.map_none,Option.isSome_some,Nat.reduceEqDiff,Nat.reduceBEq,Nat.reduceGT,List.all_append,List.all_map,Function.comp_def,decide_eq_true_eq,Bool.and_eq_true,beq_self_eq_true,or_self,and_self,ite_true,ite_false,Nat.le_refl,Bool.not_eq_true,decide_not,Bool.not_eq_true',decide_eq_false_iff_not,Bool.not_eq_false,Bool.or_eq_true,if_true,if_false,ite_self,u_roF,u_cvF,u_cvC,u_ceT,u_ceK,u_appS,la_it,la_len,la_sure,la_ltA,la_lt1,la_all1,la_ro,la_take,la_cl,la_tm,la_r,la_sl,rc_len,rc_sure,rc_ltA,rc_lt1,rc_all1,rc_ro,rc_take,rc_sl,la_set,rc_set,zcL_eq,zcR_eq,la_allA,la_len7,all_tt,natInt,u_nthM,hC,h2',txn_cutter_num_r1_eq,txn_cutter_num_r2_eq,bC_ltA,bC_len,hcut,hle,hle2,hw]
    try rw [bC_one',whenE_t,decide_eq_true (Int.le_refl _),whenE_t]
  ·rw [if_pos h1]
   have h1' : ¬ ((cut b).2.2 : Int) = 0 := by omega
   generalize cut b = c at *
   simp (config := {maxSteps := 4000000,implicitDefEqProofs := false}) (disch := omega) only [go_sem,↓reduceIte,Nat.reduceAdd,Nat.reduceSub,Nat.reduceMul,Nat.reduceLeDiff,Nat.reduceLT,Int.reduceEq,Int.reduceNe,Int.reduceLT,Int.reduceLE,Int.reduceAdd,Int.reduceSub,Int.reduceMul,Int.reduceNeg,Nat.zero_add,Nat.add_zero,Nat.mul_one,Int.toNat_natCast,Int.natCast_zero,Int.cast_ofNat_Int,or_false,false_or,or_true,true_or,Int.reduceToNat,Nat.sub_zero,Int.natCast_nonneg,Int.toNat_zero,Bool.true_and,Bool.and_true,Bool.false_and,Bool.and_false,Bool.true_or,Bool.or_true,Bool.false_or,Bool.or_false,Bool.not_true,Bool.not_false,Bool.not_not,true_and,and_true,false_and,and_false,not_true_eq_false,not_false_eq_true,eq_self,decide_true,decide_false,ne_eq,implies_true,forall_const,true_implies,false_implies,Bool.true_eq_false,Bool.false_eq_true,reduceCtorEq,List.map_cons,List.map_nil,List.all_cons,List.all_nil,List.length_cons,List.length_nil,List.length_map,List.length_append,List.nil_append,List.cons_append,List.set_cons_zero,List.set_cons_succ,List.set_nil,List.drop_zero,List.drop_succ_cons,List.drop_nil,List.take_zero,List.take_succ_cons,List.take_nil,Option.map_some,Option.map_none,Option.isSome_some,Nat.reduceEqDiff,Nat.reduceBEq,Nat.reduceGT,List.all_append,List.all_map,Function.comp_def,decide_eq_true_eq,Bool.and_eq_true,beq_self_eq_true,or_self,and_self,ite_true,ite_false,Nat.le_refl,Bool.not_eq_true,decide_not,Bool.not_eq_true',decide_eq_false_iff_not,Bool.not_eq_false,Bool.or_eq_true,if_true,if_false,ite_self,u_roF,u_cvF,u_cvC,u_ceT,u_ceK,u_appS,la_it,la_len,la_sure,la_ltA,la_lt1,la_all1,la_ro,la_take,la_cl,la_tm,la_r,la_sl,rc_len,rc_sure,rc_ltA,rc_lt1,rc_all1,rc_ro,rc_take,rc_sl,la_set,rc_set,zcL_eq,zcR_eq,la_allA,la_len7,all_tt,natInt,u_nthM,hC,h1',txn_cutter_num_r1_eq,txn_cutter_num_r2_eq,bC_ltA,bC_len]
   try rfl
theorem u_bC {R : Type} {es : List AV} {K1 : AV → Option R} : buildE (some pl_txn_cutter) (some zc_txn_cutter) [(0,SL es)] K1 = K1 (.agg [SL es,nA 0]) := _root_.id rfl
theorem zcVal : zc_api_Value = [nA 0,nA 0,sA []] := _root_.id rfl
theorem first_d (m : Nat) (D : List Deferred) (t : UInt8) (r : Bytes) (hr : (t :: r).length ≤ 34359738367) (he : (cutV r).e = 0) :
  DecResF m D (SL (bC (t :: r))) [] = some (TU [SL (bC (t :: r)),OP 0 0,V (.int .i64 0),OP 1 0,OP 2 0],[oR Rs.zero,oV (cutV r).kind (cutV r).i (cutV r).s,oC (r.drop (cutV r).n) 0]) := by
 rw [DecResF_eq]
 have hl : r.length + 1 ≤ 34359738367 := hr
 have hC := value_Cut_e m r (by omega)
 unfold cutVX valX at hC
 rw [he] at hC
 have hn : (cutV r).n ≤ r.length := cutV_n r
 have h0 : cutE (bC (t :: r)) 1 ((r.length + 1 : Nat) : Int) = bC r := cutE_drop (b := t :: r) (n := 1) (k := 1) rfl
 have h1 : cutE (bC (t :: r)) (1 + ((cutV r).n : Int)) ((r.length + 1 : Nat) : Int) = bC (r.drop (cutV r).n) := by
  have := cutE_drop (b := t :: r) (n := 1 + ((cutV r).n : Int)) (k := (cutV r).n + 1) (by omega)
  rw [List.drop_succ_cons] at this
  exact this
 have hw : IntKind.i64.wrap (1 + ((cutV r).n : Int)) = 1 + ((cutV r).n : Int) := w_i64 (by omega) (by omega)
 have hz : ¬ ((r.length + 1 : Nat) : Int) = 0 := by omega
 generalize cutV r = c at *
 simp (config := {maxSteps := 4000000,implicitDefEqProofs := false}) (disch := omega) only [go_sem,↓reduceIte,Nat.reduceAdd,Nat.reduceSub,Nat.reduceMul,Nat.reduceLeDiff,Nat.reduceLT,Int.reduceEq,Int.reduceNe,Int.reduceLT,Int.reduceLE,Int.reduceAdd,Int.reduceSub,Int.reduceMul,Int.reduceNeg,Nat.zero_add,Nat.add_zero,Nat.mul_one,Int.toNat_natCast,Int.natCast_zero,Int.cast_ofNat_Int,or_false,false_or,or_true,true_or,Int.reduceToNat,Nat.sub_zero,Int.natCast_nonneg,Int.toNat_zero,Bool.true_and,Bool.and_true,Bool.false_and,Bool.and_false,Bool.true_or,Bool.or_true,Bool.false_or,Bool.or_false,Bool.not_true,Bool.not_false,Bool.not_not,true_and,and_true,false_and,and_false,not_true_eq_false,not_false_eq_true,eq_self,decide_true,decide_false,ne_eq,implies_true,forall_const,true_implies,false_implies,Bool.true_eq_false,Bool.false_eq_true,reduceCtorEq,List.map_cons,List.map_nil,List.all_cons,List.all_nil,List.length_cons,List.length_nil,List.length_map,List.length_append,List.nil_append,List.cons_append,List.set_cons_zero,List.set_cons_succ,List.set_nil,List.drop_zero,List.drop_succ_cons,List.drop_nil,List.take_zero,List.take_succ_cons,List.take_nil,Option.map_some,Option.map_none,Option.isSome_some,Nat.reduceEqDiff,Nat.reduceBEq,Nat.reduceGT,List.all_append,List.all_map,Function.comp_def,decide_eq_true_eq,Bool.and_eq_true,beq_self_eq_true,or_self,and_self,ite_true,ite_false,Nat.le_refl,Bool.not_eq_true,decide_not,Bool.not_eq_true',decide_eq_false_iff_not,Bool.not_eq_false,Bool.or_eq_true,if_true,if_false,ite_self,u_roF,u_cvF,u_cvC,u_ceT,u_ceK,u_appS,la_it,la_len,la_sure,la_ltA,la_lt1,la_all1,la_ro,la_take,la_cl,la_tm,la_r,la_sl,rc_len,rc_sure,rc_ltA,rc_lt1,rc_all1,rc_ro,rc_take,rc_sl,la_set,rc_set,zcL_eq,zcR_eq,la_allA,la_len7,all_tt,natInt,u_nthM,hC,h0,h1,hw,hz,bC_ltA,bC_len,u_bC,zcVal,bC_one']
 have d1 : decide ((1 : Int) ≤ ((r.length + 1 : Nat) : Int)) = true := decide_eq_true (by omega)
 have d2 : decide (((r.length + 1 : Nat) : Int) ≤ ((r.length + 1 : Nat) : Int)) = true := decide_eq_true (Int.le_refl _)
 have d3 : decide ((0 : Int) ≤ 1 + (c.n : Int)) = true := decide_eq_true (by omega)
 have d4 : decide (1 + (c.n : Int) ≤ ((r.length + 1 : Nat) : Int)) = true := decide_eq_true (by omega)
 simp only [d1,d2,d3,d4,Bool.and_self,whenE_t]
theorem early_nil (m : Nat) (D : List Deferred) : DecResE m D (SL (bC [])) [] = some (TU [rA Rs.zero,nA 2],[oR Rs.zero]) := by
 rw [DecResE_eq]
 simp (config := {maxSteps := 4000000,implicitDefEqProofs := false}) (disch := omega) only [go_sem,↓reduceIte,Nat.reduceAdd,Nat.reduceSub,Nat.reduceMul,Nat.reduceLeDiff,Nat.reduceLT,Int.reduceEq,Int.reduceNe,Int.reduceLT,Int.reduceLE,Int.reduceAdd,Int.reduceSub,Int.reduceMul,Int.reduceNeg,Nat.zero_add,Nat.add_zero,Nat.mul_one,Int.toNat_natCast,Int.natCast_zero,Int.cast_ofNat_Int,or_false,false_or,or_true,true_or,Int.reduceToNat,Nat.sub_zero,Int.natCast_nonneg,Int.toNat_zero,Bool.true_and,Bool.and_true,Bool.false_and,Bool.and_false,Bool.true_or,Bool.or_true,Bool.false_or,Bool.or_false,Bool.not_true,Bool.not_false,Bool.not_not,true_and,and_true,false_and,and_false,not_true_eq_false,not_false_eq_true,eq_self,decide_true,decide_false,ne_eq,implies_true,forall_const,true_implies,false_implies,Bool.true_eq_false,Bool.false_eq_true,reduceCtorEq,List.map_cons,List.map_nil,List.all_cons,List.all_nil,List.length_cons,List.length_nil,List.length_map,List.length_append,List.nil_append,List.cons_append,List.set_cons_zero,List.set_cons_succ,List.set_nil,List.drop_zero,List.drop_succ_cons,List.drop_nil,List.take_zero,List.take_succ_cons,List.take_nil,Option.map_some,Option.map_none,Option.isSome_some,Nat.reduceEqDiff,Nat.reduceBEq,Nat.reduceGT,List.all_append,List.all_map,Function.comp_def,decide_eq_true_eq,Bool.and_eq_true,beq_self_eq_true,or_self,and_self,ite_true,ite_false,Nat.le_refl,Bool.not_eq_true,decide_not,Bool.not_eq_true',decide_eq_false_iff_not,Bool.not_eq_false,Bool.or_eq_true,if_true,if_false,ite_self,u_roF,u_cvF,u_cvC,u_ceT,u_ceK,u_appS,la_it,la_len,la_sure,la_ltA,la_lt1,la_all1,la_ro,la_take,la_cl,la_tm,la_r,la_sl,rc_len,rc_sure,rc_ltA,rc_lt1,rc_all1,rc_ro,rc_take,rc_sl,la_set,rc_set,zcL_eq,zcR_eq,la_allA,la_len7,all_tt,natInt,u_nthM,u_bC,zcVal,rc_b0]
 try rfl
theorem early_cut (m : Nat) (D : List Deferred) (t : UInt8) (r : Bytes) (hr : (t :: r).length ≤ 34359738367) (he : (cutV r).e ≠ 0) :
  ∃ H',DecResE m D (SL (bC (t :: r))) [] = some (TU [rA Rs.zero,nA (cutV r).e],H') := by
 rw [DecResE_eq]
 have hl : r.length + 1 ≤ 34359738367 := hr
 have hC := value_Cut_e m r (by omega)
 unfold cutVX valX at hC
 have h0 : cutE (bC (t :: r)) 1 ((r.length + 1 : Nat) : Int) = bC r := cutE_drop (b := t :: r) (n := 1) (k := 1) rfl
 have hz : ¬ ((r.length + 1 : Nat) : Int) = 0 := by omega
 have he' : ¬ ((cutV r).e : Int) = 0 := by omega
 generalize cutV r = c at *
 simp (config := {maxSteps := 4000000,implicitDefEqProofs := false}) (disch := omega) only [go_sem,↓reduceIte,Nat.reduceAdd,Nat.reduceSub,Nat.reduceMul,Nat.reduceLeDiff,Nat.reduceLT,Int.reduceEq,Int.reduceNe,Int.reduceLT,Int.reduceLE,Int.reduceAdd,Int.reduceSub,Int.reduceMul,Int.reduceNeg,Nat.zero_add,Nat.add_zero,Nat.mul_one,Int.toNat_natCast,Int.natCast_zero,Int.cast_ofNat_Int,or_false,false_or,or_true,true_or,Int.reduceToNat,Nat.sub_zero,Int.natCast_nonneg,Int.toNat_zero,Bool.true_and,Bool.and_true,Bool.false_and,Bool.and_false,Bool.true_or,Bool.or_true,Bool.false_or,Bool.or_false,Bool.not_true,Bool.not_false,Bool.not_not,true_and,and_true,false_and,and_false,not_true_eq_false,not_false_eq_true,eq_self,decide_true,decide_false,ne_eq,implies_true,forall_const,true_implies,false_implies,Bool.true_eq_false,Bool.false_eq_true,reduceCtorEq,List.map_cons,List.map_nil,List.all_cons,List.all_nil,List.length_cons,List.length_nil,List.length_map,List.length_append,List.nil_append,List.cons_append,List.set_cons_zero,List.set_cons_succ,List.set_nil,List.drop_zero,List.drop_succ_cons,List.drop_nil,List.take_zero,List.take_succ_cons,List.take_nil,Option.map_some,Option.map_none,Option.isSome_some,Nat.reduceEqDiff,Nat.reduceBEq,Nat.reduceGT,List.all_append,List.all_map,Function.comp_def,decide_eq_true_eq,Bool.and_eq_true,beq_self_eq_true,or_self,and_self,ite_true,ite_false,Nat.le_refl,Bool.not_eq_true,decide_not,Bool.not_eq_true',decide_eq_false_iff_not,Bool.not_eq_false,Bool.or_eq_true,if_true,if_false,ite_self,u_roF,u_cvF,u_cvC,u_ceT,u_ceK,u_appS,la_it,la_len,la_sure,la_ltA,la_lt1,la_all1,la_ro,la_take,la_cl,la_tm,la_r,la_sl,rc_len,rc_sure,rc_ltA,rc_lt1,rc_all1,rc_ro,rc_take,rc_sl,la_set,rc_set,zcL_eq,zcR_eq,la_allA,la_len7,all_tt,natInt,u_nthM,hC,h0,hz,he',bC_ltA,bC_len,u_bC,zcVal,bC_one',rc_b0]
 have d1 : decide ((1 : Int) ≤ ((r.length + 1 : Nat) : Int)) = true := decide_eq_true (by omega)
 have d2 : decide (((r.length + 1 : Nat) : Int) ≤ ((r.length + 1 : Nat) : Int)) = true := decide_eq_true (Int.le_refl _)
 simp only [d1,d2,Bool.and_self,whenE_t]
 exact ⟨_,rfl⟩
def endC22 (x : Rs) (b : Bytes) (e : Nat) : Rs × Nat := if e ≠ 0 then (Rs.zero,e) else if 23 < x.code then (Rs.zero,3) else if 0 < b.length then (Rs.zero,7) else (x,0)
theorem rest_d (m : Nat) (D : List Deferred) (k i : Int) (s b : Bytes) (e : Nat) (x : Rs) : ∃ H',DecResR m D (OP 0 0) (V (.int .i64 0)) (OP 2 0) (OP 3 0) [oR Rs.zero,oV k i s,oC b e,oR x] = some (TU [rA (endC22 x b e).1,nA (endC22 x b e).2],H') := by
 rw [DecResR_eq]
 unfold endC22
 by_cases h1 : e = 0
 ·subst h1
  rw [if_neg (by simp)]
  by_cases h2 : 23 < x.code
  ·rw [if_pos h2]
   simp (config := {maxSteps := 4000000,implicitDefEqProofs := false}) (disch := omega) only [go_sem,↓reduceIte,Nat.reduceAdd,Nat.reduceSub,Nat.reduceMul,Nat.reduceLeDiff,Nat.reduceLT,Int.reduceEq,Int.reduceNe,Int.reduceLT,Int.reduceLE,Int.reduceAdd,Int.reduceSub,Int.reduceMul,Int.reduceNeg,Nat.zero_add,Nat.add_zero,Nat.mul_one,Int.toNat_natCast,Int.natCast_zero,Int.cast_ofNat_Int,or_false,false_or,or_true,true_or,Int.reduceToNat,Nat.sub_zero,Int.natCast_nonneg,Int.toNat_zero,Bool.true_and,Bool.and_true,Bool.false_and,Bool.and_false,Bool.true_or,Bool.or_true,Bool.false_or,Bool.or_false,Bool.not_true,Bool.not_false,Bool.not_not,true_and,and_true,false_and,and_false,not_true_eq_false,not_false_eq_true,eq_self,decide_true,decide_false,ne_eq,implies_true,forall_const,true_implies,false_implies,Bool.true_eq_false,Bool.false_eq_true,reduceCtorEq,List.map_cons,List.map_nil,List.all_cons,List.all_nil,List.length_cons,List.length_nil,List.length_map,List.length_append,List.nil_append,List.cons_append,List.set_cons_zero,List.set_cons_succ,List.set_nil,List.drop_zero,List.drop_succ_cons,List.drop_nil,List.take_zero,List.take_succ_cons,List.take_nil,Option.map_some,Option.map_none,Option.isSome_some,Nat.reduceEqDiff,Nat.reduceBEq,Nat.reduceGT,List.all_append,List.all_map,Function.comp_def,decide_eq_true_eq,Bool.and_eq_true,beq_self_eq_true,or_self,and_self,ite_true,ite_false,Nat.le_refl,Bool.not_eq_true,decide_not,Bool.not_eq_true',decide_eq_false_iff_not,Bool.not_eq_false,Bool.or_eq_true,if_true,if_false,ite_self,u_roF,u_cvF,u_cvC,u_ceT,u_ceK,u_appS,la_it,la_len,la_sure,la_ltA,la_lt1,la_all1,la_ro,la_take,la_cl,la_tm,la_r,la_sl,rc_len,rc_sure,rc_ltA,rc_lt1,rc_all1,rc_ro,rc_take,rc_sl,la_set,rc_set,zcL_eq,zcR_eq,la_allA,la_len7,all_tt,natInt,u_nthM,rc_b0,rc_code,h2,bC_ltA,bC_len]
   exact ⟨_,rfl⟩
  ·rw [if_neg h2]
   by_cases h3 : 0 < b.length
   ·rw [if_pos h3]
    have h3' : (0 : Int) < (b.length : Int) := by omega
    simp (config := {maxSteps := 4000000,implicitDefEqProofs := false}) (disch := omega) only [go_sem,↓reduceIte,Nat.reduceAdd,Nat.reduceSub,Nat.reduceMul,Nat.reduceLeDiff,Nat.reduceLT,Int.reduceEq,Int.reduceNe,Int.reduceLT,Int.reduceLE,Int.reduceAdd,Int.reduceSub,Int.reduceMul,Int.reduceNeg,Nat.zero_add,Nat.add_zero,Nat.mul_one,Int.toNat_natCast,Int.natCast_zero,Int.cast_ofNat_Int,or_false,false_or,or_true,true_or,Int.reduceToNat,Nat.sub_zero,Int.natCast_nonneg,Int.toNat_zero,Bool.true_and,Bool.and_true,Bool.false_and,Bool.and_false,Bool.true_or,Bool.or_true,Bool.false_or,Bool.or_false,Bool.not_true,Bool.not_false,Bool.not_not,true_and,and_true,false_and,and_false,not_true_eq_false,not_false_eq_true,eq_self,decide_true,decide_false,ne_eq,implies_true,forall_const,true_implies,false_implies,Bool.true_eq_false,Bool.false_eq_true,reduceCtorEq,List.map_cons,List.map_nil,List.all_cons,List.all_nil,List.length_cons,List.length_nil,List.length_map,List.length_append,List.nil_append,List.cons_append,List.set_cons_zero,List.set_cons_succ,List.set_nil,List.drop_zero,List.drop_succ_cons,List.drop_nil,List.take_zero,List.take_succ_cons,List.take_nil,Option.map_some,Option.map_none,Option.isSome_some,Nat.reduceEqDiff,Nat.reduceBEq,Nat.reduceGT,List.all_append,List.all_map,Function.comp_def,decide_eq_true_eq,Bool.and_eq_true,beq_self_eq_true,or_self,and_self,ite_true,ite_false,Nat.le_refl,Bool.not_eq_true,decide_not,Bool.not_eq_true',decide_eq_false_iff_not,Bool.not_eq_false,Bool.or_eq_true,if_true,if_false,ite_self,u_roF,u_cvF,u_cvC,u_ceT,u_ceK,u_appS,la_it,la_len,la_sure,la_ltA,la_lt1,la_all1,la_ro,la_take,la_cl,la_tm,la_r,la_sl,rc_len,rc_sure,rc_ltA,rc_lt1,rc_all1,rc_ro,rc_take,rc_sl,la_set,rc_set,zcL_eq,zcR_eq,la_allA,la_len7,all_tt,natInt,u_nthM,rc_b0,rc_code,h2,h3',bC_ltA,bC_len]
    exact ⟨_,rfl⟩
   ·rw [if_neg h3]
    have h3' : ¬ (0 : Int) < (b.length : Int) := by omega
    simp (config := {maxSteps := 4000000,implicitDefEqProofs := false}) (disch := omega) only [go_sem,↓reduceIte,Nat.reduceAdd,Nat.reduceSub,Nat.reduceMul,Nat.reduceLeDiff,Nat.reduceLT,Int.reduceEq,Int.reduceNe,Int.reduceLT,Int.reduceLE,Int.reduceAdd,Int.reduceSub,Int.reduceMul,Int.reduceNeg,Nat.zero_add,Nat.add_zero,Nat.mul_one,Int.toNat_natCast,Int.natCast_zero,Int.cast_ofNat_Int,or_false,false_or,or_true,true_or,Int.reduceToNat,Nat.sub_zero,Int.natCast_nonneg,Int.toNat_zero,Bool.true_and,Bool.and_true,Bool.false_and,Bool.and_false,Bool.true_or,Bool.or_true,Bool.false_or,Bool.or_false,Bool.not_true,Bool.not_false,Bool.not_not,true_and,and_true,false_and,and_false,not_true_eq_false,not_false_eq_true,eq_self,decide_true,decide_false,ne_eq,implies_true,forall_const,true_implies,false_implies,Bool.true_eq_false,Bool.false_eq_true,reduceCtorEq,List.map_cons,List.map_nil,List.all_cons,List.all_nil,List.length_cons,List.length_nil,List.length_map,List.length_append,List.nil_append,List.cons_append,List.set_cons_zero,List.set_cons_succ,List.set_nil,List.drop_zero,List.drop_succ_cons,List.drop_nil,List.take_zero,List.take_succ_cons,List.take_nil,Option.map_some,Option.map_none,Option.isSome_some,Nat.reduceEqDiff,Nat.reduceBEq,Nat.reduceGT,List.all_append,List.all_map,Function.comp_def,decide_eq_true_eq,Bool.and_eq_true,beq_self_eq_true,or_self,and_self,ite_true,ite_false,Nat.le_refl,Bool.not_eq_true,decide_not,Bool.not_eq_true',decide_eq_false_iff_not,Bool.not_eq_false,Bool.or_eq_true,if_true,if_false,ite_self,u_roF,u_cvF,u_cvC,u_ceT,u_ceK,u_appS,la_it,la_len,la_sure,la_ltA,la_lt1,la_all1,la_ro,la_take,la_cl,la_tm,la_r,la_sl,rc_len,rc_sure,rc_ltA,rc_lt1,rc_all1,rc_ro,rc_take,rc_sl,la_set,rc_set,zcL_eq,zcR_eq,la_allA,la_len7,all_tt,natInt,u_nthM,rc_b0,rc_code,h2,h3',bC_ltA,bC_len]
    exact ⟨_,rfl⟩
 ·rw [if_pos h1]
  have h1' : ¬ (e : Int) = 0 := by omega
  simp (config := {maxSteps := 4000000,implicitDefEqProofs := false}) (disch := omega) only [go_sem,↓reduceIte,Nat.reduceAdd,Nat.reduceSub,Nat.reduceMul,Nat.reduceLeDiff,Nat.reduceLT,Int.reduceEq,Int.reduceNe,Int.reduceLT,Int.reduceLE,Int.reduceAdd,Int.reduceSub,Int.reduceMul,Int.reduceNeg,Nat.zero_add,Nat.add_zero,Nat.mul_one,Int.toNat_natCast,Int.natCast_zero,Int.cast_ofNat_Int,or_false,false_or,or_true,true_or,Int.reduceToNat,Nat.sub_zero,Int.natCast_nonneg,Int.toNat_zero,Bool.true_and,Bool.and_true,Bool.false_and,Bool.and_false,Bool.true_or,Bool.or_true,Bool.false_or,Bool.or_false,Bool.not_true,Bool.not_false,Bool.not_not,true_and,and_true,false_and,and_false,not_true_eq_false,not_false_eq_true,eq_self,decide_true,decide_false,ne_eq,implies_true,forall_const,true_implies,false_implies,Bool.true_eq_false,Bool.false_eq_true,reduceCtorEq,List.map_cons,List.map_nil,List.all_cons,List.all_nil,List.length_cons,List.length_nil,List.length_map,List.length_append,List.nil_append,List.cons_append,List.set_cons_zero,List.set_cons_succ,List.set_nil,List.drop_zero,List.drop_succ_cons,List.drop_nil,List.take_zero,List.take_succ_cons,List.take_nil,Option.map_some,Option.map_none,Option.isSome_some,Nat.reduceEqDiff,Nat.reduceBEq,Nat.reduceGT,List.all_append,List.all_map,Function.comp_def,decide_eq_true_eq,Bool.and_eq_true,beq_self_eq_true,or_self,and_self,ite_true,ite_false,Nat.le_refl,Bool.not_eq_true,decide_not,Bool.not_eq_true',decide_eq_false_iff_not,Bool.not_eq_false,Bool.or_eq_true,if_true,if_false,ite_self,u_roF,u_cvF,u_cvC,u_ceT,u_ceK,u_appS,la_it,la_len,la_sure,la_ltA,la_lt1,la_all1,la_ro,la_take,la_cl,la_tm,la_r,la_sl,rc_len,rc_sure,rc_ltA,rc_lt1,rc_all1,rc_ro,rc_take,rc_sl,la_set,rc_set,zcL_eq,zcR_eq,la_allA,la_len7,all_tt,natInt,u_nthM,rc_b0,h1',bC_ltA,bC_len,u_eqE]
  exact ⟨_,rfl⟩
end Go.Proofs.Ytchncgdjefbmfaa

