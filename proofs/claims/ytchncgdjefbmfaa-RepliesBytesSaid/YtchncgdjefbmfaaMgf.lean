/-
  Texts laid together, part 6 of 7: laws of a walk over data, contracts of functions, each whole by itself.
-/
import Derived.Test.YtchncgdjefbmfaaMge
set_option maxRecDepth 100000
set_option linter.unusedVariables false
set_option linter.unusedSimpArgs false
namespace Go.Proofs.Ytchncgdjefbmfaa
open Go.RowKit
def vsD (t : UInt8) (r : Bytes) (k i : Int) (s b : Bytes) : Nat → AV
 |0=>SL (bC (t :: r))
 |1=>.ptr (V (cB t))
 |2=>V (cB t)
 |3=>nA t.toNat
 |4=>valX k i s
 |5=>OP 2 0
 |6=>nA (numC b).1
 |7=>rA ⟨t.toNat,k,i,s,(numC b).1⟩
 |8=>OP 3 0
 |_=>.nil
def hsD (k i : Int) (s b : Bytes) (L : Nat → Bool) : List AObj := [oR Rs.zero,oV k i s,if L 6 then oC (numC b).2.1 (numC b).2.2 else oC b 0] ++ if L 8 then [oR Rs.zero] else []
theorem step_EE {P : Program} {G : Gl} {E : Env} {N : FS} (hE : EnvOk P G E) {o : Oper} {s : ASt} {X : AV} {H : List AObj} (h : stepE P G E o s (fun d H=>some (d,H)) = some (X,H)) : StepW P G N o s (fun d H'=>d = X ∧ H' = H) :=
 stepW_of (stepOp_mono (fun d H' q=>by injection q with q;injection q with q1 q2;exact ⟨q1,q2⟩) (stepE_ok hE h))
theorem step_X {P : Program} {G : Gl} {N : FS} {o : Oper} {s : ASt} {X X' : AV} {H H' : List AObj} (h : StepW P G N o s (fun d H1=>d = X ∧ H1 = H)) (e1 : X = X') (e2 : H = H') : StepW P G N o s (fun d H1=>d = X' ∧ H1 = H') := by subst e1 e2;exact h
theorem regD (m : Nat) (t : UInt8) (r : Bytes) (k i : Int) (s b : Bytes) (hb : b.length ≤ 34359738368) {T : Tm} (g0 : get T 0 = SL (bC (t :: r))) (g4 : get T 4 = OP 1 0) (g7 : get T 7 = OP 2 0) (g2 : get T 2 = OP 0 0) (g3 : get T 3 = V (.int .i64 0)) {Q : Exit → ASt → Prop}
  (hQ : ∀ T',get T' 2 = OP 0 0 → get T' 3 = V (.int .i64 0) → get T' 7 = OP 2 0 → get T' 8 = OP 3 0 → Q .normal ⟨[oR Rs.zero,oV k i s,oC (numC b).2.1 (numC b).2.2,oR ⟨t.toNat,k,i,s,(numC b).1⟩],T'⟩) :
  AWp Try.prog GG ⟨63,[]⟩ 0 (cdL (endC 5 ((Try.f44.body).getD .skip))) Q ⟨[oR Rs.zero,oV k i s,oC b 0],T⟩ := by
 show AWp _ _ _ _ (.region _ (List.toArray [_,_,_,_,_,_,_,_,_,_]) true) _ _
 refine awp_drawF [_,_,_,_,_,_,_,_,_,_] 9 (vsD t r k i s b) (hsD k i s b) (fun j=>match j with|1=>[0]|2=>[1]|3=>[2]|6=>[5]|7=>[3,4,6]|_=>[]) (fun j=>match j with|0=>[0]|4=>[4]|5=>[7]|_=>[]) [2,3,7] MIX (by kernel_rfl) (by kernel_rfl) (fun _=>Nat.zero_le _) (by kernel_rfl) (by kernel_rfl) ?_ (by kernel_rfl) ?_
 ·refine ⟨⟨rfl,?_⟩,⟨rfl,?_⟩,⟨rfl,?_⟩,⟨rfl,?_⟩,⟨rfl,?_⟩,⟨rfl,?_⟩,⟨rfl,?_⟩,⟨rfl,?_⟩,⟨rfl,?_⟩,trivial⟩
  ·intro L hL hE
   refine step_X (X := SL (bC (t :: r))) (H := hsD k i s b L) (step_EE (E := []) (by intro f e h;cases h) ?_) rfl (by simp [hsD])
   show stepE _ _ _ _ ⟨_,[(0,get T 0)]⟩ _ = _
   rw [g0]
   rfl
  ·intro L hL hE
   refine step_X (X := .ptr (V (cB t))) (H := hsD k i s b L) (step_EE (E := []) (by intro f e h;cases h) ?_) rfl (by simp [hsD])
   show stepE _ _ _ _ ⟨_,[(30,SL (bC (t :: r)))]⟩ _ = _
   refine (show _ = idxSE 1 (hsD k i s b L) (SL (bC (t :: r))) (V (.int .i64 0)) (fun d=>some (d,hsD k i s b L)) from by kernel_rfl).trans ?_
   simp (config := {maxSteps := 4000000,implicitDefEqProofs := false}) (disch := omega) only [go_sem,↓reduceIte,Nat.reduceAdd,Nat.reduceSub,Nat.reduceMul,Nat.reduceLeDiff,Nat.reduceLT,Int.reduceEq,Int.reduceNe,Int.reduceLT,Int.reduceLE,Int.reduceAdd,Int.reduceSub,Int.reduceMul,Int.reduceNeg,Nat.zero_add,Nat.add_zero,Nat.mul_one,Int.toNat_natCast,Int.natCast_zero,Int.cast_ofNat_Int,or_false,false_or,or_true,true_or,Int.reduceToNat,Nat.sub_zero,Int.natCast_nonneg,Int.toNat_zero,Bool.true_and,Bool.and_true,Bool.false_and,Bool.and_false,Bool.true_or,Bool.or_true,Bool.false_or,Bool.or_false,Bool.not_true,Bool.not_false,Bool.not_not,true_and,and_true,false_and,and_false,not_true_eq_false,not_false_eq_true,eq_self,decide_true,decide_false,ne_eq,implies_true,forall_const,true_implies,false_implies,Bool.true_eq_false,Bool.false_eq_true,reduceCtorEq,List.map_cons,List.map_nil,List.all_cons,List.all_nil,List.length_cons,List.length_nil,List.length_map,List.length_append,List.nil_append,List.cons_append,List.set_cons_zero,List.set_cons_succ,List.set_nil,List.drop_zero,List.drop_succ_cons,List.drop_nil,List.take_zero,List.take_succ_cons,List.take_nil,Option.map_some,Option.map_none,Option.isSome_some,Nat.reduceEqDiff,Nat.reduceBEq,Nat.reduceGT,List.all_append,List.all_map,Function.comp_def,decide_eq_true_eq,Bool.and_eq_true,beq_self_eq_true,or_self,and_self,ite_true,ite_false,Nat.le_refl,Bool.not_eq_true,decide_not,Bool.not_eq_true',decide_eq_false_iff_not,Bool.not_eq_false,Bool.or_eq_true,if_true,if_false,ite_self,u_roF,u_cvF,u_cvC,u_ceT,u_ceK,u_appS]
   rfl
  ·intro L hL hE
   refine step_X (X := V (cB t)) (H := hsD k i s b L) (step_EE (E := []) (by intro f e h;cases h) ?_) rfl (by simp [hsD])
   show stepE _ _ _ _ ⟨_,[(31, .ptr (V (cB t)))]⟩ _ = _
   rfl
  ·intro L hL hE
   refine step_X (X := nA t.toNat) (H := hsD k i s b L) (step_EE (E := []) (by intro f e h;cases h) ?_) rfl (by simp [hsD])
   show stepE _ _ _ _ ⟨_,[(32,V (cB t))]⟩ _ = _
   refine (show _ = convE false (some .i64) true false false (V (cB t)) (fun d=>some (d,hsD k i s b L)) from by kernel_rfl).trans ?_
   have hw : IntKind.i64.wrap (t.toNat : Int) = (t.toNat : Int) := w_i64 (by omega) (by have := t.toNat_lt;omega)
   show convE false (some .i64) true false false (V (.int .u8 (t.toNat : Int))) (fun d=>some (d,hsD k i s b L)) = _
   simp (config := {maxSteps := 4000000,implicitDefEqProofs := false}) (disch := omega) only [go_sem,↓reduceIte,Nat.reduceAdd,Nat.reduceSub,Nat.reduceMul,Nat.reduceLeDiff,Nat.reduceLT,Int.reduceEq,Int.reduceNe,Int.reduceLT,Int.reduceLE,Int.reduceAdd,Int.reduceSub,Int.reduceMul,Int.reduceNeg,Nat.zero_add,Nat.add_zero,Nat.mul_one,Int.toNat_natCast,Int.natCast_zero,Int.cast_ofNat_Int,or_false,false_or,or_true,true_or,Int.reduceToNat,Nat.sub_zero,Int.natCast_nonneg,Int.toNat_zero,Bool.true_and,Bool.and_true,Bool.false_and,Bool.and_false,Bool.true_or,Bool.or_true,Bool.false_or,Bool.or_false,Bool.not_true,Bool.not_false,Bool.not_not,true_and,and_true,false_and,and_false,not_true_eq_false,not_false_eq_true,eq_self,decide_true,decide_false,ne_eq,implies_true,forall_const,true_implies,false_implies,Bool.true_eq_false,Bool.false_eq_true,reduceCtorEq,List.map_cons,List.map_nil,List.all_cons,List.all_nil,List.length_cons,List.length_nil,List.length_map,List.length_append,List.nil_append,List.cons_append,List.set_cons_zero,List.set_cons_succ,List.set_nil,List.drop_zero,List.drop_succ_cons,List.drop_nil,List.take_zero,List.take_succ_cons,List.take_nil,Option.map_some,Option.map_none,Option.isSome_some,Nat.reduceEqDiff,Nat.reduceBEq,Nat.reduceGT,List.all_append,List.all_map,Function.comp_def,decide_eq_true_eq,Bool.and_eq_true,beq_self_eq_true,or_self,and_self,ite_true,ite_false,Nat.le_refl,Bool.not_eq_true,decide_not,Bool.not_eq_true',decide_eq_false_iff_not,Bool.not_eq_false,Bool.or_eq_true,if_true,if_false,ite_self,u_roF,u_cvF,u_cvC,u_ceT,u_ceK,u_appS,hw]
  ·intro L hL hE
   refine step_X (X := valX k i s) (H := hsD k i s b L) (step_EE (E := []) (by intro f e h;cases h) ?_) rfl (by simp [hsD])
   show stepE _ _ _ _ ⟨_,[(4,get T 4)]⟩ _ = _
   rw [g4]
   rfl
  ·intro L hL hE
   refine step_X (X := OP 2 0) (H := hsD k i s b L) (step_EE (E := []) (by intro f e h;cases h) ?_) rfl (by simp [hsD])
   show stepE _ _ _ _ ⟨_,[(7,get T 7)]⟩ _ = _
   rw [g7]
   rfl
  ·intro L hL hE
   have h6 : L 6 = false := hL
   refine step_X (X := nA (numC b).1) (H := hsD k i s b fun j=>j == 6 || L j) (step_EE (E := [(65, .keep (txn_cutter_num_t m))]) (by
    intro f e h
    simp only [Prod.mk.injEq,List.mem_cons,List.not_mem_nil,or_false] at h
    obtain ⟨rfl,rfl⟩ := h
    exact txn_cutter_num_ok m) ?_) rfl rfl
   show stepE _ _ _ _ ⟨_,[(35,OP 2 0)]⟩ _ = _
   refine (show _ = keepE (txn_cutter_num m (OP 2 0) (V (.int .u64 2147483647)) (hsD k i s b L)) (fun d H=>some (d,H)) from by kernel_rfl).trans ?_
   have hn := num_s m b k i s (if L 8 then [oR Rs.zero] else []) (by cases L 8 <;> simp) hb
   have e1 : hsD k i s b L = [oR Rs.zero,oV k i s,oC b 0] ++ (if L 8 then [oR Rs.zero] else []) := by simp [hsD,h6]
   have e2 : (hsD k i s b fun j=>j == 6 || L j) = [oR Rs.zero,oV k i s,oC (numC b).2.1 (numC b).2.2] ++ (if L 8 then [oR Rs.zero] else []) := by simp [hsD]
   rw [e1,e2,hn]
   rfl
  ·intro L hL hE
   refine step_X (X := rA ⟨t.toNat,k,i,s,(numC b).1⟩) (H := hsD k i s b L) (step_EE (E := []) (by intro f e h;cases h) ?_) rfl (by simp [hsD])
   show stepE _ _ _ _ ⟨_,[(33,nA t.toNat),(34,valX k i s),(36,nA (numC b).1)]⟩ _ = _
   refine (show _ = buildE (some pl_api_Result) (some zc_api_Result) [(0,nA t.toNat),(1,valX k i s),(2,nA (numC b).1)] (fun d=>some (d,hsD k i s b L)) from by kernel_rfl).trans ?_
   rfl
  ·intro L hL hE
   refine step_X (X := OP 3 0) (H := hsD k i s b L ++ [oR Rs.zero]) (step_EE (E := []) (by intro f e h;cases h) ?_) rfl (by simp [hsD,hL])
   show stepE _ _ _ _ ⟨_,[]⟩ _ = _
   refine (show _ = allocE (some zc_api_Result) ty_api_Result (hsD k i s b L) (fun d H=>some (d,H)) from by kernel_rfl).trans ?_
   have hl3 : (hsD k i s b L).length = 3 := by simp [hsD,show L 8 = false from hL]
   simp (config := {maxSteps := 4000000,implicitDefEqProofs := false}) (disch := omega) only [go_sem,↓reduceIte,Nat.reduceAdd,Nat.reduceSub,Nat.reduceMul,Nat.reduceLeDiff,Nat.reduceLT,Int.reduceEq,Int.reduceNe,Int.reduceLT,Int.reduceLE,Int.reduceAdd,Int.reduceSub,Int.reduceMul,Int.reduceNeg,Nat.zero_add,Nat.add_zero,Nat.mul_one,Int.toNat_natCast,Int.natCast_zero,Int.cast_ofNat_Int,or_false,false_or,or_true,true_or,Int.reduceToNat,Nat.sub_zero,Int.natCast_nonneg,Int.toNat_zero,Bool.true_and,Bool.and_true,Bool.false_and,Bool.and_false,Bool.true_or,Bool.or_true,Bool.false_or,Bool.or_false,Bool.not_true,Bool.not_false,Bool.not_not,true_and,and_true,false_and,and_false,not_true_eq_false,not_false_eq_true,eq_self,decide_true,decide_false,ne_eq,implies_true,forall_const,true_implies,false_implies,Bool.true_eq_false,Bool.false_eq_true,reduceCtorEq,List.map_cons,List.map_nil,List.all_cons,List.all_nil,List.length_cons,List.length_nil,List.length_map,List.length_append,List.nil_append,List.cons_append,List.set_cons_zero,List.set_cons_succ,List.set_nil,List.drop_zero,List.drop_succ_cons,List.drop_nil,List.take_zero,List.take_succ_cons,List.take_nil,Option.map_some,Option.map_none,Option.isSome_some,Nat.reduceEqDiff,Nat.reduceBEq,Nat.reduceGT,List.all_append,List.all_map,Function.comp_def,decide_eq_true_eq,Bool.and_eq_true,beq_self_eq_true,or_self,and_self,ite_true,ite_false,Nat.le_refl,Bool.not_eq_true,decide_not,Bool.not_eq_true',decide_eq_false_iff_not,Bool.not_eq_false,Bool.or_eq_true,if_true,if_false,ite_self,u_roF,u_cvF,u_cvC,u_ceT,u_ceK,u_appS,zcR_eq,la_it,la_len,la_sure,la_ltA,la_lt1,la_all1,la_ro,la_take,la_cl,la_tm,la_r,la_sl,rc_len,rc_sure,rc_ltA,rc_lt1,rc_all1,rc_ro,rc_take,rc_sl,la_set,rc_set,zcL_eq,la_allA,la_len7,all_tt,natInt,u_nthM,hl3]
 ·refine ⟨rfl,_,step_EE (E := []) (X := .nil) (H := [oR Rs.zero,oV k i s,oC (numC b).2.1 (numC b).2.2,oR ⟨t.toNat,k,i,s,(numC b).1⟩]) (by intro f e h;cases h) ?_,fun d H hd=>?_⟩
  ·refine (show _ = storeE 7 [oR Rs.zero,oV k i s,oC (numC b).2.1 (numC b).2.2,oR Rs.zero] (OP 3 0) (rA ⟨t.toNat,k,i,s,(numC b).1⟩) (fun H=>some (.nil,H)) from by kernel_rfl).trans ?_
   rw [rA_def]
   simp (config := {maxSteps := 4000000,implicitDefEqProofs := false}) (disch := omega) only [go_sem,↓reduceIte,Nat.reduceAdd,Nat.reduceSub,Nat.reduceMul,Nat.reduceLeDiff,Nat.reduceLT,Int.reduceEq,Int.reduceNe,Int.reduceLT,Int.reduceLE,Int.reduceAdd,Int.reduceSub,Int.reduceMul,Int.reduceNeg,Nat.zero_add,Nat.add_zero,Nat.mul_one,Int.toNat_natCast,Int.natCast_zero,Int.cast_ofNat_Int,or_false,false_or,or_true,true_or,Int.reduceToNat,Nat.sub_zero,Int.natCast_nonneg,Int.toNat_zero,Bool.true_and,Bool.and_true,Bool.false_and,Bool.and_false,Bool.true_or,Bool.or_true,Bool.false_or,Bool.or_false,Bool.not_true,Bool.not_false,Bool.not_not,true_and,and_true,false_and,and_false,not_true_eq_false,not_false_eq_true,eq_self,decide_true,decide_false,ne_eq,implies_true,forall_const,true_implies,false_implies,Bool.true_eq_false,Bool.false_eq_true,reduceCtorEq,List.map_cons,List.map_nil,List.all_cons,List.all_nil,List.length_cons,List.length_nil,List.length_map,List.length_append,List.nil_append,List.cons_append,List.set_cons_zero,List.set_cons_succ,List.set_nil,List.drop_zero,List.drop_succ_cons,List.drop_nil,List.take_zero,List.take_succ_cons,List.take_nil,Option.map_some,Option.map_none,Option.isSome_some,Nat.reduceEqDiff,Nat.reduceBEq,Nat.reduceGT,List.all_append,List.all_map,Function.comp_def,decide_eq_true_eq,Bool.and_eq_true,beq_self_eq_true,or_self,and_self,ite_true,ite_false,Nat.le_refl,Bool.not_eq_true,decide_not,Bool.not_eq_true',decide_eq_false_iff_not,Bool.not_eq_false,Bool.or_eq_true,if_true,if_false,ite_self,u_roF,u_cvF,u_cvC,u_ceT,u_ceK,u_appS,zcR_eq,la_it,la_len,la_sure,la_ltA,la_lt1,la_all1,la_ro,la_take,la_cl,la_tm,la_r,la_sl,rc_len,rc_sure,rc_ltA,rc_lt1,rc_all1,rc_ro,rc_take,rc_sl,la_set,rc_set,zcL_eq,la_allA,la_len7,all_tt,natInt,u_nthM]
  ·obtain ⟨rfl,rfl⟩ := hd
   exact hQ _ g2 g3 g7 rfl
end Go.Proofs.Ytchncgdjefbmfaa

namespace Go.Proofs.Ytchncgdjefbmfaa
open Go.RowKit
theorem fin_raw {P : Program} {s : ASt} {rs : List ResultVar} {X : AV} {H3 : List AObj} (q : (resEK P s.H s.T rs fun ds=>some (ro s.H (oneOf ds),s.H)) = some (X,H3)) (h1 : ltT 0 X = true) (h2 : fzV s.H X = X) : ltT 0 X = true ∧ resC P s.H s.T rs fun ds=>fzV s.H (ro s.H (oneOf ds)) = X := by
 rw [resEK_eq] at q
 refine ⟨h1,resC_mono (fun ds w=>?_) (resE_ok q)⟩
 injection w with w
 injection w with w _
 rw [w];exact h2
theorem decRes_end {t : UInt8} {r : Bytes} (he : (cutV r).e = 0) : decRes (t :: r) = endC22 ⟨t.toNat,(cutV r).kind,(cutV r).i,(cutV r).s,(numC (r.drop (cutV r).n)).1⟩ (numC (r.drop (cutV r).n)).2.1 (numC (r.drop (cutV r).n)).2.2 := by
 unfold decRes
 dsimp only
 rw [if_neg (by simp [he])]
 generalize r.drop (cutV r).n = b
 by_cases h1 : (cut b).2.2 = 0
 ·have a1 : ¬ (cut b).2.2 ≠ 0 := fun q=>q h1
  by_cases h2 : 2147483647 < (cut b).1
  ·have hn : numC b = (0,b,8) := by unfold numC;rw [if_neg a1,if_pos h2]
   rw [hn,if_neg a1,if_pos h2]
   rfl
  ·have hn : numC b = (((cut b).1 : Int),b.drop (cut b).2.1,0) := by unfold numC;rw [if_neg a1,if_neg h2]
   rw [hn,if_neg a1,if_neg h2]
   unfold endC22
   dsimp only
   rw [if_neg (show ¬ (0 : Nat) ≠ 0 by simp)]
   by_cases h3 : 23 < t.toNat
   ·rw [if_pos h3,if_pos (by omega)]
   ·rw [if_neg h3,if_neg (show ¬ (23 : Int) < (t.toNat : Int) by omega)]
    by_cases h4 : (cut b).2.1 < b.length
    ·rw [if_pos h4,if_pos (by rw [List.length_drop];omega)]
    ·rw [if_neg h4,if_neg (by rw [List.length_drop];omega)]
 ·have hn : numC b = (0,b,(cut b).2.2) := by unfold numC;rw [if_pos h1]
  rw [hn,if_pos h1]
  unfold endC22
  rw [if_pos h1]
theorem early_w (b : Bytes) {X : AV} {H' : List AObj} (hE : DecResE 0 [] (SL (bC b)) [] = some (X,H')) (h1 : ltT 0 X = true) (h2 : ∀ H,fzV H X = X) : AWp Try.prog GG ⟨63,[]⟩ 0 ((Try.f44.body).getD .skip) (retPF Try.prog [.cell 2 32, .tmp 3] X) ⟨[],argsT 0 [SL (bC b)]⟩ := by
 refine exec_far (n := 0) MIX (DecResF_hE 0) 5 _ DecResF_h _ (by kernel_rfl) (Nat.zero_le _) hE (fun s' _ q=>by cases q) (fun e s' hne q=>?_)
 cases e with
 |normal=>exact (hne rfl).elim
 |ret=>exact fin_raw q h1 (h2 _)
 |exit id=>cases q
 |goto l=>cases q
 |panic ch=>cases q
 |outgrown=>cases q
theorem main_w (t : UInt8) (r : Bytes) (hr : (t :: r).length ≤ 34359738367) (he : (cutV r).e = 0) : AWp Try.prog GG ⟨63,[]⟩ 0 ((Try.f44.body).getD .skip) (retPF Try.prog [.cell 2 32, .tmp 3] (TU [rA (decRes (t :: r)).1,nA (decRes (t :: r)).2])) ⟨[],argsT 0 [SL (bC (t :: r))]⟩ := by
 have hF := first_d 0 [] t r hr he
 refine exec_far (n := 0) MIX (DecResF_hE 0) 5 _ DecResF_h _ (by kernel_rfl) (Nat.zero_le _) hF (fun s' _ hk0=>?_) (fun e s' hne q=>?_)
 rotate_left
 ·cases e with
  |normal=>exact (hne rfl).elim
  |_=>cases q
 have hk2 : (some (TU [slotK s'.T 0,slotK s'.T 2,slotK s'.T 3,slotK s'.T 4,slotK s'.T 7],s'.H) : RO) = some (TU [SL (bC (t :: r)),OP 0 0,V (.int .i64 0),OP 1 0,OP 2 0],[oR Rs.zero,oV (cutV r).kind (cutV r).i (cutV r).s,oC (r.drop (cutV r).n) 0]) := hk0
 injection hk2 with hk2
 injection hk2 with hk2 hH
 injection hk2 with _ hk2
 injection hk2 with hk2
 injection hk2 with k0 hk2
 injection hk2 with k1 hk2
 injection hk2 with k2 hk2
 injection hk2 with k3 hk2
 injection hk2 with k4 _
 rw [slotK_eq] at k0 k1 k2 k3 k4
 obtain ⟨H1,T1⟩ := s'
 dsimp only at hH k0 k1 k2 k3 k4
 subst hH
 have ec : endC 5 ((Try.f44.body).getD .skip) = .seq (cdL (endC 5 ((Try.f44.body).getD .skip))) (endC 6 ((Try.f44.body).getD .skip)) := by kernel_rfl
 rw [ec]
 rw [decRes_end he]
 have hbl : (r.drop (cutV r).n).length ≤ 34359738368 := by rw [List.length_drop];simp at hr;omega
 generalize cutV r = c at *
 generalize r.drop c.n = b at *
 refine awp_seq (AWp.mono (Q := fun e s=>e = .normal ∧ s.H = [oR Rs.zero,oV c.kind c.i c.s,oC (numC b).2.1 (numC b).2.2,oR ⟨t.toNat,c.kind,c.i,c.s,(numC b).1⟩] ∧ get s.T 2 = OP 0 0 ∧ get s.T 3 = V (.int .i64 0) ∧ get s.T 7 = OP 2 0 ∧ get s.T 8 = OP 3 0) ?_ fun e s hs=>?_)
 ·exact regD 0 t r c.kind c.i c.s b hbl k0 k3 k4 k1 k2 fun T' q1 q2 q3 q4=>⟨rfl,rfl,q1,q2,q3,q4⟩
 ·obtain ⟨rfl,h0,q1,q2,q3,q4⟩ := hs
  obtain ⟨H2,T2⟩ := s
  dsimp only at h0 q1 q2 q3 q4
  subst h0
  obtain ⟨H3,hR⟩ := rest_d 0 [] c.kind c.i c.s (numC b).2.1 (numC b).2.2 ⟨t.toNat,c.kind,c.i,c.s,(numC b).1⟩
  refine keep_slots [(2,OP 0 0),(3,V (.int .i64 0)),(7,OP 2 0),(8,OP 3 0)] (by
   intro p hp
   simp only [List.mem_cons,List.not_mem_nil,or_false] at hp
   rcases hp with rfl|rfl|rfl|rfl
   ·exact q1
   ·exact q2
   ·exact q3
   ·exact q4) ?_
  refine AWp.mono (exec_ok (n := 0) MIX (DecResR_hE 0) _ DecResR_h _ _ (Nat.zero_le _) hR) fun e s2 qq=>?_
  cases e with
  |normal=>exact fin_raw qq rfl rfl
  |ret=>exact fin_raw qq rfl rfl
  |exit id=>cases qq
  |goto l=>cases qq
  |panic ch=>obtain ⟨u,e9,k9⟩ := chE_some (K := fun u=>some (PN u,s2.H)) qq;simp at k9
  |outgrown=>cases qq
theorem decres_acp (s : Bytes) (hs : s.length ≤ 34359738367) : ACp Try.prog GG 44 [SL (bC s)] (TU [rA (decRes s).1,nA (decRes s).2]) := by
 refine acp_of_wpF (c := (Try.f44.body).getD .skip) (rs := [.cell 2 32, .tmp 3]) Try.func44 rfl (by kernel_rfl) rfl Try.ntmps44 (Nat.le_of_ble_eq_true rfl) ?_
 cases s with
 |nil=>exact early_w [] (early_nil 0 []) rfl fun _=>rfl
 |cons t r =>
  by_cases he : (cutV r).e = 0
  ·exact main_w t r hs he
  ·obtain ⟨H',hE⟩ := early_cut 0 [] t r hs he
   have e1 : decRes (t :: r) = (Rs.zero,(cutV r).e) := by unfold decRes;dsimp only;rw [if_pos he]
   rw [e1]
   exact early_w (t :: r) hE rfl fun _=>rfl
noncomputable def txn_DecodeResult_t (m : Nat) : List AV → RO := orac (ι := Bytes) (fun l=>[SL (bC l)]) (fun s=>TU [rA (decRes s).1,nA (decRes s).2]) (fun l=>l.length ≤ 34359738367)
theorem txn_DecodeResult_ok (m : Nat) : ∀ args X H',txn_DecodeResult_t m args = some (X,H') → ACp Try.prog GG 44 args X := orac_ok decres_acp
theorem txn_DecodeResult_e (m : Nat) (l : Bytes) (hl : l.length ≤ 34359738367) : txn_DecodeResult_t m [SL (bC l)] = some (TU [rA (decRes l).1,nA (decRes l).2],[]) := orac_eq (ι := Bytes) (fun a b h=>by rw [SLb_inj h]) (i := l) hl
end Go.Proofs.Ytchncgdjefbmfaa

namespace Go.Proofs.Ytchncgdjefbmfaa
open Go.RowKit
noncomputable def plenumref26_Encode_c : Code := (Try.f22.body).getD .skip
def plenumref26_Encode_h : Hint := (.two .n (.two .n (.join [3] (.two .n (.one (.lp [] [0,3,4] [3] (.two (.two .n (.two .n .n)) (.two (.one .n) .n))))) (.two .n .n))))
noncomputable def plenumref26_Encode_env (m : Nat) : Env := [(37, .tell (plenumref01_Put_t m)),(39, .tell (plenumref22_EncodeResult_t m)),(38, .tell (plenumref01_Text_t m))]
noncomputable abbrev plenumref26_Encode_fin : KO (AV × List AObj) := tellFK Try.prog [.tmp 2]
noncomputable def plenumref26_Encode_r1 (m : Nat) (s : ASt) : RO := joinW Try.prog GG (plenumref26_Encode_env m) m ⟨41,[]⟩ (cdR (cdR (cdR plenumref26_Encode_c))) plenumref26_Encode_h.r.r.r s (plenumref26_Encode_fin)
noncomputable def plenumref26_Encode_b1 (m : Nat) (s : ASt) (kc : ASt → RO) (kx : KO (AV × List AObj)) : RO := bodyW Try.prog GG (plenumref26_Encode_env m) m ⟨41,[]⟩ (cdL (cdL (cdR (cdL (cdR (cdR plenumref26_Encode_c)))))) plenumref26_Encode_h.r.r.l.r.c.c [0,3,4] [3] s kc kx
noncomputable def plenumref26_Encode (m : Nat) (t0 : AV) : RO := exec Try.prog GG (plenumref26_Encode_env m) m ⟨41,[]⟩ plenumref26_Encode_c plenumref26_Encode_h ⟨[],argsT 0 [t0]⟩ (plenumref26_Encode_fin)
theorem plenumref26_Encode_r1_eq (m : Nat) (H : List AObj) (t3 : AV) : plenumref26_Encode_r1 m ⟨H,[(3,t3)]⟩ =
 tellK H (ro H t3) := by
 refine (joinW_eq _ _ _ _ _ _ _ _ _).trans ?_
 kernel_rfl
theorem plenumref26_Encode_b1_eq (m : Nat) (H : List AObj) (t0 t3 t4 : AV) (kc : ASt → RO) (kx : KO (AV × List AObj)) : plenumref26_Encode_b1 m ⟨H,[(0,t0),(3,t3),(4,t4)]⟩ kc kx =
 lenE false true H t0 fun t11 =>
 binE none false false .lss t4 t11 fun t12 =>
 condE t12 (
  idxSE 9 H t0 t4 fun t18 =>
  fieldE (some (0,1)) t18 fun t19 =>
  loadE 1 H t19 fun t20 =>
  convE false (some .u64) true false false (ro H t20) fun t21 =>
  tellE (plenumref01_Put_t m [(ro H t21)]) [(ro H t21)] fun t22 =>
  idxSE 9 H t0 t4 fun t25 =>
  fieldE (some (1,1)) t25 fun t26 =>
  loadE 1 H t26 fun t27 =>
  convE false (some .u64) true false false (ro H t27) fun t28 =>
  tellE (plenumref01_Put_t m [(ro H t28)]) [(ro H t28)] fun t29 =>
  binE none false false .add t22 t29 fun t30 =>
  idxSE 9 H t0 t4 fun t33 =>
  fieldE (some (2,7)) t33 fun t34 =>
  loadE 7 H t34 fun t35 =>
  tellE (plenumref22_EncodeResult m (ro H t35)) [(ro H t35)] fun t36 =>
  tellE (plenumref01_Text_t m [(ro H t36)]) [(ro H t36)] fun t37 =>
  binE none false false .add t30 t37 fun t38 =>
  binE none false false .add t3 t38 fun t39 =>
  binE none false false .add t4 (V (.int .i64 1)) fun t14 =>
  backE H.length H [(0,t0),(3,t39),(4,t14)] kc) (
  kx (.exit 0) ⟨H,[(3,t3)]⟩) := by
 refine (bodyW_eq _ _ _ _ _ _ _ _ _ _ _ _).trans ?_
 kernel_rfl
theorem plenumref26_Encode_eq (m : Nat) (t0 : AV) : plenumref26_Encode m t0 =
 lenE false true [] t0 fun t6 =>
 convE false (some .u64) true false false (ro [] t6) fun t7 =>
 tellE (plenumref01_Put_t m [(ro [] t7)]) [(ro [] t7)] fun t8 =>
 iterC m (plenumref26_Encode_b1 m) ⟨[],[(0,t0),(3,t8),(4,(V (.int .i64 0)))]⟩ (blockX 0 (seqX (fun s=>plenumref26_Encode_r1 m ⟨s.H,[(3,gt s.T 3)]⟩) (plenumref26_Encode_fin))) := by
 refine (tellX _ _ _ _ _ _ _ _ _).trans ?_
 kernel_rfl
noncomputable def plenumref26_Encode_t (m : Nat) : List AV → RO|[t0]=>plenumref26_Encode m t0|_=>none
theorem plenumref26_Encode_ok (m : Nat) : ∀ args X H',plenumref26_Encode_t m args = some (X,H') → ACp Try.prog GG 22 args X := by
 intro args X H' h
 unfold plenumref26_Encode_t at h
 split at h
 ·exact tell_okK MIX (by
  intro f e h
  simp only [plenumref26_Encode_env,Prod.mk.injEq,List.mem_cons,List.not_mem_nil,or_false] at h
  rcases h with ⟨rfl,rfl⟩|⟨rfl,rfl⟩|⟨rfl,rfl⟩
  ·exact plenumref01_Put_ok m
  ·exact plenumref22_EncodeResult_ok m
  ·exact plenumref01_Text_ok m) (f := 22) (c := plenumref26_Encode_c) Try.func22 rfl (by kernel_rfl) _ rfl Try.ntmps22 (Nat.le_of_ble_eq_true rfl) plenumref26_Encode_h h
 ·cases h
noncomputable def replies_Decode_c : Code := (Try.f23.body).getD .skip
def replies_Decode_h : Hint := (.two .n (.two .n (.two .n (.join [4,5] (.two .n (.one (.lp [(5,ty_api_Last,7)] [4,5,6] [2,3,4,5] (.two (.two .n (.two .n .n)) (.two (.one (.two .n (.two .n (.two (.two .n (.two .n (.two (.two .n .n) .n))) (.two .n (.two (.two .n (.two .n (.two (.two .n .n) .n))) .n)))))) .n))))) (.two (.two .n (.two .n (.two (.two .n .n) .n))) (.two (.two .n (.two .n (.two (.two .n .n) .n))) (.two .n .n)))))))
noncomputable def replies_Decode_env (m : Nat) : Env := [(40, .keep (varint_Read_t m)),(41, .keep (varint_Reader_Num_t m)),(42, .keep (varint_Reader_Text_t m)),(43, .keep (varint_Reader_Err_t m)),(44, .tell (txn_DecodeResult_t m)),(45, .keep (varint_Reader_End_t m)),(9, .tell (replies_Check_t m))]
noncomputable abbrev replies_Decode_fin : KO (AV × List AObj) := tellFK Try.prog [.tmp 2, .tmp 3]
noncomputable def replies_Decode_r1 (m : Nat) (s : ASt) : RO := joinW Try.prog GG (replies_Decode_env m) m ⟨72,[]⟩ (cdR (cdR (cdR (cdR replies_Decode_c)))) replies_Decode_h.r.r.r.r s (replies_Decode_fin)
noncomputable def replies_Decode_b1 (m : Nat) (s : ASt) (kc : ASt → RO) (kx : KO (AV × List AObj)) : RO := bodyW Try.prog GG (replies_Decode_env m) m ⟨72,[]⟩ (cdL (cdL (cdR (cdL (cdR (cdR (cdR replies_Decode_c))))))) replies_Decode_h.r.r.r.l.r.c.c [4,5,6] [2,3,4,5] s kc kx
noncomputable def replies_Decode (m : Nat) (t0 : AV) : RO := exec Try.prog GG (replies_Decode_env m) m ⟨72,[]⟩ replies_Decode_c replies_Decode_h ⟨[],argsT 0 [t0]⟩ (replies_Decode_fin)
theorem replies_Decode_r1_eq (m : Nat) (H : List AObj) (t4 t5 : AV) : replies_Decode_r1 m ⟨H,[(4,t4),(5,t5)]⟩ =
 keepE (varint_Reader_End m (ro H t4) H) fun t57 H2 =>
 extE t57 0 fun t58 =>
 extE t57 1 fun t59 =>
 binE none false false .neq t58 (V (.int .i64 0)) fun t61 =>
 condE t61 (
  tellK H2 (ro H2 (TU [noT (V (.slice none 0 0)),noT t58]))) (
  tellE (replies_Check m (ro H2 t5)) [(ro H2 t5)] fun t65 =>
  extE t65 0 fun t66 =>
  extE t65 1 fun t67 =>
  binE none false false .neq t66 (V (.int .i64 0)) fun t69 =>
  condE t69 (
   tellK H2 (ro H2 (TU [noT (V (.slice none 0 0)),noT t66]))) (
   tellK H2 (ro H2 (TU [noT t5,noT (V (.int .i64 0))])))) := by
 refine (joinW_eq _ _ _ _ _ _ _ _ _).trans ?_
 kernel_rfl
theorem replies_Decode_b1_eq (m : Nat) (H : List AObj) (t4 t5 t6 : AV) (kc : ASt → RO) (kx : KO (AV × List AObj)) : replies_Decode_b1 m ⟨H,[(4,t4),(5,t5),(6,t6)]⟩ kc kx =
 binE none false false .gtr t6 (V (.int .u64 0)) fun t21 =>
 condE t21 (
  keepE (varint_Reader_Num m (ro H t4) (V (.int .u64 255)) H) fun t25 H2 =>
  convE false (some .i64) true false false (ro H2 t25) fun t26 =>
  keepE (varint_Reader_Num m (ro H2 t4) (V (.int .u64 2147483647)) H2) fun t28 H3 =>
  convE false (some .i64) true false false (ro H3 t28) fun t29 =>
  buildE (some pl_api_Last) (some zc_api_Last) [(0,t26),(1,t29)] fun t30 =>
  allocE (some zc_api_Last) ty_api_Last H3 fun t7 H4 =>
  storeE 9 H4 t7 t30 fun H5 =>
  keepE (varint_Reader_Text m (ro H5 t4) H5) fun t32 H6 =>
  keepE (varint_Reader_Err m (ro H6 t4) H6) fun t35 H7 =>
  extE t35 0 fun t36 =>
  extE t35 1 fun t37 =>
  binE none false false .neq t36 (V (.int .i64 0)) fun t39 =>
  condE t39 (
   kx .ret ⟨H7,[(2,(V (.slice none 0 0))),(3,t36),(4,t4),(5,t5)]⟩) (
   convE false none true false true (ro H7 t32) fun t43 =>
   tellE (txn_DecodeResult_t m [(ro H7 t43)]) [(ro H7 t43)] fun t44 =>
   extE t44 0 fun t45 =>
   extE t44 1 fun t46 =>
   fieldE (some (2,7)) t7 fun t47 =>
   storeE 7 H7 t47 t45 fun H8 =>
   binE none false false .neq t46 (V (.int .i64 0)) fun t49 =>
   condE t49 (
    kx .ret ⟨H8,[(2,(V (.slice none 0 0))),(3,t46),(4,t4),(5,t5)]⟩) (
    loadE 9 H8 t7 fun t52 =>
    buildSE (some (ty_api_Last,7)) 1 [(0,t52)] fun t53 =>
    appE (some (ty_api_Last,7)) H8 t5 t53 fun t54 H9 =>
    binE none false false .sub t6 (V (.int .u64 1)) fun t23 =>
    backE H.length H9 [(4,t4),(5,t54),(6,t23)] kc))) (
  kx (.exit 0) ⟨H,[(2, .nil),(3, .nil),(4,t4),(5,t5)]⟩) := by
 refine (bodyW_eq _ _ _ _ _ _ _ _ _ _ _ _).trans ?_
 kernel_rfl
theorem replies_Decode_eq (m : Nat) (t0 : AV) : replies_Decode m t0 =
 keepE (varint_Read m (ro [] t0) []) fun t17 H1 =>
 keepE (varint_Reader_Num m (ro H1 t17) (V (.int .u64 256)) H1) fun t19 H2 =>
 rowE (V (.slice none 0 0)) ty_api_Last 7 H2 fun t5 H3 =>
 iterC m (replies_Decode_b1 m) ⟨H3,[(4,t17),(5,t5),(6,t19)]⟩ (blockX 0 (seqX (fun s=>replies_Decode_r1 m ⟨s.H,[(4,gt s.T 4),(5,gt s.T 5)]⟩) (replies_Decode_fin))) := by
 refine (tellX _ _ _ _ _ _ _ _ _).trans ?_
 kernel_rfl
noncomputable def replies_Decode_t (m : Nat) : List AV → RO|[t0]=>replies_Decode m t0|_=>none
theorem replies_Decode_ok (m : Nat) : ∀ args X H',replies_Decode_t m args = some (X,H') → ACp Try.prog GG 23 args X := by
 intro args X H' h
 unfold replies_Decode_t at h
 split at h
 ·exact tell_okK MIX (by
  intro f e h
  simp only [replies_Decode_env,Prod.mk.injEq,List.mem_cons,List.not_mem_nil,or_false] at h
  rcases h with ⟨rfl,rfl⟩|⟨rfl,rfl⟩|⟨rfl,rfl⟩|⟨rfl,rfl⟩|⟨rfl,rfl⟩|⟨rfl,rfl⟩|⟨rfl,rfl⟩
  ·exact varint_Read_ok m
  ·exact varint_Reader_Num_ok m
  ·exact varint_Reader_Text_ok m
  ·exact varint_Reader_Err_ok m
  ·exact txn_DecodeResult_ok m
  ·exact varint_Reader_End_ok m
  ·exact replies_Check_ok m) (f := 23) (c := replies_Decode_c) Try.func23 rfl (by kernel_rfl) _ rfl Try.ntmps23 (Nat.le_of_ble_eq_true rfl) replies_Decode_h h
 ·cases h
noncomputable def plenumref26_Decode_c : Code := (Try.f25.body).getD .skip
def plenumref26_Decode_h : Hint := (.two .n (.two .n (.two .n (.two .n (.join [4,6] (.two .n (.one (.lp [(6,ty_api_Last,7)] [4,5,6,7] [4,6] (.join [4,5,6,7] (.join [4,5,6,7,31] .n (.two .n .n)) (.join [4,5,6,7] (.one (.two .n (.two .n (.two .n (.two .n (.join [4,5,6,7,8] (.two .n (.two (.two .n (.two .n .n)) .n)) .n)))))) .n))))) (.two (.two .n (.two .n (.two (.two .n .n) .n))) (.two (.two .n (.two .n (.two (.two .n .n) .n))) (.two .n .n))))))))
noncomputable def plenumref26_Decode_env (m : Nat) : Env := [(47, .keep (plenumref01_Take_Num_t m)),(50, .keep (plenumref01_Take_End_t m)),(10, .tell (plenumref26_Check_t m)),(48, .keep (plenumref01_Take_Text_t m)),(49, .tell (plenumref22_DecodeResult_t m))]
noncomputable abbrev plenumref26_Decode_fin : KO (AV × List AObj) := tellFK Try.prog [.tmp 2, .tmp 3]
noncomputable def plenumref26_Decode_r5 (m : Nat) (n0 : Nat) (kc : ASt → RO) (kx : KO (AV × List AObj)) (s : ASt) : RO := joinW Try.prog GG (plenumref26_Decode_env m) m ⟨82,[]⟩ (cdR (cdR (cdL (cdL (cdR (cdL (cdR (cdR (cdR (cdR plenumref26_Decode_c)))))))))) plenumref26_Decode_h.r.r.r.r.l.r.c.c.r.r s (backW n0 [4,5,6,7] [4,6] kc kx)
noncomputable def plenumref26_Decode_r4 (m : Nat) (n0 : Nat) (kc : ASt → RO) (kx : KO (AV × List AObj)) (s : ASt) : RO := joinW Try.prog GG (plenumref26_Decode_env m) m ⟨82,[]⟩ (cdR (cdR (cdR (cdR (cdR (cdL (cdL (cdR (cdL (cdL (cdR (cdL (cdR (cdR (cdR (cdR plenumref26_Decode_c)))))))))))))))) plenumref26_Decode_h.r.r.r.r.l.r.c.c.r.l.c.r.r.r.r.r s (blockX 1 (seqX (fun s=>plenumref26_Decode_r5 m n0 kc kx ⟨s.H,[(4,gt s.T 4),(5,gt s.T 5),(6,gt s.T 6),(7,gt s.T 7)]⟩) (backW n0 [4,5,6,7] [4,6] kc kx)))
noncomputable def plenumref26_Decode_r3 (m : Nat) (n0 : Nat) (kc : ASt → RO) (kx : KO (AV × List AObj)) (s : ASt) : RO := joinW Try.prog GG (plenumref26_Decode_env m) m ⟨82,[]⟩ (cdR (cdL (cdL (cdR (cdL (cdR (cdR (cdR (cdR plenumref26_Decode_c))))))))) plenumref26_Decode_h.r.r.r.r.l.r.c.c.r s (backW n0 [4,5,6,7] [4,6] kc kx)
noncomputable def plenumref26_Decode_r2 (m : Nat) (n0 : Nat) (kc : ASt → RO) (kx : KO (AV × List AObj)) (s : ASt) : RO := joinW Try.prog GG (plenumref26_Decode_env m) m ⟨82,[]⟩ (cdR (cdL (cdL (cdL (cdR (cdL (cdR (cdR (cdR (cdR plenumref26_Decode_c)))))))))) plenumref26_Decode_h.r.r.r.r.l.r.c.c.l.r s (seqX (fun s=>plenumref26_Decode_r3 m n0 kc kx ⟨s.H,[(4,gt s.T 4),(5,gt s.T 5),(6,gt s.T 6),(7,gt s.T 7)]⟩) (backW n0 [4,5,6,7] [4,6] kc kx))
noncomputable def plenumref26_Decode_r1 (m : Nat) (s : ASt) : RO := joinW Try.prog GG (plenumref26_Decode_env m) m ⟨82,[]⟩ (cdR (cdR (cdR (cdR (cdR plenumref26_Decode_c))))) plenumref26_Decode_h.r.r.r.r.r s (plenumref26_Decode_fin)
noncomputable def plenumref26_Decode_b1 (m : Nat) (s : ASt) (kc : ASt → RO) (kx : KO (AV × List AObj)) : RO := bodyW Try.prog GG (plenumref26_Decode_env m) m ⟨82,[]⟩ (cdL (cdL (cdR (cdL (cdR (cdR (cdR (cdR plenumref26_Decode_c)))))))) plenumref26_Decode_h.r.r.r.r.l.r.c.c [4,5,6,7] [4,6] s kc kx
noncomputable def plenumref26_Decode (m : Nat) (t0 : AV) : RO := exec Try.prog GG (plenumref26_Decode_env m) m ⟨82,[]⟩ plenumref26_Decode_c plenumref26_Decode_h ⟨[],argsT 0 [t0]⟩ (plenumref26_Decode_fin)
theorem plenumref26_Decode_r5_eq (m : Nat) (n0 : Nat) (kc : ASt → RO) (kx : KO (AV × List AObj)) (H : List AObj) (t4 t5 t6 t7 : AV) : plenumref26_Decode_r5 m n0 kc kx ⟨H,[(4,t4),(5,t5),(6,t6),(7,t7)]⟩ =
 binE none false false .add t7 (V (.int .i64 1)) fun t33 =>
 backE n0 H [(4,t4),(5,t5),(6,t6),(7,t33)] kc := by
 refine (joinW_eq _ _ _ _ _ _ _ _ _).trans ?_
 kernel_rfl
theorem plenumref26_Decode_r4_eq (m : Nat) (n0 : Nat) (kc : ASt → RO) (kx : KO (AV × List AObj)) (H : List AObj) (t4 t5 t6 t7 t8 : AV) : plenumref26_Decode_r4 m n0 kc kx ⟨H,[(4,t4),(5,t5),(6,t6),(7,t7),(8,t8)]⟩ =
 loadE 9 H t8 fun t62 =>
 buildSE (some (ty_api_Last,7)) 1 [(0,t62)] fun t63 =>
 appE (some (ty_api_Last,7)) H t6 t63 fun t64 H2 =>
 plenumref26_Decode_r5 m n0 kc kx ⟨H2,[(4,t4),(5,t5),(6,t64),(7,t7)]⟩ := by
 refine (joinW_eq _ _ _ _ _ _ _ _ _).trans ?_
 kernel_rfl
theorem plenumref26_Decode_r3_eq (m : Nat) (n0 : Nat) (kc : ASt → RO) (kx : KO (AV × List AObj)) (H : List AObj) (t4 t5 t6 t7 : AV) : plenumref26_Decode_r3 m n0 kc kx ⟨H,[(4,t4),(5,t5),(6,t6),(7,t7)]⟩ =
 buildE (some pl_api_Last) (some zc_api_Last) [] fun t34 =>
 allocE (some zc_api_Last) ty_api_Last H fun t8 H2 =>
 storeE 9 H2 t8 t34 fun H3 =>
 keepE (plenumref01_Take_Num m (ro H3 t4) (V (.int .u64 255)) H3) fun t36 H4 =>
 convE false (some .i64) true false false (ro H4 t36) fun t37 =>
 fieldE (some (0,1)) t8 fun t38 =>
 storeE 1 H4 t38 t37 fun H5 =>
 keepE (plenumref01_Take_Num m (ro H5 t4) (V (.int .u64 2147483647)) H5) fun t40 H6 =>
 convE false (some .i64) true false false (ro H6 t40) fun t41 =>
 fieldE (some (1,1)) t8 fun t42 =>
 storeE 1 H6 t42 t41 fun H7 =>
 keepE (plenumref01_Take_Text m (ro H7 t4) H7) fun t44 H8 =>
 nilE t4 fun t46 =>
 fieldE (some (2,1)) t46 fun t47 =>
 loadE 1 H8 t47 fun t48 =>
 binE none false false .eql t48 (V (.int .i64 0)) fun t49 =>
 condE t49 (
  tellE (plenumref22_DecodeResult m (ro H8 t44)) [(ro H8 t44)] fun t52 =>
  extE t52 0 fun t53 =>
  extE t52 1 fun t54 =>
  allocE (some zc_api_Result) ty_api_Result H8 fun t10 H9 =>
  storeE 7 H9 t10 t53 fun H10 =>
  loadE 7 H10 t10 fun t55 =>
  fieldE (some (2,7)) t8 fun t56 =>
  storeE 7 H10 t56 t55 fun H11 =>
  nilE t4 fun t59 =>
  fieldE (some (2,1)) t59 fun t60 =>
  storeE 1 H11 t60 t54 fun H12 =>
  plenumref26_Decode_r4 m n0 kc kx ⟨H12,[(4,t4),(5,t5),(6,t6),(7,t7),(8,t8)]⟩) (
  plenumref26_Decode_r4 m n0 kc kx ⟨H8,[(4,t4),(5,t5),(6,t6),(7,t7),(8,t8)]⟩) := by
 refine (joinW_eq _ _ _ _ _ _ _ _ _).trans ?_
 kernel_rfl
theorem plenumref26_Decode_r2_eq (m : Nat) (n0 : Nat) (kc : ASt → RO) (kx : KO (AV × List AObj)) (H : List AObj) (t4 t5 t6 t7 t31 : AV) : plenumref26_Decode_r2 m n0 kc kx ⟨H,[(4,t4),(5,t5),(6,t6),(7,t7),(31,t31)]⟩ =
 condE t31 (
  plenumref26_Decode_r3 m n0 kc kx ⟨H,[(4,t4),(5,t5),(6,t6),(7,t7)]⟩) (
  kx (.exit 0) ⟨H,[(4,t4),(6,t6)]⟩) := by
 refine (joinW_eq _ _ _ _ _ _ _ _ _).trans ?_
 kernel_rfl
theorem plenumref26_Decode_r1_eq (m : Nat) (H : List AObj) (t4 t6 : AV) : plenumref26_Decode_r1 m ⟨H,[(4,t4),(6,t6)]⟩ =
 keepE (plenumref01_Take_End m (ro H t4) H) fun t67 H2 =>
 extE t67 0 fun t68 =>
 extE t67 1 fun t69 =>
 binE none false false .neq t68 (V (.int .i64 0)) fun t71 =>
 condE t71 (
  tellK H2 (ro H2 (TU [noT (V (.slice none 0 0)),noT t68]))) (
  tellE (plenumref26_Check m (ro H2 t6)) [(ro H2 t6)] fun t75 =>
  extE t75 0 fun t76 =>
  extE t75 1 fun t77 =>
  binE none false false .neq t76 (V (.int .i64 0)) fun t79 =>
  condE t79 (
   tellK H2 (ro H2 (TU [noT (V (.slice none 0 0)),noT t76]))) (
   tellK H2 (ro H2 (TU [noT t6,noT (V (.int .i64 0))])))) := by
 refine (joinW_eq _ _ _ _ _ _ _ _ _).trans ?_
 kernel_rfl
theorem plenumref26_Decode_b1_eq (m : Nat) (H : List AObj) (t4 t5 t6 t7 : AV) (kc : ASt → RO) (kx : KO (AV × List AObj)) : plenumref26_Decode_b1 m ⟨H,[(4,t4),(5,t5),(6,t6),(7,t7)]⟩ kc kx =
 binE none false false .lss t7 t5 fun t24 =>
 condE t24 (
  nilE t4 fun t27 =>
  fieldE (some (2,1)) t27 fun t28 =>
  loadE 1 H t28 fun t29 =>
  binE none false false .eql t29 (V (.int .i64 0)) fun t30 =>
  plenumref26_Decode_r2 m H.length kc kx ⟨H,[(4,t4),(5,t5),(6,t6),(7,t7),(31,t30)]⟩) (
  plenumref26_Decode_r2 m H.length kc kx ⟨H,[(4,t4),(5,t5),(6,t6),(7,t7),(31,(V (.bool false)))]⟩) := by
 refine (bodyW_eq _ _ _ _ _ _ _ _ _ _ _ _).trans ?_
 kernel_rfl
theorem plenumref26_Decode_eq (m : Nat) (t0 : AV) : plenumref26_Decode m t0 =
 buildE (some pl_plenumref01_Take) (some zc_plenumref01_Take) [(0,t0)] fun t17 =>
 boxE ty_plenumref01_Take [] t17 fun t18 H1 =>
 keepE (plenumref01_Take_Num m (ro H1 t18) (V (.int .u64 256)) H1) fun t20 H2 =>
 convE false (some .i64) true false false (ro H2 t20) fun t21 =>
 rowE (V (.slice none 0 0)) ty_api_Last 7 H2 fun t6 H3 =>
 iterC m (plenumref26_Decode_b1 m) ⟨H3,[(4,t18),(5,t21),(6,t6),(7,(V (.int .i64 0)))]⟩ (blockX 0 (seqX (fun s=>plenumref26_Decode_r1 m ⟨s.H,[(4,gt s.T 4),(6,gt s.T 6)]⟩) (plenumref26_Decode_fin))) := by
 refine (tellX _ _ _ _ _ _ _ _ _).trans ?_
 kernel_rfl
noncomputable def plenumref26_Decode_t (m : Nat) : List AV → RO|[t0]=>plenumref26_Decode m t0|_=>none
theorem plenumref26_Decode_ok (m : Nat) : ∀ args X H',plenumref26_Decode_t m args = some (X,H') → ACp Try.prog GG 25 args X := by
 intro args X H' h
 unfold plenumref26_Decode_t at h
 split at h
 ·exact tell_okK MIX (by
  intro f e h
  simp only [plenumref26_Decode_env,Prod.mk.injEq,List.mem_cons,List.not_mem_nil,or_false] at h
  rcases h with ⟨rfl,rfl⟩|⟨rfl,rfl⟩|⟨rfl,rfl⟩|⟨rfl,rfl⟩|⟨rfl,rfl⟩
  ·exact plenumref01_Take_Num_ok m
  ·exact plenumref01_Take_End_ok m
  ·exact plenumref26_Check_ok m
  ·exact plenumref01_Take_Text_ok m
  ·exact plenumref22_DecodeResult_ok m) (f := 25) (c := plenumref26_Decode_c) Try.func25 rfl (by kernel_rfl) _ rfl Try.ntmps25 (Nat.le_of_ble_eq_true rfl) plenumref26_Decode_h h
 ·cases h
noncomputable def plenumlaw26_RepliesBytes_c : Code := (Try.f7.body).getD .skip
def plenumlaw26_RepliesBytes_h : Hint := (.two .n (.two .n (.join [0,1] (.two .n (.two .n .n)) (.two .n (.join [0,1,5] (.two .n (.two (.two .n (.two .n (.join [0,1,5,36] .n (.two (.two .n .n) .n)))) .n)) (.two .n (.two .n (.two .n .n))))))))
noncomputable def plenumlaw26_RepliesBytes_env (m : Nat) : Env := [(8, .tell (plenumlaw26_Few_t m)),(21, .tell (plenumref26_Is_t m)),(22, .tell (plenumref26_Encode_t m)),(24, .tell (replies_Encode_t m)),(23, .tell (replies_Decode_t m)),(16, .tell (plenumref26_Same_t m)),(25, .tell (plenumref26_Decode_t m)),(13, .tell (plenumlaw26_awake_t m))]
noncomputable abbrev plenumlaw26_RepliesBytes_fin : KO (AV × List AObj) := tellFK Try.prog [.tmp 4]
noncomputable def plenumlaw26_RepliesBytes_r3 (m : Nat) (s : ASt) : RO := joinW Try.prog GG (plenumlaw26_RepliesBytes_env m) m ⟨66,[]⟩ (cdR (cdR (cdR (cdR (cdR plenumlaw26_RepliesBytes_c))))) plenumlaw26_RepliesBytes_h.r.r.r.r.r s (plenumlaw26_RepliesBytes_fin)
noncomputable def plenumlaw26_RepliesBytes_r2 (m : Nat) (s : ASt) : RO := joinW Try.prog GG (plenumlaw26_RepliesBytes_env m) m ⟨66,[]⟩ (cdR (cdR (cdR (cdL (cdR (cdL (cdR (cdR (cdR (cdR plenumlaw26_RepliesBytes_c)))))))))) plenumlaw26_RepliesBytes_h.r.r.r.r.l.r.l.r.r.r s (seqX (fun s=>plenumlaw26_RepliesBytes_r3 m ⟨s.H,[(0,gt s.T 0),(1,gt s.T 1),(5,gt s.T 5)]⟩) (plenumlaw26_RepliesBytes_fin))
noncomputable def plenumlaw26_RepliesBytes_r1 (m : Nat) (s : ASt) : RO := joinW Try.prog GG (plenumlaw26_RepliesBytes_env m) m ⟨66,[]⟩ (cdR (cdR (cdR plenumlaw26_RepliesBytes_c))) plenumlaw26_RepliesBytes_h.r.r.r s (plenumlaw26_RepliesBytes_fin)
noncomputable def plenumlaw26_RepliesBytes (m : Nat) (t0 t1 : AV) : RO := exec Try.prog GG (plenumlaw26_RepliesBytes_env m) m ⟨66,[]⟩ plenumlaw26_RepliesBytes_c plenumlaw26_RepliesBytes_h ⟨[],argsT 0 [t0,t1]⟩ (plenumlaw26_RepliesBytes_fin)
theorem plenumlaw26_RepliesBytes_r3_eq (m : Nat) (H : List AObj) (t0 t1 t5 : AV) : plenumlaw26_RepliesBytes_r3 m ⟨H,[(0,t0),(1,t1),(5,t5)]⟩ =
 tellE (replies_Decode m (ro H t1)) [(ro H t1)] fun t39 =>
 extE t39 0 fun t40 =>
 extE t39 1 fun t41 =>
 convE false none true true false (ro H t1) fun t44 =>
 tellE (plenumref26_Decode m (ro H t44)) [(ro H t44)] fun t45 =>
 extE t45 0 fun t46 =>
 extE t45 1 fun t47 =>
 tellE (replies_Encode m (ro H t0)) [(ro H t0)] fun t49 =>
 convE false none true true false (ro H t49) fun t50 =>
 binE none false false .eql t50 t5 fun t52 =>
 condE t52 (
  tellE (plenumref26_Same m (ro H t40) (ro H t46)) [(ro H t40),(ro H t46)] fun t56 =>
  condE t56 (
  binE none false false .eql t41 t47 fun t61 =>
  condE t61 (
  tellE (plenumlaw26_awake m) [] fun t64 =>
  tellK H (ro H t64)) (
  tellK H (ro H (V (.bool false))))) (
  tellK H (ro H (V (.bool false))))) (
  tellK H (ro H (V (.bool false)))) := by
 refine (joinW_eq _ _ _ _ _ _ _ _ _).trans ?_
 kernel_rfl
theorem plenumlaw26_RepliesBytes_r2_eq (m : Nat) (H : List AObj) (t0 t1 t5 t36 : AV) : plenumlaw26_RepliesBytes_r2 m ⟨H,[(0,t0),(1,t1),(5,t5),(36,t36)]⟩ =
 condE t36 (
  tellK H (ro H (V (.bool false)))) (
  plenumlaw26_RepliesBytes_r3 m ⟨H,[(0,t0),(1,t1),(5,t5)]⟩) := by
 refine (joinW_eq _ _ _ _ _ _ _ _ _).trans ?_
 kernel_rfl
theorem plenumlaw26_RepliesBytes_r1_eq (m : Nat) (H : List AObj) (t0 t1 : AV) : plenumlaw26_RepliesBytes_r1 m ⟨H,[(0,t0),(1,t1)]⟩ =
 tellE (plenumref26_Is m (ro H t0)) [(ro H t0)] fun t20 =>
 condE t20 (
  tellE (plenumref26_Encode m (ro H t0)) [(ro H t0)] fun t22 =>
  tellE (replies_Encode m (ro H t0)) [(ro H t0)] fun t25 =>
  tellE (replies_Decode m (ro H t25)) [(ro H t25)] fun t26 =>
  extE t26 0 fun t27 =>
  extE t26 1 fun t28 =>
  tellE (plenumref26_Same m (ro H t27) (ro H t0)) [(ro H t27),(ro H t0)] fun t31 =>
  unE .not t31 fun t32 =>
  condE t32 (
   plenumlaw26_RepliesBytes_r2 m ⟨H,[(0,t0),(1,t1),(5,t22),(36,(V (.bool true)))]⟩) (
   binE none false false .neq t28 (V (.int .i64 0)) fun t35 =>
   plenumlaw26_RepliesBytes_r2 m ⟨H,[(0,t0),(1,t1),(5,t22),(36,t35)]⟩)) (
  plenumlaw26_RepliesBytes_r3 m ⟨H,[(0,t0),(1,t1),(5,(V (.string ⟨#[]⟩)))]⟩) := by
 refine (joinW_eq _ _ _ _ _ _ _ _ _).trans ?_
 kernel_rfl
theorem plenumlaw26_RepliesBytes_eq (m : Nat) (t0 t1 : AV) : plenumlaw26_RepliesBytes m t0 t1 =
 tellE (plenumlaw26_Few m (ro [] t0)) [(ro [] t0)] fun t13 =>
 lenE false true [] t1 fun t15 =>
 binE none false false .gtr t15 (V (.int .i64 3000)) fun t16 =>
 condE t16 (
  sliceE false (some (ty_uint8,1)) [] t1 none (some (V (.int .i64 3000))) fun t18 =>
  plenumlaw26_RepliesBytes_r1 m ⟨[],[(0,t13),(1,t18)]⟩) (
  plenumlaw26_RepliesBytes_r1 m ⟨[],[(0,t13),(1,t1)]⟩) := by
 refine (tellX _ _ _ _ _ _ _ _ _).trans ?_
 kernel_rfl
noncomputable def plenumlaw26_RepliesBytes_t (m : Nat) : List AV → RO|[t0,t1]=>plenumlaw26_RepliesBytes m t0 t1|_=>none
theorem plenumlaw26_RepliesBytes_ok (m : Nat) : ∀ args X H',plenumlaw26_RepliesBytes_t m args = some (X,H') → ACp Try.prog GG 7 args X := by
 intro args X H' h
 unfold plenumlaw26_RepliesBytes_t at h
 split at h
 ·exact tell_okK MIX (by
  intro f e h
  simp only [plenumlaw26_RepliesBytes_env,Prod.mk.injEq,List.mem_cons,List.not_mem_nil,or_false] at h
  rcases h with ⟨rfl,rfl⟩|⟨rfl,rfl⟩|⟨rfl,rfl⟩|⟨rfl,rfl⟩|⟨rfl,rfl⟩|⟨rfl,rfl⟩|⟨rfl,rfl⟩|⟨rfl,rfl⟩
  ·exact plenumlaw26_Few_ok m
  ·exact plenumref26_Is_ok m
  ·exact plenumref26_Encode_ok m
  ·exact replies_Encode_ok m
  ·exact replies_Decode_ok m
  ·exact plenumref26_Same_ok m
  ·exact plenumref26_Decode_ok m
  ·exact plenumlaw26_awake_ok m) (f := 7) (c := plenumlaw26_RepliesBytes_c) Try.func7 rfl (by kernel_rfl) _ rfl Try.ntmps7 (Nat.le_of_ble_eq_true rfl) plenumlaw26_RepliesBytes_h h
 ·cases h
end Go.Proofs.Ytchncgdjefbmfaa

namespace Go.Proofs.Ytchncgdjefbmfaa
open Go.RowKit
def numR (b : Bytes) (most a e : Nat) : Nat × Nat × Nat := if e ≠ 0 then (0,a,e) else if (cut (b.drop a)).2.2 ≠ 0 then (0,a,(cut (b.drop a)).2.2) else if most < (cut (b.drop a)).1 then (0,a,8) else ((cut (b.drop a)).1,a + (cut (b.drop a)).2.1,0)
def textR (b : Bytes) (a e : Nat) : Bytes × Nat × Nat := if e ≠ 0 then ([],a,e) else if (CutText (b.drop a)).2.2 ≠ 0 then ([],a,(CutText (b.drop a)).2.2) else ((CutText (b.drop a)).1,a + (CutText (b.drop a)).2.1,0)
def endR (n a e : Nat) : Nat × Nat := if e ≠ 0 then (e,a) else if a < n then (7,a) else (0,0)
abbrev rowO (b : Bytes) : AObj := ⟨2,ty_uint8,1,bC b⟩
abbrev rdO (b : Bytes) (a e : Nat) : AObj := ⟨1,ty_varint_Reader,0,[OW 0 b.length,nA a,nA e]⟩
abbrev tkO (b : Bytes) (a e : Nat) : AObj := ⟨1,ty_plenumref01_Take,0,[sA b,nA a,nA e]⟩
theorem cutE_from {b : Bytes} {a : Nat} : cutE (bC b) (a : Int) ((b.length : Nat) : Int) = bC (b.drop a) := by
 unfold cutE
 rw [Int.toNat_natCast,Int.toNat_natCast,List.take_of_length_le (by rw [bC_len];exact Nat.le_refl _),bC_drop]
theorem fNum1 {m : Nat} : findE (varint_step_uint64_env m) 60 = some (.keep (varint_Reader_Num_1_t m)) := _root_.id rfl
theorem fText {m : Nat} : findE (varint_step_string_env m) 63 = some (.tell (varint_CutText_t m)) := _root_.id rfl
theorem num1_t {m : Nat} {a b : AV} {H : List AObj} : varint_Reader_Num_1_t m [a,b] H = varint_Reader_Num_1 m a b H := _root_.id rfl
theorem laC_lt1' {x : La} {n : Nat} : (laC x).all (lt1 n) = true := la_lt1
theorem cutText_zero {l : Bytes} (h : (CutText l).2.2 ≠ 0) : (CutText l).1 = [] ∧ (CutText l).2.1 = 0 := by
 unfold CutText at h ⊢
 by_cases h1 : (cut l).2.2 ≠ 0
 ·rw [if_pos h1];exact ⟨rfl,rfl⟩
 ·rw [if_neg h1] at h ⊢
  by_cases h2 : 255 < (cut l).1
  ·rw [if_pos h2];exact ⟨rfl,rfl⟩
  ·rw [if_neg h2] at h ⊢
   by_cases h3 : l.length < (cut l).2.1 + (cut l).1
   ·rw [if_pos h3];exact ⟨rfl,rfl⟩
   ·rw [if_neg h3] at h;exact absurd rfl h
theorem rnum0_s (m : Nat) (b : Bytes) (most a e : Nat) (mi : Int) (hmi : mi = most) (hb : b.length ≤ 34359738368) (ha : a ≤ b.length) : varint_Reader_Num m (OP 1 0) (V (.int .u64 mi)) [rowO b,rdO b a e] = some (V (.int .u64 ((numR b most a e).1 : Nat)),[rowO b,rdO b (numR b most a e).2.1 (numR b most a e).2.2]) := by
 subst hmi
 rw [varint_Reader_Num_eq]
 have hC := varint_Cut_e m (b.drop a) (by rw [List.length_drop];omega)
 unfold cutX at hC
 have hle : decide ((a : Int) ≤ (b.length : Int)) = true := decide_eq_true (by omega)
 have h0 : decide ((0 : Int) ≤ (a : Int)) = true := decide_eq_true (by omega)
 have hrr : decide ((b.length : Int) ≤ (b.length : Int)) = true := decide_eq_true (Int.le_refl _)
 have hcf := cutE_from (b := b) (a := a)
 have hn := cut_n (b.drop a)
 have hdl : (b.drop a).length ≤ b.length := by rw [List.length_drop];omega
 unfold numR
 by_cases he : e = 0
 ·subst he
  rw [if_neg (show ¬ (0 : Nat) ≠ 0 by simp)]
  by_cases h1 : (cut (b.drop a)).2.2 = 0
  ·rw [if_neg (show ¬ (cut (b.drop a)).2.2 ≠ 0 from fun q=>q h1)]
   rw [h1] at hC
   by_cases h2 : most < (cut (b.drop a)).1
   ·rw [if_pos h2]
    have h2' : (most : Int) < ((cut (b.drop a)).1 : Int) := by omega
    generalize cut (b.drop a) = c at *
    simp (config := {maxSteps := 4000000,implicitDefEqProofs := false}) (disch := omega) only [go_sem,↓reduceIte,Nat.reduceAdd,Nat.reduceSub,Nat.reduceMul,Nat.reduceLeDiff,Nat.reduceLT,Int.reduceEq,Int.reduceNe,Int.reduceLT,Int.reduceLE,Int.reduceAdd,Int.reduceSub,Int.reduceMul,Int.reduceNeg,Nat.zero_add,Nat.add_zero,Nat.mul_one,Int.toNat_natCast,Int.natCast_zero,Int.cast_ofNat_Int,or_false,false_or,or_true,true_or,Int.reduceToNat,Nat.sub_zero,Int.natCast_nonneg,Int.toNat_zero,Bool.true_and,Bool.and_true,Bool.false_and,Bool.and_false,Bool.true_or,Bool.or_true,Bool.false_or,Bool.or_false,Bool.not_true,Bool.not_false,Bool.not_not,true_and,and_true,false_and,and_false,not_true_eq_false,not_false_eq_true,eq_self,decide_true,decide_false,ne_eq,implies_true,forall_const,true_implies,false_implies,Bool.true_eq_false,Bool.false_eq_true,reduceCtorEq,List.map_cons,List.map_nil,List.all_cons,List.all_nil,List.length_cons,List.length_nil,List.length_map,List.length_append,List.nil_append,List.cons_append,List.set_cons_zero,List.set_cons_succ,List.set_nil,List.drop_zero,List.drop_succ_cons,List.drop_nil,List.take_zero,List.take_succ_cons,List.take_nil,Option.map_some,Option.map_none,Option.isSome_some,Nat.reduceEqDiff,Nat.reduceBEq,Nat.reduceGT,List.all_append,List.all_map,Function.comp_def,decide_eq_true_eq,Bool.and_eq_true,beq_self_eq_true,or_self,and_self,ite_true,ite_false,Nat.le_refl,Bool.not_eq_true,decide_not,Bool.not_eq_true',decide_eq_false_iff_not,Bool.not_eq_false,Bool.or_eq_true,if_true,if_false,ite_self,u_roF,u_cvF,u_cvC,u_ceT,u_ceK,u_appS,la_it,la_len,la_sure,la_ltA,la_lt1,la_all1,la_ro,la_take,la_cl,la_tm,la_r,la_sl,rc_len,rc_sure,rc_ltA,rc_lt1,rc_all1,rc_ro,rc_take,rc_sl,la_set,rc_set,zcL_eq,zcR_eq,la_allA,la_len7,all_tt,natInt,u_nthM,bC_ltA,bC_len,bC_one',hle,h0,hrr,hcf,laC_lt1',hC,h2',fNum1,num1_t,varint_step_uint64_eq,varint_Reader_rest_eq,varint_Reader_Num_1_eq,varint_Reader_Num_1_r1_eq,varint_Reader_Num_1_r2_eq,varint_Reader_Fail_eq]
    try rfl
   ·rw [if_neg h2]
    have h2' : ¬ (most : Int) < ((cut (b.drop a)).1 : Int) := by omega
    have hw : IntKind.i64.wrap ((a : Int) + ((cut (b.drop a)).2.1 : Int)) = ((a + (cut (b.drop a)).2.1 : Nat) : Int) := by rw [w_i64 (by omega) (by omega)];omega
    generalize cut (b.drop a) = c at *
    simp (config := {maxSteps := 4000000,implicitDefEqProofs := false}) (disch := omega) only [go_sem,↓reduceIte,Nat.reduceAdd,Nat.reduceSub,Nat.reduceMul,Nat.reduceLeDiff,Nat.reduceLT,Int.reduceEq,Int.reduceNe,Int.reduceLT,Int.reduceLE,Int.reduceAdd,Int.reduceSub,Int.reduceMul,Int.reduceNeg,Nat.zero_add,Nat.add_zero,Nat.mul_one,Int.toNat_natCast,Int.natCast_zero,Int.cast_ofNat_Int,or_false,false_or,or_true,true_or,Int.reduceToNat,Nat.sub_zero,Int.natCast_nonneg,Int.toNat_zero,Bool.true_and,Bool.and_true,Bool.false_and,Bool.and_false,Bool.true_or,Bool.or_true,Bool.false_or,Bool.or_false,Bool.not_true,Bool.not_false,Bool.not_not,true_and,and_true,false_and,and_false,not_true_eq_false,not_false_eq_true,eq_self,decide_true,decide_false,ne_eq,implies_true,forall_const,true_implies,false_implies,Bool.true_eq_false,Bool.false_eq_true,reduceCtorEq,List.map_cons,List.map_nil,List.all_cons,List.all_nil,List.length_cons,List.length_nil,List.length_map,List.length_append,List.nil_append,List.cons_append,List.set_cons_zero,List.set_cons_succ,List.set_nil,List.drop_zero,List.drop_succ_cons,List.drop_nil,List.take_zero,List.take_succ_cons,List.take_nil,Option.map_some,Option.map_none,Option.isSome_some,Nat.reduceEqDiff,Nat.reduceBEq,Nat.reduceGT,List.all_append,List.all_map,Function.comp_def,decide_eq_true_eq,Bool.and_eq_true,beq_self_eq_true,or_self,and_self,ite_true,ite_false,Nat.le_refl,Bool.not_eq_true,decide_not,Bool.not_eq_true',decide_eq_false_iff_not,Bool.not_eq_false,Bool.or_eq_true,if_true,if_false,ite_self,u_roF,u_cvF,u_cvC,u_ceT,u_ceK,u_appS,la_it,la_len,la_sure,la_ltA,la_lt1,la_all1,la_ro,la_take,la_cl,la_tm,la_r,la_sl,rc_len,rc_sure,rc_ltA,rc_lt1,rc_all1,rc_ro,rc_take,rc_sl,la_set,rc_set,zcL_eq,zcR_eq,la_allA,la_len7,all_tt,natInt,u_nthM,bC_ltA,bC_len,bC_one',hle,h0,hrr,hcf,laC_lt1',hC,h2',hw,fNum1,num1_t,varint_step_uint64_eq,varint_Reader_rest_eq,varint_Reader_Num_1_eq,varint_Reader_Num_1_r1_eq,varint_Reader_Num_1_r2_eq,varint_Reader_Fail_eq]
    try rfl
  ·rw [if_pos h1]
   have h1' : ¬ ((cut (b.drop a)).2.2 : Int) = 0 := by omega
   generalize cut (b.drop a) = c at *
   simp (config := {maxSteps := 4000000,implicitDefEqProofs := false}) (disch := omega) only [go_sem,↓reduceIte,Nat.reduceAdd,Nat.reduceSub,Nat.reduceMul,Nat.reduceLeDiff,Nat.reduceLT,Int.reduceEq,Int.reduceNe,Int.reduceLT,Int.reduceLE,Int.reduceAdd,Int.reduceSub,Int.reduceMul,Int.reduceNeg,Nat.zero_add,Nat.add_zero,Nat.mul_one,Int.toNat_natCast,Int.natCast_zero,Int.cast_ofNat_Int,or_false,false_or,or_true,true_or,Int.reduceToNat,Nat.sub_zero,Int.natCast_nonneg,Int.toNat_zero,Bool.true_and,Bool.and_true,Bool.false_and,Bool.and_false,Bool.true_or,Bool.or_true,Bool.false_or,Bool.or_false,Bool.not_true,Bool.not_false,Bool.not_not,true_and,and_true,false_and,and_false,not_true_eq_false,not_false_eq_true,eq_self,decide_true,decide_false,ne_eq,implies_true,forall_const,true_implies,false_implies,Bool.true_eq_false,Bool.false_eq_true,reduceCtorEq,List.map_cons,List.map_nil,List.all_cons,List.all_nil,List.length_cons,List.length_nil,List.length_map,List.length_append,List.nil_append,List.cons_append,List.set_cons_zero,List.set_cons_succ,List.set_nil,List.drop_zero,List.drop_succ_cons,List.drop_nil,List.take_zero,List.take_succ_cons,List.take_nil,Option.map_some,Option.map_none,Option.isSome_some,Nat.reduceEqDiff,Nat.reduceBEq,Nat.reduceGT,List.all_append,List.all_map,Function.comp_def,decide_eq_true_eq,Bool.and_eq_true,beq_self_eq_true,or_self,and_self,ite_true,ite_false,Nat.le_refl,Bool.not_eq_true,decide_not,Bool.not_eq_true',decide_eq_false_iff_not,Bool.not_eq_false,Bool.or_eq_true,if_true,if_false,ite_self,u_roF,u_cvF,u_cvC,u_ceT,u_ceK,u_appS,la_it,la_len,la_sure,la_ltA,la_lt1,la_all1,la_ro,la_take,la_cl,la_tm,la_r,la_sl,rc_len,rc_sure,rc_ltA,rc_lt1,rc_all1,rc_ro,rc_take,rc_sl,la_set,rc_set,zcL_eq,zcR_eq,la_allA,la_len7,all_tt,natInt,u_nthM,bC_ltA,bC_len,bC_one',hle,h0,hrr,hcf,laC_lt1',hC,h1',fNum1,num1_t,varint_step_uint64_eq,varint_Reader_rest_eq,varint_Reader_Num_1_eq,varint_Reader_Num_1_r1_eq,varint_Reader_Num_1_r2_eq,varint_Reader_Fail_eq]
   try rfl
 ·rw [if_pos he]
  have he' : ¬ (e : Int) = 0 := by omega
  simp (config := {maxSteps := 4000000,implicitDefEqProofs := false}) (disch := omega) only [go_sem,↓reduceIte,Nat.reduceAdd,Nat.reduceSub,Nat.reduceMul,Nat.reduceLeDiff,Nat.reduceLT,Int.reduceEq,Int.reduceNe,Int.reduceLT,Int.reduceLE,Int.reduceAdd,Int.reduceSub,Int.reduceMul,Int.reduceNeg,Nat.zero_add,Nat.add_zero,Nat.mul_one,Int.toNat_natCast,Int.natCast_zero,Int.cast_ofNat_Int,or_false,false_or,or_true,true_or,Int.reduceToNat,Nat.sub_zero,Int.natCast_nonneg,Int.toNat_zero,Bool.true_and,Bool.and_true,Bool.false_and,Bool.and_false,Bool.true_or,Bool.or_true,Bool.false_or,Bool.or_false,Bool.not_true,Bool.not_false,Bool.not_not,true_and,and_true,false_and,and_false,not_true_eq_false,not_false_eq_true,eq_self,decide_true,decide_false,ne_eq,implies_true,forall_const,true_implies,false_implies,Bool.true_eq_false,Bool.false_eq_true,reduceCtorEq,List.map_cons,List.map_nil,List.all_cons,List.all_nil,List.length_cons,List.length_nil,List.length_map,List.length_append,List.nil_append,List.cons_append,List.set_cons_zero,List.set_cons_succ,List.set_nil,List.drop_zero,List.drop_succ_cons,List.drop_nil,List.take_zero,List.take_succ_cons,List.take_nil,Option.map_some,Option.map_none,Option.isSome_some,Nat.reduceEqDiff,Nat.reduceBEq,Nat.reduceGT,List.all_append,List.all_map,Function.comp_def,decide_eq_true_eq,Bool.and_eq_true,beq_self_eq_true,or_self,and_self,ite_true,ite_false,Nat.le_refl,Bool.not_eq_true,decide_not,Bool.not_eq_true',decide_eq_false_iff_not,Bool.not_eq_false,Bool.or_eq_true,if_true,if_false,ite_self,u_roF,u_cvF,u_cvC,u_ceT,u_ceK,u_appS,la_it,la_len,la_sure,la_ltA,la_lt1,la_all1,la_ro,la_take,la_cl,la_tm,la_r,la_sl,rc_len,rc_sure,rc_ltA,rc_lt1,rc_all1,rc_ro,rc_take,rc_sl,la_set,rc_set,zcL_eq,zcR_eq,la_allA,la_len7,all_tt,natInt,u_nthM,bC_ltA,bC_len,bC_one',hle,h0,hrr,hcf,laC_lt1',he',varint_step_uint64_eq]
  try rfl
theorem rnum1_s (m : Nat) (b : Bytes) (most a e : Nat) (mi : Int) (hmi : mi = most) (acc : List La) (hb : b.length ≤ 34359738368) (ha : a ≤ b.length) : varint_Reader_Num m (OP 1 0) (V (.int .u64 mi)) [rowO b,rdO b a e,⟨2,ty_api_Last,7,acc.map laE⟩] = some (V (.int .u64 ((numR b most a e).1 : Nat)),[rowO b,rdO b (numR b most a e).2.1 (numR b most a e).2.2,⟨2,ty_api_Last,7,acc.map laE⟩]) := by
 subst hmi
 rw [varint_Reader_Num_eq]
 have hC := varint_Cut_e m (b.drop a) (by rw [List.length_drop];omega)
 unfold cutX at hC
 have hle : decide ((a : Int) ≤ (b.length : Int)) = true := decide_eq_true (by omega)
 have h0 : decide ((0 : Int) ≤ (a : Int)) = true := decide_eq_true (by omega)
 have hrr : decide ((b.length : Int) ≤ (b.length : Int)) = true := decide_eq_true (Int.le_refl _)
 have hcf := cutE_from (b := b) (a := a)
 have hn := cut_n (b.drop a)
 have hdl : (b.drop a).length ≤ b.length := by rw [List.length_drop];omega
 unfold numR
 by_cases he : e = 0
 ·subst he
  rw [if_neg (show ¬ (0 : Nat) ≠ 0 by simp)]
  by_cases h1 : (cut (b.drop a)).2.2 = 0
  ·rw [if_neg (show ¬ (cut (b.drop a)).2.2 ≠ 0 from fun q=>q h1)]
   rw [h1] at hC
   by_cases h2 : most < (cut (b.drop a)).1
   ·rw [if_pos h2]
    have h2' : (most : Int) < ((cut (b.drop a)).1 : Int) := by omega
    generalize cut (b.drop a) = c at *
    simp (config := {maxSteps := 4000000,implicitDefEqProofs := false}) (disch := omega) only [go_sem,↓reduceIte,Nat.reduceAdd,Nat.reduceSub,Nat.reduceMul,Nat.reduceLeDiff,Nat.reduceLT,Int.reduceEq,Int.reduceNe,Int.reduceLT,Int.reduceLE,Int.reduceAdd,Int.reduceSub,Int.reduceMul,Int.reduceNeg,Nat.zero_add,Nat.add_zero,Nat.mul_one,Int.toNat_natCast,Int.natCast_zero,Int.cast_ofNat_Int,or_false,false_or,or_true,true_or,Int.reduceToNat,Nat.sub_zero,Int.natCast_nonneg,Int.toNat_zero,Bool.true_and,Bool.and_true,Bool.false_and,Bool.and_false,Bool.true_or,Bool.or_true,Bool.false_or,Bool.or_false,Bool.not_true,Bool.not_false,Bool.not_not,true_and,and_true,false_and,and_false,not_true_eq_false,not_false_eq_true,eq_self,decide_true,decide_false,ne_eq,implies_true,forall_const,true_implies,false_implies,Bool.true_eq_false,Bool.false_eq_true,reduceCtorEq,List.map_cons,List.map_nil,List.all_cons,List.all_nil,List.length_cons,List.length_nil,List.length_map,List.length_append,List.nil_append,List.cons_append,List.set_cons_zero,List.set_cons_succ,List.set_nil,List.drop_zero,List.drop_succ_cons,List.drop_nil,List.take_zero,List.take_succ_cons,List.take_nil,Option.map_some,Option.map_none,Option.isSome_some,Nat.reduceEqDiff,Nat.reduceBEq,Nat.reduceGT,List.all_append,List.all_map,Function.comp_def,decide_eq_true_eq,Bool.and_eq_true,beq_self_eq_true,or_self,and_self,ite_true,ite_false,Nat.le_refl,Bool.not_eq_true,decide_not,Bool.not_eq_true',decide_eq_false_iff_not,Bool.not_eq_false,Bool.or_eq_true,if_true,if_false,ite_self,u_roF,u_cvF,u_cvC,u_ceT,u_ceK,u_appS,la_it,la_len,la_sure,la_ltA,la_lt1,la_all1,la_ro,la_take,la_cl,la_tm,la_r,la_sl,rc_len,rc_sure,rc_ltA,rc_lt1,rc_all1,rc_ro,rc_take,rc_sl,la_set,rc_set,zcL_eq,zcR_eq,la_allA,la_len7,all_tt,natInt,u_nthM,bC_ltA,bC_len,bC_one',hle,h0,hrr,hcf,laC_lt1',hC,h2',fNum1,num1_t,varint_step_uint64_eq,varint_Reader_rest_eq,varint_Reader_Num_1_eq,varint_Reader_Num_1_r1_eq,varint_Reader_Num_1_r2_eq,varint_Reader_Fail_eq]
    try rfl
   ·rw [if_neg h2]
    have h2' : ¬ (most : Int) < ((cut (b.drop a)).1 : Int) := by omega
    have hw : IntKind.i64.wrap ((a : Int) + ((cut (b.drop a)).2.1 : Int)) = ((a + (cut (b.drop a)).2.1 : Nat) : Int) := by rw [w_i64 (by omega) (by omega)];omega
    generalize cut (b.drop a) = c at *
    simp (config := {maxSteps := 4000000,implicitDefEqProofs := false}) (disch := omega) only [go_sem,↓reduceIte,Nat.reduceAdd,Nat.reduceSub,Nat.reduceMul,Nat.reduceLeDiff,Nat.reduceLT,Int.reduceEq,Int.reduceNe,Int.reduceLT,Int.reduceLE,Int.reduceAdd,Int.reduceSub,Int.reduceMul,Int.reduceNeg,Nat.zero_add,Nat.add_zero,Nat.mul_one,Int.toNat_natCast,Int.natCast_zero,Int.cast_ofNat_Int,or_false,false_or,or_true,true_or,Int.reduceToNat,Nat.sub_zero,Int.natCast_nonneg,Int.toNat_zero,Bool.true_and,Bool.and_true,Bool.false_and,Bool.and_false,Bool.true_or,Bool.or_true,Bool.false_or,Bool.or_false,Bool.not_true,Bool.not_false,Bool.not_not,true_and,and_true,false_and,and_false,not_true_eq_false,not_false_eq_true,eq_self,decide_true,decide_false,ne_eq,implies_true,forall_const,true_implies,false_implies,Bool.true_eq_false,Bool.false_eq_true,reduceCtorEq,List.map_cons,List.map_nil,List.all_cons,List.all_nil,List.length_cons,List.length_nil,List.length_map,List.length_append,List.nil_append,List.cons_append,List.set_cons_zero,List.set_cons_succ,List.set_nil,List.drop_zero,List.drop_succ_cons,List.drop_nil,List.take_zero,List.take_succ_cons,List.take_nil,Option.map_some,Option.map_none,Option.isSome_some,Nat.reduceEqDiff,Nat.reduceBEq,Nat.reduceGT,List.all_append,List.all_map,Function.comp_def,decide_eq_true_eq,Bool.and_eq_true,beq_self_eq_true,or_self,and_self,ite_true,ite_false,Nat.le_refl,Bool.not_eq_true,decide_not,Bool.not_eq_true',decide_eq_false_iff_not,Bool.not_eq_false,Bool.or_eq_true,if_true,if_false,ite_self,u_roF,u_cvF,u_cvC,u_ceT,u_ceK,u_appS,la_it,la_len,la_sure,la_ltA,la_lt1,la_all1,la_ro,la_take,la_cl,la_tm,la_r,la_sl,rc_len,rc_sure,rc_ltA,rc_lt1,rc_all1,rc_ro,rc_take,rc_sl,la_set,rc_set,zcL_eq,zcR_eq,la_allA,la_len7,all_tt,natInt,u_nthM,bC_ltA,bC_len,bC_one',hle,h0,hrr,hcf,laC_lt1',hC,h2',hw,fNum1,num1_t,varint_step_uint64_eq,varint_Reader_rest_eq,varint_Reader_Num_1_eq,varint_Reader_Num_1_r1_eq,varint_Reader_Num_1_r2_eq,varint_Reader_Fail_eq]
    try rfl
  ·rw [if_pos h1]
   have h1' : ¬ ((cut (b.drop a)).2.2 : Int) = 0 := by omega
   generalize cut (b.drop a) = c at *
   simp (config := {maxSteps := 4000000,implicitDefEqProofs := false}) (disch := omega) only [go_sem,↓reduceIte,Nat.reduceAdd,Nat.reduceSub,Nat.reduceMul,Nat.reduceLeDiff,Nat.reduceLT,Int.reduceEq,Int.reduceNe,Int.reduceLT,Int.reduceLE,Int.reduceAdd,Int.reduceSub,Int.reduceMul,Int.reduceNeg,Nat.zero_add,Nat.add_zero,Nat.mul_one,Int.toNat_natCast,Int.natCast_zero,Int.cast_ofNat_Int,or_false,false_or,or_true,true_or,Int.reduceToNat,Nat.sub_zero,Int.natCast_nonneg,Int.toNat_zero,Bool.true_and,Bool.and_true,Bool.false_and,Bool.and_false,Bool.true_or,Bool.or_true,Bool.false_or,Bool.or_false,Bool.not_true,Bool.not_false,Bool.not_not,true_and,and_true,false_and,and_false,not_true_eq_false,not_false_eq_true,eq_self,decide_true,decide_false,ne_eq,implies_true,forall_const,true_implies,false_implies,Bool.true_eq_false,Bool.false_eq_true,reduceCtorEq,List.map_cons,List.map_nil,List.all_cons,List.all_nil,List.length_cons,List.length_nil,List.length_map,List.length_append,List.nil_append,List.cons_append,List.set_cons_zero,List.set_cons_succ,List.set_nil,List.drop_zero,List.drop_succ_cons,List.drop_nil,List.take_zero,List.take_succ_cons,List.take_nil,Option.map_some,Option.map_none,Option.isSome_some,Nat.reduceEqDiff,Nat.reduceBEq,Nat.reduceGT,List.all_append,List.all_map,Function.comp_def,decide_eq_true_eq,Bool.and_eq_true,beq_self_eq_true,or_self,and_self,ite_true,ite_false,Nat.le_refl,Bool.not_eq_true,decide_not,Bool.not_eq_true',decide_eq_false_iff_not,Bool.not_eq_false,Bool.or_eq_true,if_true,if_false,ite_self,u_roF,u_cvF,u_cvC,u_ceT,u_ceK,u_appS,la_it,la_len,la_sure,la_ltA,la_lt1,la_all1,la_ro,la_take,la_cl,la_tm,la_r,la_sl,rc_len,rc_sure,rc_ltA,rc_lt1,rc_all1,rc_ro,rc_take,rc_sl,la_set,rc_set,zcL_eq,zcR_eq,la_allA,la_len7,all_tt,natInt,u_nthM,bC_ltA,bC_len,bC_one',hle,h0,hrr,hcf,laC_lt1',hC,h1',fNum1,num1_t,varint_step_uint64_eq,varint_Reader_rest_eq,varint_Reader_Num_1_eq,varint_Reader_Num_1_r1_eq,varint_Reader_Num_1_r2_eq,varint_Reader_Fail_eq]
   try rfl
 ·rw [if_pos he]
  have he' : ¬ (e : Int) = 0 := by omega
  simp (config := {maxSteps := 4000000,implicitDefEqProofs := false}) (disch := omega) only [go_sem,↓reduceIte,Nat.reduceAdd,Nat.reduceSub,Nat.reduceMul,Nat.reduceLeDiff,Nat.reduceLT,Int.reduceEq,Int.reduceNe,Int.reduceLT,Int.reduceLE,Int.reduceAdd,Int.reduceSub,Int.reduceMul,Int.reduceNeg,Nat.zero_add,Nat.add_zero,Nat.mul_one,Int.toNat_natCast,Int.natCast_zero,Int.cast_ofNat_Int,or_false,false_or,or_true,true_or,Int.reduceToNat,Nat.sub_zero,Int.natCast_nonneg,Int.toNat_zero,Bool.true_and,Bool.and_true,Bool.false_and,Bool.and_false,Bool.true_or,Bool.or_true,Bool.false_or,Bool.or_false,Bool.not_true,Bool.not_false,Bool.not_not,true_and,and_true,false_and,and_false,not_true_eq_false,not_false_eq_true,eq_self,decide_true,decide_false,ne_eq,implies_true,forall_const,true_implies,false_implies,Bool.true_eq_false,Bool.false_eq_true,reduceCtorEq,List.map_cons,List.map_nil,List.all_cons,List.all_nil,List.length_cons,List.length_nil,List.length_map,List.length_append,List.nil_append,List.cons_append,List.set_cons_zero,List.set_cons_succ,List.set_nil,List.drop_zero,List.drop_succ_cons,List.drop_nil,List.take_zero,List.take_succ_cons,List.take_nil,Option.map_some,Option.map_none,Option.isSome_some,Nat.reduceEqDiff,Nat.reduceBEq,Nat.reduceGT,List.all_append,List.all_map,Function.comp_def,decide_eq_true_eq,Bool.and_eq_true,beq_self_eq_true,or_self,and_self,ite_true,ite_false,Nat.le_refl,Bool.not_eq_true,decide_not,Bool.not_eq_true',decide_eq_false_iff_not,Bool.not_eq_false,Bool.or_eq_true,if_true,if_false,ite_self,u_roF,u_cvF,u_cvC,u_ceT,u_ceK,u_appS,la_it,la_len,la_sure,la_ltA,la_lt1,la_all1,la_ro,la_take,la_cl,la_tm,la_r,la_sl,rc_len,rc_sure,rc_ltA,rc_lt1,rc_all1,rc_ro,rc_take,rc_sl,la_set,rc_set,zcL_eq,zcR_eq,la_allA,la_len7,all_tt,natInt,u_nthM,bC_ltA,bC_len,bC_one',hle,h0,hrr,hcf,laC_lt1',he',varint_step_uint64_eq]
  try rfl
theorem rtext2_s (m : Nat) (b : Bytes) (a e : Nat) (acc : List La) (x : La) (hb : b.length ≤ 34359738368) (ha : a ≤ b.length) : varint_Reader_Text m (OP 1 0) [rowO b,rdO b a e,⟨2,ty_api_Last,7,acc.map laE⟩,⟨1,ty_api_Last,0,laC x⟩] = some (sA (textR b a e).1,[rowO b,rdO b (textR b a e).2.1 (textR b a e).2.2,⟨2,ty_api_Last,7,acc.map laE⟩,⟨1,ty_api_Last,0,laC x⟩]) := by
 rw [varint_Reader_Text_eq]
 have hC := varint_CutText_e m (b.drop a) (by rw [List.length_drop];omega)
 unfold cutTX at hC
 have hle : decide ((a : Int) ≤ (b.length : Int)) = true := decide_eq_true (by omega)
 have h0 : decide ((0 : Int) ≤ (a : Int)) = true := decide_eq_true (by omega)
 have hrr : decide ((b.length : Int) ≤ (b.length : Int)) = true := decide_eq_true (Int.le_refl _)
 have hcf := cutE_from (b := b) (a := a)
 have hn := cut_n (b.drop a)
 have hdl : (b.drop a).length ≤ b.length := by rw [List.length_drop];omega
 have hn2 := cutText_n (b.drop a)
 unfold textR
 by_cases he : e = 0
 ·subst he
  rw [if_neg (show ¬ (0 : Nat) ≠ 0 by simp)]
  by_cases h1 : (CutText (b.drop a)).2.2 = 0
  ·rw [if_neg (show ¬ (CutText (b.drop a)).2.2 ≠ 0 from fun q=>q h1)]
   rw [h1] at hC
   have hw : IntKind.i64.wrap ((a : Int) + ((CutText (b.drop a)).2.1 : Int)) = ((a + (CutText (b.drop a)).2.1 : Nat) : Int) := by rw [w_i64 (by omega) (by omega)];omega
   generalize CutText (b.drop a) = c at *
   simp (config := {maxSteps := 4000000,implicitDefEqProofs := false}) (disch := omega) only [go_sem,↓reduceIte,Nat.reduceAdd,Nat.reduceSub,Nat.reduceMul,Nat.reduceLeDiff,Nat.reduceLT,Int.reduceEq,Int.reduceNe,Int.reduceLT,Int.reduceLE,Int.reduceAdd,Int.reduceSub,Int.reduceMul,Int.reduceNeg,Nat.zero_add,Nat.add_zero,Nat.mul_one,Int.toNat_natCast,Int.natCast_zero,Int.cast_ofNat_Int,or_false,false_or,or_true,true_or,Int.reduceToNat,Nat.sub_zero,Int.natCast_nonneg,Int.toNat_zero,Bool.true_and,Bool.and_true,Bool.false_and,Bool.and_false,Bool.true_or,Bool.or_true,Bool.false_or,Bool.or_false,Bool.not_true,Bool.not_false,Bool.not_not,true_and,and_true,false_and,and_false,not_true_eq_false,not_false_eq_true,eq_self,decide_true,decide_false,ne_eq,implies_true,forall_const,true_implies,false_implies,Bool.true_eq_false,Bool.false_eq_true,reduceCtorEq,List.map_cons,List.map_nil,List.all_cons,List.all_nil,List.length_cons,List.length_nil,List.length_map,List.length_append,List.nil_append,List.cons_append,List.set_cons_zero,List.set_cons_succ,List.set_nil,List.drop_zero,List.drop_succ_cons,List.drop_nil,List.take_zero,List.take_succ_cons,List.take_nil,Option.map_some,Option.map_none,Option.isSome_some,Nat.reduceEqDiff,Nat.reduceBEq,Nat.reduceGT,List.all_append,List.all_map,Function.comp_def,decide_eq_true_eq,Bool.and_eq_true,beq_self_eq_true,or_self,and_self,ite_true,ite_false,Nat.le_refl,Bool.not_eq_true,decide_not,Bool.not_eq_true',decide_eq_false_iff_not,Bool.not_eq_false,Bool.or_eq_true,if_true,if_false,ite_self,u_roF,u_cvF,u_cvC,u_ceT,u_ceK,u_appS,la_it,la_len,la_sure,la_ltA,la_lt1,la_all1,la_ro,la_take,la_cl,la_tm,la_r,la_sl,rc_len,rc_sure,rc_ltA,rc_lt1,rc_all1,rc_ro,rc_take,rc_sl,la_set,rc_set,zcL_eq,zcR_eq,la_allA,la_len7,all_tt,natInt,u_nthM,bC_ltA,bC_len,bC_one',hle,h0,hrr,hcf,laC_lt1',hC,hw,fText,varint_step_string_eq,varint_Reader_rest_eq,varint_Reader_Fail_eq]
   try rfl
  ·rw [if_pos h1]
   have h1' : ¬ ((CutText (b.drop a)).2.2 : Int) = 0 := by omega
   generalize CutText (b.drop a) = c at *
   simp (config := {maxSteps := 4000000,implicitDefEqProofs := false}) (disch := omega) only [go_sem,↓reduceIte,Nat.reduceAdd,Nat.reduceSub,Nat.reduceMul,Nat.reduceLeDiff,Nat.reduceLT,Int.reduceEq,Int.reduceNe,Int.reduceLT,Int.reduceLE,Int.reduceAdd,Int.reduceSub,Int.reduceMul,Int.reduceNeg,Nat.zero_add,Nat.add_zero,Nat.mul_one,Int.toNat_natCast,Int.natCast_zero,Int.cast_ofNat_Int,or_false,false_or,or_true,true_or,Int.reduceToNat,Nat.sub_zero,Int.natCast_nonneg,Int.toNat_zero,Bool.true_and,Bool.and_true,Bool.false_and,Bool.and_false,Bool.true_or,Bool.or_true,Bool.false_or,Bool.or_false,Bool.not_true,Bool.not_false,Bool.not_not,true_and,and_true,false_and,and_false,not_true_eq_false,not_false_eq_true,eq_self,decide_true,decide_false,ne_eq,implies_true,forall_const,true_implies,false_implies,Bool.true_eq_false,Bool.false_eq_true,reduceCtorEq,List.map_cons,List.map_nil,List.all_cons,List.all_nil,List.length_cons,List.length_nil,List.length_map,List.length_append,List.nil_append,List.cons_append,List.set_cons_zero,List.set_cons_succ,List.set_nil,List.drop_zero,List.drop_succ_cons,List.drop_nil,List.take_zero,List.take_succ_cons,List.take_nil,Option.map_some,Option.map_none,Option.isSome_some,Nat.reduceEqDiff,Nat.reduceBEq,Nat.reduceGT,List.all_append,List.all_map,Function.comp_def,decide_eq_true_eq,Bool.and_eq_true,beq_self_eq_true,or_self,and_self,ite_true,ite_false,Nat.le_refl,Bool.not_eq_true,decide_not,Bool.not_eq_true',decide_eq_false_iff_not,Bool.not_eq_false,Bool.or_eq_true,if_true,if_false,ite_self,u_roF,u_cvF,u_cvC,u_ceT,u_ceK,u_appS,la_it,la_len,la_sure,la_ltA,la_lt1,la_all1,la_ro,la_take,la_cl,la_tm,la_r,la_sl,rc_len,rc_sure,rc_ltA,rc_lt1,rc_all1,rc_ro,rc_take,rc_sl,la_set,rc_set,zcL_eq,zcR_eq,la_allA,la_len7,all_tt,natInt,u_nthM,bC_ltA,bC_len,bC_one',hle,h0,hrr,hcf,laC_lt1',hC,h1',fText,varint_step_string_eq,varint_Reader_rest_eq,varint_Reader_Fail_eq]
   try rfl
 ·rw [if_pos he]
  have he' : ¬ (e : Int) = 0 := by omega
  simp (config := {maxSteps := 4000000,implicitDefEqProofs := false}) (disch := omega) only [go_sem,↓reduceIte,Nat.reduceAdd,Nat.reduceSub,Nat.reduceMul,Nat.reduceLeDiff,Nat.reduceLT,Int.reduceEq,Int.reduceNe,Int.reduceLT,Int.reduceLE,Int.reduceAdd,Int.reduceSub,Int.reduceMul,Int.reduceNeg,Nat.zero_add,Nat.add_zero,Nat.mul_one,Int.toNat_natCast,Int.natCast_zero,Int.cast_ofNat_Int,or_false,false_or,or_true,true_or,Int.reduceToNat,Nat.sub_zero,Int.natCast_nonneg,Int.toNat_zero,Bool.true_and,Bool.and_true,Bool.false_and,Bool.and_false,Bool.true_or,Bool.or_true,Bool.false_or,Bool.or_false,Bool.not_true,Bool.not_false,Bool.not_not,true_and,and_true,false_and,and_false,not_true_eq_false,not_false_eq_true,eq_self,decide_true,decide_false,ne_eq,implies_true,forall_const,true_implies,false_implies,Bool.true_eq_false,Bool.false_eq_true,reduceCtorEq,List.map_cons,List.map_nil,List.all_cons,List.all_nil,List.length_cons,List.length_nil,List.length_map,List.length_append,List.nil_append,List.cons_append,List.set_cons_zero,List.set_cons_succ,List.set_nil,List.drop_zero,List.drop_succ_cons,List.drop_nil,List.take_zero,List.take_succ_cons,List.take_nil,Option.map_some,Option.map_none,Option.isSome_some,Nat.reduceEqDiff,Nat.reduceBEq,Nat.reduceGT,List.all_append,List.all_map,Function.comp_def,decide_eq_true_eq,Bool.and_eq_true,beq_self_eq_true,or_self,and_self,ite_true,ite_false,Nat.le_refl,Bool.not_eq_true,decide_not,Bool.not_eq_true',decide_eq_false_iff_not,Bool.not_eq_false,Bool.or_eq_true,if_true,if_false,ite_self,u_roF,u_cvF,u_cvC,u_ceT,u_ceK,u_appS,la_it,la_len,la_sure,la_ltA,la_lt1,la_all1,la_ro,la_take,la_cl,la_tm,la_r,la_sl,rc_len,rc_sure,rc_ltA,rc_lt1,rc_all1,rc_ro,rc_take,rc_sl,la_set,rc_set,zcL_eq,zcR_eq,la_allA,la_len7,all_tt,natInt,u_nthM,bC_ltA,bC_len,bC_one',hle,h0,hrr,hcf,laC_lt1',he',varint_step_string_eq]
  try rfl
theorem rerr2_s (m : Nat) (b : Bytes) (a e : Nat) (acc : List La) (x : La) : varint_Reader_Err m (OP 1 0) [rowO b,rdO b a e,⟨2,ty_api_Last,7,acc.map laE⟩,⟨1,ty_api_Last,0,laC x⟩] = some (TU [nA e,nA (if e = 0 then 0 else a : Nat)],[rowO b,rdO b a e,⟨2,ty_api_Last,7,acc.map laE⟩,⟨1,ty_api_Last,0,laC x⟩]) := by
 rw [varint_Reader_Err_eq]
 by_cases he : e = 0
 ·subst he
  simp (config := {maxSteps := 4000000,implicitDefEqProofs := false}) (disch := omega) only [go_sem,↓reduceIte,Nat.reduceAdd,Nat.reduceSub,Nat.reduceMul,Nat.reduceLeDiff,Nat.reduceLT,Int.reduceEq,Int.reduceNe,Int.reduceLT,Int.reduceLE,Int.reduceAdd,Int.reduceSub,Int.reduceMul,Int.reduceNeg,Nat.zero_add,Nat.add_zero,Nat.mul_one,Int.toNat_natCast,Int.natCast_zero,Int.cast_ofNat_Int,or_false,false_or,or_true,true_or,Int.reduceToNat,Nat.sub_zero,Int.natCast_nonneg,Int.toNat_zero,Bool.true_and,Bool.and_true,Bool.false_and,Bool.and_false,Bool.true_or,Bool.or_true,Bool.false_or,Bool.or_false,Bool.not_true,Bool.not_false,Bool.not_not,true_and,and_true,false_and,and_false,not_true_eq_false,not_false_eq_true,eq_self,decide_true,decide_false,ne_eq,implies_true,forall_const,true_implies,false_implies,Bool.true_eq_false,Bool.false_eq_true,reduceCtorEq,List.map_cons,List.map_nil,List.all_cons,List.all_nil,List.length_cons,List.length_nil,List.length_map,List.length_append,List.nil_append,List.cons_append,List.set_cons_zero,List.set_cons_succ,List.set_nil,List.drop_zero,List.drop_succ_cons,List.drop_nil,List.take_zero,List.take_succ_cons,List.take_nil,Option.map_some,Option.map_none,Option.isSome_some,Nat.reduceEqDiff,Nat.reduceBEq,Nat.reduceGT,List.all_append,List.all_map,Function.comp_def,decide_eq_true_eq,Bool.and_eq_true,beq_self_eq_true,or_self,and_self,ite_true,ite_false,Nat.le_refl,Bool.not_eq_true,decide_not,Bool.not_eq_true',decide_eq_false_iff_not,Bool.not_eq_false,Bool.or_eq_true,if_true,if_false,ite_self,u_roF,u_cvF,u_cvC,u_ceT,u_ceK,u_appS,la_it,la_len,la_sure,la_ltA,la_lt1,la_all1,la_ro,la_take,la_cl,la_tm,la_r,la_sl,rc_len,rc_sure,rc_ltA,rc_lt1,rc_all1,rc_ro,rc_take,rc_sl,la_set,rc_set,zcL_eq,zcR_eq,la_allA,la_len7,all_tt,natInt,u_nthM,bC_ltA,bC_len,bC_one',laC_lt1']
  try rfl
 ·have he' : ¬ (e : Int) = 0 := by omega
  rw [if_neg he]
  simp (config := {maxSteps := 4000000,implicitDefEqProofs := false}) (disch := omega) only [go_sem,↓reduceIte,Nat.reduceAdd,Nat.reduceSub,Nat.reduceMul,Nat.reduceLeDiff,Nat.reduceLT,Int.reduceEq,Int.reduceNe,Int.reduceLT,Int.reduceLE,Int.reduceAdd,Int.reduceSub,Int.reduceMul,Int.reduceNeg,Nat.zero_add,Nat.add_zero,Nat.mul_one,Int.toNat_natCast,Int.natCast_zero,Int.cast_ofNat_Int,or_false,false_or,or_true,true_or,Int.reduceToNat,Nat.sub_zero,Int.natCast_nonneg,Int.toNat_zero,Bool.true_and,Bool.and_true,Bool.false_and,Bool.and_false,Bool.true_or,Bool.or_true,Bool.false_or,Bool.or_false,Bool.not_true,Bool.not_false,Bool.not_not,true_and,and_true,false_and,and_false,not_true_eq_false,not_false_eq_true,eq_self,decide_true,decide_false,ne_eq,implies_true,forall_const,true_implies,false_implies,Bool.true_eq_false,Bool.false_eq_true,reduceCtorEq,List.map_cons,List.map_nil,List.all_cons,List.all_nil,List.length_cons,List.length_nil,List.length_map,List.length_append,List.nil_append,List.cons_append,List.set_cons_zero,List.set_cons_succ,List.set_nil,List.drop_zero,List.drop_succ_cons,List.drop_nil,List.take_zero,List.take_succ_cons,List.take_nil,Option.map_some,Option.map_none,Option.isSome_some,Nat.reduceEqDiff,Nat.reduceBEq,Nat.reduceGT,List.all_append,List.all_map,Function.comp_def,decide_eq_true_eq,Bool.and_eq_true,beq_self_eq_true,or_self,and_self,ite_true,ite_false,Nat.le_refl,Bool.not_eq_true,decide_not,Bool.not_eq_true',decide_eq_false_iff_not,Bool.not_eq_false,Bool.or_eq_true,if_true,if_false,ite_self,u_roF,u_cvF,u_cvC,u_ceT,u_ceK,u_appS,la_it,la_len,la_sure,la_ltA,la_lt1,la_all1,la_ro,la_take,la_cl,la_tm,la_r,la_sl,rc_len,rc_sure,rc_ltA,rc_lt1,rc_all1,rc_ro,rc_take,rc_sl,la_set,rc_set,zcL_eq,zcR_eq,la_allA,la_len7,all_tt,natInt,u_nthM,bC_ltA,bC_len,bC_one',laC_lt1',he']
  try rfl
theorem rend1_s (m : Nat) (b : Bytes) (a e : Nat) (acc : List La) : varint_Reader_End m (OP 1 0) [rowO b,rdO b a e,⟨2,ty_api_Last,7,acc.map laE⟩] = some (TU [nA (endR b.length a e).1,nA (endR b.length a e).2],[rowO b,rdO b a e,⟨2,ty_api_Last,7,acc.map laE⟩]) := by
 rw [varint_Reader_End_eq]
 unfold endR
 by_cases he : e = 0
 ·subst he
  rw [if_neg (show ¬ (0 : Nat) ≠ 0 by simp)]
  by_cases h1 : a < b.length
  ·rw [if_pos h1]
   have h1' : (a : Int) < (b.length : Int) := by omega
   simp (config := {maxSteps := 4000000,implicitDefEqProofs := false}) (disch := omega) only [go_sem,↓reduceIte,Nat.reduceAdd,Nat.reduceSub,Nat.reduceMul,Nat.reduceLeDiff,Nat.reduceLT,Int.reduceEq,Int.reduceNe,Int.reduceLT,Int.reduceLE,Int.reduceAdd,Int.reduceSub,Int.reduceMul,Int.reduceNeg,Nat.zero_add,Nat.add_zero,Nat.mul_one,Int.toNat_natCast,Int.natCast_zero,Int.cast_ofNat_Int,or_false,false_or,or_true,true_or,Int.reduceToNat,Nat.sub_zero,Int.natCast_nonneg,Int.toNat_zero,Bool.true_and,Bool.and_true,Bool.false_and,Bool.and_false,Bool.true_or,Bool.or_true,Bool.false_or,Bool.or_false,Bool.not_true,Bool.not_false,Bool.not_not,true_and,and_true,false_and,and_false,not_true_eq_false,not_false_eq_true,eq_self,decide_true,decide_false,ne_eq,implies_true,forall_const,true_implies,false_implies,Bool.true_eq_false,Bool.false_eq_true,reduceCtorEq,List.map_cons,List.map_nil,List.all_cons,List.all_nil,List.length_cons,List.length_nil,List.length_map,List.length_append,List.nil_append,List.cons_append,List.set_cons_zero,List.set_cons_succ,List.set_nil,List.drop_zero,List.drop_succ_cons,List.drop_nil,List.take_zero,List.take_succ_cons,List.take_nil,Option.map_some,Option.map_none,Option.isSome_some,Nat.reduceEqDiff,Nat.reduceBEq,Nat.reduceGT,List.all_append,List.all_map,Function.comp_def,decide_eq_true_eq,Bool.and_eq_true,beq_self_eq_true,or_self,and_self,ite_true,ite_false,Nat.le_refl,Bool.not_eq_true,decide_not,Bool.not_eq_true',decide_eq_false_iff_not,Bool.not_eq_false,Bool.or_eq_true,if_true,if_false,ite_self,u_roF,u_cvF,u_cvC,u_ceT,u_ceK,u_appS,la_it,la_len,la_sure,la_ltA,la_lt1,la_all1,la_ro,la_take,la_cl,la_tm,la_r,la_sl,rc_len,rc_sure,rc_ltA,rc_lt1,rc_all1,rc_ro,rc_take,rc_sl,la_set,rc_set,zcL_eq,zcR_eq,la_allA,la_len7,all_tt,natInt,u_nthM,bC_ltA,bC_len,bC_one',laC_lt1',h1',varint_Reader_End_r1_eq]
   try rfl
  ·rw [if_neg h1]
   have h1' : ¬ (a : Int) < (b.length : Int) := by omega
   simp (config := {maxSteps := 4000000,implicitDefEqProofs := false}) (disch := omega) only [go_sem,↓reduceIte,Nat.reduceAdd,Nat.reduceSub,Nat.reduceMul,Nat.reduceLeDiff,Nat.reduceLT,Int.reduceEq,Int.reduceNe,Int.reduceLT,Int.reduceLE,Int.reduceAdd,Int.reduceSub,Int.reduceMul,Int.reduceNeg,Nat.zero_add,Nat.add_zero,Nat.mul_one,Int.toNat_natCast,Int.natCast_zero,Int.cast_ofNat_Int,or_false,false_or,or_true,true_or,Int.reduceToNat,Nat.sub_zero,Int.natCast_nonneg,Int.toNat_zero,Bool.true_and,Bool.and_true,Bool.false_and,Bool.and_false,Bool.true_or,Bool.or_true,Bool.false_or,Bool.or_false,Bool.not_true,Bool.not_false,Bool.not_not,true_and,and_true,false_and,and_false,not_true_eq_false,not_false_eq_true,eq_self,decide_true,decide_false,ne_eq,implies_true,forall_const,true_implies,false_implies,Bool.true_eq_false,Bool.false_eq_true,reduceCtorEq,List.map_cons,List.map_nil,List.all_cons,List.all_nil,List.length_cons,List.length_nil,List.length_map,List.length_append,List.nil_append,List.cons_append,List.set_cons_zero,List.set_cons_succ,List.set_nil,List.drop_zero,List.drop_succ_cons,List.drop_nil,List.take_zero,List.take_succ_cons,List.take_nil,Option.map_some,Option.map_none,Option.isSome_some,Nat.reduceEqDiff,Nat.reduceBEq,Nat.reduceGT,List.all_append,List.all_map,Function.comp_def,decide_eq_true_eq,Bool.and_eq_true,beq_self_eq_true,or_self,and_self,ite_true,ite_false,Nat.le_refl,Bool.not_eq_true,decide_not,Bool.not_eq_true',decide_eq_false_iff_not,Bool.not_eq_false,Bool.or_eq_true,if_true,if_false,ite_self,u_roF,u_cvF,u_cvC,u_ceT,u_ceK,u_appS,la_it,la_len,la_sure,la_ltA,la_lt1,la_all1,la_ro,la_take,la_cl,la_tm,la_r,la_sl,rc_len,rc_sure,rc_ltA,rc_lt1,rc_all1,rc_ro,rc_take,rc_sl,la_set,rc_set,zcL_eq,zcR_eq,la_allA,la_len7,all_tt,natInt,u_nthM,bC_ltA,bC_len,bC_one',laC_lt1',h1',varint_Reader_End_r1_eq,varint_Reader_End_r2_eq,varint_Reader_Err_eq]
   try rfl
 ·rw [if_pos he]
  have he' : ¬ (e : Int) = 0 := by omega
  simp (config := {maxSteps := 4000000,implicitDefEqProofs := false}) (disch := omega) only [go_sem,↓reduceIte,Nat.reduceAdd,Nat.reduceSub,Nat.reduceMul,Nat.reduceLeDiff,Nat.reduceLT,Int.reduceEq,Int.reduceNe,Int.reduceLT,Int.reduceLE,Int.reduceAdd,Int.reduceSub,Int.reduceMul,Int.reduceNeg,Nat.zero_add,Nat.add_zero,Nat.mul_one,Int.toNat_natCast,Int.natCast_zero,Int.cast_ofNat_Int,or_false,false_or,or_true,true_or,Int.reduceToNat,Nat.sub_zero,Int.natCast_nonneg,Int.toNat_zero,Bool.true_and,Bool.and_true,Bool.false_and,Bool.and_false,Bool.true_or,Bool.or_true,Bool.false_or,Bool.or_false,Bool.not_true,Bool.not_false,Bool.not_not,true_and,and_true,false_and,and_false,not_true_eq_false,not_false_eq_true,eq_self,decide_true,decide_false,ne_eq,implies_true,forall_const,true_implies,false_implies,Bool.true_eq_false,Bool.false_eq_true,reduceCtorEq,List.map_cons,List.map_nil,List.all_cons,List.all_nil,List.length_cons,List.length_nil,List.length_map,List.length_append,List.nil_append,List.cons_append,List.set_cons_zero,List.set_cons_succ,List.set_nil,List.drop_zero,List.drop_succ_cons,List.drop_nil,List.take_zero,List.take_succ_cons,List.take_nil,Option.map_some,Option.map_none,Option.isSome_some,Nat.reduceEqDiff,Nat.reduceBEq,Nat.reduceGT,List.all_append,List.all_map,Function.comp_def,decide_eq_true_eq,Bool.and_eq_true,beq_self_eq_true,or_self,and_self,ite_true,ite_false,Nat.le_refl,Bool.not_eq_true,decide_not,Bool.not_eq_true',decide_eq_false_iff_not,Bool.not_eq_false,Bool.or_eq_true,if_true,if_false,ite_self,u_roF,u_cvF,u_cvC,u_ceT,u_ceK,u_appS,la_it,la_len,la_sure,la_ltA,la_lt1,la_all1,la_ro,la_take,la_cl,la_tm,la_r,la_sl,rc_len,rc_sure,rc_ltA,rc_lt1,rc_all1,rc_ro,rc_take,rc_sl,la_set,rc_set,zcL_eq,zcR_eq,la_allA,la_len7,all_tt,natInt,u_nthM,bC_ltA,bC_len,bC_one',laC_lt1',he',varint_Reader_End_r1_eq,varint_Reader_End_r2_eq,varint_Reader_Err_eq]
  try rfl
theorem tnum0_s (m : Nat) (b : Bytes) (most a e : Nat) (mi : Int) (hmi : mi = most) (hb : b.length ≤ 34359738368) (ha : a ≤ b.length) : plenumref01_Take_Num m (OP 0 0) (V (.int .u64 mi)) [tkO b a e] = some (V (.int .u64 ((numR b most a e).1 : Nat)),[tkO b (numR b most a e).2.1 (numR b most a e).2.2]) := by
 subst hmi
 rw [plenumref01_Take_Num_eq]
 have hC := plenumref01_Cut_e m (b.drop a) (by rw [List.length_drop];omega)
 unfold cutX at hC
 have hle : decide ((a : Int) ≤ (b.length : Int)) = true := decide_eq_true (by omega)
 have h0 : decide ((0 : Int) ≤ (a : Int)) = true := decide_eq_true (by omega)
 have hrr : decide ((b.length : Int) ≤ (b.length : Int)) = true := decide_eq_true (Int.le_refl _)
 have hcf := cutE_from (b := b) (a := a)
 have hn := cut_n (b.drop a)
 have hdl : (b.drop a).length ≤ b.length := by rw [List.length_drop];omega
 have hsl : ((b.take b.length).drop a) = b.drop a := by rw [List.take_length]
 unfold numR
 by_cases he : e = 0
 ·subst he
  rw [if_neg (show ¬ (0 : Nat) ≠ 0 by simp)]
  by_cases h1 : (cut (b.drop a)).2.2 = 0
  ·rw [if_neg (show ¬ (cut (b.drop a)).2.2 ≠ 0 from fun q=>q h1)]
   rw [h1] at hC
   by_cases h2 : most < (cut (b.drop a)).1
   ·rw [if_pos h2]
    have h2' : (most : Int) < ((cut (b.drop a)).1 : Int) := by omega
    generalize cut (b.drop a) = c at *
    simp (config := {maxSteps := 4000000,implicitDefEqProofs := false}) (disch := omega) only [go_sem,↓reduceIte,Nat.reduceAdd,Nat.reduceSub,Nat.reduceMul,Nat.reduceLeDiff,Nat.reduceLT,Int.reduceEq,Int.reduceNe,Int.reduceLT,Int.reduceLE,Int.reduceAdd,Int.reduceSub,Int.reduceMul,Int.reduceNeg,Nat.zero_add,Nat.add_zero,Nat.mul_one,Int.toNat_natCast,Int.natCast_zero,Int.cast_ofNat_Int,or_false,false_or,or_true,true_or,Int.reduceToNat,Nat.sub_zero,Int.natCast_nonneg,Int.toNat_zero,Bool.true_and,Bool.and_true,Bool.false_and,Bool.and_false,Bool.true_or,Bool.or_true,Bool.false_or,Bool.or_false,Bool.not_true,Bool.not_false,Bool.not_not,true_and,and_true,false_and,and_false,not_true_eq_false,not_false_eq_true,eq_self,decide_true,decide_false,ne_eq,implies_true,forall_const,true_implies,false_implies,Bool.true_eq_false,Bool.false_eq_true,reduceCtorEq,List.map_cons,List.map_nil,List.all_cons,List.all_nil,List.length_cons,List.length_nil,List.length_map,List.length_append,List.nil_append,List.cons_append,List.set_cons_zero,List.set_cons_succ,List.set_nil,List.drop_zero,List.drop_succ_cons,List.drop_nil,List.take_zero,List.take_succ_cons,List.take_nil,Option.map_some,Option.map_none,Option.isSome_some,Nat.reduceEqDiff,Nat.reduceBEq,Nat.reduceGT,List.all_append,List.all_map,Function.comp_def,decide_eq_true_eq,Bool.and_eq_true,beq_self_eq_true,or_self,and_self,ite_true,ite_false,Nat.le_refl,Bool.not_eq_true,decide_not,Bool.not_eq_true',decide_eq_false_iff_not,Bool.not_eq_false,Bool.or_eq_true,if_true,if_false,ite_self,u_roF,u_cvF,u_cvC,u_ceT,u_ceK,u_appS,la_it,la_len,la_sure,la_ltA,la_lt1,la_all1,la_ro,la_take,la_cl,la_tm,la_r,la_sl,rc_len,rc_sure,rc_ltA,rc_lt1,rc_all1,rc_ro,rc_take,rc_sl,la_set,rc_set,zcL_eq,zcR_eq,la_allA,la_len7,all_tt,natInt,u_nthM,bC_ltA,bC_len,bC_one',hle,h0,hrr,hcf,laC_lt1',hC,hsl,h2',plenumref01_Take_Num_r1_eq,plenumref01_Take_Num_r2_eq]
    try rfl
   ·rw [if_neg h2]
    have h2' : ¬ (most : Int) < ((cut (b.drop a)).1 : Int) := by omega
    have hw : IntKind.i64.wrap ((a : Int) + ((cut (b.drop a)).2.1 : Int)) = ((a + (cut (b.drop a)).2.1 : Nat) : Int) := by rw [w_i64 (by omega) (by omega)];omega
    generalize cut (b.drop a) = c at *
    simp (config := {maxSteps := 4000000,implicitDefEqProofs := false}) (disch := omega) only [go_sem,↓reduceIte,Nat.reduceAdd,Nat.reduceSub,Nat.reduceMul,Nat.reduceLeDiff,Nat.reduceLT,Int.reduceEq,Int.reduceNe,Int.reduceLT,Int.reduceLE,Int.reduceAdd,Int.reduceSub,Int.reduceMul,Int.reduceNeg,Nat.zero_add,Nat.add_zero,Nat.mul_one,Int.toNat_natCast,Int.natCast_zero,Int.cast_ofNat_Int,or_false,false_or,or_true,true_or,Int.reduceToNat,Nat.sub_zero,Int.natCast_nonneg,Int.toNat_zero,Bool.true_and,Bool.and_true,Bool.false_and,Bool.and_false,Bool.true_or,Bool.or_true,Bool.false_or,Bool.or_false,Bool.not_true,Bool.not_false,Bool.not_not,true_and,and_true,false_and,and_false,not_true_eq_false,not_false_eq_true,eq_self,decide_true,decide_false,ne_eq,implies_true,forall_const,true_implies,false_implies,Bool.true_eq_false,Bool.false_eq_true,reduceCtorEq,List.map_cons,List.map_nil,List.all_cons,List.all_nil,List.length_cons,List.length_nil,List.length_map,List.length_append,List.nil_append,List.cons_append,List.set_cons_zero,List.set_cons_succ,List.set_nil,List.drop_zero,List.drop_succ_cons,List.drop_nil,List.take_zero,List.take_succ_cons,List.take_nil,Option.map_some,Option.map_none,Option.isSome_some,Nat.reduceEqDiff,Nat.reduceBEq,Nat.reduceGT,List.all_append,List.all_map,Function.comp_def,decide_eq_true_eq,Bool.and_eq_true,beq_self_eq_true,or_self,and_self,ite_true,ite_false,Nat.le_refl,Bool.not_eq_true,decide_not,Bool.not_eq_true',decide_eq_false_iff_not,Bool.not_eq_false,Bool.or_eq_true,if_true,if_false,ite_self,u_roF,u_cvF,u_cvC,u_ceT,u_ceK,u_appS,la_it,la_len,la_sure,la_ltA,la_lt1,la_all1,la_ro,la_take,la_cl,la_tm,la_r,la_sl,rc_len,rc_sure,rc_ltA,rc_lt1,rc_all1,rc_ro,rc_take,rc_sl,la_set,rc_set,zcL_eq,zcR_eq,la_allA,la_len7,all_tt,natInt,u_nthM,bC_ltA,bC_len,bC_one',hle,h0,hrr,hcf,laC_lt1',hC,hsl,h2',hw,plenumref01_Take_Num_r1_eq,plenumref01_Take_Num_r2_eq]
    try rfl
  ·rw [if_pos h1]
   have h1' : ¬ ((cut (b.drop a)).2.2 : Int) = 0 := by omega
   generalize cut (b.drop a) = c at *
   simp (config := {maxSteps := 4000000,implicitDefEqProofs := false}) (disch := omega) only [go_sem,↓reduceIte,Nat.reduceAdd,Nat.reduceSub,Nat.reduceMul,Nat.reduceLeDiff,Nat.reduceLT,Int.reduceEq,Int.reduceNe,Int.reduceLT,Int.reduceLE,Int.reduceAdd,Int.reduceSub,Int.reduceMul,Int.reduceNeg,Nat.zero_add,Nat.add_zero,Nat.mul_one,Int.toNat_natCast,Int.natCast_zero,Int.cast_ofNat_Int,or_false,false_or,or_true,true_or,Int.reduceToNat,Nat.sub_zero,Int.natCast_nonneg,Int.toNat_zero,Bool.true_and,Bool.and_true,Bool.false_and,Bool.and_false,Bool.true_or,Bool.or_true,Bool.false_or,Bool.or_false,Bool.not_true,Bool.not_false,Bool.not_not,true_and,and_true,false_and,and_false,not_true_eq_false,not_false_eq_true,eq_self,decide_true,decide_false,ne_eq,implies_true,forall_const,true_implies,false_implies,Bool.true_eq_false,Bool.false_eq_true,reduceCtorEq,List.map_cons,List.map_nil,List.all_cons,List.all_nil,List.length_cons,List.length_nil,List.length_map,List.length_append,List.nil_append,List.cons_append,List.set_cons_zero,List.set_cons_succ,List.set_nil,List.drop_zero,List.drop_succ_cons,List.drop_nil,List.take_zero,List.take_succ_cons,List.take_nil,Option.map_some,Option.map_none,Option.isSome_some,Nat.reduceEqDiff,Nat.reduceBEq,Nat.reduceGT,List.all_append,List.all_map,Function.comp_def,decide_eq_true_eq,Bool.and_eq_true,beq_self_eq_true,or_self,and_self,ite_true,ite_false,Nat.le_refl,Bool.not_eq_true,decide_not,Bool.not_eq_true',decide_eq_false_iff_not,Bool.not_eq_false,Bool.or_eq_true,if_true,if_false,ite_self,u_roF,u_cvF,u_cvC,u_ceT,u_ceK,u_appS,la_it,la_len,la_sure,la_ltA,la_lt1,la_all1,la_ro,la_take,la_cl,la_tm,la_r,la_sl,rc_len,rc_sure,rc_ltA,rc_lt1,rc_all1,rc_ro,rc_take,rc_sl,la_set,rc_set,zcL_eq,zcR_eq,la_allA,la_len7,all_tt,natInt,u_nthM,bC_ltA,bC_len,bC_one',hle,h0,hrr,hcf,laC_lt1',hC,hsl,h1',plenumref01_Take_Num_r1_eq,plenumref01_Take_Num_r2_eq]
   try rfl
 ·rw [if_pos he]
  have he' : ¬ (e : Int) = 0 := by omega
  simp (config := {maxSteps := 4000000,implicitDefEqProofs := false}) (disch := omega) only [go_sem,↓reduceIte,Nat.reduceAdd,Nat.reduceSub,Nat.reduceMul,Nat.reduceLeDiff,Nat.reduceLT,Int.reduceEq,Int.reduceNe,Int.reduceLT,Int.reduceLE,Int.reduceAdd,Int.reduceSub,Int.reduceMul,Int.reduceNeg,Nat.zero_add,Nat.add_zero,Nat.mul_one,Int.toNat_natCast,Int.natCast_zero,Int.cast_ofNat_Int,or_false,false_or,or_true,true_or,Int.reduceToNat,Nat.sub_zero,Int.natCast_nonneg,Int.toNat_zero,Bool.true_and,Bool.and_true,Bool.false_and,Bool.and_false,Bool.true_or,Bool.or_true,Bool.false_or,Bool.or_false,Bool.not_true,Bool.not_false,Bool.not_not,true_and,and_true,false_and,and_false,not_true_eq_false,not_false_eq_true,eq_self,decide_true,decide_false,ne_eq,implies_true,forall_const,true_implies,false_implies,Bool.true_eq_false,Bool.false_eq_true,reduceCtorEq,List.map_cons,List.map_nil,List.all_cons,List.all_nil,List.length_cons,List.length_nil,List.length_map,List.length_append,List.nil_append,List.cons_append,List.set_cons_zero,List.set_cons_succ,List.set_nil,List.drop_zero,List.drop_succ_cons,List.drop_nil,List.take_zero,List.take_succ_cons,List.take_nil,Option.map_some,Option.map_none,Option.isSome_some,Nat.reduceEqDiff,Nat.reduceBEq,Nat.reduceGT,List.all_append,List.all_map,Function.comp_def,decide_eq_true_eq,Bool.and_eq_true,beq_self_eq_true,or_self,and_self,ite_true,ite_false,Nat.le_refl,Bool.not_eq_true,decide_not,Bool.not_eq_true',decide_eq_false_iff_not,Bool.not_eq_false,Bool.or_eq_true,if_true,if_false,ite_self,u_roF,u_cvF,u_cvC,u_ceT,u_ceK,u_appS,la_it,la_len,la_sure,la_ltA,la_lt1,la_all1,la_ro,la_take,la_cl,la_tm,la_r,la_sl,rc_len,rc_sure,rc_ltA,rc_lt1,rc_all1,rc_ro,rc_take,rc_sl,la_set,rc_set,zcL_eq,zcR_eq,la_allA,la_len7,all_tt,natInt,u_nthM,bC_ltA,bC_len,bC_one',hle,h0,hrr,hcf,laC_lt1',he']
  try rfl
theorem tnum2_s (m : Nat) (b : Bytes) (most a e : Nat) (mi : Int) (hmi : mi = most) (acc : List La) (x : La) (hb : b.length ≤ 34359738368) (ha : a ≤ b.length) : plenumref01_Take_Num m (OP 0 0) (V (.int .u64 mi)) [tkO b a e,⟨2,ty_api_Last,7,acc.map laE⟩,⟨1,ty_api_Last,0,laC x⟩] = some (V (.int .u64 ((numR b most a e).1 : Nat)),[tkO b (numR b most a e).2.1 (numR b most a e).2.2,⟨2,ty_api_Last,7,acc.map laE⟩,⟨1,ty_api_Last,0,laC x⟩]) := by
 subst hmi
 rw [plenumref01_Take_Num_eq]
 have hC := plenumref01_Cut_e m (b.drop a) (by rw [List.length_drop];omega)
 unfold cutX at hC
 have hle : decide ((a : Int) ≤ (b.length : Int)) = true := decide_eq_true (by omega)
 have h0 : decide ((0 : Int) ≤ (a : Int)) = true := decide_eq_true (by omega)
 have hrr : decide ((b.length : Int) ≤ (b.length : Int)) = true := decide_eq_true (Int.le_refl _)
 have hcf := cutE_from (b := b) (a := a)
 have hn := cut_n (b.drop a)
 have hdl : (b.drop a).length ≤ b.length := by rw [List.length_drop];omega
 have hsl : ((b.take b.length).drop a) = b.drop a := by rw [List.take_length]
 unfold numR
 by_cases he : e = 0
 ·subst he
  rw [if_neg (show ¬ (0 : Nat) ≠ 0 by simp)]
  by_cases h1 : (cut (b.drop a)).2.2 = 0
  ·rw [if_neg (show ¬ (cut (b.drop a)).2.2 ≠ 0 from fun q=>q h1)]
   rw [h1] at hC
   by_cases h2 : most < (cut (b.drop a)).1
   ·rw [if_pos h2]
    have h2' : (most : Int) < ((cut (b.drop a)).1 : Int) := by omega
    generalize cut (b.drop a) = c at *
    simp (config := {maxSteps := 4000000,implicitDefEqProofs := false}) (disch := omega) only [go_sem,↓reduceIte,Nat.reduceAdd,Nat.reduceSub,Nat.reduceMul,Nat.reduceLeDiff,Nat.reduceLT,Int.reduceEq,Int.reduceNe,Int.reduceLT,Int.reduceLE,Int.reduceAdd,Int.reduceSub,Int.reduceMul,Int.reduceNeg,Nat.zero_add,Nat.add_zero,Nat.mul_one,Int.toNat_natCast,Int.natCast_zero,Int.cast_ofNat_Int,or_false,false_or,or_true,true_or,Int.reduceToNat,Nat.sub_zero,Int.natCast_nonneg,Int.toNat_zero,Bool.true_and,Bool.and_true,Bool.false_and,Bool.and_false,Bool.true_or,Bool.or_true,Bool.false_or,Bool.or_false,Bool.not_true,Bool.not_false,Bool.not_not,true_and,and_true,false_and,and_false,not_true_eq_false,not_false_eq_true,eq_self,decide_true,decide_false,ne_eq,implies_true,forall_const,true_implies,false_implies,Bool.true_eq_false,Bool.false_eq_true,reduceCtorEq,List.map_cons,List.map_nil,List.all_cons,List.all_nil,List.length_cons,List.length_nil,List.length_map,List.length_append,List.nil_append,List.cons_append,List.set_cons_zero,List.set_cons_succ,List.set_nil,List.drop_zero,List.drop_succ_cons,List.drop_nil,List.take_zero,List.take_succ_cons,List.take_nil,Option.map_some,Option.map_none,Option.isSome_some,Nat.reduceEqDiff,Nat.reduceBEq,Nat.reduceGT,List.all_append,List.all_map,Function.comp_def,decide_eq_true_eq,Bool.and_eq_true,beq_self_eq_true,or_self,and_self,ite_true,ite_false,Nat.le_refl,Bool.not_eq_true,decide_not,Bool.not_eq_true',decide_eq_false_iff_not,Bool.not_eq_false,Bool.or_eq_true,if_true,if_false,ite_self,u_roF,u_cvF,u_cvC,u_ceT,u_ceK,u_appS,la_it,la_len,la_sure,la_ltA,la_lt1,la_all1,la_ro,la_take,la_cl,la_tm,la_r,la_sl,rc_len,rc_sure,rc_ltA,rc_lt1,rc_all1,rc_ro,rc_take,rc_sl,la_set,rc_set,zcL_eq,zcR_eq,la_allA,la_len7,all_tt,natInt,u_nthM,bC_ltA,bC_len,bC_one',hle,h0,hrr,hcf,laC_lt1',hC,hsl,h2',plenumref01_Take_Num_r1_eq,plenumref01_Take_Num_r2_eq]
    try rfl
   ·rw [if_neg h2]
    have h2' : ¬ (most : Int) < ((cut (b.drop a)).1 : Int) := by omega
    have hw : IntKind.i64.wrap ((a : Int) + ((cut (b.drop a)).2.1 : Int)) = ((a + (cut (b.drop a)).2.1 : Nat) : Int) := by rw [w_i64 (by omega) (by omega)];omega
    generalize cut (b.drop a) = c at *
    simp (config := {maxSteps := 4000000,implicitDefEqProofs := false}) (disch := omega) only [go_sem,↓reduceIte,Nat.reduceAdd,Nat.reduceSub,Nat.reduceMul,Nat.reduceLeDiff,Nat.reduceLT,Int.reduceEq,Int.reduceNe,Int.reduceLT,Int.reduceLE,Int.reduceAdd,Int.reduceSub,Int.reduceMul,Int.reduceNeg,Nat.zero_add,Nat.add_zero,Nat.mul_one,Int.toNat_natCast,Int.natCast_zero,Int.cast_ofNat_Int,or_false,false_or,or_true,true_or,Int.reduceToNat,Nat.sub_zero,Int.natCast_nonneg,Int.toNat_zero,Bool.true_and,Bool.and_true,Bool.false_and,Bool.and_false,Bool.true_or,Bool.or_true,Bool.false_or,Bool.or_false,Bool.not_true,Bool.not_false,Bool.not_not,true_and,and_true,false_and,and_false,not_true_eq_false,not_false_eq_true,eq_self,decide_true,decide_false,ne_eq,implies_true,forall_const,true_implies,false_implies,Bool.true_eq_false,Bool.false_eq_true,reduceCtorEq,List.map_cons,List.map_nil,List.all_cons,List.all_nil,List.length_cons,List.length_nil,List.length_map,List.length_append,List.nil_append,List.cons_append,List.set_cons_zero,List.set_cons_succ,List.set_nil,List.drop_zero,List.drop_succ_cons,List.drop_nil,List.take_zero,List.take_succ_cons,List.take_nil,Option.map_some,Option.map_none,Option.isSome_some,Nat.reduceEqDiff,Nat.reduceBEq,Nat.reduceGT,List.all_append,List.all_map,Function.comp_def,decide_eq_true_eq,Bool.and_eq_true,beq_self_eq_true,or_self,and_self,ite_true,ite_false,Nat.le_refl,Bool.not_eq_true,decide_not,Bool.not_eq_true',decide_eq_false_iff_not,Bool.not_eq_false,Bool.or_eq_true,if_true,if_false,ite_self,u_roF,u_cvF,u_cvC,u_ceT,u_ceK,u_appS,la_it,la_len,la_sure,la_ltA,la_lt1,la_all1,la_ro,la_take,la_cl,la_tm,la_r,la_sl,rc_len,rc_sure,rc_ltA,rc_lt1,rc_all1,rc_ro,rc_take,rc_sl,la_set,rc_set,zcL_eq,zcR_eq,la_allA,la_len7,all_tt,natInt,u_nthM,bC_ltA,bC_len,bC_one',hle,h0,hrr,hcf,laC_lt1',hC,hsl,h2',hw,plenumref01_Take_Num_r1_eq,plenumref01_Take_Num_r2_eq]
    try rfl
  ·rw [if_pos h1]
   have h1' : ¬ ((cut (b.drop a)).2.2 : Int) = 0 := by omega
   generalize cut (b.drop a) = c at *
   simp (config := {maxSteps := 4000000,implicitDefEqProofs := false}) (disch := omega) only [go_sem,↓reduceIte,Nat.reduceAdd,Nat.reduceSub,Nat.reduceMul,Nat.reduceLeDiff,Nat.reduceLT,Int.reduceEq,Int.reduceNe,Int.reduceLT,Int.reduceLE,Int.reduceAdd,Int.reduceSub,Int.reduceMul,Int.reduceNeg,Nat.zero_add,Nat.add_zero,Nat.mul_one,Int.toNat_natCast,Int.natCast_zero,Int.cast_ofNat_Int,or_false,false_or,or_true,true_or,Int.reduceToNat,Nat.sub_zero,Int.natCast_nonneg,Int.toNat_zero,Bool.true_and,Bool.and_true,Bool.false_and,Bool.and_false,Bool.true_or,Bool.or_true,Bool.false_or,Bool.or_false,Bool.not_true,Bool.not_false,Bool.not_not,true_and,and_true,false_and,and_false,not_true_eq_false,not_false_eq_true,eq_self,decide_true,decide_false,ne_eq,implies_true,forall_const,true_implies,false_implies,Bool.true_eq_false,Bool.false_eq_true,reduceCtorEq,List.map_cons,List.map_nil,List.all_cons,List.all_nil,List.length_cons,List.length_nil,List.length_map,List.length_append,List.nil_append,List.cons_append,List.set_cons_zero,List.set_cons_succ,List.set_nil,List.drop_zero,List.drop_succ_cons,List.drop_nil,List.take_zero,List.take_succ_cons,List.take_nil,Option.map_some,Option.map_none,Option.isSome_some,Nat.reduceEqDiff,Nat.reduceBEq,Nat.reduceGT,List.all_append,List.all_map,Function.comp_def,decide_eq_true_eq,Bool.and_eq_true,beq_self_eq_true,or_self,and_self,ite_true,ite_false,Nat.le_refl,Bool.not_eq_true,decide_not,Bool.not_eq_true',decide_eq_false_iff_not,Bool.not_eq_false,Bool.or_eq_true,if_true,if_false,ite_self,u_roF,u_cvF,u_cvC,u_ceT,u_ceK,u_appS,la_it,la_len,la_sure,la_ltA,la_lt1,la_all1,la_ro,la_take,la_cl,la_tm,la_r,la_sl,rc_len,rc_sure,rc_ltA,rc_lt1,rc_all1,rc_ro,rc_take,rc_sl,la_set,rc_set,zcL_eq,zcR_eq,la_allA,la_len7,all_tt,natInt,u_nthM,bC_ltA,bC_len,bC_one',hle,h0,hrr,hcf,laC_lt1',hC,hsl,h1',plenumref01_Take_Num_r1_eq,plenumref01_Take_Num_r2_eq]
   try rfl
 ·rw [if_pos he]
  have he' : ¬ (e : Int) = 0 := by omega
  simp (config := {maxSteps := 4000000,implicitDefEqProofs := false}) (disch := omega) only [go_sem,↓reduceIte,Nat.reduceAdd,Nat.reduceSub,Nat.reduceMul,Nat.reduceLeDiff,Nat.reduceLT,Int.reduceEq,Int.reduceNe,Int.reduceLT,Int.reduceLE,Int.reduceAdd,Int.reduceSub,Int.reduceMul,Int.reduceNeg,Nat.zero_add,Nat.add_zero,Nat.mul_one,Int.toNat_natCast,Int.natCast_zero,Int.cast_ofNat_Int,or_false,false_or,or_true,true_or,Int.reduceToNat,Nat.sub_zero,Int.natCast_nonneg,Int.toNat_zero,Bool.true_and,Bool.and_true,Bool.false_and,Bool.and_false,Bool.true_or,Bool.or_true,Bool.false_or,Bool.or_false,Bool.not_true,Bool.not_false,Bool.not_not,true_and,and_true,false_and,and_false,not_true_eq_false,not_false_eq_true,eq_self,decide_true,decide_false,ne_eq,implies_true,forall_const,true_implies,false_implies,Bool.true_eq_false,Bool.false_eq_true,reduceCtorEq,List.map_cons,List.map_nil,List.all_cons,List.all_nil,List.length_cons,List.length_nil,List.length_map,List.length_append,List.nil_append,List.cons_append,List.set_cons_zero,List.set_cons_succ,List.set_nil,List.drop_zero,List.drop_succ_cons,List.drop_nil,List.take_zero,List.take_succ_cons,List.take_nil,Option.map_some,Option.map_none,Option.isSome_some,Nat.reduceEqDiff,Nat.reduceBEq,Nat.reduceGT,List.all_append,List.all_map,Function.comp_def,decide_eq_true_eq,Bool.and_eq_true,beq_self_eq_true,or_self,and_self,ite_true,ite_false,Nat.le_refl,Bool.not_eq_true,decide_not,Bool.not_eq_true',decide_eq_false_iff_not,Bool.not_eq_false,Bool.or_eq_true,if_true,if_false,ite_self,u_roF,u_cvF,u_cvC,u_ceT,u_ceK,u_appS,la_it,la_len,la_sure,la_ltA,la_lt1,la_all1,la_ro,la_take,la_cl,la_tm,la_r,la_sl,rc_len,rc_sure,rc_ltA,rc_lt1,rc_all1,rc_ro,rc_take,rc_sl,la_set,rc_set,zcL_eq,zcR_eq,la_allA,la_len7,all_tt,natInt,u_nthM,bC_ltA,bC_len,bC_one',hle,h0,hrr,hcf,laC_lt1',he']
  try rfl
theorem ttext2_s (m : Nat) (b : Bytes) (a e : Nat) (acc : List La) (x : La) (hb : b.length ≤ 34359738368) (ha : a ≤ b.length) : plenumref01_Take_Text m (OP 0 0) [tkO b a e,⟨2,ty_api_Last,7,acc.map laE⟩,⟨1,ty_api_Last,0,laC x⟩] = some (sA (textR b a e).1,[tkO b (textR b a e).2.1 (textR b a e).2.2,⟨2,ty_api_Last,7,acc.map laE⟩,⟨1,ty_api_Last,0,laC x⟩]) := by
 rw [plenumref01_Take_Text_eq]
 have hC := plenumref01_CutText_e m (b.drop a) (by rw [List.length_drop];omega)
 unfold cutTX at hC
 have hle : decide ((a : Int) ≤ (b.length : Int)) = true := decide_eq_true (by omega)
 have h0 : decide ((0 : Int) ≤ (a : Int)) = true := decide_eq_true (by omega)
 have hrr : decide ((b.length : Int) ≤ (b.length : Int)) = true := decide_eq_true (Int.le_refl _)
 have hcf := cutE_from (b := b) (a := a)
 have hn := cut_n (b.drop a)
 have hdl : (b.drop a).length ≤ b.length := by rw [List.length_drop];omega
 have hn2 := cutText_n (b.drop a)
 have hsl : ((b.take b.length).drop a) = b.drop a := by rw [List.take_length]
 unfold textR
 by_cases he : e = 0
 ·subst he
  rw [if_neg (show ¬ (0 : Nat) ≠ 0 by simp)]
  by_cases h1 : (CutText (b.drop a)).2.2 = 0
  ·rw [if_neg (show ¬ (CutText (b.drop a)).2.2 ≠ 0 from fun q=>q h1)]
   rw [h1] at hC
   have hw : IntKind.i64.wrap ((a : Int) + ((CutText (b.drop a)).2.1 : Int)) = ((a + (CutText (b.drop a)).2.1 : Nat) : Int) := by rw [w_i64 (by omega) (by omega)];omega
   generalize CutText (b.drop a) = c at *
   simp (config := {maxSteps := 4000000,implicitDefEqProofs := false}) (disch := omega) only [go_sem,↓reduceIte,Nat.reduceAdd,Nat.reduceSub,Nat.reduceMul,Nat.reduceLeDiff,Nat.reduceLT,Int.reduceEq,Int.reduceNe,Int.reduceLT,Int.reduceLE,Int.reduceAdd,Int.reduceSub,Int.reduceMul,Int.reduceNeg,Nat.zero_add,Nat.add_zero,Nat.mul_one,Int.toNat_natCast,Int.natCast_zero,Int.cast_ofNat_Int,or_false,false_or,or_true,true_or,Int.reduceToNat,Nat.sub_zero,Int.natCast_nonneg,Int.toNat_zero,Bool.true_and,Bool.and_true,Bool.false_and,Bool.and_false,Bool.true_or,Bool.or_true,Bool.false_or,Bool.or_false,Bool.not_true,Bool.not_false,Bool.not_not,true_and,and_true,false_and,and_false,not_true_eq_false,not_false_eq_true,eq_self,decide_true,decide_false,ne_eq,implies_true,forall_const,true_implies,false_implies,Bool.true_eq_false,Bool.false_eq_true,reduceCtorEq,List.map_cons,List.map_nil,List.all_cons,List.all_nil,List.length_cons,List.length_nil,List.length_map,List.length_append,List.nil_append,List.cons_append,List.set_cons_zero,List.set_cons_succ,List.set_nil,List.drop_zero,List.drop_succ_cons,List.drop_nil,List.take_zero,List.take_succ_cons,List.take_nil,Option.map_some,Option.map_none,Option.isSome_some,Nat.reduceEqDiff,Nat.reduceBEq,Nat.reduceGT,List.all_append,List.all_map,Function.comp_def,decide_eq_true_eq,Bool.and_eq_true,beq_self_eq_true,or_self,and_self,ite_true,ite_false,Nat.le_refl,Bool.not_eq_true,decide_not,Bool.not_eq_true',decide_eq_false_iff_not,Bool.not_eq_false,Bool.or_eq_true,if_true,if_false,ite_self,u_roF,u_cvF,u_cvC,u_ceT,u_ceK,u_appS,la_it,la_len,la_sure,la_ltA,la_lt1,la_all1,la_ro,la_take,la_cl,la_tm,la_r,la_sl,rc_len,rc_sure,rc_ltA,rc_lt1,rc_all1,rc_ro,rc_take,rc_sl,la_set,rc_set,zcL_eq,zcR_eq,la_allA,la_len7,all_tt,natInt,u_nthM,bC_ltA,bC_len,bC_one',hle,h0,hrr,hcf,laC_lt1',hC,hsl,hw]
   try rfl
  ·rw [if_pos h1]
   obtain ⟨z1,z2⟩ := cutText_zero h1
   rw [z1,z2] at hC
   have hw : IntKind.i64.wrap ((a : Int) + 0) = (a : Int) := by rw [w_i64 (by omega) (by omega)];omega
   generalize (CutText (b.drop a)).2.2 = c at *
   simp (config := {maxSteps := 4000000,implicitDefEqProofs := false}) (disch := omega) only [go_sem,↓reduceIte,Nat.reduceAdd,Nat.reduceSub,Nat.reduceMul,Nat.reduceLeDiff,Nat.reduceLT,Int.reduceEq,Int.reduceNe,Int.reduceLT,Int.reduceLE,Int.reduceAdd,Int.reduceSub,Int.reduceMul,Int.reduceNeg,Nat.zero_add,Nat.add_zero,Nat.mul_one,Int.toNat_natCast,Int.natCast_zero,Int.cast_ofNat_Int,or_false,false_or,or_true,true_or,Int.reduceToNat,Nat.sub_zero,Int.natCast_nonneg,Int.toNat_zero,Bool.true_and,Bool.and_true,Bool.false_and,Bool.and_false,Bool.true_or,Bool.or_true,Bool.false_or,Bool.or_false,Bool.not_true,Bool.not_false,Bool.not_not,true_and,and_true,false_and,and_false,not_true_eq_false,not_false_eq_true,eq_self,decide_true,decide_false,ne_eq,implies_true,forall_const,true_implies,false_implies,Bool.true_eq_false,Bool.false_eq_true,reduceCtorEq,List.map_cons,List.map_nil,List.all_cons,List.all_nil,List.length_cons,List.length_nil,List.length_map,List.length_append,List.nil_append,List.cons_append,List.set_cons_zero,List.set_cons_succ,List.set_nil,List.drop_zero,List.drop_succ_cons,List.drop_nil,List.take_zero,List.take_succ_cons,List.take_nil,Option.map_some,Option.map_none,Option.isSome_some,Nat.reduceEqDiff,Nat.reduceBEq,Nat.reduceGT,List.all_append,List.all_map,Function.comp_def,decide_eq_true_eq,Bool.and_eq_true,beq_self_eq_true,or_self,and_self,ite_true,ite_false,Nat.le_refl,Bool.not_eq_true,decide_not,Bool.not_eq_true',decide_eq_false_iff_not,Bool.not_eq_false,Bool.or_eq_true,if_true,if_false,ite_self,u_roF,u_cvF,u_cvC,u_ceT,u_ceK,u_appS,la_it,la_len,la_sure,la_ltA,la_lt1,la_all1,la_ro,la_take,la_cl,la_tm,la_r,la_sl,rc_len,rc_sure,rc_ltA,rc_lt1,rc_all1,rc_ro,rc_take,rc_sl,la_set,rc_set,zcL_eq,zcR_eq,la_allA,la_len7,all_tt,natInt,u_nthM,bC_ltA,bC_len,bC_one',hle,h0,hrr,hcf,laC_lt1',hC,hsl,hw]
   try rfl
 ·rw [if_pos he]
  have he' : ¬ (e : Int) = 0 := by omega
  simp (config := {maxSteps := 4000000,implicitDefEqProofs := false}) (disch := omega) only [go_sem,↓reduceIte,Nat.reduceAdd,Nat.reduceSub,Nat.reduceMul,Nat.reduceLeDiff,Nat.reduceLT,Int.reduceEq,Int.reduceNe,Int.reduceLT,Int.reduceLE,Int.reduceAdd,Int.reduceSub,Int.reduceMul,Int.reduceNeg,Nat.zero_add,Nat.add_zero,Nat.mul_one,Int.toNat_natCast,Int.natCast_zero,Int.cast_ofNat_Int,or_false,false_or,or_true,true_or,Int.reduceToNat,Nat.sub_zero,Int.natCast_nonneg,Int.toNat_zero,Bool.true_and,Bool.and_true,Bool.false_and,Bool.and_false,Bool.true_or,Bool.or_true,Bool.false_or,Bool.or_false,Bool.not_true,Bool.not_false,Bool.not_not,true_and,and_true,false_and,and_false,not_true_eq_false,not_false_eq_true,eq_self,decide_true,decide_false,ne_eq,implies_true,forall_const,true_implies,false_implies,Bool.true_eq_false,Bool.false_eq_true,reduceCtorEq,List.map_cons,List.map_nil,List.all_cons,List.all_nil,List.length_cons,List.length_nil,List.length_map,List.length_append,List.nil_append,List.cons_append,List.set_cons_zero,List.set_cons_succ,List.set_nil,List.drop_zero,List.drop_succ_cons,List.drop_nil,List.take_zero,List.take_succ_cons,List.take_nil,Option.map_some,Option.map_none,Option.isSome_some,Nat.reduceEqDiff,Nat.reduceBEq,Nat.reduceGT,List.all_append,List.all_map,Function.comp_def,decide_eq_true_eq,Bool.and_eq_true,beq_self_eq_true,or_self,and_self,ite_true,ite_false,Nat.le_refl,Bool.not_eq_true,decide_not,Bool.not_eq_true',decide_eq_false_iff_not,Bool.not_eq_false,Bool.or_eq_true,if_true,if_false,ite_self,u_roF,u_cvF,u_cvC,u_ceT,u_ceK,u_appS,la_it,la_len,la_sure,la_ltA,la_lt1,la_all1,la_ro,la_take,la_cl,la_tm,la_r,la_sl,rc_len,rc_sure,rc_ltA,rc_lt1,rc_all1,rc_ro,rc_take,rc_sl,la_set,rc_set,zcL_eq,zcR_eq,la_allA,la_len7,all_tt,natInt,u_nthM,bC_ltA,bC_len,bC_one',hle,h0,hrr,hcf,laC_lt1',he']
  try rfl
theorem tend1_s (m : Nat) (b : Bytes) (a e : Nat) (acc : List La) : plenumref01_Take_End m (OP 0 0) [tkO b a e,⟨2,ty_api_Last,7,acc.map laE⟩] = some (TU [nA (endR b.length a e).1,nA (endR b.length a e).2],[tkO b a e,⟨2,ty_api_Last,7,acc.map laE⟩]) := by
 rw [plenumref01_Take_End_eq]
 unfold endR
 by_cases he : e = 0
 ·subst he
  rw [if_neg (show ¬ (0 : Nat) ≠ 0 by simp)]
  by_cases h1 : a < b.length
  ·rw [if_pos h1]
   have h1' : (a : Int) < (b.length : Int) := by omega
   simp (config := {maxSteps := 4000000,implicitDefEqProofs := false}) (disch := omega) only [go_sem,↓reduceIte,Nat.reduceAdd,Nat.reduceSub,Nat.reduceMul,Nat.reduceLeDiff,Nat.reduceLT,Int.reduceEq,Int.reduceNe,Int.reduceLT,Int.reduceLE,Int.reduceAdd,Int.reduceSub,Int.reduceMul,Int.reduceNeg,Nat.zero_add,Nat.add_zero,Nat.mul_one,Int.toNat_natCast,Int.natCast_zero,Int.cast_ofNat_Int,or_false,false_or,or_true,true_or,Int.reduceToNat,Nat.sub_zero,Int.natCast_nonneg,Int.toNat_zero,Bool.true_and,Bool.and_true,Bool.false_and,Bool.and_false,Bool.true_or,Bool.or_true,Bool.false_or,Bool.or_false,Bool.not_true,Bool.not_false,Bool.not_not,true_and,and_true,false_and,and_false,not_true_eq_false,not_false_eq_true,eq_self,decide_true,decide_false,ne_eq,implies_true,forall_const,true_implies,false_implies,Bool.true_eq_false,Bool.false_eq_true,reduceCtorEq,List.map_cons,List.map_nil,List.all_cons,List.all_nil,List.length_cons,List.length_nil,List.length_map,List.length_append,List.nil_append,List.cons_append,List.set_cons_zero,List.set_cons_succ,List.set_nil,List.drop_zero,List.drop_succ_cons,List.drop_nil,List.take_zero,List.take_succ_cons,List.take_nil,Option.map_some,Option.map_none,Option.isSome_some,Nat.reduceEqDiff,Nat.reduceBEq,Nat.reduceGT,List.all_append,List.all_map,Function.comp_def,decide_eq_true_eq,Bool.and_eq_true,beq_self_eq_true,or_self,and_self,ite_true,ite_false,Nat.le_refl,Bool.not_eq_true,decide_not,Bool.not_eq_true',decide_eq_false_iff_not,Bool.not_eq_false,Bool.or_eq_true,if_true,if_false,ite_self,u_roF,u_cvF,u_cvC,u_ceT,u_ceK,u_appS,la_it,la_len,la_sure,la_ltA,la_lt1,la_all1,la_ro,la_take,la_cl,la_tm,la_r,la_sl,rc_len,rc_sure,rc_ltA,rc_lt1,rc_all1,rc_ro,rc_take,rc_sl,la_set,rc_set,zcL_eq,zcR_eq,la_allA,la_len7,all_tt,natInt,u_nthM,bC_ltA,bC_len,bC_one',laC_lt1',h1',plenumref01_Take_End_r1_eq]
   try rfl
  ·rw [if_neg h1]
   have h1' : ¬ (a : Int) < (b.length : Int) := by omega
   simp (config := {maxSteps := 4000000,implicitDefEqProofs := false}) (disch := omega) only [go_sem,↓reduceIte,Nat.reduceAdd,Nat.reduceSub,Nat.reduceMul,Nat.reduceLeDiff,Nat.reduceLT,Int.reduceEq,Int.reduceNe,Int.reduceLT,Int.reduceLE,Int.reduceAdd,Int.reduceSub,Int.reduceMul,Int.reduceNeg,Nat.zero_add,Nat.add_zero,Nat.mul_one,Int.toNat_natCast,Int.natCast_zero,Int.cast_ofNat_Int,or_false,false_or,or_true,true_or,Int.reduceToNat,Nat.sub_zero,Int.natCast_nonneg,Int.toNat_zero,Bool.true_and,Bool.and_true,Bool.false_and,Bool.and_false,Bool.true_or,Bool.or_true,Bool.false_or,Bool.or_false,Bool.not_true,Bool.not_false,Bool.not_not,true_and,and_true,false_and,and_false,not_true_eq_false,not_false_eq_true,eq_self,decide_true,decide_false,ne_eq,implies_true,forall_const,true_implies,false_implies,Bool.true_eq_false,Bool.false_eq_true,reduceCtorEq,List.map_cons,List.map_nil,List.all_cons,List.all_nil,List.length_cons,List.length_nil,List.length_map,List.length_append,List.nil_append,List.cons_append,List.set_cons_zero,List.set_cons_succ,List.set_nil,List.drop_zero,List.drop_succ_cons,List.drop_nil,List.take_zero,List.take_succ_cons,List.take_nil,Option.map_some,Option.map_none,Option.isSome_some,Nat.reduceEqDiff,Nat.reduceBEq,Nat.reduceGT,List.all_append,List.all_map,Function.comp_def,decide_eq_true_eq,Bool.and_eq_true,beq_self_eq_true,or_self,and_self,ite_true,ite_false,Nat.le_refl,Bool.not_eq_true,decide_not,Bool.not_eq_true',decide_eq_false_iff_not,Bool.not_eq_false,Bool.or_eq_true,if_true,if_false,ite_self,u_roF,u_cvF,u_cvC,u_ceT,u_ceK,u_appS,la_it,la_len,la_sure,la_ltA,la_lt1,la_all1,la_ro,la_take,la_cl,la_tm,la_r,la_sl,rc_len,rc_sure,rc_ltA,rc_lt1,rc_all1,rc_ro,rc_take,rc_sl,la_set,rc_set,zcL_eq,zcR_eq,la_allA,la_len7,all_tt,natInt,u_nthM,bC_ltA,bC_len,bC_one',laC_lt1',h1',plenumref01_Take_End_r1_eq,plenumref01_Take_End_r2_eq]
   try rfl
 ·rw [if_pos he]
  have he' : ¬ (e : Int) = 0 := by omega
  simp (config := {maxSteps := 4000000,implicitDefEqProofs := false}) (disch := omega) only [go_sem,↓reduceIte,Nat.reduceAdd,Nat.reduceSub,Nat.reduceMul,Nat.reduceLeDiff,Nat.reduceLT,Int.reduceEq,Int.reduceNe,Int.reduceLT,Int.reduceLE,Int.reduceAdd,Int.reduceSub,Int.reduceMul,Int.reduceNeg,Nat.zero_add,Nat.add_zero,Nat.mul_one,Int.toNat_natCast,Int.natCast_zero,Int.cast_ofNat_Int,or_false,false_or,or_true,true_or,Int.reduceToNat,Nat.sub_zero,Int.natCast_nonneg,Int.toNat_zero,Bool.true_and,Bool.and_true,Bool.false_and,Bool.and_false,Bool.true_or,Bool.or_true,Bool.false_or,Bool.or_false,Bool.not_true,Bool.not_false,Bool.not_not,true_and,and_true,false_and,and_false,not_true_eq_false,not_false_eq_true,eq_self,decide_true,decide_false,ne_eq,implies_true,forall_const,true_implies,false_implies,Bool.true_eq_false,Bool.false_eq_true,reduceCtorEq,List.map_cons,List.map_nil,List.all_cons,List.all_nil,List.length_cons,List.length_nil,List.length_map,List.length_append,List.nil_append,List.cons_append,List.set_cons_zero,List.set_cons_succ,List.set_nil,List.drop_zero,List.drop_succ_cons,List.drop_nil,List.take_zero,List.take_succ_cons,List.take_nil,Option.map_some,Option.map_none,Option.isSome_some,Nat.reduceEqDiff,Nat.reduceBEq,Nat.reduceGT,List.all_append,List.all_map,Function.comp_def,decide_eq_true_eq,Bool.and_eq_true,beq_self_eq_true,or_self,and_self,ite_true,ite_false,Nat.le_refl,Bool.not_eq_true,decide_not,Bool.not_eq_true',decide_eq_false_iff_not,Bool.not_eq_false,Bool.or_eq_true,if_true,if_false,ite_self,u_roF,u_cvF,u_cvC,u_ceT,u_ceK,u_appS,la_it,la_len,la_sure,la_ltA,la_lt1,la_all1,la_ro,la_take,la_cl,la_tm,la_r,la_sl,rc_len,rc_sure,rc_ltA,rc_lt1,rc_all1,rc_ro,rc_take,rc_sl,la_set,rc_set,zcL_eq,zcR_eq,la_allA,la_len7,all_tt,natInt,u_nthM,bC_ltA,bC_len,bC_one',laC_lt1',he',plenumref01_Take_End_r1_eq,plenumref01_Take_End_r2_eq]
  try rfl
end Go.Proofs.Ytchncgdjefbmfaa

namespace Go.Proofs.Ytchncgdjefbmfaa
open Go.RowKit
theorem tnumP_s (m : Nat) (b : Bytes) (a : Nat) (k i : Int) (s : Bytes) (hb : b.length ≤ 34359738368) (ha : a ≤ b.length) : plenumref01_Take_Num m (OP 2 0) (V (.int .u64 2147483647)) [oR Rs.zero,oV k i s,tkO b a 0] = some (V (.int .u64 ((numR b 2147483647 a 0).1 : Nat)),[oR Rs.zero,oV k i s,tkO b (numR b 2147483647 a 0).2.1 (numR b 2147483647 a 0).2.2]) := by
 rw [plenumref01_Take_Num_eq]
 have hC := plenumref01_Cut_e m (b.drop a) (by rw [List.length_drop];omega)
 unfold cutX at hC
 have hle : decide ((a : Int) ≤ (b.length : Int)) = true := decide_eq_true (by omega)
 have h0 : decide ((0 : Int) ≤ (a : Int)) = true := decide_eq_true (by omega)
 have hrr : decide ((b.length : Int) ≤ (b.length : Int)) = true := decide_eq_true (Int.le_refl _)
 have hn := cut_n (b.drop a)
 have hdl : (b.drop a).length ≤ b.length := by rw [List.length_drop];omega
 have hsl : ((b.take b.length).drop a) = b.drop a := by rw [List.take_length]
 unfold numR
 rw [if_neg (show ¬ (0 : Nat) ≠ 0 by simp)]
 by_cases h1 : (cut (b.drop a)).2.2 = 0
 ·rw [if_neg (show ¬ (cut (b.drop a)).2.2 ≠ 0 from fun q=>q h1)]
  rw [h1] at hC
  by_cases h2 : 2147483647 < (cut (b.drop a)).1
  ·rw [if_pos h2]
   have h2' : (2147483647 : Int) < ((cut (b.drop a)).1 : Int) := by omega
   generalize cut (b.drop a) = c at *
   simp (config := {maxSteps := 4000000,implicitDefEqProofs := false}) (disch := omega) only [go_sem,↓reduceIte,Nat.reduceAdd,Nat.reduceSub,Nat.reduceMul,Nat.reduceLeDiff,Nat.reduceLT,Int.reduceEq,Int.reduceNe,Int.reduceLT,Int.reduceLE,Int.reduceAdd,Int.reduceSub,Int.reduceMul,Int.reduceNeg,Nat.zero_add,Nat.add_zero,Nat.mul_one,Int.toNat_natCast,Int.natCast_zero,Int.cast_ofNat_Int,or_false,false_or,or_true,true_or,Int.reduceToNat,Nat.sub_zero,Int.natCast_nonneg,Int.toNat_zero,Bool.true_and,Bool.and_true,Bool.false_and,Bool.and_false,Bool.true_or,Bool.or_true,Bool.false_or,Bool.or_false,Bool.not_true,Bool.not_false,Bool.not_not,true_and,and_true,false_and,and_false,not_true_eq_false,not_false_eq_true,eq_self,decide_true,decide_false,ne_eq,implies_true,forall_const,true_implies,false_implies,Bool.true_eq_false,Bool.false_eq_true,reduceCtorEq,List.map_cons,List.map_nil,List.all_cons,List.all_nil,List.length_cons,List.length_nil,List.length_map,List.length_append,List.nil_append,List.cons_append,List.set_cons_zero,List.set_cons_succ,List.set_nil,List.drop_zero,List.drop_succ_cons,List.drop_nil,List.take_zero,List.take_succ_cons,List.take_nil,Option.map_some,Option.map_none,Option.isSome_some,Nat.reduceEqDiff,Nat.reduceBEq,Nat.reduceGT,List.all_append,List.all_map,Function.comp_def,decide_eq_true_eq,Bool.and_eq_true,beq_self_eq_true,or_self,and_self,ite_true,ite_false,Nat.le_refl,Bool.not_eq_true,decide_not,Bool.not_eq_true',decide_eq_false_iff_not,Bool.not_eq_false,Bool.or_eq_true,if_true,if_false,ite_self,u_roF,u_cvF,u_cvC,u_ceT,u_ceK,u_appS,la_it,la_len,la_sure,la_ltA,la_lt1,la_all1,la_ro,la_take,la_cl,la_tm,la_r,la_sl,rc_len,rc_sure,rc_ltA,rc_lt1,rc_all1,rc_ro,rc_take,rc_sl,la_set,rc_set,zcL_eq,zcR_eq,la_allA,la_len7,all_tt,natInt,u_nthM,hle,h0,hrr,hC,hsl,h2',plenumref01_Take_Num_r1_eq,plenumref01_Take_Num_r2_eq]
   try rfl
  ·rw [if_neg h2]
   have h2' : ¬ (2147483647 : Int) < ((cut (b.drop a)).1 : Int) := by omega
   have hw : IntKind.i64.wrap ((a : Int) + ((cut (b.drop a)).2.1 : Int)) = ((a + (cut (b.drop a)).2.1 : Nat) : Int) := by rw [w_i64 (by omega) (by omega)];omega
   generalize cut (b.drop a) = c at *
   simp (config := {maxSteps := 4000000,implicitDefEqProofs := false}) (disch := omega) only [go_sem,↓reduceIte,Nat.reduceAdd,Nat.reduceSub,Nat.reduceMul,Nat.reduceLeDiff,Nat.reduceLT,Int.reduceEq,Int.reduceNe,Int.reduceLT,Int.reduceLE,Int.reduceAdd,Int.reduceSub,Int.reduceMul,Int.reduceNeg,Nat.zero_add,Nat.add_zero,Nat.mul_one,Int.toNat_natCast,Int.natCast_zero,Int.cast_ofNat_Int,or_false,false_or,or_true,true_or,Int.reduceToNat,Nat.sub_zero,Int.natCast_nonneg,Int.toNat_zero,Bool.true_and,Bool.and_true,Bool.false_and,Bool.and_false,Bool.true_or,Bool.or_true,Bool.false_or,Bool.or_false,Bool.not_true,Bool.not_false,Bool.not_not,true_and,and_true,false_and,and_false,not_true_eq_false,not_false_eq_true,eq_self,decide_true,decide_false,ne_eq,implies_true,forall_const,true_implies,false_implies,Bool.true_eq_false,Bool.false_eq_true,reduceCtorEq,List.map_cons,List.map_nil,List.all_cons,List.all_nil,List.length_cons,List.length_nil,List.length_map,List.length_append,List.nil_append,List.cons_append,List.set_cons_zero,List.set_cons_succ,List.set_nil,List.drop_zero,List.drop_succ_cons,List.drop_nil,List.take_zero,List.take_succ_cons,List.take_nil,Option.map_some,Option.map_none,Option.isSome_some,Nat.reduceEqDiff,Nat.reduceBEq,Nat.reduceGT,List.all_append,List.all_map,Function.comp_def,decide_eq_true_eq,Bool.and_eq_true,beq_self_eq_true,or_self,and_self,ite_true,ite_false,Nat.le_refl,Bool.not_eq_true,decide_not,Bool.not_eq_true',decide_eq_false_iff_not,Bool.not_eq_false,Bool.or_eq_true,if_true,if_false,ite_self,u_roF,u_cvF,u_cvC,u_ceT,u_ceK,u_appS,la_it,la_len,la_sure,la_ltA,la_lt1,la_all1,la_ro,la_take,la_cl,la_tm,la_r,la_sl,rc_len,rc_sure,rc_ltA,rc_lt1,rc_all1,rc_ro,rc_take,rc_sl,la_set,rc_set,zcL_eq,zcR_eq,la_allA,la_len7,all_tt,natInt,u_nthM,hle,h0,hrr,hC,hsl,h2',hw,plenumref01_Take_Num_r1_eq,plenumref01_Take_Num_r2_eq]
   try rfl
 ·rw [if_pos h1]
  have h1' : ¬ ((cut (b.drop a)).2.2 : Int) = 0 := by omega
  generalize cut (b.drop a) = c at *
  simp (config := {maxSteps := 4000000,implicitDefEqProofs := false}) (disch := omega) only [go_sem,↓reduceIte,Nat.reduceAdd,Nat.reduceSub,Nat.reduceMul,Nat.reduceLeDiff,Nat.reduceLT,Int.reduceEq,Int.reduceNe,Int.reduceLT,Int.reduceLE,Int.reduceAdd,Int.reduceSub,Int.reduceMul,Int.reduceNeg,Nat.zero_add,Nat.add_zero,Nat.mul_one,Int.toNat_natCast,Int.natCast_zero,Int.cast_ofNat_Int,or_false,false_or,or_true,true_or,Int.reduceToNat,Nat.sub_zero,Int.natCast_nonneg,Int.toNat_zero,Bool.true_and,Bool.and_true,Bool.false_and,Bool.and_false,Bool.true_or,Bool.or_true,Bool.false_or,Bool.or_false,Bool.not_true,Bool.not_false,Bool.not_not,true_and,and_true,false_and,and_false,not_true_eq_false,not_false_eq_true,eq_self,decide_true,decide_false,ne_eq,implies_true,forall_const,true_implies,false_implies,Bool.true_eq_false,Bool.false_eq_true,reduceCtorEq,List.map_cons,List.map_nil,List.all_cons,List.all_nil,List.length_cons,List.length_nil,List.length_map,List.length_append,List.nil_append,List.cons_append,List.set_cons_zero,List.set_cons_succ,List.set_nil,List.drop_zero,List.drop_succ_cons,List.drop_nil,List.take_zero,List.take_succ_cons,List.take_nil,Option.map_some,Option.map_none,Option.isSome_some,Nat.reduceEqDiff,Nat.reduceBEq,Nat.reduceGT,List.all_append,List.all_map,Function.comp_def,decide_eq_true_eq,Bool.and_eq_true,beq_self_eq_true,or_self,and_self,ite_true,ite_false,Nat.le_refl,Bool.not_eq_true,decide_not,Bool.not_eq_true',decide_eq_false_iff_not,Bool.not_eq_false,Bool.or_eq_true,if_true,if_false,ite_self,u_roF,u_cvF,u_cvC,u_ceT,u_ceK,u_appS,la_it,la_len,la_sure,la_ltA,la_lt1,la_all1,la_ro,la_take,la_cl,la_tm,la_r,la_sl,rc_len,rc_sure,rc_ltA,rc_lt1,rc_all1,rc_ro,rc_take,rc_sl,la_set,rc_set,zcL_eq,zcR_eq,la_allA,la_len7,all_tt,natInt,u_nthM,hle,h0,hrr,hC,hsl,h1',plenumref01_Take_Num_r1_eq,plenumref01_Take_Num_r2_eq]
  try rfl
theorem decRes_ref (t : UInt8) (r : Bytes) (he : (cutV r).e = 0) : decRes (t :: r) = (if (numR (t :: r) 2147483647 (1 + (cutV r).n) 0).2.2 ≠ 0 then (Rs.zero,(numR (t :: r) 2147483647 (1 + (cutV r).n) 0).2.2) else if 23 < t.toNat then (Rs.zero,3) else if (numR (t :: r) 2147483647 (1 + (cutV r).n) 0).2.1 < (t :: r).length then (Rs.zero,7) else (⟨t.toNat,(cutV r).kind,(cutV r).i,(cutV r).s,((numR (t :: r) 2147483647 (1 + (cutV r).n) 0).1 : Nat)⟩,0)) := by
 have hd : (t :: r).drop (1 + (cutV r).n) = r.drop (cutV r).n := by rw [Nat.add_comm,List.drop_succ_cons]
 have hn := cutV_n r
 unfold decRes numR
 dsimp only
 rw [hd,if_neg (by simp [he]),if_neg (show ¬ (0 : Nat) ≠ 0 by simp)]
 have hcn := cut_n (r.drop (cutV r).n)
 rw [List.length_drop] at hcn
 have hll : (r.drop (cutV r).n).length = r.length - (cutV r).n := List.length_drop
 generalize cutV r = c at *
 generalize r.drop c.n = b at *
 by_cases h1 : (cut b).2.2 = 0
 ·have a1 : ¬ (cut b).2.2 ≠ 0 := fun q=>q h1
  rw [if_neg a1,if_neg a1]
  by_cases h2 : 2147483647 < (cut b).1
  ·rw [if_pos h2,if_pos h2];rfl
  ·rw [if_neg h2,if_neg h2]
   dsimp only
   rw [if_neg (show ¬ (0 : Nat) ≠ 0 by simp)]
   by_cases h3 : 23 < t.toNat
   ·rw [if_pos h3,if_pos h3]
   ·rw [if_neg h3,if_neg h3]
    by_cases h4 : (cut b).2.1 < b.length
    ·rw [if_pos h4,if_pos (by rw [List.length_cons];omega)]
    ·rw [if_neg h4,if_neg (by rw [List.length_cons];omega)]
 ·rw [if_pos h1,if_pos h1]
  dsimp only
  rw [if_pos h1]
theorem u_bT1 {R : Type} {a b : Value} {K1 : AV → Option R} : buildE (some pl_plenumref01_Take) (some zc_plenumref01_Take) [(0,V a),(1,V b)] K1 = K1 (.agg [V a,V b,nA 0]) := _root_.id rfl
theorem u_bT0 {R : Type} {a : Value} {K1 : AV → Option R} : buildE (some pl_plenumref01_Take) (some zc_plenumref01_Take) [(0,V a)] K1 = K1 (.agg [V a,nA 0,nA 0]) := _root_.id rfl
theorem u_bR3 {R : Type} {a b c d e : Value} {K1 : AV → Option R} : buildE (some pl_api_Result) (some (rC Rs.zero)) [(0,V a),(1, .agg [V b,V c,V d]),(2,V e)] K1 = K1 (.agg [V a,V b,V c,V d,V e]) := _root_.id rfl
theorem numR_le (b : Bytes) (most a e : Nat) : (numR b most a e).1 ≤ most := by
 unfold numR
 split
 ·exact Nat.zero_le _
 ·split
  ·exact Nat.zero_le _
  ·split
   ·exact Nat.zero_le _
   ·dsimp only;omega
theorem rdecres_s (m : Nat) (s : Bytes) (hs : s.length ≤ 34359738367) : plenumref22_DecodeResult m (sA s) = some (TU [rA (decRes s).1,nA (decRes s).2],[]) := by
 rw [plenumref22_DecodeResult_eq]
 cases s with
 |nil =>
  simp (config := {maxSteps := 4000000,implicitDefEqProofs := false}) (disch := omega) only [go_sem,↓reduceIte,Nat.reduceAdd,Nat.reduceSub,Nat.reduceMul,Nat.reduceLeDiff,Nat.reduceLT,Int.reduceEq,Int.reduceNe,Int.reduceLT,Int.reduceLE,Int.reduceAdd,Int.reduceSub,Int.reduceMul,Int.reduceNeg,Nat.zero_add,Nat.add_zero,Nat.mul_one,Int.toNat_natCast,Int.natCast_zero,Int.cast_ofNat_Int,or_false,false_or,or_true,true_or,Int.reduceToNat,Nat.sub_zero,Int.natCast_nonneg,Int.toNat_zero,Bool.true_and,Bool.and_true,Bool.false_and,Bool.and_false,Bool.true_or,Bool.or_true,Bool.false_or,Bool.or_false,Bool.not_true,Bool.not_false,Bool.not_not,true_and,and_true,false_and,and_false,not_true_eq_false,not_false_eq_true,eq_self,decide_true,decide_false,ne_eq,implies_true,forall_const,true_implies,false_implies,Bool.true_eq_false,Bool.false_eq_true,reduceCtorEq,List.map_cons,List.map_nil,List.all_cons,List.all_nil,List.length_cons,List.length_nil,List.length_map,List.length_append,List.nil_append,List.cons_append,List.set_cons_zero,List.set_cons_succ,List.set_nil,List.drop_zero,List.drop_succ_cons,List.drop_nil,List.take_zero,List.take_succ_cons,List.take_nil,Option.map_some,Option.map_none,Option.isSome_some,Nat.reduceEqDiff,Nat.reduceBEq,Nat.reduceGT,List.all_append,List.all_map,Function.comp_def,decide_eq_true_eq,Bool.and_eq_true,beq_self_eq_true,or_self,and_self,ite_true,ite_false,Nat.le_refl,Bool.not_eq_true,decide_not,Bool.not_eq_true',decide_eq_false_iff_not,Bool.not_eq_false,Bool.or_eq_true,if_true,if_false,ite_self,u_roF,u_cvF,u_cvC,u_ceT,u_ceK,u_appS,la_it,la_len,la_sure,la_ltA,la_lt1,la_all1,la_ro,la_take,la_cl,la_tm,la_r,la_sl,rc_len,rc_sure,rc_ltA,rc_lt1,rc_all1,rc_ro,rc_take,rc_sl,la_set,rc_set,zcL_eq,zcR_eq,la_allA,la_len7,all_tt,natInt,u_nthM,rc_b0]
  try rfl
 |cons t r =>
  have hl : r.length + 1 ≤ 34359738367 := hs
  have hC := plenumref07_Cut_e m r (by omega)
  unfold cutVX valX at hC
  have hsl : r.take r.length = r := List.take_length
  have hg : (t :: r).getD 0 0 = t := rfl
  have hwt : IntKind.i64.wrap (t.toNat : Int) = (t.toNat : Int) := w_i64 (by omega) (by have := t.toNat_lt;omega)
  have hp : decide ((0 : Int) < ((r.length + 1 : Nat) : Int)) = true := decide_eq_true (by omega)
  have d1 : decide ((1 : Int) ≤ ((r.length + 1 : Nat) : Int)) = true := decide_eq_true (by omega)
  have d2 : decide (((r.length + 1 : Nat) : Int) ≤ ((r.length + 1 : Nat) : Int)) = true := decide_eq_true (Int.le_refl _)
  have hn := cutV_n r
  by_cases he : (cutV r).e = 0
  ·rw [decRes_ref t r he]
   rw [he] at hC
   have hw : IntKind.i64.wrap (1 + ((cutV r).n : Int)) = ((1 + (cutV r).n : Nat) : Int) := by rw [w_i64 (by omega) (by omega)];omega
   have hT := tnumP_s m (t :: r) (1 + (cutV r).n) (cutV r).kind (cutV r).i (cutV r).s (by rw [List.length_cons];omega) (by rw [List.length_cons];omega)
   have hv := numR_le (t :: r) 2147483647 (1 + (cutV r).n) 0
   generalize cutV r = c at *
   generalize numR (t :: r) 2147483647 (1 + c.n) 0 = q at *
   obtain ⟨v,a,e⟩ := q
   dsimp only at hT hv ⊢
   have hT : plenumref01_Take_Num m (OP 2 0) (V (.int .u64 2147483647)) [⟨1,ty_api_Result,0,rC Rs.zero⟩,⟨1,ty_api_Value,0,[nA c.kind,nA c.i,sA c.s]⟩,⟨1,ty_plenumref01_Take,0,[V (.string ⟨(t :: r).toArray⟩),V (.int .i64 ((1 + c.n : Nat) : Int)),nA 0]⟩] = some (V (.int .u64 (v : Int)),[⟨1,ty_api_Result,0,rC Rs.zero⟩,⟨1,ty_api_Value,0,[nA c.kind,nA c.i,sA c.s]⟩,⟨1,ty_plenumref01_Take,0,[V (.string ⟨(t :: r).toArray⟩),V (.int .i64 (a : Int)),V (.int .i64 (e : Int))]⟩]) := hT
   have hwv : IntKind.i64.wrap (v : Int) = (v : Int) := w_i64 (by omega) (by omega)
   by_cases h1 : e = 0
   ·subst h1
    rw [if_neg (show ¬ (0 : Nat) ≠ 0 by simp)]
    by_cases h3 : 23 < t.toNat
    ·rw [if_pos h3]
     have h3' : (23 : Int) < (t.toNat : Int) := by omega
     simp (config := {maxSteps := 4000000,implicitDefEqProofs := false}) (disch := omega) only [go_sem,↓reduceIte,Nat.reduceAdd,Nat.reduceSub,Nat.reduceMul,Nat.reduceLeDiff,Nat.reduceLT,Int.reduceEq,Int.reduceNe,Int.reduceLT,Int.reduceLE,Int.reduceAdd,Int.reduceSub,Int.reduceMul,Int.reduceNeg,Nat.zero_add,Nat.add_zero,Nat.mul_one,Int.toNat_natCast,Int.natCast_zero,Int.cast_ofNat_Int,or_false,false_or,or_true,true_or,Int.reduceToNat,Nat.sub_zero,Int.natCast_nonneg,Int.toNat_zero,Bool.true_and,Bool.and_true,Bool.false_and,Bool.and_false,Bool.true_or,Bool.or_true,Bool.false_or,Bool.or_false,Bool.not_true,Bool.not_false,Bool.not_not,true_and,and_true,false_and,and_false,not_true_eq_false,not_false_eq_true,eq_self,decide_true,decide_false,ne_eq,implies_true,forall_const,true_implies,false_implies,Bool.true_eq_false,Bool.false_eq_true,reduceCtorEq,List.map_cons,List.map_nil,List.all_cons,List.all_nil,List.length_cons,List.length_nil,List.length_map,List.length_append,List.nil_append,List.cons_append,List.set_cons_zero,List.set_cons_succ,List.set_nil,List.drop_zero,List.drop_succ_cons,List.drop_nil,List.take_zero,List.take_succ_cons,List.take_nil,Option.map_some,Option.map_none,Option.isSome_some,Nat.reduceEqDiff,Nat.reduceBEq,Nat.reduceGT,List.all_append,List.all_map,Function.comp_def,decide_eq_true_eq,Bool.and_eq_true,beq_self_eq_true,or_self,and_self,ite_true,ite_false,Nat.le_refl,Bool.not_eq_true,decide_not,Bool.not_eq_true',decide_eq_false_iff_not,Bool.not_eq_false,Bool.or_eq_true,if_true,if_false,ite_self,u_roF,u_cvF,u_cvC,u_ceT,u_ceK,u_appS,la_it,la_len,la_sure,la_ltA,la_lt1,la_all1,la_ro,la_take,la_cl,la_tm,la_r,la_sl,rc_len,rc_sure,rc_ltA,rc_lt1,rc_all1,rc_ro,rc_take,rc_sl,la_set,rc_set,zcL_eq,zcR_eq,la_allA,la_len7,all_tt,natInt,u_nthM,rc_b0,hsl,hg,hp,d1,d2,hC,hw,hwv,hT,h3',zcVal,u_eqE,u_bT1,u_bR3,hwt]
     try rfl
    ·rw [if_neg h3]
     have h3' : ¬ (23 : Int) < (t.toNat : Int) := by omega
     by_cases h4 : a < (t :: r).length
     ·rw [if_pos h4]
      have h4' : (a : Int) < ((r.length + 1 : Nat) : Int) := by rw [List.length_cons] at h4;omega
      simp (config := {maxSteps := 4000000,implicitDefEqProofs := false}) (disch := omega) only [go_sem,↓reduceIte,Nat.reduceAdd,Nat.reduceSub,Nat.reduceMul,Nat.reduceLeDiff,Nat.reduceLT,Int.reduceEq,Int.reduceNe,Int.reduceLT,Int.reduceLE,Int.reduceAdd,Int.reduceSub,Int.reduceMul,Int.reduceNeg,Nat.zero_add,Nat.add_zero,Nat.mul_one,Int.toNat_natCast,Int.natCast_zero,Int.cast_ofNat_Int,or_false,false_or,or_true,true_or,Int.reduceToNat,Nat.sub_zero,Int.natCast_nonneg,Int.toNat_zero,Bool.true_and,Bool.and_true,Bool.false_and,Bool.and_false,Bool.true_or,Bool.or_true,Bool.false_or,Bool.or_false,Bool.not_true,Bool.not_false,Bool.not_not,true_and,and_true,false_and,and_false,not_true_eq_false,not_false_eq_true,eq_self,decide_true,decide_false,ne_eq,implies_true,forall_const,true_implies,false_implies,Bool.true_eq_false,Bool.false_eq_true,reduceCtorEq,List.map_cons,List.map_nil,List.all_cons,List.all_nil,List.length_cons,List.length_nil,List.length_map,List.length_append,List.nil_append,List.cons_append,List.set_cons_zero,List.set_cons_succ,List.set_nil,List.drop_zero,List.drop_succ_cons,List.drop_nil,List.take_zero,List.take_succ_cons,List.take_nil,Option.map_some,Option.map_none,Option.isSome_some,Nat.reduceEqDiff,Nat.reduceBEq,Nat.reduceGT,List.all_append,List.all_map,Function.comp_def,decide_eq_true_eq,Bool.and_eq_true,beq_self_eq_true,or_self,and_self,ite_true,ite_false,Nat.le_refl,Bool.not_eq_true,decide_not,Bool.not_eq_true',decide_eq_false_iff_not,Bool.not_eq_false,Bool.or_eq_true,if_true,if_false,ite_self,u_roF,u_cvF,u_cvC,u_ceT,u_ceK,u_appS,la_it,la_len,la_sure,la_ltA,la_lt1,la_all1,la_ro,la_take,la_cl,la_tm,la_r,la_sl,rc_len,rc_sure,rc_ltA,rc_lt1,rc_all1,rc_ro,rc_take,rc_sl,la_set,rc_set,zcL_eq,zcR_eq,la_allA,la_len7,all_tt,natInt,u_nthM,rc_b0,hsl,hg,hp,d1,d2,hC,hw,hwv,hT,h3',h4',zcVal,u_eqE,u_bT1,u_bR3,hwt]
      try rfl
     ·rw [if_neg h4]
      have h4' : ¬ (a : Int) < ((r.length + 1 : Nat) : Int) := by rw [List.length_cons] at h4;omega
      simp (config := {maxSteps := 4000000,implicitDefEqProofs := false}) (disch := omega) only [go_sem,↓reduceIte,Nat.reduceAdd,Nat.reduceSub,Nat.reduceMul,Nat.reduceLeDiff,Nat.reduceLT,Int.reduceEq,Int.reduceNe,Int.reduceLT,Int.reduceLE,Int.reduceAdd,Int.reduceSub,Int.reduceMul,Int.reduceNeg,Nat.zero_add,Nat.add_zero,Nat.mul_one,Int.toNat_natCast,Int.natCast_zero,Int.cast_ofNat_Int,or_false,false_or,or_true,true_or,Int.reduceToNat,Nat.sub_zero,Int.natCast_nonneg,Int.toNat_zero,Bool.true_and,Bool.and_true,Bool.false_and,Bool.and_false,Bool.true_or,Bool.or_true,Bool.false_or,Bool.or_false,Bool.not_true,Bool.not_false,Bool.not_not,true_and,and_true,false_and,and_false,not_true_eq_false,not_false_eq_true,eq_self,decide_true,decide_false,ne_eq,implies_true,forall_const,true_implies,false_implies,Bool.true_eq_false,Bool.false_eq_true,reduceCtorEq,List.map_cons,List.map_nil,List.all_cons,List.all_nil,List.length_cons,List.length_nil,List.length_map,List.length_append,List.nil_append,List.cons_append,List.set_cons_zero,List.set_cons_succ,List.set_nil,List.drop_zero,List.drop_succ_cons,List.drop_nil,List.take_zero,List.take_succ_cons,List.take_nil,Option.map_some,Option.map_none,Option.isSome_some,Nat.reduceEqDiff,Nat.reduceBEq,Nat.reduceGT,List.all_append,List.all_map,Function.comp_def,decide_eq_true_eq,Bool.and_eq_true,beq_self_eq_true,or_self,and_self,ite_true,ite_false,Nat.le_refl,Bool.not_eq_true,decide_not,Bool.not_eq_true',decide_eq_false_iff_not,Bool.not_eq_false,Bool.or_eq_true,if_true,if_false,ite_self,u_roF,u_cvF,u_cvC,u_ceT,u_ceK,u_appS,la_it,la_len,la_sure,la_ltA,la_lt1,la_all1,la_ro,la_take,la_cl,la_tm,la_r,la_sl,rc_len,rc_sure,rc_ltA,rc_lt1,rc_all1,rc_ro,rc_take,rc_sl,la_set,rc_set,zcL_eq,zcR_eq,la_allA,la_len7,all_tt,natInt,u_nthM,rc_b0,hsl,hg,hp,d1,d2,hC,hw,hwv,hT,h3',h4',zcVal,u_eqE,u_bT1,u_bR3,hwt]
      rfl
   ·rw [if_pos h1]
    have h1' : ¬ (e : Int) = 0 := by omega
    simp (config := {maxSteps := 4000000,implicitDefEqProofs := false}) (disch := omega) only [go_sem,↓reduceIte,Nat.reduceAdd,Nat.reduceSub,Nat.reduceMul,Nat.reduceLeDiff,Nat.reduceLT,Int.reduceEq,Int.reduceNe,Int.reduceLT,Int.reduceLE,Int.reduceAdd,Int.reduceSub,Int.reduceMul,Int.reduceNeg,Nat.zero_add,Nat.add_zero,Nat.mul_one,Int.toNat_natCast,Int.natCast_zero,Int.cast_ofNat_Int,or_false,false_or,or_true,true_or,Int.reduceToNat,Nat.sub_zero,Int.natCast_nonneg,Int.toNat_zero,Bool.true_and,Bool.and_true,Bool.false_and,Bool.and_false,Bool.true_or,Bool.or_true,Bool.false_or,Bool.or_false,Bool.not_true,Bool.not_false,Bool.not_not,true_and,and_true,false_and,and_false,not_true_eq_false,not_false_eq_true,eq_self,decide_true,decide_false,ne_eq,implies_true,forall_const,true_implies,false_implies,Bool.true_eq_false,Bool.false_eq_true,reduceCtorEq,List.map_cons,List.map_nil,List.all_cons,List.all_nil,List.length_cons,List.length_nil,List.length_map,List.length_append,List.nil_append,List.cons_append,List.set_cons_zero,List.set_cons_succ,List.set_nil,List.drop_zero,List.drop_succ_cons,List.drop_nil,List.take_zero,List.take_succ_cons,List.take_nil,Option.map_some,Option.map_none,Option.isSome_some,Nat.reduceEqDiff,Nat.reduceBEq,Nat.reduceGT,List.all_append,List.all_map,Function.comp_def,decide_eq_true_eq,Bool.and_eq_true,beq_self_eq_true,or_self,and_self,ite_true,ite_false,Nat.le_refl,Bool.not_eq_true,decide_not,Bool.not_eq_true',decide_eq_false_iff_not,Bool.not_eq_false,Bool.or_eq_true,if_true,if_false,ite_self,u_roF,u_cvF,u_cvC,u_ceT,u_ceK,u_appS,la_it,la_len,la_sure,la_ltA,la_lt1,la_all1,la_ro,la_take,la_cl,la_tm,la_r,la_sl,rc_len,rc_sure,rc_ltA,rc_lt1,rc_all1,rc_ro,rc_take,rc_sl,la_set,rc_set,zcL_eq,zcR_eq,la_allA,la_len7,all_tt,natInt,u_nthM,rc_b0,hsl,hg,hp,d1,d2,hC,hw,hwv,hT,h1',zcVal,u_eqE,u_bT1,u_bR3,hwt]
    try rfl
  ·have e1 : decRes (t :: r) = (Rs.zero,(cutV r).e) := by unfold decRes;dsimp only;rw [if_pos he]
   rw [e1]
   have he' : ¬ ((cutV r).e : Int) = 0 := by omega
   generalize cutV r = c at *
   simp (config := {maxSteps := 4000000,implicitDefEqProofs := false}) (disch := omega) only [go_sem,↓reduceIte,Nat.reduceAdd,Nat.reduceSub,Nat.reduceMul,Nat.reduceLeDiff,Nat.reduceLT,Int.reduceEq,Int.reduceNe,Int.reduceLT,Int.reduceLE,Int.reduceAdd,Int.reduceSub,Int.reduceMul,Int.reduceNeg,Nat.zero_add,Nat.add_zero,Nat.mul_one,Int.toNat_natCast,Int.natCast_zero,Int.cast_ofNat_Int,or_false,false_or,or_true,true_or,Int.reduceToNat,Nat.sub_zero,Int.natCast_nonneg,Int.toNat_zero,Bool.true_and,Bool.and_true,Bool.false_and,Bool.and_false,Bool.true_or,Bool.or_true,Bool.false_or,Bool.or_false,Bool.not_true,Bool.not_false,Bool.not_not,true_and,and_true,false_and,and_false,not_true_eq_false,not_false_eq_true,eq_self,decide_true,decide_false,ne_eq,implies_true,forall_const,true_implies,false_implies,Bool.true_eq_false,Bool.false_eq_true,reduceCtorEq,List.map_cons,List.map_nil,List.all_cons,List.all_nil,List.length_cons,List.length_nil,List.length_map,List.length_append,List.nil_append,List.cons_append,List.set_cons_zero,List.set_cons_succ,List.set_nil,List.drop_zero,List.drop_succ_cons,List.drop_nil,List.take_zero,List.take_succ_cons,List.take_nil,Option.map_some,Option.map_none,Option.isSome_some,Nat.reduceEqDiff,Nat.reduceBEq,Nat.reduceGT,List.all_append,List.all_map,Function.comp_def,decide_eq_true_eq,Bool.and_eq_true,beq_self_eq_true,or_self,and_self,ite_true,ite_false,Nat.le_refl,Bool.not_eq_true,decide_not,Bool.not_eq_true',decide_eq_false_iff_not,Bool.not_eq_false,Bool.or_eq_true,if_true,if_false,ite_self,u_roF,u_cvF,u_cvC,u_ceT,u_ceK,u_appS,la_it,la_len,la_sure,la_ltA,la_lt1,la_all1,la_ro,la_take,la_cl,la_tm,la_r,la_sl,rc_len,rc_sure,rc_ltA,rc_lt1,rc_all1,rc_ro,rc_take,rc_sl,la_set,rc_set,zcL_eq,zcR_eq,la_allA,la_len7,all_tt,natInt,u_nthM,rc_b0,hsl,d1,d2,hC,he',zcVal]
   try rfl
end Go.Proofs.Ytchncgdjefbmfaa

namespace Go.Proofs.Ytchncgdjefbmfaa
open Go.RowKit
theorem rencres_s (m : Nat) (r : Rs) (h : rB r = true) (hin : r.In) : plenumref22_EncodeResult m (rA r) = some (sA (encRes r.code r.kind r.i r.s r.ver),[]) := by
 rw [plenumref22_EncodeResult_eq,rA_def]
 have hb := h
 unfold rB resB at hb
 simp only [Bool.and_eq_true,decide_eq_true_eq] at hb
 obtain ⟨⟨⟨⟨c0,c1⟩,hv⟩,v0⟩,v1⟩ := hb
 have hE := plenumref07_Encode_e m r.kind r.i r.s hin hv
 have he : encRes r.code r.kind r.i r.s r.ver = UInt8.ofNat r.code.toNat :: (encV r.kind r.i r.s ++ put r.ver.toNat) := by
  unfold encRes
  rw [show resB r.code r.kind r.i r.s r.ver = true from h,if_pos rfl]
 rw [he]
 have hP := plenumref01_Put_e m r.ver.toNat (by omega)
 rw [show ((r.ver.toNat : Nat) : Int) = r.ver by omega] at hP
 have hw1 : IntKind.u8.wrap r.code = r.code := by
  have : IntKind.u8.wrap r.code = r.code % 256 := rfl
  rw [this];omega
 have hw2 : IntKind.u64.wrap r.ver = r.ver := w_u64 (by omega) (by omega)
 have e : ([V (.int .u8 r.code)] : List AV) = bC [UInt8.ofNat r.code.toNat] := by
  show _ = [V (cB (UInt8.ofNat r.code.toNat))]
  rw [cB_of r.code.toNat (by omega)]
  show _ = [V (.int .u8 ((r.code.toNat : Nat) : Int))]
  rw [show ((r.code.toNat : Nat) : Int) = r.code by omega]
 have hcv : ∀ K1 : AV → Option (AV × List AObj),convE false none true true false (DataW.slice [V (.int .u8 r.code)] []) K1 = K1 (V (.string ⟨[UInt8.ofNat r.code.toNat].toArray⟩)) := fun K1=>by
  rw [e];exact u_bconv
 have hl1 := resLen hin.1 hin.2 hv
 have hl2 := put_len r.ver.toNat (by omega)
 simp (config := {maxSteps := 4000000,implicitDefEqProofs := false}) (disch := omega) only [go_sem,↓reduceIte,Nat.reduceAdd,Nat.reduceSub,Nat.reduceMul,Nat.reduceLeDiff,Nat.reduceLT,Int.reduceEq,Int.reduceNe,Int.reduceLT,Int.reduceLE,Int.reduceAdd,Int.reduceSub,Int.reduceMul,Int.reduceNeg,Nat.zero_add,Nat.add_zero,Nat.mul_one,Int.toNat_natCast,Int.natCast_zero,Int.cast_ofNat_Int,or_false,false_or,or_true,true_or,Int.reduceToNat,Nat.sub_zero,Int.natCast_nonneg,Int.toNat_zero,Bool.true_and,Bool.and_true,Bool.false_and,Bool.and_false,Bool.true_or,Bool.or_true,Bool.false_or,Bool.or_false,Bool.not_true,Bool.not_false,Bool.not_not,true_and,and_true,false_and,and_false,not_true_eq_false,not_false_eq_true,eq_self,decide_true,decide_false,ne_eq,implies_true,forall_const,true_implies,false_implies,Bool.true_eq_false,Bool.false_eq_true,reduceCtorEq,List.map_cons,List.map_nil,List.all_cons,List.all_nil,List.length_cons,List.length_nil,List.length_map,List.length_append,List.nil_append,List.cons_append,List.set_cons_zero,List.set_cons_succ,List.set_nil,List.drop_zero,List.drop_succ_cons,List.drop_nil,List.take_zero,List.take_succ_cons,List.take_nil,Option.map_some,Option.map_none,Option.isSome_some,Nat.reduceEqDiff,Nat.reduceBEq,Nat.reduceGT,List.all_append,List.all_map,Function.comp_def,decide_eq_true_eq,Bool.and_eq_true,beq_self_eq_true,or_self,and_self,ite_true,ite_false,Nat.le_refl,Bool.not_eq_true,decide_not,Bool.not_eq_true',decide_eq_false_iff_not,Bool.not_eq_false,Bool.or_eq_true,if_true,if_false,ite_self,u_roF,u_cvF,u_cvC,u_ceT,u_ceK,u_appS,la_it,la_len,la_sure,la_ltA,la_lt1,la_all1,la_ro,la_take,la_cl,la_tm,la_r,la_sl,rc_len,rc_sure,rc_ltA,rc_lt1,rc_all1,rc_ro,rc_take,rc_sl,la_set,rc_set,zcL_eq,zcR_eq,la_allA,la_len7,all_tt,natInt,u_nthM,hE,hP,hw1,hw2,hcv,rc_code,rc_ver,rc_val]
 rw [decide_eq_true (by omega),whenE_t,decide_eq_true (by omega),whenE_t]
theorem rencode_s (m : Nat) (l : List La) (hlm : l.length < m) (hi : isL l = true) (h : ∀ x ∈ l,x.r.In) : plenumref26_Encode m (lL l) = some (sA (encB l),[]) := by
 rw [plenumref26_Encode_eq,lL_def]
 have h8 := isL_len hi
 have hall := (isL_iff.1 hi).1
 have hP : ∀ v : Nat,v < 18446744073709551616 → plenumref01_Put_t m [V (.int .u64 (v : Int))] = some (sA (put v),[]) := fun v hv=>plenumref01_Put_e m v hv
 have hP0 := hP l.length (by omega)
 simp (config := {maxSteps := 4000000,implicitDefEqProofs := false}) (disch := omega) only [go_sem,↓reduceIte,Nat.reduceAdd,Nat.reduceSub,Nat.reduceMul,Nat.reduceLeDiff,Nat.reduceLT,Int.reduceEq,Int.reduceNe,Int.reduceLT,Int.reduceLE,Int.reduceAdd,Int.reduceSub,Int.reduceMul,Int.reduceNeg,Nat.zero_add,Nat.add_zero,Nat.mul_one,Int.toNat_natCast,Int.natCast_zero,Int.cast_ofNat_Int,or_false,false_or,or_true,true_or,Int.reduceToNat,Nat.sub_zero,Int.natCast_nonneg,Int.toNat_zero,Bool.true_and,Bool.and_true,Bool.false_and,Bool.and_false,Bool.true_or,Bool.or_true,Bool.false_or,Bool.or_false,Bool.not_true,Bool.not_false,Bool.not_not,true_and,and_true,false_and,and_false,not_true_eq_false,not_false_eq_true,eq_self,decide_true,decide_false,ne_eq,implies_true,forall_const,true_implies,false_implies,Bool.true_eq_false,Bool.false_eq_true,reduceCtorEq,List.map_cons,List.map_nil,List.all_cons,List.all_nil,List.length_cons,List.length_nil,List.length_map,List.length_append,List.nil_append,List.cons_append,List.set_cons_zero,List.set_cons_succ,List.set_nil,List.drop_zero,List.drop_succ_cons,List.drop_nil,List.take_zero,List.take_succ_cons,List.take_nil,Option.map_some,Option.map_none,Option.isSome_some,Nat.reduceEqDiff,Nat.reduceBEq,Nat.reduceGT,List.all_append,List.all_map,Function.comp_def,decide_eq_true_eq,Bool.and_eq_true,beq_self_eq_true,or_self,and_self,ite_true,ite_false,Nat.le_refl,Bool.not_eq_true,decide_not,Bool.not_eq_true',decide_eq_false_iff_not,Bool.not_eq_false,Bool.or_eq_true,if_true,if_false,ite_self,u_roF,u_cvF,u_cvC,u_ceT,u_ceK,u_appS,la_it,la_len,la_sure,la_ltA,la_lt1,la_all1,la_ro,la_take,la_cl,la_tm,la_r,la_sl,rc_len,rc_sure,rc_ltA,rc_lt1,rc_all1,rc_ro,rc_take,rc_sl,la_set,rc_set,zcL_eq,zcR_eq,la_allA,la_len7,all_tt,natInt,u_nthM,hP0,w_u64]
 have e0 : put l.length ++ (l.take 0).flatMap encLa = put l.length := by simp
 rw [← e0]
 refine iter_go (ι := {k : Nat // k ≤ l.length}) (fun k=>⟨[],[(0,SL (l.map laE)),(3,sA (put l.length ++ (l.take k.1).flatMap encLa)),(4,nA k.1)]⟩) (fun k=>l.length - k.1) (fun _=>some (sA (encB l),[])) ?_ (⟨0,Nat.zero_le _⟩ : {k : Nat // k ≤ l.length}) (by show l.length - 0 < m;omega)
 rintro kx hkx ⟨k,hk⟩ kc hkc
 dsimp only at hk hkc ⊢
 rw [plenumref26_Encode_b1_eq]
 by_cases hlt : k < l.length
 ·have hlt' : (k : Int) < (l.length : Int) := by omega
  have step := hkc ⟨k + 1,by omega⟩ (by dsimp only;omega)
  dsimp only at step
  rw [List.take_succ_eq_append_getElem hlt,List.flatMap_append,List.flatMap_cons,List.flatMap_nil,List.append_nil] at step
  have hx := List.getElem_mem hlt
  have hpre : (put l.length ++ (l.take k).flatMap encLa).length ≤ 100000 := by
   have := flat_len (l.take k) fun x hx=>⟨(hall x (List.mem_of_mem_take hx)).1,h x (List.mem_of_mem_take hx)⟩
   have h2 := put_len l.length (by omega)
   rw [List.length_take] at this
   rw [List.length_append]
   omega
  rw [List.length_append] at hpre
  generalize (l.take k).flatMap encLa = acc at *
  generalize hxe : l[k] = x at *
  have hc := hall x hx
  have hcc := could_cl hc.1
  have hR := rencres_s m x.r hc.2 (h x hx)
  rw [rA_def] at hR
  have hP1 := hP x.cl.toNat (by omega)
  have hP2 := hP x.tm.toNat (by omega)
  rw [show ((x.cl.toNat : Nat) : Int) = x.cl by omega] at hP1
  rw [show ((x.tm.toNat : Nat) : Int) = x.tm by omega] at hP2
  have hw1 : IntKind.u64.wrap x.cl = x.cl := w_u64 (by omega) (by omega)
  have hw2 : IntKind.u64.wrap x.tm = x.tm := w_u64 (by omega) (by omega)
  have hrl := encRes_len (h x hx)
  have hT := plenumref01_Text_e m (encRes x.r.code x.r.kind x.r.i x.r.s x.r.ver) (by omega)
  unfold encLa at step
  generalize encRes x.r.code x.r.kind x.r.i x.r.s x.r.ver = eb at *
  simp (config := {maxSteps := 4000000,implicitDefEqProofs := false}) (disch := omega) only [go_sem,↓reduceIte,Nat.reduceAdd,Nat.reduceSub,Nat.reduceMul,Nat.reduceLeDiff,Nat.reduceLT,Int.reduceEq,Int.reduceNe,Int.reduceLT,Int.reduceLE,Int.reduceAdd,Int.reduceSub,Int.reduceMul,Int.reduceNeg,Nat.zero_add,Nat.add_zero,Nat.mul_one,Int.toNat_natCast,Int.natCast_zero,Int.cast_ofNat_Int,or_false,false_or,or_true,true_or,Int.reduceToNat,Nat.sub_zero,Int.natCast_nonneg,Int.toNat_zero,Bool.true_and,Bool.and_true,Bool.false_and,Bool.and_false,Bool.true_or,Bool.or_true,Bool.false_or,Bool.or_false,Bool.not_true,Bool.not_false,Bool.not_not,true_and,and_true,false_and,and_false,not_true_eq_false,not_false_eq_true,eq_self,decide_true,decide_false,ne_eq,implies_true,forall_const,true_implies,false_implies,Bool.true_eq_false,Bool.false_eq_true,reduceCtorEq,List.map_cons,List.map_nil,List.all_cons,List.all_nil,List.length_cons,List.length_nil,List.length_map,List.length_append,List.nil_append,List.cons_append,List.set_cons_zero,List.set_cons_succ,List.set_nil,List.drop_zero,List.drop_succ_cons,List.drop_nil,List.take_zero,List.take_succ_cons,List.take_nil,Option.map_some,Option.map_none,Option.isSome_some,Nat.reduceEqDiff,Nat.reduceBEq,Nat.reduceGT,List.all_append,List.all_map,Function.comp_def,decide_eq_true_eq,Bool.and_eq_true,beq_self_eq_true,or_self,and_self,ite_true,ite_false,Nat.le_refl,Bool.not_eq_true,decide_not,Bool.not_eq_true',decide_eq_false_iff_not,Bool.not_eq_false,Bool.or_eq_true,if_true,if_false,ite_self,u_roF,u_cvF,u_cvC,u_ceT,u_ceK,u_appS,la_it,la_len,la_sure,la_ltA,la_lt1,la_all1,la_ro,la_take,la_cl,la_tm,la_r,la_sl,rc_len,rc_sure,rc_ltA,rc_lt1,rc_all1,rc_ro,rc_take,rc_sl,la_set,rc_set,zcL_eq,zcR_eq,la_allA,la_len7,all_tt,natInt,u_nthM,hlt',hxe,hR,hP1,hP2,hw1,hw2,hT,w_i64,List.append_assoc]
  have q1 := put_len x.cl.toNat (by omega)
  have q2 := put_len x.tm.toNat (by omega)
  have q3 := put_len eb.length (by omega)
  have q4 := put_len l.length (by omega)
  rw [decide_eq_true (by omega),whenE_t,decide_eq_true (by omega),whenE_t,decide_eq_true (by omega),whenE_t]
  simp only [List.append_assoc] at step
  exact step
 ·have hlt' : ¬ (k : Int) < (l.length : Int) := by omega
  have : k = l.length := by omega
  subst this
  rw [List.take_length]
  simp (config := {maxSteps := 4000000,implicitDefEqProofs := false}) (disch := omega) only [go_sem,↓reduceIte,Nat.reduceAdd,Nat.reduceSub,Nat.reduceMul,Nat.reduceLeDiff,Nat.reduceLT,Int.reduceEq,Int.reduceNe,Int.reduceLT,Int.reduceLE,Int.reduceAdd,Int.reduceSub,Int.reduceMul,Int.reduceNeg,Nat.zero_add,Nat.add_zero,Nat.mul_one,Int.toNat_natCast,Int.natCast_zero,Int.cast_ofNat_Int,or_false,false_or,or_true,true_or,Int.reduceToNat,Nat.sub_zero,Int.natCast_nonneg,Int.toNat_zero,Bool.true_and,Bool.and_true,Bool.false_and,Bool.and_false,Bool.true_or,Bool.or_true,Bool.false_or,Bool.or_false,Bool.not_true,Bool.not_false,Bool.not_not,true_and,and_true,false_and,and_false,not_true_eq_false,not_false_eq_true,eq_self,decide_true,decide_false,ne_eq,implies_true,forall_const,true_implies,false_implies,Bool.true_eq_false,Bool.false_eq_true,reduceCtorEq,List.map_cons,List.map_nil,List.all_cons,List.all_nil,List.length_cons,List.length_nil,List.length_map,List.length_append,List.nil_append,List.cons_append,List.set_cons_zero,List.set_cons_succ,List.set_nil,List.drop_zero,List.drop_succ_cons,List.drop_nil,List.take_zero,List.take_succ_cons,List.take_nil,Option.map_some,Option.map_none,Option.isSome_some,Nat.reduceEqDiff,Nat.reduceBEq,Nat.reduceGT,List.all_append,List.all_map,Function.comp_def,decide_eq_true_eq,Bool.and_eq_true,beq_self_eq_true,or_self,and_self,ite_true,ite_false,Nat.le_refl,Bool.not_eq_true,decide_not,Bool.not_eq_true',decide_eq_false_iff_not,Bool.not_eq_false,Bool.or_eq_true,if_true,if_false,ite_self,u_roF,u_cvF,u_cvC,u_ceT,u_ceK,u_appS,la_it,la_len,la_sure,la_ltA,la_lt1,la_all1,la_ro,la_take,la_cl,la_tm,la_r,la_sl,rc_len,rc_sure,rc_ltA,rc_lt1,rc_all1,rc_ro,rc_take,rc_sl,la_set,rc_set,zcL_eq,zcR_eq,la_allA,la_len7,all_tt,natInt,u_nthM,hlt',hkx,plenumref26_Encode_r1_eq]
  try rfl
end Go.Proofs.Ytchncgdjefbmfaa

namespace Go.Proofs.Ytchncgdjefbmfaa
open Go.RowKit
def entR (b : Bytes) (a : Nat) : Nat × Nat × Bytes × Nat × Nat :=
  ((numR b 255 a 0).1, (numR b 2147483647 (numR b 255 a 0).2.1 (numR b 255 a 0).2.2).1,
    (textR b (numR b 2147483647 (numR b 255 a 0).2.1 (numR b 255 a 0).2.2).2.1 (numR b 2147483647 (numR b 255 a 0).2.1 (numR b 255 a 0).2.2).2.2))
def goD (b : Bytes) : Nat → Nat → List La → Nat × Nat × List La
 |0,a,acc=>(0,a,acc)
 |n + 1,a,acc =>
  if (entR b a).2.2.2.2 ≠ 0 then ((entR b a).2.2.2.2,(entR b a).2.2.2.1,acc)
  else if (decRes (entR b a).2.2.1).2 ≠ 0 then ((decRes (entR b a).2.2.1).2,(entR b a).2.2.2.1,acc)
  else goD b n (entR b a).2.2.2.1 (acc ++ [⟨(entR b a).1,(entR b a).2.1,(decRes (entR b a).2.2.1).1⟩])
def finD (b : Bytes) (r : Nat × Nat × List La) : List La × Int := if r.1 ≠ 0 then ([],r.1) else if r.2.1 < b.length then ([],7) else if (chkL r.2.2).1 ≠ 0 then ([],(chkL r.2.2).1) else (r.2.2,0)
def decB (b : Bytes) : List La × Int := if (numR b 256 0 0).2.2 ≠ 0 then ([],(numR b 256 0 0).2.2) else finD b (goD b (numR b 256 0 0).1 (numR b 256 0 0).2.1 [])
theorem numR_at {b : Bytes} {most a e : Nat} (h : a ≤ b.length) : (numR b most a e).2.1 ≤ b.length := by
 have := (cut_n (b.drop a)).2.1
 rw [List.length_drop] at this
 unfold numR
 split
 ·exact h
 ·split
  ·exact h
  ·split
   ·exact h
   ·dsimp only;omega
theorem textR_at {b : Bytes} {a e : Nat} (h : a ≤ b.length) : (textR b a e).2.1 ≤ b.length := by
 have := cutText_n (b.drop a)
 rw [List.length_drop] at this
 unfold textR
 split
 ·exact h
 ·split
  ·exact h
  ·dsimp only;omega
theorem cutText_le (l : Bytes) : (CutText l).1.length ≤ 255 := by
 unfold CutText
 by_cases h1 : (cut l).2.2 ≠ 0
 ·rw [if_pos h1];exact Nat.zero_le _
 ·rw [if_neg h1]
  by_cases h2 : 255 < (cut l).1
  ·rw [if_pos h2];exact Nat.zero_le _
  ·rw [if_neg h2]
   by_cases h3 : l.length < (cut l).2.1 + (cut l).1
   ·rw [if_pos h3];exact Nat.zero_le _
   ·rw [if_neg h3]
    show ((l.drop (cut l).2.1).take (cut l).1).length ≤ 255
    rw [List.length_take];omega
theorem textR_len (b : Bytes) (a e : Nat) : (textR b a e).1.length ≤ 255 := by
 unfold textR
 split
 ·exact Nat.zero_le _
 ·split
  ·exact Nat.zero_le _
  ·exact cutText_le _
theorem zag_in (u : Nat) (h : u < 18446744073709551616) : -9223372036854775808 ≤ zag u ∧ zag u < 9223372036854775808 := by
 unfold zag;split <;> omega
theorem cutV_in (l : Bytes) : -9223372036854775808 ≤ (cutV l).i ∧ (cutV l).i < 9223372036854775808 := by
 cases l with
 |nil=>simp [cutV]
 |cons t r =>
  have hz := zag_in _ (cut_lt r)
  by_cases t0 : t.toNat = 0
  ·simp [cutV,t0]
  by_cases t1 : t.toNat = 1
  ·cases r with
   |nil=>simp [cutV,t1]
   |cons b r' =>
    by_cases hb : 1 < b.toNat
    ·simp [cutV,t1,hb]
    ·simp [cutV,t1,hb];omega
  by_cases t2 : t.toNat = 2
  ·by_cases hr : (cut r).2.2 = 0
   ·simp [cutV,t2,hr];omega
   ·simp [cutV,t2,hr]
  by_cases t3 : t.toNat = 3
  ·by_cases hr : (CutText r).2.2 = 0
   ·by_cases h64 : 64 < (CutText r).1.length
    ·simp [cutV,t3,hr,h64]
    ·simp [cutV,t3,hr,h64]
   ·simp [cutV,t3,hr]
  ·simp [cutV,t0,t1,t2,t3]
theorem decRes_in (s : Bytes) : (decRes s).1.In := by
 cases s with
 |nil=>exact zero_in
 |cons t r =>
  unfold decRes
  dsimp only
  split
  ·exact zero_in
  ·split
   ·exact zero_in
   ·split
    ·exact zero_in
    ·split
     ·exact zero_in
     ·split
      ·exact zero_in
      ·exact cutV_in r
theorem read_s (m : Nat) (b : Bytes) (hb : b.length ≤ 34359738367) : varint_Read m (SL (bC b)) [] = some (OP 1 0,[rowO b,rdO b 0 0]) := by
 rw [varint_Read_eq]
 have d : decide (b.length ≤ 34359738368) = true := decide_eq_true (by omega)
 simp (config := {maxSteps := 4000000,implicitDefEqProofs := false}) (disch := omega) only [go_sem,↓reduceIte,Nat.reduceAdd,Nat.reduceSub,Nat.reduceMul,Nat.reduceLeDiff,Nat.reduceLT,Int.reduceEq,Int.reduceNe,Int.reduceLT,Int.reduceLE,Int.reduceAdd,Int.reduceSub,Int.reduceMul,Int.reduceNeg,Nat.zero_add,Nat.add_zero,Nat.mul_one,Int.toNat_natCast,Int.natCast_zero,Int.cast_ofNat_Int,or_false,false_or,or_true,true_or,Int.reduceToNat,Nat.sub_zero,Int.natCast_nonneg,Int.toNat_zero,Bool.true_and,Bool.and_true,Bool.false_and,Bool.and_false,Bool.true_or,Bool.or_true,Bool.false_or,Bool.or_false,Bool.not_true,Bool.not_false,Bool.not_not,true_and,and_true,false_and,and_false,not_true_eq_false,not_false_eq_true,eq_self,decide_true,decide_false,ne_eq,implies_true,forall_const,true_implies,false_implies,Bool.true_eq_false,Bool.false_eq_true,reduceCtorEq,List.map_cons,List.map_nil,List.all_cons,List.all_nil,List.length_cons,List.length_nil,List.length_map,List.length_append,List.nil_append,List.cons_append,List.set_cons_zero,List.set_cons_succ,List.set_nil,List.drop_zero,List.drop_succ_cons,List.drop_nil,List.take_zero,List.take_succ_cons,List.take_nil,Option.map_some,Option.map_none,Option.isSome_some,Nat.reduceEqDiff,Nat.reduceBEq,Nat.reduceGT,List.all_append,List.all_map,Function.comp_def,decide_eq_true_eq,Bool.and_eq_true,beq_self_eq_true,or_self,and_self,ite_true,ite_false,Nat.le_refl,Bool.not_eq_true,decide_not,Bool.not_eq_true',decide_eq_false_iff_not,Bool.not_eq_false,Bool.or_eq_true,if_true,if_false,ite_self,u_roF,u_cvF,u_cvC,u_ceT,u_ceK,u_appS,la_it,la_len,la_sure,la_ltA,la_lt1,la_all1,la_ro,la_take,la_cl,la_tm,la_r,la_sl,rc_len,rc_sure,rc_ltA,rc_lt1,rc_all1,rc_ro,rc_take,rc_sl,la_set,rc_set,zcL_eq,zcR_eq,la_allA,la_len7,all_tt,natInt,u_nthM,bC_one,bC_len,bC_ltA,d]
 rw [bC_one',whenE_t]
 rfl
abbrev outO (acc : List La) : AObj := ⟨2,ty_api_Last,7,acc.map laE⟩
theorem la_b2 {R : Type} {c t : Int} {K1 : AV → Option R} : buildE (some pl_api_Last) (some (laC La.zero)) [(0,nA c),(1,nA t)] K1 = K1 (.agg (laC ⟨c,t,Rs.zero⟩)) := _root_.id rfl
theorem la_put {c t : Int} {z r : Rs} : setCells (laC ⟨c,t,z⟩) 2 (rC r) = laC ⟨c,t,r⟩ := _root_.id rfl
theorem dec_r1 (m : Nat) (b : Bytes) (a e : Nat) (acc : List La) (hm : acc.length < m) (hl : acc.length ≤ 34359738367) (h : ∀ x ∈ acc,x.r.In) :
  replies_Decode_r1 m ⟨[rowO b,rdO b a e,outO acc],[(4,OP 1 0),(5,OW 2 acc.length)]⟩ = some (TU [lL (finD b (e,a,acc)).1,nA (finD b (e,a,acc)).2],[]) := by
 rw [replies_Decode_r1_eq]
 have hE := rend1_s m b a e acc
 have hC := check_s m acc hm hl h
 rw [lL_def] at hC
 unfold finD
 unfold endR at hE
 have hll : (acc.map laE).length = acc.length := List.length_map ..
 by_cases he : e = 0
 ·subst he
  rw [if_neg (show ¬ (0 : Nat) ≠ 0 by simp)] at hE
  rw [if_neg (show ¬ (0 : Nat) ≠ 0 by simp)]
  dsimp only
  by_cases h1 : a < b.length
  ·rw [if_pos h1] at hE
   rw [if_pos h1,lL_def]
   simp (config := {maxSteps := 4000000,implicitDefEqProofs := false}) (disch := omega) only [go_sem,↓reduceIte,Nat.reduceAdd,Nat.reduceSub,Nat.reduceMul,Nat.reduceLeDiff,Nat.reduceLT,Int.reduceEq,Int.reduceNe,Int.reduceLT,Int.reduceLE,Int.reduceAdd,Int.reduceSub,Int.reduceMul,Int.reduceNeg,Nat.zero_add,Nat.add_zero,Nat.mul_one,Int.toNat_natCast,Int.natCast_zero,Int.cast_ofNat_Int,or_false,false_or,or_true,true_or,Int.reduceToNat,Nat.sub_zero,Int.natCast_nonneg,Int.toNat_zero,Bool.true_and,Bool.and_true,Bool.false_and,Bool.and_false,Bool.true_or,Bool.or_true,Bool.false_or,Bool.or_false,Bool.not_true,Bool.not_false,Bool.not_not,true_and,and_true,false_and,and_false,not_true_eq_false,not_false_eq_true,eq_self,decide_true,decide_false,ne_eq,implies_true,forall_const,true_implies,false_implies,Bool.true_eq_false,Bool.false_eq_true,reduceCtorEq,List.map_cons,List.map_nil,List.all_cons,List.all_nil,List.length_cons,List.length_nil,List.length_map,List.length_append,List.nil_append,List.cons_append,List.set_cons_zero,List.set_cons_succ,List.set_nil,List.drop_zero,List.drop_succ_cons,List.drop_nil,List.take_zero,List.take_succ_cons,List.take_nil,Option.map_some,Option.map_none,Option.isSome_some,Nat.reduceEqDiff,Nat.reduceBEq,Nat.reduceGT,List.all_append,List.all_map,Function.comp_def,decide_eq_true_eq,Bool.and_eq_true,beq_self_eq_true,or_self,and_self,ite_true,ite_false,Nat.le_refl,Bool.not_eq_true,decide_not,Bool.not_eq_true',decide_eq_false_iff_not,Bool.not_eq_false,Bool.or_eq_true,if_true,if_false,ite_self,u_roF,u_cvF,u_cvC,u_ceT,u_ceK,u_appS,la_it,la_len,la_sure,la_ltA,la_lt1,la_all1,la_ro,la_take,la_cl,la_tm,la_r,la_sl,rc_len,rc_sure,rc_ltA,rc_lt1,rc_all1,rc_ro,rc_take,rc_sl,la_set,rc_set,zcL_eq,zcR_eq,la_allA,la_len7,all_tt,natInt,u_nthM,hE,bC_ltA]
   try rfl
  ·rw [if_neg h1] at hE
   rw [if_neg h1]
   by_cases h2 : (chkL acc).1 = 0
   ·rw [if_neg (show ¬ (chkL acc).1 ≠ 0 from fun q=>q h2),lL_def]
    rw [h2] at hC
    simp (config := {maxSteps := 4000000,implicitDefEqProofs := false}) (disch := omega) only [go_sem,↓reduceIte,Nat.reduceAdd,Nat.reduceSub,Nat.reduceMul,Nat.reduceLeDiff,Nat.reduceLT,Int.reduceEq,Int.reduceNe,Int.reduceLT,Int.reduceLE,Int.reduceAdd,Int.reduceSub,Int.reduceMul,Int.reduceNeg,Nat.zero_add,Nat.add_zero,Nat.mul_one,Int.toNat_natCast,Int.natCast_zero,Int.cast_ofNat_Int,or_false,false_or,or_true,true_or,Int.reduceToNat,Nat.sub_zero,Int.natCast_nonneg,Int.toNat_zero,Bool.true_and,Bool.and_true,Bool.false_and,Bool.and_false,Bool.true_or,Bool.or_true,Bool.false_or,Bool.or_false,Bool.not_true,Bool.not_false,Bool.not_not,true_and,and_true,false_and,and_false,not_true_eq_false,not_false_eq_true,eq_self,decide_true,decide_false,ne_eq,implies_true,forall_const,true_implies,false_implies,Bool.true_eq_false,Bool.false_eq_true,reduceCtorEq,List.map_cons,List.map_nil,List.all_cons,List.all_nil,List.length_cons,List.length_nil,List.length_map,List.length_append,List.nil_append,List.cons_append,List.set_cons_zero,List.set_cons_succ,List.set_nil,List.drop_zero,List.drop_succ_cons,List.drop_nil,List.take_zero,List.take_succ_cons,List.take_nil,Option.map_some,Option.map_none,Option.isSome_some,Nat.reduceEqDiff,Nat.reduceBEq,Nat.reduceGT,List.all_append,List.all_map,Function.comp_def,decide_eq_true_eq,Bool.and_eq_true,beq_self_eq_true,or_self,and_self,ite_true,ite_false,Nat.le_refl,Bool.not_eq_true,decide_not,Bool.not_eq_true',decide_eq_false_iff_not,Bool.not_eq_false,Bool.or_eq_true,if_true,if_false,ite_self,u_roF,u_cvF,u_cvC,u_ceT,u_ceK,u_appS,la_it,la_len,la_sure,la_ltA,la_lt1,la_all1,la_ro,la_take,la_cl,la_tm,la_r,la_sl,rc_len,rc_sure,rc_ltA,rc_lt1,rc_all1,rc_ro,rc_take,rc_sl,la_set,rc_set,zcL_eq,zcR_eq,la_allA,la_len7,all_tt,natInt,u_nthM,hE,hC,bC_ltA,hll]
    try rfl
   ·rw [if_pos h2,lL_def]
    generalize chkL acc = c at *
    simp (config := {maxSteps := 4000000,implicitDefEqProofs := false}) (disch := omega) only [go_sem,↓reduceIte,Nat.reduceAdd,Nat.reduceSub,Nat.reduceMul,Nat.reduceLeDiff,Nat.reduceLT,Int.reduceEq,Int.reduceNe,Int.reduceLT,Int.reduceLE,Int.reduceAdd,Int.reduceSub,Int.reduceMul,Int.reduceNeg,Nat.zero_add,Nat.add_zero,Nat.mul_one,Int.toNat_natCast,Int.natCast_zero,Int.cast_ofNat_Int,or_false,false_or,or_true,true_or,Int.reduceToNat,Nat.sub_zero,Int.natCast_nonneg,Int.toNat_zero,Bool.true_and,Bool.and_true,Bool.false_and,Bool.and_false,Bool.true_or,Bool.or_true,Bool.false_or,Bool.or_false,Bool.not_true,Bool.not_false,Bool.not_not,true_and,and_true,false_and,and_false,not_true_eq_false,not_false_eq_true,eq_self,decide_true,decide_false,ne_eq,implies_true,forall_const,true_implies,false_implies,Bool.true_eq_false,Bool.false_eq_true,reduceCtorEq,List.map_cons,List.map_nil,List.all_cons,List.all_nil,List.length_cons,List.length_nil,List.length_map,List.length_append,List.nil_append,List.cons_append,List.set_cons_zero,List.set_cons_succ,List.set_nil,List.drop_zero,List.drop_succ_cons,List.drop_nil,List.take_zero,List.take_succ_cons,List.take_nil,Option.map_some,Option.map_none,Option.isSome_some,Nat.reduceEqDiff,Nat.reduceBEq,Nat.reduceGT,List.all_append,List.all_map,Function.comp_def,decide_eq_true_eq,Bool.and_eq_true,beq_self_eq_true,or_self,and_self,ite_true,ite_false,Nat.le_refl,Bool.not_eq_true,decide_not,Bool.not_eq_true',decide_eq_false_iff_not,Bool.not_eq_false,Bool.or_eq_true,if_true,if_false,ite_self,u_roF,u_cvF,u_cvC,u_ceT,u_ceK,u_appS,la_it,la_len,la_sure,la_ltA,la_lt1,la_all1,la_ro,la_take,la_cl,la_tm,la_r,la_sl,rc_len,rc_sure,rc_ltA,rc_lt1,rc_all1,rc_ro,rc_take,rc_sl,la_set,rc_set,zcL_eq,zcR_eq,la_allA,la_len7,all_tt,natInt,u_nthM,hE,hC,h2,bC_ltA,hll]
    try rfl
 ·rw [if_pos he] at hE
  rw [if_pos he,lL_def]
  have he' : ¬ (e : Int) = 0 := by omega
  simp (config := {maxSteps := 4000000,implicitDefEqProofs := false}) (disch := omega) only [go_sem,↓reduceIte,Nat.reduceAdd,Nat.reduceSub,Nat.reduceMul,Nat.reduceLeDiff,Nat.reduceLT,Int.reduceEq,Int.reduceNe,Int.reduceLT,Int.reduceLE,Int.reduceAdd,Int.reduceSub,Int.reduceMul,Int.reduceNeg,Nat.zero_add,Nat.add_zero,Nat.mul_one,Int.toNat_natCast,Int.natCast_zero,Int.cast_ofNat_Int,or_false,false_or,or_true,true_or,Int.reduceToNat,Nat.sub_zero,Int.natCast_nonneg,Int.toNat_zero,Bool.true_and,Bool.and_true,Bool.false_and,Bool.and_false,Bool.true_or,Bool.or_true,Bool.false_or,Bool.or_false,Bool.not_true,Bool.not_false,Bool.not_not,true_and,and_true,false_and,and_false,not_true_eq_false,not_false_eq_true,eq_self,decide_true,decide_false,ne_eq,implies_true,forall_const,true_implies,false_implies,Bool.true_eq_false,Bool.false_eq_true,reduceCtorEq,List.map_cons,List.map_nil,List.all_cons,List.all_nil,List.length_cons,List.length_nil,List.length_map,List.length_append,List.nil_append,List.cons_append,List.set_cons_zero,List.set_cons_succ,List.set_nil,List.drop_zero,List.drop_succ_cons,List.drop_nil,List.take_zero,List.take_succ_cons,List.take_nil,Option.map_some,Option.map_none,Option.isSome_some,Nat.reduceEqDiff,Nat.reduceBEq,Nat.reduceGT,List.all_append,List.all_map,Function.comp_def,decide_eq_true_eq,Bool.and_eq_true,beq_self_eq_true,or_self,and_self,ite_true,ite_false,Nat.le_refl,Bool.not_eq_true,decide_not,Bool.not_eq_true',decide_eq_false_iff_not,Bool.not_eq_false,Bool.or_eq_true,if_true,if_false,ite_self,u_roF,u_cvF,u_cvC,u_ceT,u_ceK,u_appS,la_it,la_len,la_sure,la_ltA,la_lt1,la_all1,la_ro,la_take,la_cl,la_tm,la_r,la_sl,rc_len,rc_sure,rc_ltA,rc_lt1,rc_all1,rc_ro,rc_take,rc_sl,la_set,rc_set,zcL_eq,zcR_eq,la_allA,la_len7,all_tt,natInt,u_nthM,hE,he',bC_ltA]
  try rfl
end Go.Proofs.Ytchncgdjefbmfaa

namespace Go.Proofs.Ytchncgdjefbmfaa
open Go.RowKit
theorem goD_facts (b : Bytes) : ∀ (n a : Nat) (acc : List La),a ≤ b.length → (∀ x ∈ acc,x.r.In) → (goD b n a acc).2.1 ≤ b.length ∧ (goD b n a acc).2.2.length ≤ acc.length + n ∧ ∀ x ∈ (goD b n a acc).2.2,x.r.In
 |0,a,acc,ha,h=>⟨ha,Nat.le_refl _,h⟩
 |n + 1,a,acc,ha,h=>by
  have e1 : (entR b a).2.2.2.1 ≤ b.length := textR_at (numR_at (numR_at ha))
  unfold goD
  split
  ·exact ⟨e1,by dsimp only;omega,h⟩
  ·split
   ·exact ⟨e1,by dsimp only;omega,h⟩
   ·obtain ⟨q1,q2,q3⟩ := goD_facts b n (entR b a).2.2.2.1 (acc ++ [⟨(entR b a).1,(entR b a).2.1,(decRes (entR b a).2.2.1).1⟩]) e1 (by
     intro x hx
     rcases List.mem_append.1 hx with hx|hx
     ·exact h x hx
     ·rw [List.mem_singleton] at hx;subst hx;exact decRes_in _)
    refine ⟨q1,?_,q3⟩
    simp only [List.length_append,List.length_cons,List.length_nil] at q2
    omega
theorem dec_loop (m : Nat) (b : Bytes) (n a : Nat) (hm : n < m) (hm2 : 300 < m) (hn : n ≤ 256) (ha : a ≤ b.length) (hb : b.length ≤ 34359738367) (kxr : KO (AV × List AObj))
  (hk0 : ∀ a acc,acc.length ≤ 256 → (∀ x ∈ acc,x.r.In) → kxr (.exit 0) ⟨[rowO b,rdO b a 0,outO acc],[(2, .nil),(3, .nil),(4,OP 1 0),(5,OW 2 acc.length)]⟩ = some (TU [lL (finD b (0,a,acc)).1,nA (finD b (0,a,acc)).2],[]))
  (hkr : ∀ (e a : Nat) acc (x : List AObj),kxr .ret ⟨[rowO b,rdO b a e,outO acc] ++ x,[(2,V (.slice none 0 0)),(3,nA e),(4,OP 1 0),(5,OW 2 acc.length)]⟩ = some (TU [lL [],nA e],[])) 
  (hkr2 : ∀ (e e0 a : Nat) acc (x : List AObj),kxr .ret ⟨[rowO b,rdO b a e0,outO acc] ++ x,[(2,V (.slice none 0 0)),(3,nA e),(4,OP 1 0),(5,OW 2 acc.length)]⟩ = some (TU [lL [],nA e],[])) :
  iterC m (replies_Decode_b1 m) ⟨[rowO b,rdO b a 0,outO []],[(4,OP 1 0),(5,OW 2 0),(6,V (.int .u64 n))]⟩ kxr = some (TU [lL (finD b (goD b n a [])).1,nA (finD b (goD b n a [])).2],[]) := by
 refine iter_go (ι := {q : Nat × Nat × List La // q.2.1 ≤ b.length ∧ q.1 + q.2.2.length ≤ 256 ∧ (∀ x ∈ q.2.2,x.r.In) ∧ goD b q.1 q.2.1 q.2.2 = goD b n a []}) (fun q=>⟨[rowO b,rdO b q.1.2.1 0,outO q.1.2.2],[(4,OP 1 0),(5,OW 2 q.1.2.2.length),(6,V (.int .u64 q.1.1))]⟩) (fun q=>q.1.1) (fun _=>some (TU [lL (finD b (goD b n a [])).1,nA (finD b (goD b n a [])).2],[])) ?_ ⟨(n,a,[]),ha,by simpa using hn,by simp,rfl⟩ hm
 rintro kx hkx ⟨⟨n',a',acc⟩,h1,h2,h3,h4⟩ kc hkc
 dsimp only at h1 h2 h3 h4 hkc ⊢
 rw [replies_Decode_b1_eq]
 cases n' with
 |zero =>
  rw [← h4]
  have hk := hk0 a' acc (by omega) h3
  unfold goD
  simp (config := {maxSteps := 4000000,implicitDefEqProofs := false}) (disch := omega) only [go_sem,↓reduceIte,Nat.reduceAdd,Nat.reduceSub,Nat.reduceMul,Nat.reduceLeDiff,Nat.reduceLT,Int.reduceEq,Int.reduceNe,Int.reduceLT,Int.reduceLE,Int.reduceAdd,Int.reduceSub,Int.reduceMul,Int.reduceNeg,Nat.zero_add,Nat.add_zero,Nat.mul_one,Int.toNat_natCast,Int.natCast_zero,Int.cast_ofNat_Int,or_false,false_or,or_true,true_or,Int.reduceToNat,Nat.sub_zero,Int.natCast_nonneg,Int.toNat_zero,Bool.true_and,Bool.and_true,Bool.false_and,Bool.and_false,Bool.true_or,Bool.or_true,Bool.false_or,Bool.or_false,Bool.not_true,Bool.not_false,Bool.not_not,true_and,and_true,false_and,and_false,not_true_eq_false,not_false_eq_true,eq_self,decide_true,decide_false,ne_eq,implies_true,forall_const,true_implies,false_implies,Bool.true_eq_false,Bool.false_eq_true,reduceCtorEq,List.map_cons,List.map_nil,List.all_cons,List.all_nil,List.length_cons,List.length_nil,List.length_map,List.length_append,List.nil_append,List.cons_append,List.set_cons_zero,List.set_cons_succ,List.set_nil,List.drop_zero,List.drop_succ_cons,List.drop_nil,List.take_zero,List.take_succ_cons,List.take_nil,Option.map_some,Option.map_none,Option.isSome_some,Nat.reduceEqDiff,Nat.reduceBEq,Nat.reduceGT,List.all_append,List.all_map,Function.comp_def,decide_eq_true_eq,Bool.and_eq_true,beq_self_eq_true,or_self,and_self,ite_true,ite_false,Nat.le_refl,Bool.not_eq_true,decide_not,Bool.not_eq_true',decide_eq_false_iff_not,Bool.not_eq_false,Bool.or_eq_true,if_true,if_false,ite_self,u_roF,u_cvF,u_cvC,u_ceT,u_ceK,u_appS,la_it,la_len,la_sure,la_ltA,la_lt1,la_all1,la_ro,la_take,la_cl,la_tm,la_r,la_sl,rc_len,rc_sure,rc_ltA,rc_lt1,rc_all1,rc_ro,rc_take,rc_sl,la_set,rc_set,zcL_eq,zcR_eq,la_allA,la_len7,all_tt,natInt,u_nthM,hkx,hk]
 |succ n' =>
  rw [goD] at h4
  have hp : (0 : Int) < ((n' + 1 : Nat) : Int) := by omega
  have hN1 := rnum1_s m b 255 a' 0 255 rfl acc (by omega) h1
  have hv1 := numR_le b 255 a' 0
  have ha1 := numR_at (most := 255) (e := 0) h1
  have hN2 := rnum1_s m b 2147483647 (numR b 255 a' 0).2.1 (numR b 255 a' 0).2.2 2147483647 rfl acc (by omega) ha1
  have hv2 := numR_le b 2147483647 (numR b 255 a' 0).2.1 (numR b 255 a' 0).2.2
  have ha2 := numR_at (most := 2147483647) (e := (numR b 255 a' 0).2.2) ha1
  have hT := fun x=>rtext2_s m b (numR b 2147483647 (numR b 255 a' 0).2.1 (numR b 255 a' 0).2.2).2.1 (numR b 2147483647 (numR b 255 a' 0).2.1 (numR b 255 a' 0).2.2).2.2 acc x (by omega) ha2
  have ha3 := textR_at (e := (numR b 2147483647 (numR b 255 a' 0).2.1 (numR b 255 a' 0).2.2).2.2) ha2
  have htl := textR_len b (numR b 2147483647 (numR b 255 a' 0).2.1 (numR b 255 a' 0).2.2).2.1 (numR b 2147483647 (numR b 255 a' 0).2.1 (numR b 255 a' 0).2.2).2.2
  have hE := fun x=>rerr2_s m b (textR b (numR b 2147483647 (numR b 255 a' 0).2.1 (numR b 255 a' 0).2.2).2.1 (numR b 2147483647 (numR b 255 a' 0).2.1 (numR b 255 a' 0).2.2).2.2).2.1 (textR b (numR b 2147483647 (numR b 255 a' 0).2.1 (numR b 255 a' 0).2.2).2.1 (numR b 2147483647 (numR b 255 a' 0).2.1 (numR b 255 a' 0).2.2).2.2).2.2 acc x
  unfold entR at h4
  dsimp only at h4
  generalize numR b 255 a' 0 = q1 at *
  obtain ⟨v1,b1,e1⟩ := q1
  dsimp only at *
  generalize numR b 2147483647 b1 e1 = q2 at *
  obtain ⟨v2,b2,e2⟩ := q2
  dsimp only at *
  generalize textR b b2 e2 = q3 at *
  obtain ⟨s,b3,e3⟩ := q3
  dsimp only at *
  have hw1 : IntKind.i64.wrap (v1 : Int) = (v1 : Int) := w_i64 (by omega) (by omega)
  have hw2 : IntKind.i64.wrap (v2 : Int) = (v2 : Int) := w_i64 (by omega) (by omega)
  have hN1 : varint_Reader_Num m (OP 1 0) (V (.int .u64 255)) [rowO b,rdO b a' 0,outO acc] = _ := hN1
  have hN2 : varint_Reader_Num m (OP 1 0) (V (.int .u64 2147483647)) [rowO b,rdO b b1 e1,outO acc] = _ := hN2
  by_cases he : e3 = 0
  ·subst he
   rw [if_neg (show ¬ (0 : Nat) ≠ 0 by simp)] at h4
   have hD := txn_DecodeResult_e m s (by omega)
   have hst : ∀ K1 : AV → Option (AV × List AObj),convE false none true false true (V (.string ⟨s.toArray⟩)) K1 = K1 (SL (bC s)) := fun K1=>by
    have hz : (⟨s.toArray⟩ : ByteArray).size = s.length := by simp [ByteArray.size]
    rw [u_tconv,hz,decide_eq_true (show s.length ≤ 34359738368 by omega),whenE_t,strA_of]
   rw [rA_def] at hD
   have hdin := decRes_in s
   have hsz : decide (s.length ≤ 34359738368) = true := decide_eq_true (by omega)
   generalize decRes s = d at *
   obtain ⟨r,de⟩ := d
   dsimp only at hD h4 hdin
   by_cases hd : de = 0
   ·subst hd
    rw [if_neg (show ¬ (0 : Nat) ≠ 0 by simp)] at h4
    have step := hkc ⟨(n',b3,acc ++ [⟨v1,v2,r⟩]),ha3,by simp;omega,(by
     intro x hx
     rcases List.mem_append.1 hx with hx|hx
     ·exact h3 x hx
     ·rw [List.mem_singleton] at hx;subst hx;exact hdin),h4⟩ (by dsimp only;omega)
    dsimp only at step
    unfold outO at step
    rw [List.map_append,List.length_append] at step
    have hw3 : IntKind.u64.wrap (((n' + 1 : Nat) : Int) - 1) = (n' : Int) := by rw [w_u64 (by omega) (by omega)];omega
    have hl : acc.length ≤ 34359738367 := by omega
    simp (config := {maxSteps := 4000000,implicitDefEqProofs := false}) (disch := omega) only [go_sem,↓reduceIte,Nat.reduceAdd,Nat.reduceSub,Nat.reduceMul,Nat.reduceLeDiff,Nat.reduceLT,Int.reduceEq,Int.reduceNe,Int.reduceLT,Int.reduceLE,Int.reduceAdd,Int.reduceSub,Int.reduceMul,Int.reduceNeg,Nat.zero_add,Nat.add_zero,Nat.mul_one,Int.toNat_natCast,Int.natCast_zero,Int.cast_ofNat_Int,or_false,false_or,or_true,true_or,Int.reduceToNat,Nat.sub_zero,Int.natCast_nonneg,Int.toNat_zero,Bool.true_and,Bool.and_true,Bool.false_and,Bool.and_false,Bool.true_or,Bool.or_true,Bool.false_or,Bool.or_false,Bool.not_true,Bool.not_false,Bool.not_not,true_and,and_true,false_and,and_false,not_true_eq_false,not_false_eq_true,eq_self,decide_true,decide_false,ne_eq,implies_true,forall_const,true_implies,false_implies,Bool.true_eq_false,Bool.false_eq_true,reduceCtorEq,List.map_cons,List.map_nil,List.all_cons,List.all_nil,List.length_cons,List.length_nil,List.length_map,List.length_append,List.nil_append,List.cons_append,List.set_cons_zero,List.set_cons_succ,List.set_nil,List.drop_zero,List.drop_succ_cons,List.drop_nil,List.take_zero,List.take_succ_cons,List.take_nil,Option.map_some,Option.map_none,Option.isSome_some,Nat.reduceEqDiff,Nat.reduceBEq,Nat.reduceGT,List.all_append,List.all_map,Function.comp_def,decide_eq_true_eq,Bool.and_eq_true,beq_self_eq_true,or_self,and_self,ite_true,ite_false,Nat.le_refl,Bool.not_eq_true,decide_not,Bool.not_eq_true',decide_eq_false_iff_not,Bool.not_eq_false,Bool.or_eq_true,if_true,if_false,ite_self,u_roF,u_cvF,u_cvC,u_ceT,u_ceK,u_appS,la_it,la_len,la_sure,la_ltA,la_lt1,la_all1,la_ro,la_take,la_cl,la_tm,la_r,la_sl,rc_len,rc_sure,rc_ltA,rc_lt1,rc_all1,rc_ro,rc_take,rc_sl,la_set,rc_set,zcL_eq,zcR_eq,la_allA,la_len7,all_tt,natInt,u_nthM,hp,hN1,hN2,hw1,hw2,hT,hE,la_b2,hst,hsz,hD,la_put,hw3,hl,bC_ltA]
    exact step
   ·rw [if_pos hd] at h4
    have hd' : ¬ (de : Int) = 0 := by omega
    rw [← h4]
    have hk := hkr2 de 0 b3 acc [⟨1,ty_api_Last,0,laC ⟨v1,v2,r⟩⟩]
    unfold finD
    rw [if_pos hd]
    simp (config := {maxSteps := 4000000,implicitDefEqProofs := false}) (disch := omega) only [go_sem,↓reduceIte,Nat.reduceAdd,Nat.reduceSub,Nat.reduceMul,Nat.reduceLeDiff,Nat.reduceLT,Int.reduceEq,Int.reduceNe,Int.reduceLT,Int.reduceLE,Int.reduceAdd,Int.reduceSub,Int.reduceMul,Int.reduceNeg,Nat.zero_add,Nat.add_zero,Nat.mul_one,Int.toNat_natCast,Int.natCast_zero,Int.cast_ofNat_Int,or_false,false_or,or_true,true_or,Int.reduceToNat,Nat.sub_zero,Int.natCast_nonneg,Int.toNat_zero,Bool.true_and,Bool.and_true,Bool.false_and,Bool.and_false,Bool.true_or,Bool.or_true,Bool.false_or,Bool.or_false,Bool.not_true,Bool.not_false,Bool.not_not,true_and,and_true,false_and,and_false,not_true_eq_false,not_false_eq_true,eq_self,decide_true,decide_false,ne_eq,implies_true,forall_const,true_implies,false_implies,Bool.true_eq_false,Bool.false_eq_true,reduceCtorEq,List.map_cons,List.map_nil,List.all_cons,List.all_nil,List.length_cons,List.length_nil,List.length_map,List.length_append,List.nil_append,List.cons_append,List.set_cons_zero,List.set_cons_succ,List.set_nil,List.drop_zero,List.drop_succ_cons,List.drop_nil,List.take_zero,List.take_succ_cons,List.take_nil,Option.map_some,Option.map_none,Option.isSome_some,Nat.reduceEqDiff,Nat.reduceBEq,Nat.reduceGT,List.all_append,List.all_map,Function.comp_def,decide_eq_true_eq,Bool.and_eq_true,beq_self_eq_true,or_self,and_self,ite_true,ite_false,Nat.le_refl,Bool.not_eq_true,decide_not,Bool.not_eq_true',decide_eq_false_iff_not,Bool.not_eq_false,Bool.or_eq_true,if_true,if_false,ite_self,u_roF,u_cvF,u_cvC,u_ceT,u_ceK,u_appS,la_it,la_len,la_sure,la_ltA,la_lt1,la_all1,la_ro,la_take,la_cl,la_tm,la_r,la_sl,rc_len,rc_sure,rc_ltA,rc_lt1,rc_all1,rc_ro,rc_take,rc_sl,la_set,rc_set,zcL_eq,zcR_eq,la_allA,la_len7,all_tt,natInt,u_nthM,hp,hN1,hN2,hw1,hw2,hT,hE,la_b2,hst,hsz,hD,hd',la_put,hkx]
    exact hk
  ·rw [if_pos he] at h4
   have he' : ¬ (e3 : Int) = 0 := by omega
   rw [← h4]
   have hk := hkr e3 b3 acc
   unfold finD
   rw [if_pos he]
   simp (config := {maxSteps := 4000000,implicitDefEqProofs := false}) (disch := omega) only [go_sem,↓reduceIte,Nat.reduceAdd,Nat.reduceSub,Nat.reduceMul,Nat.reduceLeDiff,Nat.reduceLT,Int.reduceEq,Int.reduceNe,Int.reduceLT,Int.reduceLE,Int.reduceAdd,Int.reduceSub,Int.reduceMul,Int.reduceNeg,Nat.zero_add,Nat.add_zero,Nat.mul_one,Int.toNat_natCast,Int.natCast_zero,Int.cast_ofNat_Int,or_false,false_or,or_true,true_or,Int.reduceToNat,Nat.sub_zero,Int.natCast_nonneg,Int.toNat_zero,Bool.true_and,Bool.and_true,Bool.false_and,Bool.and_false,Bool.true_or,Bool.or_true,Bool.false_or,Bool.or_false,Bool.not_true,Bool.not_false,Bool.not_not,true_and,and_true,false_and,and_false,not_true_eq_false,not_false_eq_true,eq_self,decide_true,decide_false,ne_eq,implies_true,forall_const,true_implies,false_implies,Bool.true_eq_false,Bool.false_eq_true,reduceCtorEq,List.map_cons,List.map_nil,List.all_cons,List.all_nil,List.length_cons,List.length_nil,List.length_map,List.length_append,List.nil_append,List.cons_append,List.set_cons_zero,List.set_cons_succ,List.set_nil,List.drop_zero,List.drop_succ_cons,List.drop_nil,List.take_zero,List.take_succ_cons,List.take_nil,Option.map_some,Option.map_none,Option.isSome_some,Nat.reduceEqDiff,Nat.reduceBEq,Nat.reduceGT,List.all_append,List.all_map,Function.comp_def,decide_eq_true_eq,Bool.and_eq_true,beq_self_eq_true,or_self,and_self,ite_true,ite_false,Nat.le_refl,Bool.not_eq_true,decide_not,Bool.not_eq_true',decide_eq_false_iff_not,Bool.not_eq_false,Bool.or_eq_true,if_true,if_false,ite_self,u_roF,u_cvF,u_cvC,u_ceT,u_ceK,u_appS,la_it,la_len,la_sure,la_ltA,la_lt1,la_all1,la_ro,la_take,la_cl,la_tm,la_r,la_sl,rc_len,rc_sure,rc_ltA,rc_lt1,rc_all1,rc_ro,rc_take,rc_sl,la_set,rc_set,zcL_eq,zcR_eq,la_allA,la_len7,all_tt,natInt,u_nthM,hp,hN1,hN2,hw1,hw2,hT,hE,he',la_b2,hkx,hk]
   exact hk [⟨1,ty_api_Last,0,laC ⟨v1,v2,Rs.zero⟩⟩]
theorem decode_s (m : Nat) (b : Bytes) (hm : 400 < m) (hb : b.length ≤ 34359738367) : replies_Decode m (SL (bC b)) = some (TU [lL (decB b).1,nA (decB b).2],[]) := by
 rw [replies_Decode_eq]
 have hR := read_s m b hb
 have hN := rnum0_s m b 256 0 0 256 rfl (by omega) (Nat.zero_le _)
 have hN : varint_Reader_Num m (OP 1 0) (V (.int .u64 256)) [rowO b,rdO b 0 0] = _ := hN
 have hv := numR_le b 256 0 0
 have ha := numR_at (b := b) (most := 256) (a := 0) (e := 0) (Nat.zero_le _)
 have hzero : (numR b 256 0 0).2.2 ≠ 0 → (numR b 256 0 0).1 = 0 := by
  unfold numR
  rw [if_neg (show ¬ (0 : Nat) ≠ 0 by simp)]
  intro h
  split
  ·rfl
  ·split
   ·rfl
   ·rename_i q1 q2
    rw [if_neg q1,if_neg q2] at h
    exact absurd rfl h
 unfold decB
 generalize numR b 256 0 0 = q at *
 obtain ⟨n,a,e⟩ := q
 dsimp only at hN hv ha hzero ⊢
 by_cases he : e = 0
 ·subst he
  rw [if_neg (show ¬ (0 : Nat) ≠ 0 by simp)]
  simp (config := {maxSteps := 4000000,implicitDefEqProofs := false}) (disch := omega) only [go_sem,↓reduceIte,Nat.reduceAdd,Nat.reduceSub,Nat.reduceMul,Nat.reduceLeDiff,Nat.reduceLT,Int.reduceEq,Int.reduceNe,Int.reduceLT,Int.reduceLE,Int.reduceAdd,Int.reduceSub,Int.reduceMul,Int.reduceNeg,Nat.zero_add,Nat.add_zero,Nat.mul_one,Int.toNat_natCast,Int.natCast_zero,Int.cast_ofNat_Int,or_false,false_or,or_true,true_or,Int.reduceToNat,Nat.sub_zero,Int.natCast_nonneg,Int.toNat_zero,Bool.true_and,Bool.and_true,Bool.false_and,Bool.and_false,Bool.true_or,Bool.or_true,Bool.false_or,Bool.or_false,Bool.not_true,Bool.not_false,Bool.not_not,true_and,and_true,false_and,and_false,not_true_eq_false,not_false_eq_true,eq_self,decide_true,decide_false,ne_eq,implies_true,forall_const,true_implies,false_implies,Bool.true_eq_false,Bool.false_eq_true,reduceCtorEq,List.map_cons,List.map_nil,List.all_cons,List.all_nil,List.length_cons,List.length_nil,List.length_map,List.length_append,List.nil_append,List.cons_append,List.set_cons_zero,List.set_cons_succ,List.set_nil,List.drop_zero,List.drop_succ_cons,List.drop_nil,List.take_zero,List.take_succ_cons,List.take_nil,Option.map_some,Option.map_none,Option.isSome_some,Nat.reduceEqDiff,Nat.reduceBEq,Nat.reduceGT,List.all_append,List.all_map,Function.comp_def,decide_eq_true_eq,Bool.and_eq_true,beq_self_eq_true,or_self,and_self,ite_true,ite_false,Nat.le_refl,Bool.not_eq_true,decide_not,Bool.not_eq_true',decide_eq_false_iff_not,Bool.not_eq_false,Bool.or_eq_true,if_true,if_false,ite_self,u_roF,u_cvF,u_cvC,u_ceT,u_ceK,u_appS,la_it,la_len,la_sure,la_ltA,la_lt1,la_all1,la_ro,la_take,la_cl,la_tm,la_r,la_sl,rc_len,rc_sure,rc_ltA,rc_lt1,rc_all1,rc_ro,rc_take,rc_sl,la_set,rc_set,zcL_eq,zcR_eq,la_allA,la_len7,all_tt,natInt,u_nthM,hR,hN,bC_ltA]
  refine dec_loop m b n a (by omega) (by omega) hv ha hb _ ?_ ?_ ?_
  ·intro a acc hl h
   have hr1 := dec_r1 m b a 0 acc (by omega) (by omega) h
   simp (config := {maxSteps := 4000000,implicitDefEqProofs := false}) (disch := omega) only [go_sem,↓reduceIte,Nat.reduceAdd,Nat.reduceSub,Nat.reduceMul,Nat.reduceLeDiff,Nat.reduceLT,Int.reduceEq,Int.reduceNe,Int.reduceLT,Int.reduceLE,Int.reduceAdd,Int.reduceSub,Int.reduceMul,Int.reduceNeg,Nat.zero_add,Nat.add_zero,Nat.mul_one,Int.toNat_natCast,Int.natCast_zero,Int.cast_ofNat_Int,or_false,false_or,or_true,true_or,Int.reduceToNat,Nat.sub_zero,Int.natCast_nonneg,Int.toNat_zero,Bool.true_and,Bool.and_true,Bool.false_and,Bool.and_false,Bool.true_or,Bool.or_true,Bool.false_or,Bool.or_false,Bool.not_true,Bool.not_false,Bool.not_not,true_and,and_true,false_and,and_false,not_true_eq_false,not_false_eq_true,eq_self,decide_true,decide_false,ne_eq,implies_true,forall_const,true_implies,false_implies,Bool.true_eq_false,Bool.false_eq_true,reduceCtorEq,List.map_cons,List.map_nil,List.all_cons,List.all_nil,List.length_cons,List.length_nil,List.length_map,List.length_append,List.nil_append,List.cons_append,List.set_cons_zero,List.set_cons_succ,List.set_nil,List.drop_zero,List.drop_succ_cons,List.drop_nil,List.take_zero,List.take_succ_cons,List.take_nil,Option.map_some,Option.map_none,Option.isSome_some,Nat.reduceEqDiff,Nat.reduceBEq,Nat.reduceGT,List.all_append,List.all_map,Function.comp_def,decide_eq_true_eq,Bool.and_eq_true,beq_self_eq_true,or_self,and_self,ite_true,ite_false,Nat.le_refl,Bool.not_eq_true,decide_not,Bool.not_eq_true',decide_eq_false_iff_not,Bool.not_eq_false,Bool.or_eq_true,if_true,if_false,ite_self,u_roF,u_cvF,u_cvC,u_ceT,u_ceK,u_appS,la_it,la_len,la_sure,la_ltA,la_lt1,la_all1,la_ro,la_take,la_cl,la_tm,la_r,la_sl,rc_len,rc_sure,rc_ltA,rc_lt1,rc_all1,rc_ro,rc_take,rc_sl,la_set,rc_set,zcL_eq,zcR_eq,la_allA,la_len7,all_tt,natInt,u_nthM,hr1]
  ·intro e a acc x
   simp (config := {maxSteps := 4000000,implicitDefEqProofs := false}) (disch := omega) only [go_sem,↓reduceIte,Nat.reduceAdd,Nat.reduceSub,Nat.reduceMul,Nat.reduceLeDiff,Nat.reduceLT,Int.reduceEq,Int.reduceNe,Int.reduceLT,Int.reduceLE,Int.reduceAdd,Int.reduceSub,Int.reduceMul,Int.reduceNeg,Nat.zero_add,Nat.add_zero,Nat.mul_one,Int.toNat_natCast,Int.natCast_zero,Int.cast_ofNat_Int,or_false,false_or,or_true,true_or,Int.reduceToNat,Nat.sub_zero,Int.natCast_nonneg,Int.toNat_zero,Bool.true_and,Bool.and_true,Bool.false_and,Bool.and_false,Bool.true_or,Bool.or_true,Bool.false_or,Bool.or_false,Bool.not_true,Bool.not_false,Bool.not_not,true_and,and_true,false_and,and_false,not_true_eq_false,not_false_eq_true,eq_self,decide_true,decide_false,ne_eq,implies_true,forall_const,true_implies,false_implies,Bool.true_eq_false,Bool.false_eq_true,reduceCtorEq,List.map_cons,List.map_nil,List.all_cons,List.all_nil,List.length_cons,List.length_nil,List.length_map,List.length_append,List.nil_append,List.cons_append,List.set_cons_zero,List.set_cons_succ,List.set_nil,List.drop_zero,List.drop_succ_cons,List.drop_nil,List.take_zero,List.take_succ_cons,List.take_nil,Option.map_some,Option.map_none,Option.isSome_some,Nat.reduceEqDiff,Nat.reduceBEq,Nat.reduceGT,List.all_append,List.all_map,Function.comp_def,decide_eq_true_eq,Bool.and_eq_true,beq_self_eq_true,or_self,and_self,ite_true,ite_false,Nat.le_refl,Bool.not_eq_true,decide_not,Bool.not_eq_true',decide_eq_false_iff_not,Bool.not_eq_false,Bool.or_eq_true,if_true,if_false,ite_self,u_roF,u_cvF,u_cvC,u_ceT,u_ceK,u_appS,la_it,la_len,la_sure,la_ltA,la_lt1,la_all1,la_ro,la_take,la_cl,la_tm,la_r,la_sl,rc_len,rc_sure,rc_ltA,rc_lt1,rc_all1,rc_ro,rc_take,rc_sl,la_set,rc_set,zcL_eq,zcR_eq,la_allA,la_len7,all_tt,natInt,u_nthM]
   rfl
  ·intro e e0 a acc x
   simp (config := {maxSteps := 4000000,implicitDefEqProofs := false}) (disch := omega) only [go_sem,↓reduceIte,Nat.reduceAdd,Nat.reduceSub,Nat.reduceMul,Nat.reduceLeDiff,Nat.reduceLT,Int.reduceEq,Int.reduceNe,Int.reduceLT,Int.reduceLE,Int.reduceAdd,Int.reduceSub,Int.reduceMul,Int.reduceNeg,Nat.zero_add,Nat.add_zero,Nat.mul_one,Int.toNat_natCast,Int.natCast_zero,Int.cast_ofNat_Int,or_false,false_or,or_true,true_or,Int.reduceToNat,Nat.sub_zero,Int.natCast_nonneg,Int.toNat_zero,Bool.true_and,Bool.and_true,Bool.false_and,Bool.and_false,Bool.true_or,Bool.or_true,Bool.false_or,Bool.or_false,Bool.not_true,Bool.not_false,Bool.not_not,true_and,and_true,false_and,and_false,not_true_eq_false,not_false_eq_true,eq_self,decide_true,decide_false,ne_eq,implies_true,forall_const,true_implies,false_implies,Bool.true_eq_false,Bool.false_eq_true,reduceCtorEq,List.map_cons,List.map_nil,List.all_cons,List.all_nil,List.length_cons,List.length_nil,List.length_map,List.length_append,List.nil_append,List.cons_append,List.set_cons_zero,List.set_cons_succ,List.set_nil,List.drop_zero,List.drop_succ_cons,List.drop_nil,List.take_zero,List.take_succ_cons,List.take_nil,Option.map_some,Option.map_none,Option.isSome_some,Nat.reduceEqDiff,Nat.reduceBEq,Nat.reduceGT,List.all_append,List.all_map,Function.comp_def,decide_eq_true_eq,Bool.and_eq_true,beq_self_eq_true,or_self,and_self,ite_true,ite_false,Nat.le_refl,Bool.not_eq_true,decide_not,Bool.not_eq_true',decide_eq_false_iff_not,Bool.not_eq_false,Bool.or_eq_true,if_true,if_false,ite_self,u_roF,u_cvF,u_cvC,u_ceT,u_ceK,u_appS,la_it,la_len,la_sure,la_ltA,la_lt1,la_all1,la_ro,la_take,la_cl,la_tm,la_r,la_sl,rc_len,rc_sure,rc_ltA,rc_lt1,rc_all1,rc_ro,rc_take,rc_sl,la_set,rc_set,zcL_eq,zcR_eq,la_allA,la_len7,all_tt,natInt,u_nthM]
   rfl
 ·rw [if_pos he]
  have hn := hzero he
  subst hn
  have hr1 := dec_r1 m b a e [] (by simp;omega) (by simp) (by simp)
  unfold finD at hr1
  rw [if_pos he] at hr1
  obtain ⟨m,rfl⟩ : ∃ k,m = k + 1 := ⟨m - 1,by omega⟩
  simp (config := {maxSteps := 4000000,implicitDefEqProofs := false}) (disch := omega) only [go_sem,↓reduceIte,Nat.reduceAdd,Nat.reduceSub,Nat.reduceMul,Nat.reduceLeDiff,Nat.reduceLT,Int.reduceEq,Int.reduceNe,Int.reduceLT,Int.reduceLE,Int.reduceAdd,Int.reduceSub,Int.reduceMul,Int.reduceNeg,Nat.zero_add,Nat.add_zero,Nat.mul_one,Int.toNat_natCast,Int.natCast_zero,Int.cast_ofNat_Int,or_false,false_or,or_true,true_or,Int.reduceToNat,Nat.sub_zero,Int.natCast_nonneg,Int.toNat_zero,Bool.true_and,Bool.and_true,Bool.false_and,Bool.and_false,Bool.true_or,Bool.or_true,Bool.false_or,Bool.or_false,Bool.not_true,Bool.not_false,Bool.not_not,true_and,and_true,false_and,and_false,not_true_eq_false,not_false_eq_true,eq_self,decide_true,decide_false,ne_eq,implies_true,forall_const,true_implies,false_implies,Bool.true_eq_false,Bool.false_eq_true,reduceCtorEq,List.map_cons,List.map_nil,List.all_cons,List.all_nil,List.length_cons,List.length_nil,List.length_map,List.length_append,List.nil_append,List.cons_append,List.set_cons_zero,List.set_cons_succ,List.set_nil,List.drop_zero,List.drop_succ_cons,List.drop_nil,List.take_zero,List.take_succ_cons,List.take_nil,Option.map_some,Option.map_none,Option.isSome_some,Nat.reduceEqDiff,Nat.reduceBEq,Nat.reduceGT,List.all_append,List.all_map,Function.comp_def,decide_eq_true_eq,Bool.and_eq_true,beq_self_eq_true,or_self,and_self,ite_true,ite_false,Nat.le_refl,Bool.not_eq_true,decide_not,Bool.not_eq_true',decide_eq_false_iff_not,Bool.not_eq_false,Bool.or_eq_true,if_true,if_false,ite_self,u_roF,u_cvF,u_cvC,u_ceT,u_ceK,u_appS,la_it,la_len,la_sure,la_ltA,la_lt1,la_all1,la_ro,la_take,la_cl,la_tm,la_r,la_sl,rc_len,rc_sure,rc_ltA,rc_lt1,rc_all1,rc_ro,rc_take,rc_sl,la_set,rc_set,zcL_eq,zcR_eq,la_allA,la_len7,all_tt,natInt,u_nthM,hR,hN,bC_ltA,iterC,replies_Decode_b1_eq]
  exact hr1
end Go.Proofs.Ytchncgdjefbmfaa

namespace Go.Proofs.Ytchncgdjefbmfaa
open Go.RowKit
theorem la_b0 {R : Type} {K1 : AV → Option R} : buildE (some pl_api_Last) (some (laC ⟨0,0,Rs.zero⟩)) [] K1 = K1 (.agg (laC ⟨0,0,Rs.zero⟩)) := _root_.id rfl
theorem la_st0 {t c v : Int} {r : Rs} : (laC ⟨c,t,r⟩).set 0 (V (.int .i64 v)) = laC ⟨v,t,r⟩ := _root_.id rfl
theorem la_st1 {t c v : Int} {r : Rs} : (laC ⟨c,t,r⟩).set 1 (V (.int .i64 v)) = laC ⟨c,v,r⟩ := _root_.id rfl
theorem la_stA {t c v : Int} {r : Rs} : setCells (laC ⟨c,t,r⟩) 0 [V (.int .i64 v)] = laC ⟨v,t,r⟩ := _root_.id rfl
theorem la_stB {t c v : Int} {r : Rs} : setCells (laC ⟨c,t,r⟩) 1 [V (.int .i64 v)] = laC ⟨c,v,r⟩ := _root_.id rfl
theorem la_z : La.zero = ⟨0,0,Rs.zero⟩ := rfl
theorem rdec_r1 (m : Nat) (b : Bytes) (a e : Nat) (acc : List La) (hm : acc.length < m) (hl : acc.length ≤ 34359738367) :
  plenumref26_Decode_r1 m ⟨[tkO b a e,outO acc],[(4,OP 0 0),(6,OW 1 acc.length)]⟩ = some (TU [lL (finD b (e,a,acc)).1,nA (finD b (e,a,acc)).2],[]) := by
 rw [plenumref26_Decode_r1_eq]
 have hE := tend1_s m b a e acc
 have hC := rcheck_s m acc hm hl
 rw [lL_def] at hC
 unfold finD
 unfold endR at hE
 have hll : (acc.map laE).length = acc.length := List.length_map ..
 by_cases he : e = 0
 ·subst he
  rw [if_neg (show ¬ (0 : Nat) ≠ 0 by simp)] at hE
  rw [if_neg (show ¬ (0 : Nat) ≠ 0 by simp)]
  dsimp only
  by_cases h1 : a < b.length
  ·rw [if_pos h1] at hE
   rw [if_pos h1,lL_def]
   simp (config := {maxSteps := 4000000,implicitDefEqProofs := false}) (disch := omega) only [go_sem,↓reduceIte,Nat.reduceAdd,Nat.reduceSub,Nat.reduceMul,Nat.reduceLeDiff,Nat.reduceLT,Int.reduceEq,Int.reduceNe,Int.reduceLT,Int.reduceLE,Int.reduceAdd,Int.reduceSub,Int.reduceMul,Int.reduceNeg,Nat.zero_add,Nat.add_zero,Nat.mul_one,Int.toNat_natCast,Int.natCast_zero,Int.cast_ofNat_Int,or_false,false_or,or_true,true_or,Int.reduceToNat,Nat.sub_zero,Int.natCast_nonneg,Int.toNat_zero,Bool.true_and,Bool.and_true,Bool.false_and,Bool.and_false,Bool.true_or,Bool.or_true,Bool.false_or,Bool.or_false,Bool.not_true,Bool.not_false,Bool.not_not,true_and,and_true,false_and,and_false,not_true_eq_false,not_false_eq_true,eq_self,decide_true,decide_false,ne_eq,implies_true,forall_const,true_implies,false_implies,Bool.true_eq_false,Bool.false_eq_true,reduceCtorEq,List.map_cons,List.map_nil,List.all_cons,List.all_nil,List.length_cons,List.length_nil,List.length_map,List.length_append,List.nil_append,List.cons_append,List.set_cons_zero,List.set_cons_succ,List.set_nil,List.drop_zero,List.drop_succ_cons,List.drop_nil,List.take_zero,List.take_succ_cons,List.take_nil,Option.map_some,Option.map_none,Option.isSome_some,Nat.reduceEqDiff,Nat.reduceBEq,Nat.reduceGT,List.all_append,List.all_map,Function.comp_def,decide_eq_true_eq,Bool.and_eq_true,beq_self_eq_true,or_self,and_self,ite_true,ite_false,Nat.le_refl,Bool.not_eq_true,decide_not,Bool.not_eq_true',decide_eq_false_iff_not,Bool.not_eq_false,Bool.or_eq_true,if_true,if_false,ite_self,u_roF,u_cvF,u_cvC,u_ceT,u_ceK,u_appS,la_it,la_len,la_sure,la_ltA,la_lt1,la_all1,la_ro,la_take,la_cl,la_tm,la_r,la_sl,rc_len,rc_sure,rc_ltA,rc_lt1,rc_all1,rc_ro,rc_take,rc_sl,la_set,rc_set,zcL_eq,zcR_eq,la_allA,la_len7,all_tt,natInt,u_nthM,hE,bC_ltA]
   try rfl
  ·rw [if_neg h1] at hE
   rw [if_neg h1]
   by_cases h2 : (chkL acc).1 = 0
   ·rw [if_neg (show ¬ (chkL acc).1 ≠ 0 from fun q=>q h2),lL_def]
    rw [h2] at hC
    simp (config := {maxSteps := 4000000,implicitDefEqProofs := false}) (disch := omega) only [go_sem,↓reduceIte,Nat.reduceAdd,Nat.reduceSub,Nat.reduceMul,Nat.reduceLeDiff,Nat.reduceLT,Int.reduceEq,Int.reduceNe,Int.reduceLT,Int.reduceLE,Int.reduceAdd,Int.reduceSub,Int.reduceMul,Int.reduceNeg,Nat.zero_add,Nat.add_zero,Nat.mul_one,Int.toNat_natCast,Int.natCast_zero,Int.cast_ofNat_Int,or_false,false_or,or_true,true_or,Int.reduceToNat,Nat.sub_zero,Int.natCast_nonneg,Int.toNat_zero,Bool.true_and,Bool.and_true,Bool.false_and,Bool.and_false,Bool.true_or,Bool.or_true,Bool.false_or,Bool.or_false,Bool.not_true,Bool.not_false,Bool.not_not,true_and,and_true,false_and,and_false,not_true_eq_false,not_false_eq_true,eq_self,decide_true,decide_false,ne_eq,implies_true,forall_const,true_implies,false_implies,Bool.true_eq_false,Bool.false_eq_true,reduceCtorEq,List.map_cons,List.map_nil,List.all_cons,List.all_nil,List.length_cons,List.length_nil,List.length_map,List.length_append,List.nil_append,List.cons_append,List.set_cons_zero,List.set_cons_succ,List.set_nil,List.drop_zero,List.drop_succ_cons,List.drop_nil,List.take_zero,List.take_succ_cons,List.take_nil,Option.map_some,Option.map_none,Option.isSome_some,Nat.reduceEqDiff,Nat.reduceBEq,Nat.reduceGT,List.all_append,List.all_map,Function.comp_def,decide_eq_true_eq,Bool.and_eq_true,beq_self_eq_true,or_self,and_self,ite_true,ite_false,Nat.le_refl,Bool.not_eq_true,decide_not,Bool.not_eq_true',decide_eq_false_iff_not,Bool.not_eq_false,Bool.or_eq_true,if_true,if_false,ite_self,u_roF,u_cvF,u_cvC,u_ceT,u_ceK,u_appS,la_it,la_len,la_sure,la_ltA,la_lt1,la_all1,la_ro,la_take,la_cl,la_tm,la_r,la_sl,rc_len,rc_sure,rc_ltA,rc_lt1,rc_all1,rc_ro,rc_take,rc_sl,la_set,rc_set,zcL_eq,zcR_eq,la_allA,la_len7,all_tt,natInt,u_nthM,hE,hC,bC_ltA,hll]
    try rfl
   ·rw [if_pos h2,lL_def]
    generalize chkL acc = c at *
    simp (config := {maxSteps := 4000000,implicitDefEqProofs := false}) (disch := omega) only [go_sem,↓reduceIte,Nat.reduceAdd,Nat.reduceSub,Nat.reduceMul,Nat.reduceLeDiff,Nat.reduceLT,Int.reduceEq,Int.reduceNe,Int.reduceLT,Int.reduceLE,Int.reduceAdd,Int.reduceSub,Int.reduceMul,Int.reduceNeg,Nat.zero_add,Nat.add_zero,Nat.mul_one,Int.toNat_natCast,Int.natCast_zero,Int.cast_ofNat_Int,or_false,false_or,or_true,true_or,Int.reduceToNat,Nat.sub_zero,Int.natCast_nonneg,Int.toNat_zero,Bool.true_and,Bool.and_true,Bool.false_and,Bool.and_false,Bool.true_or,Bool.or_true,Bool.false_or,Bool.or_false,Bool.not_true,Bool.not_false,Bool.not_not,true_and,and_true,false_and,and_false,not_true_eq_false,not_false_eq_true,eq_self,decide_true,decide_false,ne_eq,implies_true,forall_const,true_implies,false_implies,Bool.true_eq_false,Bool.false_eq_true,reduceCtorEq,List.map_cons,List.map_nil,List.all_cons,List.all_nil,List.length_cons,List.length_nil,List.length_map,List.length_append,List.nil_append,List.cons_append,List.set_cons_zero,List.set_cons_succ,List.set_nil,List.drop_zero,List.drop_succ_cons,List.drop_nil,List.take_zero,List.take_succ_cons,List.take_nil,Option.map_some,Option.map_none,Option.isSome_some,Nat.reduceEqDiff,Nat.reduceBEq,Nat.reduceGT,List.all_append,List.all_map,Function.comp_def,decide_eq_true_eq,Bool.and_eq_true,beq_self_eq_true,or_self,and_self,ite_true,ite_false,Nat.le_refl,Bool.not_eq_true,decide_not,Bool.not_eq_true',decide_eq_false_iff_not,Bool.not_eq_false,Bool.or_eq_true,if_true,if_false,ite_self,u_roF,u_cvF,u_cvC,u_ceT,u_ceK,u_appS,la_it,la_len,la_sure,la_ltA,la_lt1,la_all1,la_ro,la_take,la_cl,la_tm,la_r,la_sl,rc_len,rc_sure,rc_ltA,rc_lt1,rc_all1,rc_ro,rc_take,rc_sl,la_set,rc_set,zcL_eq,zcR_eq,la_allA,la_len7,all_tt,natInt,u_nthM,hE,hC,h2,bC_ltA,hll]
    try rfl
 ·rw [if_pos he] at hE
  rw [if_pos he,lL_def]
  have he' : ¬ (e : Int) = 0 := by omega
  simp (config := {maxSteps := 4000000,implicitDefEqProofs := false}) (disch := omega) only [go_sem,↓reduceIte,Nat.reduceAdd,Nat.reduceSub,Nat.reduceMul,Nat.reduceLeDiff,Nat.reduceLT,Int.reduceEq,Int.reduceNe,Int.reduceLT,Int.reduceLE,Int.reduceAdd,Int.reduceSub,Int.reduceMul,Int.reduceNeg,Nat.zero_add,Nat.add_zero,Nat.mul_one,Int.toNat_natCast,Int.natCast_zero,Int.cast_ofNat_Int,or_false,false_or,or_true,true_or,Int.reduceToNat,Nat.sub_zero,Int.natCast_nonneg,Int.toNat_zero,Bool.true_and,Bool.and_true,Bool.false_and,Bool.and_false,Bool.true_or,Bool.or_true,Bool.false_or,Bool.or_false,Bool.not_true,Bool.not_false,Bool.not_not,true_and,and_true,false_and,and_false,not_true_eq_false,not_false_eq_true,eq_self,decide_true,decide_false,ne_eq,implies_true,forall_const,true_implies,false_implies,Bool.true_eq_false,Bool.false_eq_true,reduceCtorEq,List.map_cons,List.map_nil,List.all_cons,List.all_nil,List.length_cons,List.length_nil,List.length_map,List.length_append,List.nil_append,List.cons_append,List.set_cons_zero,List.set_cons_succ,List.set_nil,List.drop_zero,List.drop_succ_cons,List.drop_nil,List.take_zero,List.take_succ_cons,List.take_nil,Option.map_some,Option.map_none,Option.isSome_some,Nat.reduceEqDiff,Nat.reduceBEq,Nat.reduceGT,List.all_append,List.all_map,Function.comp_def,decide_eq_true_eq,Bool.and_eq_true,beq_self_eq_true,or_self,and_self,ite_true,ite_false,Nat.le_refl,Bool.not_eq_true,decide_not,Bool.not_eq_true',decide_eq_false_iff_not,Bool.not_eq_false,Bool.or_eq_true,if_true,if_false,ite_self,u_roF,u_cvF,u_cvC,u_ceT,u_ceK,u_appS,la_it,la_len,la_sure,la_ltA,la_lt1,la_all1,la_ro,la_take,la_cl,la_tm,la_r,la_sl,rc_len,rc_sure,rc_ltA,rc_lt1,rc_all1,rc_ro,rc_take,rc_sl,la_set,rc_set,zcL_eq,zcR_eq,la_allA,la_len7,all_tt,natInt,u_nthM,hE,he',bC_ltA]
  try rfl
theorem rdec_loop (m : Nat) (b : Bytes) (n a : Nat) (hm : n + 1 < m) (hm2 : 300 < m) (hn : n ≤ 256) (ha : a ≤ b.length) (hb : b.length ≤ 34359738367) (kxr : KO (AV × List AObj)) (A : Option (AV × List AObj))
  (hA : A = some (TU [lL (finD b (goD b n a [])).1,nA (finD b (goD b n a [])).2],[]))
  (hk0 : ∀ (e a : Nat) acc,acc.length ≤ 257 → kxr (.exit 0) ⟨[tkO b a e,outO acc],[(4,OP 0 0),(6,OW 1 acc.length)]⟩ = some (TU [lL (finD b (e,a,acc)).1,nA (finD b (e,a,acc)).2],[])) :
  iterC m (plenumref26_Decode_b1 m) ⟨[tkO b a 0,outO []],[(4,OP 0 0),(5,nA n),(6,OW 1 0),(7,nA 0)]⟩ kxr = A := by
 refine iter_go (ι := {q : Nat × Nat × Nat × List La // q.1 ≤ n ∧ q.2.1 ≤ b.length ∧ q.2.2.2.length = q.1 ∧ ((q.2.2.1 = 0 ∧ goD b (n - q.1) q.2.1 q.2.2.2 = goD b n a []) ∨ (q.2.2.1 ≠ 0 ∧ (goD b n a []).1 = q.2.2.1))}) (fun q=>⟨[tkO b q.1.2.1 q.1.2.2.1,outO q.1.2.2.2],[(4,OP 0 0),(5,nA n),(6,OW 1 q.1.2.2.2.length),(7,nA q.1.1)]⟩) (fun q=>if q.1.2.2.1 = 0 then n - q.1.1 + 1 else 0) (fun _=>A) ?_ ⟨(0,a,0,[]),Nat.zero_le _,ha,rfl, .inl ⟨rfl,rfl⟩⟩ (by dsimp only;rw [if_pos rfl];omega)
 rintro kx hkx ⟨⟨k,a',e,acc⟩,h1,h2,h3,h4⟩ kc hkc
 dsimp only at h1 h2 h3 h4 hkc ⊢
 rw [plenumref26_Decode_b1_eq]
 rcases h4 with ⟨rfl,h4⟩|⟨he,h4⟩
 rotate_left
 ·
  have he' : ¬ (e : Int) = 0 := by omega
  have hk := hk0 e a' acc (by omega)
  have hA2 : A = some (TU [lL (finD b (e,a',acc)).1,nA (finD b (e,a',acc)).2],[]) := by
   rw [hA]
   unfold finD
   rw [if_pos (by rw [h4];exact he),if_pos he,h4]
  rw [hA2]
  by_cases hlt : k < n
  ·have hlt' : (k : Int) < (n : Int) := by omega
   simp (config := {maxSteps := 4000000,implicitDefEqProofs := false}) (disch := omega) only [go_sem,↓reduceIte,Nat.reduceAdd,Nat.reduceSub,Nat.reduceMul,Nat.reduceLeDiff,Nat.reduceLT,Int.reduceEq,Int.reduceNe,Int.reduceLT,Int.reduceLE,Int.reduceAdd,Int.reduceSub,Int.reduceMul,Int.reduceNeg,Nat.zero_add,Nat.add_zero,Nat.mul_one,Int.toNat_natCast,Int.natCast_zero,Int.cast_ofNat_Int,or_false,false_or,or_true,true_or,Int.reduceToNat,Nat.sub_zero,Int.natCast_nonneg,Int.toNat_zero,Bool.true_and,Bool.and_true,Bool.false_and,Bool.and_false,Bool.true_or,Bool.or_true,Bool.false_or,Bool.or_false,Bool.not_true,Bool.not_false,Bool.not_not,true_and,and_true,false_and,and_false,not_true_eq_false,not_false_eq_true,eq_self,decide_true,decide_false,ne_eq,implies_true,forall_const,true_implies,false_implies,Bool.true_eq_false,Bool.false_eq_true,reduceCtorEq,List.map_cons,List.map_nil,List.all_cons,List.all_nil,List.length_cons,List.length_nil,List.length_map,List.length_append,List.nil_append,List.cons_append,List.set_cons_zero,List.set_cons_succ,List.set_nil,List.drop_zero,List.drop_succ_cons,List.drop_nil,List.take_zero,List.take_succ_cons,List.take_nil,Option.map_some,Option.map_none,Option.isSome_some,Nat.reduceEqDiff,Nat.reduceBEq,Nat.reduceGT,List.all_append,List.all_map,Function.comp_def,decide_eq_true_eq,Bool.and_eq_true,beq_self_eq_true,or_self,and_self,ite_true,ite_false,Nat.le_refl,Bool.not_eq_true,decide_not,Bool.not_eq_true',decide_eq_false_iff_not,Bool.not_eq_false,Bool.or_eq_true,if_true,if_false,ite_self,u_roF,u_cvF,u_cvC,u_ceT,u_ceK,u_appS,la_it,la_len,la_sure,la_ltA,la_lt1,la_all1,la_ro,la_take,la_cl,la_tm,la_r,la_sl,rc_len,rc_sure,rc_ltA,rc_lt1,rc_all1,rc_ro,rc_take,rc_sl,la_set,rc_set,zcL_eq,zcR_eq,la_allA,la_len7,all_tt,natInt,u_nthM,hlt',he',plenumref26_Decode_r2_eq,hkx,hk]
  ·have hlt' : ¬ (k : Int) < (n : Int) := by omega
   simp (config := {maxSteps := 4000000,implicitDefEqProofs := false}) (disch := omega) only [go_sem,↓reduceIte,Nat.reduceAdd,Nat.reduceSub,Nat.reduceMul,Nat.reduceLeDiff,Nat.reduceLT,Int.reduceEq,Int.reduceNe,Int.reduceLT,Int.reduceLE,Int.reduceAdd,Int.reduceSub,Int.reduceMul,Int.reduceNeg,Nat.zero_add,Nat.add_zero,Nat.mul_one,Int.toNat_natCast,Int.natCast_zero,Int.cast_ofNat_Int,or_false,false_or,or_true,true_or,Int.reduceToNat,Nat.sub_zero,Int.natCast_nonneg,Int.toNat_zero,Bool.true_and,Bool.and_true,Bool.false_and,Bool.and_false,Bool.true_or,Bool.or_true,Bool.false_or,Bool.or_false,Bool.not_true,Bool.not_false,Bool.not_not,true_and,and_true,false_and,and_false,not_true_eq_false,not_false_eq_true,eq_self,decide_true,decide_false,ne_eq,implies_true,forall_const,true_implies,false_implies,Bool.true_eq_false,Bool.false_eq_true,reduceCtorEq,List.map_cons,List.map_nil,List.all_cons,List.all_nil,List.length_cons,List.length_nil,List.length_map,List.length_append,List.nil_append,List.cons_append,List.set_cons_zero,List.set_cons_succ,List.set_nil,List.drop_zero,List.drop_succ_cons,List.drop_nil,List.take_zero,List.take_succ_cons,List.take_nil,Option.map_some,Option.map_none,Option.isSome_some,Nat.reduceEqDiff,Nat.reduceBEq,Nat.reduceGT,List.all_append,List.all_map,Function.comp_def,decide_eq_true_eq,Bool.and_eq_true,beq_self_eq_true,or_self,and_self,ite_true,ite_false,Nat.le_refl,Bool.not_eq_true,decide_not,Bool.not_eq_true',decide_eq_false_iff_not,Bool.not_eq_false,Bool.or_eq_true,if_true,if_false,ite_self,u_roF,u_cvF,u_cvC,u_ceT,u_ceK,u_appS,la_it,la_len,la_sure,la_ltA,la_lt1,la_all1,la_ro,la_take,la_cl,la_tm,la_r,la_sl,rc_len,rc_sure,rc_ltA,rc_lt1,rc_all1,rc_ro,rc_take,rc_sl,la_set,rc_set,zcL_eq,zcR_eq,la_allA,la_len7,all_tt,natInt,u_nthM,hlt',plenumref26_Decode_r2_eq,hkx,hk]
 ·by_cases hlt : k < n
  ·have hlt' : (k : Int) < (n : Int) := by omega
   rw [show n - k = (n - (k + 1)) + 1 by omega,goD] at h4
   have hN1 := fun x=>tnum2_s m b 255 a' 0 255 rfl acc x (by omega) h2
   have hv1 := numR_le b 255 a' 0
   have ha1 := numR_at (most := 255) (e := 0) h2
   have hN2 := fun x=>tnum2_s m b 2147483647 (numR b 255 a' 0).2.1 (numR b 255 a' 0).2.2 2147483647 rfl acc x (by omega) ha1
   have hv2 := numR_le b 2147483647 (numR b 255 a' 0).2.1 (numR b 255 a' 0).2.2
   have ha2 := numR_at (most := 2147483647) (e := (numR b 255 a' 0).2.2) ha1
   have hT := fun x=>ttext2_s m b (numR b 2147483647 (numR b 255 a' 0).2.1 (numR b 255 a' 0).2.2).2.1 (numR b 2147483647 (numR b 255 a' 0).2.1 (numR b 255 a' 0).2.2).2.2 acc x (by omega) ha2
   have ha3 := textR_at (e := (numR b 2147483647 (numR b 255 a' 0).2.1 (numR b 255 a' 0).2.2).2.2) ha2
   have htl := textR_len b (numR b 2147483647 (numR b 255 a' 0).2.1 (numR b 255 a' 0).2.2).2.1 (numR b 2147483647 (numR b 255 a' 0).2.1 (numR b 255 a' 0).2.2).2.2
   unfold entR at h4
   dsimp only at h4
   generalize numR b 255 a' 0 = q1 at *
   obtain ⟨v1,b1,e1⟩ := q1
   dsimp only at *
   generalize numR b 2147483647 b1 e1 = q2 at *
   obtain ⟨v2,b2,e2⟩ := q2
   dsimp only at *
   generalize textR b b2 e2 = q3 at *
   obtain ⟨s,b3,e3⟩ := q3
   dsimp only at *
   have hw1 : IntKind.i64.wrap (v1 : Int) = (v1 : Int) := w_i64 (by omega) (by omega)
   have hw2 : IntKind.i64.wrap (v2 : Int) = (v2 : Int) := w_i64 (by omega) (by omega)
   have hw3 : IntKind.i64.wrap ((k : Int) + 1) = ((k + 1 : Nat) : Int) := by rw [w_i64 (by omega) (by omega)];omega
   have hl : acc.length ≤ 34359738367 := by omega
   by_cases he : e3 = 0
   ·subst he
    rw [if_neg (show ¬ (0 : Nat) ≠ 0 by simp)] at h4
    have hD := rdecres_s m s (by omega)
    rw [rA_def] at hD
    generalize decRes s = d at *
    obtain ⟨r,de⟩ := d
    dsimp only at hD h4
    have step := hkc ⟨(k + 1,b3,de,acc ++ [⟨v1,v2,r⟩]),by omega,ha3,by simp;omega,(by
     dsimp only
     by_cases hd : de = 0
     ·subst hd
      rw [if_neg (show ¬ (0 : Nat) ≠ 0 by simp)] at h4
      exact .inl ⟨rfl,h4⟩
     ·rw [if_pos hd] at h4
      exact .inr ⟨hd,by rw [← h4]⟩)⟩ (by dsimp only;rw [if_pos rfl];split <;> omega)
    dsimp only at step
    unfold outO at step
    rw [List.map_append,List.length_append] at step
    simp (config := {maxSteps := 4000000,implicitDefEqProofs := false}) (disch := omega) only [go_sem,↓reduceIte,Nat.reduceAdd,Nat.reduceSub,Nat.reduceMul,Nat.reduceLeDiff,Nat.reduceLT,Int.reduceEq,Int.reduceNe,Int.reduceLT,Int.reduceLE,Int.reduceAdd,Int.reduceSub,Int.reduceMul,Int.reduceNeg,Nat.zero_add,Nat.add_zero,Nat.mul_one,Int.toNat_natCast,Int.natCast_zero,Int.cast_ofNat_Int,or_false,false_or,or_true,true_or,Int.reduceToNat,Nat.sub_zero,Int.natCast_nonneg,Int.toNat_zero,Bool.true_and,Bool.and_true,Bool.false_and,Bool.and_false,Bool.true_or,Bool.or_true,Bool.false_or,Bool.or_false,Bool.not_true,Bool.not_false,Bool.not_not,true_and,and_true,false_and,and_false,not_true_eq_false,not_false_eq_true,eq_self,decide_true,decide_false,ne_eq,implies_true,forall_const,true_implies,false_implies,Bool.true_eq_false,Bool.false_eq_true,reduceCtorEq,List.map_cons,List.map_nil,List.all_cons,List.all_nil,List.length_cons,List.length_nil,List.length_map,List.length_append,List.nil_append,List.cons_append,List.set_cons_zero,List.set_cons_succ,List.set_nil,List.drop_zero,List.drop_succ_cons,List.drop_nil,List.take_zero,List.take_succ_cons,List.take_nil,Option.map_some,Option.map_none,Option.isSome_some,Nat.reduceEqDiff,Nat.reduceBEq,Nat.reduceGT,List.all_append,List.all_map,Function.comp_def,decide_eq_true_eq,Bool.and_eq_true,beq_self_eq_true,or_self,and_self,ite_true,ite_false,Nat.le_refl,Bool.not_eq_true,decide_not,Bool.not_eq_true',decide_eq_false_iff_not,Bool.not_eq_false,Bool.or_eq_true,if_true,if_false,ite_self,u_roF,u_cvF,u_cvC,u_ceT,u_ceK,u_appS,la_it,la_len,la_sure,la_ltA,la_lt1,la_all1,la_ro,la_take,la_cl,la_tm,la_r,la_sl,rc_len,rc_sure,rc_ltA,rc_lt1,rc_all1,rc_ro,rc_take,rc_sl,la_set,rc_set,zcL_eq,zcR_eq,la_allA,la_len7,all_tt,natInt,u_nthM,hlt',plenumref26_Decode_r2_eq,plenumref26_Decode_r3_eq,plenumref26_Decode_r4_eq,plenumref26_Decode_r5_eq,la_b0,la_z,hN1,hN2,hw1,hw2,hw3,hT,hD,la_st0,la_st1,la_stA,la_stB,la_put,hl]
    exact step
   ·rw [if_pos he] at h4
    have he' : ¬ (e3 : Int) = 0 := by omega
    have step := hkc ⟨(k + 1,b3,e3,acc ++ [⟨v1,v2,Rs.zero⟩]),by omega,ha3,by simp;omega, .inr ⟨he,by rw [← h4]⟩⟩ (by dsimp only;rw [if_pos rfl,if_neg he];omega)
    dsimp only at step
    unfold outO at step
    rw [List.map_append,List.length_append] at step
    simp (config := {maxSteps := 4000000,implicitDefEqProofs := false}) (disch := omega) only [go_sem,↓reduceIte,Nat.reduceAdd,Nat.reduceSub,Nat.reduceMul,Nat.reduceLeDiff,Nat.reduceLT,Int.reduceEq,Int.reduceNe,Int.reduceLT,Int.reduceLE,Int.reduceAdd,Int.reduceSub,Int.reduceMul,Int.reduceNeg,Nat.zero_add,Nat.add_zero,Nat.mul_one,Int.toNat_natCast,Int.natCast_zero,Int.cast_ofNat_Int,or_false,false_or,or_true,true_or,Int.reduceToNat,Nat.sub_zero,Int.natCast_nonneg,Int.toNat_zero,Bool.true_and,Bool.and_true,Bool.false_and,Bool.and_false,Bool.true_or,Bool.or_true,Bool.false_or,Bool.or_false,Bool.not_true,Bool.not_false,Bool.not_not,true_and,and_true,false_and,and_false,not_true_eq_false,not_false_eq_true,eq_self,decide_true,decide_false,ne_eq,implies_true,forall_const,true_implies,false_implies,Bool.true_eq_false,Bool.false_eq_true,reduceCtorEq,List.map_cons,List.map_nil,List.all_cons,List.all_nil,List.length_cons,List.length_nil,List.length_map,List.length_append,List.nil_append,List.cons_append,List.set_cons_zero,List.set_cons_succ,List.set_nil,List.drop_zero,List.drop_succ_cons,List.drop_nil,List.take_zero,List.take_succ_cons,List.take_nil,Option.map_some,Option.map_none,Option.isSome_some,Nat.reduceEqDiff,Nat.reduceBEq,Nat.reduceGT,List.all_append,List.all_map,Function.comp_def,decide_eq_true_eq,Bool.and_eq_true,beq_self_eq_true,or_self,and_self,ite_true,ite_false,Nat.le_refl,Bool.not_eq_true,decide_not,Bool.not_eq_true',decide_eq_false_iff_not,Bool.not_eq_false,Bool.or_eq_true,if_true,if_false,ite_self,u_roF,u_cvF,u_cvC,u_ceT,u_ceK,u_appS,la_it,la_len,la_sure,la_ltA,la_lt1,la_all1,la_ro,la_take,la_cl,la_tm,la_r,la_sl,rc_len,rc_sure,rc_ltA,rc_lt1,rc_all1,rc_ro,rc_take,rc_sl,la_set,rc_set,zcL_eq,zcR_eq,la_allA,la_len7,all_tt,natInt,u_nthM,hlt',he',plenumref26_Decode_r2_eq,plenumref26_Decode_r3_eq,plenumref26_Decode_r4_eq,plenumref26_Decode_r5_eq,la_b0,la_z,hN1,hN2,hw1,hw2,hw3,hT,la_st0,la_st1,la_stA,la_stB,la_put,hl]
    exact step
  ·have hlt' : ¬ (k : Int) < (n : Int) := by omega
   have hk := hk0 0 a' acc (by omega)
   have : n - k = 0 := by omega
   rw [this] at h4
   rw [hA,← h4]
   unfold goD
   simp (config := {maxSteps := 4000000,implicitDefEqProofs := false}) (disch := omega) only [go_sem,↓reduceIte,Nat.reduceAdd,Nat.reduceSub,Nat.reduceMul,Nat.reduceLeDiff,Nat.reduceLT,Int.reduceEq,Int.reduceNe,Int.reduceLT,Int.reduceLE,Int.reduceAdd,Int.reduceSub,Int.reduceMul,Int.reduceNeg,Nat.zero_add,Nat.add_zero,Nat.mul_one,Int.toNat_natCast,Int.natCast_zero,Int.cast_ofNat_Int,or_false,false_or,or_true,true_or,Int.reduceToNat,Nat.sub_zero,Int.natCast_nonneg,Int.toNat_zero,Bool.true_and,Bool.and_true,Bool.false_and,Bool.and_false,Bool.true_or,Bool.or_true,Bool.false_or,Bool.or_false,Bool.not_true,Bool.not_false,Bool.not_not,true_and,and_true,false_and,and_false,not_true_eq_false,not_false_eq_true,eq_self,decide_true,decide_false,ne_eq,implies_true,forall_const,true_implies,false_implies,Bool.true_eq_false,Bool.false_eq_true,reduceCtorEq,List.map_cons,List.map_nil,List.all_cons,List.all_nil,List.length_cons,List.length_nil,List.length_map,List.length_append,List.nil_append,List.cons_append,List.set_cons_zero,List.set_cons_succ,List.set_nil,List.drop_zero,List.drop_succ_cons,List.drop_nil,List.take_zero,List.take_succ_cons,List.take_nil,Option.map_some,Option.map_none,Option.isSome_some,Nat.reduceEqDiff,Nat.reduceBEq,Nat.reduceGT,List.all_append,List.all_map,Function.comp_def,decide_eq_true_eq,Bool.and_eq_true,beq_self_eq_true,or_self,and_self,ite_true,ite_false,Nat.le_refl,Bool.not_eq_true,decide_not,Bool.not_eq_true',decide_eq_false_iff_not,Bool.not_eq_false,Bool.or_eq_true,if_true,if_false,ite_self,u_roF,u_cvF,u_cvC,u_ceT,u_ceK,u_appS,la_it,la_len,la_sure,la_ltA,la_lt1,la_all1,la_ro,la_take,la_cl,la_tm,la_r,la_sl,rc_len,rc_sure,rc_ltA,rc_lt1,rc_all1,rc_ro,rc_take,rc_sl,la_set,rc_set,zcL_eq,zcR_eq,la_allA,la_len7,all_tt,natInt,u_nthM,hlt',plenumref26_Decode_r2_eq,hkx,hk]
theorem rdecode_s (m : Nat) (b : Bytes) (hm : 400 < m) (hb : b.length ≤ 34359738367) : plenumref26_Decode m (sA b) = some (TU [lL (decB b).1,nA (decB b).2],[]) := by
 rw [plenumref26_Decode_eq]
 have hN := tnum0_s m b 256 0 0 256 rfl (by omega) (Nat.zero_le _)
 have hN : plenumref01_Take_Num m (OP 0 0) (V (.int .u64 256)) [⟨1,ty_plenumref01_Take,0,[V (.string ⟨b.toArray⟩),nA 0,nA 0]⟩] = _ := hN
 have hv := numR_le b 256 0 0
 have ha := numR_at (b := b) (most := 256) (a := 0) (e := 0) (Nat.zero_le _)
 have hzero : (numR b 256 0 0).2.2 ≠ 0 → (numR b 256 0 0).1 = 0 := by
  unfold numR
  rw [if_neg (show ¬ (0 : Nat) ≠ 0 by simp)]
  intro h
  split
  ·rfl
  ·split
   ·rfl
   ·rename_i q1 q2
    rw [if_neg q1,if_neg q2] at h
    exact absurd rfl h
 unfold decB
 generalize numR b 256 0 0 = q at *
 obtain ⟨n,a,e⟩ := q
 dsimp only at hN hv ha hzero ⊢
 have hw : IntKind.i64.wrap (n : Int) = (n : Int) := w_i64 (by omega) (by omega)
 by_cases he : e = 0
 ·subst he
  rw [if_neg (show ¬ (0 : Nat) ≠ 0 by simp)]
  simp (config := {maxSteps := 4000000,implicitDefEqProofs := false}) (disch := omega) only [go_sem,↓reduceIte,Nat.reduceAdd,Nat.reduceSub,Nat.reduceMul,Nat.reduceLeDiff,Nat.reduceLT,Int.reduceEq,Int.reduceNe,Int.reduceLT,Int.reduceLE,Int.reduceAdd,Int.reduceSub,Int.reduceMul,Int.reduceNeg,Nat.zero_add,Nat.add_zero,Nat.mul_one,Int.toNat_natCast,Int.natCast_zero,Int.cast_ofNat_Int,or_false,false_or,or_true,true_or,Int.reduceToNat,Nat.sub_zero,Int.natCast_nonneg,Int.toNat_zero,Bool.true_and,Bool.and_true,Bool.false_and,Bool.and_false,Bool.true_or,Bool.or_true,Bool.false_or,Bool.or_false,Bool.not_true,Bool.not_false,Bool.not_not,true_and,and_true,false_and,and_false,not_true_eq_false,not_false_eq_true,eq_self,decide_true,decide_false,ne_eq,implies_true,forall_const,true_implies,false_implies,Bool.true_eq_false,Bool.false_eq_true,reduceCtorEq,List.map_cons,List.map_nil,List.all_cons,List.all_nil,List.length_cons,List.length_nil,List.length_map,List.length_append,List.nil_append,List.cons_append,List.set_cons_zero,List.set_cons_succ,List.set_nil,List.drop_zero,List.drop_succ_cons,List.drop_nil,List.take_zero,List.take_succ_cons,List.take_nil,Option.map_some,Option.map_none,Option.isSome_some,Nat.reduceEqDiff,Nat.reduceBEq,Nat.reduceGT,List.all_append,List.all_map,Function.comp_def,decide_eq_true_eq,Bool.and_eq_true,beq_self_eq_true,or_self,and_self,ite_true,ite_false,Nat.le_refl,Bool.not_eq_true,decide_not,Bool.not_eq_true',decide_eq_false_iff_not,Bool.not_eq_false,Bool.or_eq_true,if_true,if_false,ite_self,u_roF,u_cvF,u_cvC,u_ceT,u_ceK,u_appS,la_it,la_len,la_sure,la_ltA,la_lt1,la_all1,la_ro,la_take,la_cl,la_tm,la_r,la_sl,rc_len,rc_sure,rc_ltA,rc_lt1,rc_all1,rc_ro,rc_take,rc_sl,la_set,rc_set,zcL_eq,zcR_eq,la_allA,la_len7,all_tt,natInt,u_nthM,u_bT0,hN,hw]
  refine rdec_loop m b n a (by omega) (by omega) hv ha hb _ _ rfl ?_
  intro e a acc hl
  have hr1 := rdec_r1 m b a e acc (by omega) (by omega)
  simp (config := {maxSteps := 4000000,implicitDefEqProofs := false}) (disch := omega) only [go_sem,↓reduceIte,Nat.reduceAdd,Nat.reduceSub,Nat.reduceMul,Nat.reduceLeDiff,Nat.reduceLT,Int.reduceEq,Int.reduceNe,Int.reduceLT,Int.reduceLE,Int.reduceAdd,Int.reduceSub,Int.reduceMul,Int.reduceNeg,Nat.zero_add,Nat.add_zero,Nat.mul_one,Int.toNat_natCast,Int.natCast_zero,Int.cast_ofNat_Int,or_false,false_or,or_true,true_or,Int.reduceToNat,Nat.sub_zero,Int.natCast_nonneg,Int.toNat_zero,Bool.true_and,Bool.and_true,Bool.false_and,Bool.and_false,Bool.true_or,Bool.or_true,Bool.false_or,Bool.or_false,Bool.not_true,Bool.not_false,Bool.not_not,true_and,and_true,false_and,and_false,not_true_eq_false,not_false_eq_true,eq_self,decide_true,decide_false,ne_eq,implies_true,forall_const,true_implies,false_implies,Bool.true_eq_false,Bool.false_eq_true,reduceCtorEq,List.map_cons,List.map_nil,List.all_cons,List.all_nil,List.length_cons,List.length_nil,List.length_map,List.length_append,List.nil_append,List.cons_append,List.set_cons_zero,List.set_cons_succ,List.set_nil,List.drop_zero,List.drop_succ_cons,List.drop_nil,List.take_zero,List.take_succ_cons,List.take_nil,Option.map_some,Option.map_none,Option.isSome_some,Nat.reduceEqDiff,Nat.reduceBEq,Nat.reduceGT,List.all_append,List.all_map,Function.comp_def,decide_eq_true_eq,Bool.and_eq_true,beq_self_eq_true,or_self,and_self,ite_true,ite_false,Nat.le_refl,Bool.not_eq_true,decide_not,Bool.not_eq_true',decide_eq_false_iff_not,Bool.not_eq_false,Bool.or_eq_true,if_true,if_false,ite_self,u_roF,u_cvF,u_cvC,u_ceT,u_ceK,u_appS,la_it,la_len,la_sure,la_ltA,la_lt1,la_all1,la_ro,la_take,la_cl,la_tm,la_r,la_sl,rc_len,rc_sure,rc_ltA,rc_lt1,rc_all1,rc_ro,rc_take,rc_sl,la_set,rc_set,zcL_eq,zcR_eq,la_allA,la_len7,all_tt,natInt,u_nthM,hr1]
 ·rw [if_pos he]
  have hn := hzero he
  subst hn
  have hr1 := rdec_r1 m b a e [] (by simp;omega) (by simp)
  unfold finD at hr1
  rw [if_pos he] at hr1
  obtain ⟨m,rfl⟩ : ∃ k,m = k + 1 := ⟨m - 1,by omega⟩
  simp (config := {maxSteps := 4000000,implicitDefEqProofs := false}) (disch := omega) only [go_sem,↓reduceIte,Nat.reduceAdd,Nat.reduceSub,Nat.reduceMul,Nat.reduceLeDiff,Nat.reduceLT,Int.reduceEq,Int.reduceNe,Int.reduceLT,Int.reduceLE,Int.reduceAdd,Int.reduceSub,Int.reduceMul,Int.reduceNeg,Nat.zero_add,Nat.add_zero,Nat.mul_one,Int.toNat_natCast,Int.natCast_zero,Int.cast_ofNat_Int,or_false,false_or,or_true,true_or,Int.reduceToNat,Nat.sub_zero,Int.natCast_nonneg,Int.toNat_zero,Bool.true_and,Bool.and_true,Bool.false_and,Bool.and_false,Bool.true_or,Bool.or_true,Bool.false_or,Bool.or_false,Bool.not_true,Bool.not_false,Bool.not_not,true_and,and_true,false_and,and_false,not_true_eq_false,not_false_eq_true,eq_self,decide_true,decide_false,ne_eq,implies_true,forall_const,true_implies,false_implies,Bool.true_eq_false,Bool.false_eq_true,reduceCtorEq,List.map_cons,List.map_nil,List.all_cons,List.all_nil,List.length_cons,List.length_nil,List.length_map,List.length_append,List.nil_append,List.cons_append,List.set_cons_zero,List.set_cons_succ,List.set_nil,List.drop_zero,List.drop_succ_cons,List.drop_nil,List.take_zero,List.take_succ_cons,List.take_nil,Option.map_some,Option.map_none,Option.isSome_some,Nat.reduceEqDiff,Nat.reduceBEq,Nat.reduceGT,List.all_append,List.all_map,Function.comp_def,decide_eq_true_eq,Bool.and_eq_true,beq_self_eq_true,or_self,and_self,ite_true,ite_false,Nat.le_refl,Bool.not_eq_true,decide_not,Bool.not_eq_true',decide_eq_false_iff_not,Bool.not_eq_false,Bool.or_eq_true,if_true,if_false,ite_self,u_roF,u_cvF,u_cvC,u_ceT,u_ceK,u_appS,la_it,la_len,la_sure,la_ltA,la_lt1,la_all1,la_ro,la_take,la_cl,la_tm,la_r,la_sl,rc_len,rc_sure,rc_ltA,rc_lt1,rc_all1,rc_ro,rc_take,rc_sl,la_set,rc_set,zcL_eq,zcR_eq,la_allA,la_len7,all_tt,natInt,u_nthM,u_bT0,hN,hw,iterC,plenumref26_Decode_b1_eq,plenumref26_Decode_r2_eq]
  exact hr1
end Go.Proofs.Ytchncgdjefbmfaa

namespace Go.Proofs.Ytchncgdjefbmfaa
open Go.RowKit
theorem cutText_put (k r : Bytes) (h : k.length ≤ 255) : CutText ((put k.length ++ k) ++ r) = (k,(put k.length ++ k).length,0) := by
 have hc := cut_put k.length (by omega) (k ++ r)
 rw [List.append_assoc]
 unfold CutText
 rw [hc]
 dsimp only
 rw [if_neg (by simp),if_neg (by omega),if_neg (by simp only [List.length_append];omega)]
 rw [List.drop_left,List.take_left,List.length_append]
theorem cutV_put0 {kind i : Int} {s : Bytes} (hv : valB kind i s = true) (h0 : -9223372036854775808 ≤ i) (h1 : i < 9223372036854775808) (r : Bytes) :
  cutV (encV kind i s ++ r) = ⟨kind,i,s,(encV kind i s).length,0⟩ := by
 rcases valB_cases hv with ⟨rfl,rfl,rfl⟩|⟨rfl,hi,rfl⟩|⟨rfl,rfl⟩|⟨rfl,rfl,hs⟩
 ·simp [encV,cutV]
 ·rcases hi with rfl|rfl
  ·simp [encV,cutV]
  ·simp [encV,cutV]
 ·have hc := cut_put (zig i) (zig_lt i h0 h1) r
  have e : encV 2 i [] = 2 :: put (zig i) := by simp [encV]
  rw [e]
  simp only [List.cons_append,cutV]
  rw [hc]
  simp [zag_zig]
 ·have hc := cutText_put s r (by omega)
  have e : encV 3 0 s = 3 :: (put s.length ++ s) := by simp [encV]
  rw [e]
  simp only [List.cons_append,cutV]
  rw [hc]
  simp
  omega
theorem decRes_put {r : Rs} (h : rB r = true) (hin : r.In) : decRes (encRes r.code r.kind r.i r.s r.ver) = (r,0) := by
 have hb := h
 unfold rB resB at hb
 simp only [Bool.and_eq_true,decide_eq_true_eq] at hb
 obtain ⟨⟨⟨⟨c0,c1⟩,hv⟩,v0⟩,v1⟩ := hb
 have he : encRes r.code r.kind r.i r.s r.ver = UInt8.ofNat r.code.toNat :: (encV r.kind r.i r.s ++ put r.ver.toNat) := by
  unfold encRes
  rw [show resB r.code r.kind r.i r.s r.ver = true from h,if_pos rfl]
 have hc := cutV_put0 hv hin.1 hin.2 (put r.ver.toNat)
 have hp := cut_put r.ver.toNat (by omega) []
 rw [List.append_nil] at hp
 have ht : (UInt8.ofNat r.code.toNat).toNat = r.code.toNat := by
  rw [UInt8.toNat_ofNat']
  omega
 rw [he]
 unfold decRes
 dsimp only
 rw [hc]
 dsimp only
 rw [List.drop_left,hp,ht]
 dsimp only
 rw [if_neg (by simp),if_neg (by simp),if_neg (by omega),if_neg (by omega),if_neg (by omega)]
 obtain ⟨code,kind,i,s,ver⟩ := r
 dsimp only at *
 rw [show ((code.toNat : Nat) : Int) = code by omega,show ((ver.toNat : Nat) : Int) = ver by omega]
theorem numR_put (pre rest : Bytes) (v most : Nat) (hv : v ≤ most) (h : v < 18446744073709551616) : numR (pre ++ (put v ++ rest)) most pre.length 0 = (v,pre.length + (put v).length,0) := by
 unfold numR
 rw [List.drop_left,cut_put v h rest]
 dsimp only
 rw [if_neg (by simp),if_neg (by simp),if_neg (by omega)]
theorem textR_put (pre rest s : Bytes) (hs : s.length ≤ 255) : textR (pre ++ ((put s.length ++ s) ++ rest)) pre.length 0 = (s,pre.length + (put s.length ++ s).length,0) := by
 unfold textR
 rw [List.drop_left,cutText_put s rest hs]
 dsimp only
 rw [if_neg (by simp),if_neg (by simp)]
theorem entR_put (pre rest : Bytes) (x : La) (hc : could x.cl x.tm = true) (hin : x.r.In) : entR (pre ++ (encLa x ++ rest)) pre.length = (x.cl.toNat,x.tm.toNat,encRes x.r.code x.r.kind x.r.i x.r.s x.r.ver,(pre ++ encLa x).length,0) := by
 have h := could_cl hc
 have hl := encRes_len hin
 unfold encLa
 generalize encRes x.r.code x.r.kind x.r.i x.r.s x.r.ver = eb at *
 have n1 := numR_put pre (put x.tm.toNat ++ ((put eb.length ++ eb) ++ rest)) x.cl.toNat 255 (by omega) (by omega)
 have n2 := numR_put (pre ++ put x.cl.toNat) ((put eb.length ++ eb) ++ rest) x.tm.toNat 2147483647 (by omega) (by omega)
 have n3 := textR_put (pre ++ put x.cl.toNat ++ put x.tm.toNat) rest eb (by omega)
 have e1 : pre ++ (put x.cl.toNat ++ put x.tm.toNat ++ put eb.length ++ eb ++ rest) = pre ++ (put x.cl.toNat ++ (put x.tm.toNat ++ ((put eb.length ++ eb) ++ rest))) := by simp only [List.append_assoc]
 have e2 : pre ++ (put x.cl.toNat ++ put x.tm.toNat ++ put eb.length ++ eb ++ rest) = pre ++ put x.cl.toNat ++ (put x.tm.toNat ++ ((put eb.length ++ eb) ++ rest)) := by simp only [List.append_assoc]
 have e3 : pre ++ (put x.cl.toNat ++ put x.tm.toNat ++ put eb.length ++ eb ++ rest) = pre ++ put x.cl.toNat ++ put x.tm.toNat ++ ((put eb.length ++ eb) ++ rest) := by simp only [List.append_assoc]
 rw [← e1] at n1
 rw [← e2,List.length_append] at n2
 rw [← e3,List.length_append,List.length_append] at n3
 unfold entR
 rw [n1]
 dsimp only
 rw [n2]
 dsimp only
 rw [n3]
 simp only [List.length_append]
 refine Prod.ext rfl (Prod.ext rfl (Prod.ext rfl (Prod.ext ?_ rfl)))
 dsimp only
 omega
theorem goD_put : ∀ (r : List La) (pre : Bytes) (acc : List La),(∀ x ∈ r,(could x.cl x.tm = true ∧ rB x.r = true) ∧ x.r.In) → goD (pre ++ r.flatMap encLa) r.length pre.length acc = (0,(pre ++ r.flatMap encLa).length,acc ++ r)
 |[],pre,acc,_=>by simp [goD]
 |x :: r,pre,acc,h=>by
  obtain ⟨⟨hc,hb⟩,hin⟩ := h x (List.mem_cons_self ..)
  have hE := entR_put pre (r.flatMap encLa) x hc hin
  have hcl := could_cl hc
  rw [List.flatMap_cons,List.length_cons,goD,hE]
  dsimp only
  rw [decRes_put hb hin]
  rw [if_neg (by simp),if_neg (by simp)]
  have ih := goD_put r (pre ++ encLa x) (acc ++ [x]) fun y hy=>h y (List.mem_cons_of_mem _ hy)
  rw [List.append_assoc] at ih
  have ex : (⟨(x.cl.toNat : Int),(x.tm.toNat : Int),x.r⟩ : La) = x := by
   obtain ⟨cl,tm,rr⟩ := x
   dsimp only at *
   rw [show ((cl.toNat : Nat) : Int) = cl by omega,show ((tm.toNat : Nat) : Int) = tm by omega]
  rw [ex,ih,List.append_assoc]
  rfl
theorem dec_enc {l : List La} (hi : isL l = true) (h : ∀ x ∈ l,x.r.In) : decB (encB l) = (l,0) := by
 have h8 := isL_len hi
 have hall := (isL_iff.1 hi).1
 unfold decB encB
 have hn := numR_put [] (l.flatMap encLa) l.length 256 (by omega) (by omega)
 rw [List.nil_append] at hn
 have hn : numR (put l.length ++ l.flatMap encLa) 256 0 0 = (l.length,(put l.length).length,0) := by simpa using hn
 rw [hn]
 dsimp only
 rw [if_neg (by simp),goD_put l (put l.length) [] fun x hx=>⟨hall x hx,h x hx⟩]
 unfold finD
 dsimp only
 have hk : (chkL l).1 = 0 := by unfold isL at hi;simpa using hi
 rw [if_neg (by simp),if_neg (by omega),List.nil_append,if_neg (fun q=>q hk)]
end Go.Proofs.Ytchncgdjefbmfaa

