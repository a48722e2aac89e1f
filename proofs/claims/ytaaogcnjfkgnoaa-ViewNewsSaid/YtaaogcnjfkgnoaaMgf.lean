/-
  Texts laid together, part 6 of 8: laws of a walk over data, contracts of functions, each whole by itself.
-/
import Derived.Test.YtaaogcnjfkgnoaaMgc
import Derived.Test.YtaaogcnjfkgnoaaMge
import Derived.Laws.Bits64
import Derived.Laws.Bits64b
import Derived.Laws.Bits128
import Derived.Test.YtaaogcnjfkgnoaaMgd
import Derived.Maps.Views
import Derived.DeepKeys4
set_option maxRecDepth 100000
noncomputable section
set_option linter.unusedVariables false
set_option linter.unusedSimpArgs false
namespace Go.Proofs.Ytaaogcnjfkgnoaa
open Go.RowKit
theorem znt (a : Nat) (h : a < 2 ^ 64) : IntKind.u64.wrap (a : Int) = (a : Int) := by
 rw [IntKind.wrap_u64];omega
theorem zzl (a n : Nat) : (a : Int).fdiv (2 ^ n) = ((a / 2 ^ n : Nat) : Int) := by
 have e : (2 : Int) ^ n = ((2 ^ n : Nat) : Int) := by norm_cast
 rw [e,Int.fdiv_eq_ediv_of_nonneg _ (Int.natCast_nonneg _),Int.natCast_ediv]
section
variable {R : Type} {K : AV → Option R} {k : IntKind}
theorem zAw {a n : Nat} {b : Int} (hb : b = (n : Int)) (hn : n ≤ 64) : zMe none false false .shr (qA a) (V (.int k b)) K = K (qA (a / 2 ^ n)) := by
 subst hb
 rw [zHA,show min (n : Int).toNat IntKind.u64.bits = n by show min (n : Int).toNat 64 = n;rw [Int.toNat_natCast];omega,zzl,show decide (0 ≤ (n : Int)) = true by simp]
 rfl
theorem zBV {a b : Nat} {c : Int} (hc : c = (b : Int)) (ha : a < 2 ^ 64) (hb : b < 2 ^ 64) : zMe none false false .and (qA a) (V (.int .u64 c)) K = K (qA (a &&& b)) := by
 subst hc
 rw [zF0,bits_and_u64_nat a b ha hb]
theorem q_or {a b : Nat} (ha : a < 2 ^ 64) (hb : b < 2 ^ 64) : zMe none false false .or (qA a) (qA b) K = K (qA (a ||| b)) := by
 rw [zMS,bits_or_u64_nat a b ha hb]
theorem zAI {a b : Nat} (h : a + b < 2 ^ 64) : zMe none false false .add (qA a) (qA b) K = K (qA (a + b)) := by
 rw [zHs,show ((a : Int) + (b : Int)) = ((a + b : Nat) : Int) by omega,znt _ h]
end
theorem zyu {R : Type} {K : AV → Option R} {X d : AV} {H' : List AObj} (h : ltT 0 d = true) : z1D (some (X,H')) [d] K = K X := by
 rw [zyI,show List.all [d] (ltT 0) = true by simp [h]];rfl
theorem dlt {a n m : Nat} (h : a < m) : a / n < m := Nat.lt_of_le_of_lt (Nat.div_le_self ..) h
theorem zFo (m s : Nat) (h : s < 2 ^ 64) : z3u m (qA s) = some (nA (zKU s),[]) := by
 obtain ⟨x,y,z,e1,hx,e2,hy,e3,hz,hw,hm,hc⟩ := zFV s h
 obtain ⟨_,_,_,_,_,_,_,_,_,_,_,l1,l2⟩ := zDT s h
 have b85 : msk 85 8 < 2 ^ 64 := by rw [zIO];decide
 have b51 : msk 51 8 < 2 ^ 64 := by rw [zHi];decide
 have b15 : msk 15 8 < 2 ^ 64 := by rw [zJ1];decide
 have c85 : (6148914691236517205 : Int) = ((msk 85 8 : Nat) : Int) := by rw [zIO];rfl
 have c51 : (3689348814741910323 : Int) = ((msk 51 8 : Nat) : Int) := by rw [zHi];rfl
 have c15 : (1085102592571150095 : Int) = ((msk 15 8 : Nat) : Int) := by rw [zJ1];rfl
 have l3 : oc2 8 (oc1 8 s) < 2 ^ 63 := by
  unfold oc2
  have a1 : oc1 8 s / 2 ^ 2 &&& msk 51 8 ≤ msk 51 8 := Nat.and_le_right
  have a2 : oc1 8 s &&& msk 51 8 ≤ msk 51 8 := Nat.and_le_right
  rw [zHi] at a1 a2 ⊢
  omega
 have l4 : oc2 8 (oc1 8 s) / 2 ^ 4 + oc2 8 (oc1 8 s) < 2 ^ 64 := by omega
 rw [zdg]
 rw [zAw (a := s) (b := 1) (n := 1) rfl (by decide),zBV c85 (dlt h) b85,zBV c85 h b85,zAI (a := s / 2 ^ 1 &&& msk 85 8) (b := s &&& msk 85 8) l1]
 rw [show (s / 2 ^ 1 &&& msk 85 8) + (s &&& msk 85 8) = oc1 8 s from rfl]
 rw [zAw (b := 2) (n := 2) rfl (by decide),zBV c51 (dlt l1) b51,zBV c51 l1 b51,zAI (a := oc1 8 s / 2 ^ 2 &&& msk 51 8) (b := oc1 8 s &&& msk 51 8) l2]
 rw [show (oc1 8 s / 2 ^ 2 &&& msk 51 8) + (oc1 8 s &&& msk 51 8) = oc2 8 (oc1 8 s) from rfl]
 rw [zAw (b := 4) (n := 4) rfl (by decide),zAI l4,zBV c15 l4 b15]
 rw [show (oc2 8 (oc1 8 s) / 2 ^ 4 + oc2 8 (oc1 8 s)) &&& msk 15 8 = x from e1]
 rw [zAw (b := 8) (n := 8) rfl (by decide),zAI (by rw [show 2 ^ 8 = 256 from rfl,e2];omega),show x + x / 2 ^ 8 = y from e2]
 rw [zAw (b := 16) (n := 16) rfl (by decide),zAI (by rw [show 2 ^ 16 = 65536 from rfl,e3];omega),show y + y / 2 ^ 16 = z from e3]
 rw [zAw (b := 32) (n := 32) rfl (by decide),zAI (by rw [show 2 ^ 32 = 4294967296 from rfl];omega),show z + z / 2 ^ 32 = z + z / 4294967296 from rfl]
 rw [show (ro [] (qA (z + z / 4294967296))) = qA (z + z / 4294967296) from rfl,zrk,z2s (by omega) (by omega),zF0,i64_and127,show (((z + z / 4294967296 : Nat) : Int) % 128) = (zKU s : Int) by omega]
 rfl
def qb (i : Int) : Nat := if 0 ≤ i ∧ i ≤ 63 then 2 ^ i.toNat else 0
theorem zvg (i : Int) : qb i < 2 ^ 64 := by
 unfold qb
 split
 ·exact Nat.pow_lt_pow_right (by decide) (by omega)
 ·decide
theorem zFa (m : Nat) (i : Int) : zam m (nA i) = some (qA (qb i),[]) := by
 rw [zpu]
 by_cases h0 : i < 0
 ·rw [zAu,show decide (i < 0) = true by simpa using h0,znl]
  unfold qb
  rw [if_neg (by omega)]
  rfl
 ·rw [zAu,show decide (i < 0) = false by simpa using h0,zlV]
  by_cases h9 : 63 < i
  ·rw [zAK,show decide (63 < i) = true by simpa using h9,znl]
   unfold qb
   rw [if_neg (by omega)]
   rfl
  ·rw [zAK,show decide (63 < i) = false by simpa using h9,zlV,show (ro [] (nA i)) = nA i from rfl,zrk,zFJ (by omega) (by omega)]
   obtain ⟨n,rfl⟩ : ∃ n : Nat,i = n := ⟨i.toNat,by omega⟩
   have e : qb n = 2 ^ n := by unfold qb;rw [if_pos (by omega)];simp
   have hlt := zvg n
   rw [e] at hlt
   rw [zFz,show min (n : Int).toNat IntKind.u64.bits = n by show min (n : Int).toNat 64 = n;rw [Int.toNat_natCast];omega,show decide (0 ≤ (n : Int)) = true by simp,e]
   rw [show ((1 : Int) * 2 ^ n) = ((2 ^ n : Nat) : Int) by rw [Int.one_mul];norm_cast,znt _ hlt]
   rfl
theorem zz5 (m s : Nat) (i : Int) (h : s < 2 ^ 64) : zc4 m (qA s) (nA i) = some (qA (s ||| qb i),[]) := by
 have hb := zFa m i
 rw [znP]
 rw [show (ro [] (nA i)) = nA i from rfl,hb,zyu rfl]
 rw [q_or h (zvg i)]
 rfl
theorem zx9 (m s : Nat) (h : s < 2 ^ 64) : zao m (qA s) = some (nA (zKU s),[]) := by
 have hb := zFo m s h
 rw [zmC]
 rw [show (ro [] (qA s)) = qA s from rfl,hb,zyu rfl]
 rfl
theorem zNm {s : Nat} {i : Int} {j : Nat} (hj : j < 64) : (s ||| qb i).testBit j = (s.testBit j || decide (i = j)) := by
 rw [Nat.testBit_or]
 congr 1
 unfold qb
 split
 ·rw [Nat.testBit_two_pow]
  rw [Bool.eq_iff_iff];simp;omega
 ·rw [Nat.zero_testBit,eq_comm,decide_eq_false_iff_not];omega
end Go.Proofs.Ytaaogcnjfkgnoaa

namespace Go.Proofs.Ytaaogcnjfkgnoaa
open Go.RowKit
def zLi (n : Int) : Nat := if n < 1 then 0 else if 63 < n then 2 ^ 64 - 1 else 2 ^ n.toNat - 1
theorem zxL (n : Int) : zLi n < 2 ^ 64 := by
 unfold zLi
 split
 ·decide
 ·split
  ·decide
  ·have : 2 ^ n.toNat < 2 ^ 64 := Nat.pow_lt_pow_right (by decide) (by omega)
   omega
theorem zsx {n : Int} {j : Nat} (hj : j < 64) : (zLi n).testBit j = decide ((j : Int) < n) := by
 unfold zLi
 split
 ·rw [Nat.zero_testBit,eq_comm,decide_eq_false_iff_not];omega
 ·split
  ·rw [Nat.testBit_two_pow_sub_one,decide_eq_decide];omega
  ·rw [Nat.testBit_two_pow_sub_one,decide_eq_decide];omega
theorem zFn {R : Type} {K : AV → Option R} {a : Nat} (h : 1 ≤ a) (ha : a < 2 ^ 64) : zMe none false false .sub (qA a) (V (.int .u64 1)) K = K (qA (a - 1)) := by
 rw [zHY,show ((a : Int) - 1) = ((a - 1 : Nat) : Int) by omega,znt _ (by omega)]
theorem zI3 (m : Nat) (n : Int) : zfw m (nA n) = some (qA (zLi n),[]) := by
 have hb := zFa m n
 rw [zp4,show (ro [] (nA n)) = nA n from rfl,hb]
 unfold zLi
 by_cases h0 : n < 1
 ·rw [zAu,show decide (n < 1) = true by simpa using h0,znl,if_pos h0]
  rfl
 ·rw [zAu,show decide (n < 1) = false by simpa using h0,zlV,if_neg h0]
  by_cases h9 : 63 < n
  ·rw [zAK,show decide (63 < n) = true by simpa using h9,znl,if_pos h9]
   rfl
  ·have hp : 1 ≤ qb n := by unfold qb;rw [if_pos (by omega)];exact Nat.one_le_two_pow
   rw [zAK,show decide (63 < n) = false by simpa using h9,zlV,if_neg h9,zyu rfl,zFn hp (zvg n)]
   unfold qb
   rw [if_pos (by omega)]
   rfl
def okN (n : Int) : Bool := decide (n.tmod 3 = 1) && !decide (n < 4) && !decide (16 < n)
theorem okN_iff {n : Int} : okN n = true ↔ n = 4 ∨ n = 7 ∨ n = 10 ∨ n = 13 ∨ n = 16 := by
 unfold okN
 simp only [Bool.and_eq_true,decide_eq_true_eq,Bool.not_eq_true',decide_eq_false_iff_not]
 constructor
 ·rintro ⟨⟨h1,h2⟩,h3⟩
  rw [Int.tmod_eq_emod_of_nonneg (by omega)] at h1
  omega
 ·rintro (rfl|rfl|rfl|rfl|rfl) <;> decide
def fN (n : Int) : Nat := if okN n then (n / 3).toNat else 0
theorem zDr (n : Int) : fN n ≤ 5 := by
 unfold fN
 split
 ·rename_i h;have := okN_iff.1 h;omega
 ·decide
theorem zh6 (m : Nat) (n : Int) : z3L m (nA n) = some (TU [nA (fN n),nA (if okN n then 0 else 1)],[]) := by
 rw [zls]
 unfold fN okN
 by_cases h1 : n.tmod 3 = 1
 ·by_cases h2 : n < 4
  ·simp (config := {maxSteps := 4000000,implicitDefEqProofs := false}) only [go_sem,↓reduceIte,Nat.reduceAdd,Nat.reduceSub,Nat.reduceMul,Nat.reduceLeDiff,Nat.reduceLT,Int.reduceEq,Int.reduceNe,Int.reduceLT,Int.reduceLE,Int.reduceAdd,Int.reduceSub,Int.reduceMul,Int.reduceNeg,Nat.zero_add,Nat.add_zero,Nat.mul_one,Int.toNat_natCast,Int.natCast_zero,Int.cast_ofNat_Int,or_false,false_or,or_true,true_or,Int.reduceToNat,Nat.sub_zero,Int.natCast_nonneg,Int.toNat_zero,Bool.true_and,Bool.and_true,Bool.false_and,Bool.and_false,Bool.true_or,Bool.or_true,Bool.false_or,Bool.or_false,Bool.not_true,Bool.not_false,Bool.not_not,true_and,and_true,false_and,and_false,not_true_eq_false,not_false_eq_true,eq_self,decide_true,decide_false,ne_eq,implies_true,forall_const,true_implies,false_implies,Bool.true_eq_false,Bool.false_eq_true,reduceCtorEq,List.map_cons,List.map_nil,List.all_cons,List.all_nil,List.length_cons,List.length_nil,List.length_map,List.length_append,List.nil_append,List.cons_append,List.set_cons_zero,List.set_cons_succ,List.set_nil,List.drop_zero,List.drop_succ_cons,List.drop_nil,List.take_zero,List.take_succ_cons,List.take_nil,Option.map_some,Option.map_none,Option.isSome_some,Nat.reduceEqDiff,Nat.reduceBEq,Nat.reduceGT,List.all_append,List.all_map,Function.comp_def,decide_eq_true_eq,Bool.and_eq_true,beq_self_eq_true,or_self,and_self,ite_true,ite_false,Nat.le_refl,Bool.not_eq_true,decide_not,Bool.not_eq_true',decide_eq_false_iff_not,Bool.not_eq_false,Bool.or_eq_true,if_true,if_false,ite_self,zgt,zgL,zgT,zgD,zgN,z5I,h1,h2]
  ·by_cases h3 : 16 < n
   ·simp (config := {maxSteps := 4000000,implicitDefEqProofs := false}) only [go_sem,↓reduceIte,Nat.reduceAdd,Nat.reduceSub,Nat.reduceMul,Nat.reduceLeDiff,Nat.reduceLT,Int.reduceEq,Int.reduceNe,Int.reduceLT,Int.reduceLE,Int.reduceAdd,Int.reduceSub,Int.reduceMul,Int.reduceNeg,Nat.zero_add,Nat.add_zero,Nat.mul_one,Int.toNat_natCast,Int.natCast_zero,Int.cast_ofNat_Int,or_false,false_or,or_true,true_or,Int.reduceToNat,Nat.sub_zero,Int.natCast_nonneg,Int.toNat_zero,Bool.true_and,Bool.and_true,Bool.false_and,Bool.and_false,Bool.true_or,Bool.or_true,Bool.false_or,Bool.or_false,Bool.not_true,Bool.not_false,Bool.not_not,true_and,and_true,false_and,and_false,not_true_eq_false,not_false_eq_true,eq_self,decide_true,decide_false,ne_eq,implies_true,forall_const,true_implies,false_implies,Bool.true_eq_false,Bool.false_eq_true,reduceCtorEq,List.map_cons,List.map_nil,List.all_cons,List.all_nil,List.length_cons,List.length_nil,List.length_map,List.length_append,List.nil_append,List.cons_append,List.set_cons_zero,List.set_cons_succ,List.set_nil,List.drop_zero,List.drop_succ_cons,List.drop_nil,List.take_zero,List.take_succ_cons,List.take_nil,Option.map_some,Option.map_none,Option.isSome_some,Nat.reduceEqDiff,Nat.reduceBEq,Nat.reduceGT,List.all_append,List.all_map,Function.comp_def,decide_eq_true_eq,Bool.and_eq_true,beq_self_eq_true,or_self,and_self,ite_true,ite_false,Nat.le_refl,Bool.not_eq_true,decide_not,Bool.not_eq_true',decide_eq_false_iff_not,Bool.not_eq_false,Bool.or_eq_true,if_true,if_false,ite_self,zgt,zgL,zgT,zgD,zgN,z5I,h1,h2,h3]
   ·have e : n.tdiv 3 = ((n / 3).toNat : Int) := by rw [Int.tdiv_eq_ediv_of_nonneg (by omega)];omega
    have e2 : IntKind.i64.wrap (n.tdiv 3) = ((n / 3).toNat : Int) := by rw [z2s (by omega) (by omega),e]
    simp (config := {maxSteps := 4000000,implicitDefEqProofs := false}) only [go_sem,↓reduceIte,Nat.reduceAdd,Nat.reduceSub,Nat.reduceMul,Nat.reduceLeDiff,Nat.reduceLT,Int.reduceEq,Int.reduceNe,Int.reduceLT,Int.reduceLE,Int.reduceAdd,Int.reduceSub,Int.reduceMul,Int.reduceNeg,Nat.zero_add,Nat.add_zero,Nat.mul_one,Int.toNat_natCast,Int.natCast_zero,Int.cast_ofNat_Int,or_false,false_or,or_true,true_or,Int.reduceToNat,Nat.sub_zero,Int.natCast_nonneg,Int.toNat_zero,Bool.true_and,Bool.and_true,Bool.false_and,Bool.and_false,Bool.true_or,Bool.or_true,Bool.false_or,Bool.or_false,Bool.not_true,Bool.not_false,Bool.not_not,true_and,and_true,false_and,and_false,not_true_eq_false,not_false_eq_true,eq_self,decide_true,decide_false,ne_eq,implies_true,forall_const,true_implies,false_implies,Bool.true_eq_false,Bool.false_eq_true,reduceCtorEq,List.map_cons,List.map_nil,List.all_cons,List.all_nil,List.length_cons,List.length_nil,List.length_map,List.length_append,List.nil_append,List.cons_append,List.set_cons_zero,List.set_cons_succ,List.set_nil,List.drop_zero,List.drop_succ_cons,List.drop_nil,List.take_zero,List.take_succ_cons,List.take_nil,Option.map_some,Option.map_none,Option.isSome_some,Nat.reduceEqDiff,Nat.reduceBEq,Nat.reduceGT,List.all_append,List.all_map,Function.comp_def,decide_eq_true_eq,Bool.and_eq_true,beq_self_eq_true,or_self,and_self,ite_true,ite_false,Nat.le_refl,Bool.not_eq_true,decide_not,Bool.not_eq_true',decide_eq_false_iff_not,Bool.not_eq_false,Bool.or_eq_true,if_true,if_false,ite_self,zgt,zgL,zgT,zgD,zgN,z5I,h1,h2,h3,e2]
 ·simp (config := {maxSteps := 4000000,implicitDefEqProofs := false}) only [go_sem,↓reduceIte,Nat.reduceAdd,Nat.reduceSub,Nat.reduceMul,Nat.reduceLeDiff,Nat.reduceLT,Int.reduceEq,Int.reduceNe,Int.reduceLT,Int.reduceLE,Int.reduceAdd,Int.reduceSub,Int.reduceMul,Int.reduceNeg,Nat.zero_add,Nat.add_zero,Nat.mul_one,Int.toNat_natCast,Int.natCast_zero,Int.cast_ofNat_Int,or_false,false_or,or_true,true_or,Int.reduceToNat,Nat.sub_zero,Int.natCast_nonneg,Int.toNat_zero,Bool.true_and,Bool.and_true,Bool.false_and,Bool.and_false,Bool.true_or,Bool.or_true,Bool.false_or,Bool.or_false,Bool.not_true,Bool.not_false,Bool.not_not,true_and,and_true,false_and,and_false,not_true_eq_false,not_false_eq_true,eq_self,decide_true,decide_false,ne_eq,implies_true,forall_const,true_implies,false_implies,Bool.true_eq_false,Bool.false_eq_true,reduceCtorEq,List.map_cons,List.map_nil,List.all_cons,List.all_nil,List.length_cons,List.length_nil,List.length_map,List.length_append,List.nil_append,List.cons_append,List.set_cons_zero,List.set_cons_succ,List.set_nil,List.drop_zero,List.drop_succ_cons,List.drop_nil,List.take_zero,List.take_succ_cons,List.take_nil,Option.map_some,Option.map_none,Option.isSome_some,Nat.reduceEqDiff,Nat.reduceBEq,Nat.reduceGT,List.all_append,List.all_map,Function.comp_def,decide_eq_true_eq,Bool.and_eq_true,beq_self_eq_true,or_self,and_self,ite_true,ite_false,Nat.le_refl,Bool.not_eq_true,decide_not,Bool.not_eq_true',decide_eq_false_iff_not,Bool.not_eq_false,Bool.or_eq_true,if_true,if_false,ite_self,zgt,zgL,zgT,zgD,zgN,z5I,h1]
theorem zA2 (m : Nat) (n : Int) : zaS m (nA n) = some (nA (if okN n then 2 * (fN n : Int) + 1 else 0),[]) := by
 have h := zh6 m n
 have hl := zDr n
 rw [zlY]
 have e1 : IntKind.i64.wrap (2 * (fN n : Int)) = 2 * (fN n : Int) := z2s (by omega) (by omega)
 have e2 : IntKind.i64.wrap (2 * (fN n : Int) + 1) = 2 * (fN n : Int) + 1 := z2s (by omega) (by omega)
 cases ho : okN n with
 |true=>rw [ho] at h;simp (config := {maxSteps := 4000000,implicitDefEqProofs := false}) only [go_sem,↓reduceIte,Nat.reduceAdd,Nat.reduceSub,Nat.reduceMul,Nat.reduceLeDiff,Nat.reduceLT,Int.reduceEq,Int.reduceNe,Int.reduceLT,Int.reduceLE,Int.reduceAdd,Int.reduceSub,Int.reduceMul,Int.reduceNeg,Nat.zero_add,Nat.add_zero,Nat.mul_one,Int.toNat_natCast,Int.natCast_zero,Int.cast_ofNat_Int,or_false,false_or,or_true,true_or,Int.reduceToNat,Nat.sub_zero,Int.natCast_nonneg,Int.toNat_zero,Bool.true_and,Bool.and_true,Bool.false_and,Bool.and_false,Bool.true_or,Bool.or_true,Bool.false_or,Bool.or_false,Bool.not_true,Bool.not_false,Bool.not_not,true_and,and_true,false_and,and_false,not_true_eq_false,not_false_eq_true,eq_self,decide_true,decide_false,ne_eq,implies_true,forall_const,true_implies,false_implies,Bool.true_eq_false,Bool.false_eq_true,reduceCtorEq,List.map_cons,List.map_nil,List.all_cons,List.all_nil,List.length_cons,List.length_nil,List.length_map,List.length_append,List.nil_append,List.cons_append,List.set_cons_zero,List.set_cons_succ,List.set_nil,List.drop_zero,List.drop_succ_cons,List.drop_nil,List.take_zero,List.take_succ_cons,List.take_nil,Option.map_some,Option.map_none,Option.isSome_some,Nat.reduceEqDiff,Nat.reduceBEq,Nat.reduceGT,List.all_append,List.all_map,Function.comp_def,decide_eq_true_eq,Bool.and_eq_true,beq_self_eq_true,or_self,and_self,ite_true,ite_false,Nat.le_refl,Bool.not_eq_true,decide_not,Bool.not_eq_true',decide_eq_false_iff_not,Bool.not_eq_false,Bool.or_eq_true,if_true,if_false,ite_self,zgt,zgL,zgT,zgD,zgN,z5I,h,ho,e1,e2]
 |false=>rw [ho] at h;simp (config := {maxSteps := 4000000,implicitDefEqProofs := false}) only [go_sem,↓reduceIte,Nat.reduceAdd,Nat.reduceSub,Nat.reduceMul,Nat.reduceLeDiff,Nat.reduceLT,Int.reduceEq,Int.reduceNe,Int.reduceLT,Int.reduceLE,Int.reduceAdd,Int.reduceSub,Int.reduceMul,Int.reduceNeg,Nat.zero_add,Nat.add_zero,Nat.mul_one,Int.toNat_natCast,Int.natCast_zero,Int.cast_ofNat_Int,or_false,false_or,or_true,true_or,Int.reduceToNat,Nat.sub_zero,Int.natCast_nonneg,Int.toNat_zero,Bool.true_and,Bool.and_true,Bool.false_and,Bool.and_false,Bool.true_or,Bool.or_true,Bool.false_or,Bool.or_false,Bool.not_true,Bool.not_false,Bool.not_not,true_and,and_true,false_and,and_false,not_true_eq_false,not_false_eq_true,eq_self,decide_true,decide_false,ne_eq,implies_true,forall_const,true_implies,false_implies,Bool.true_eq_false,Bool.false_eq_true,reduceCtorEq,List.map_cons,List.map_nil,List.all_cons,List.all_nil,List.length_cons,List.length_nil,List.length_map,List.length_append,List.nil_append,List.cons_append,List.set_cons_zero,List.set_cons_succ,List.set_nil,List.drop_zero,List.drop_succ_cons,List.drop_nil,List.take_zero,List.take_succ_cons,List.take_nil,Option.map_some,Option.map_none,Option.isSome_some,Nat.reduceEqDiff,Nat.reduceBEq,Nat.reduceGT,List.all_append,List.all_map,Function.comp_def,decide_eq_true_eq,Bool.and_eq_true,beq_self_eq_true,or_self,and_self,ite_true,ite_false,Nat.le_refl,Bool.not_eq_true,decide_not,Bool.not_eq_true',decide_eq_false_iff_not,Bool.not_eq_false,Bool.or_eq_true,if_true,if_false,ite_self,zgt,zgL,zgT,zgD,zgN,z5I,h,ho]
theorem zyd (m s : Nat) (n k : Int) (h : s < 2 ^ 64) : zaX m (qA s) (nA n) (nA k) = some (bA (decide (0 < k) && decide (k ≤ (zKU (s &&& zLi n) : Int))),[]) := by
 have hlt := zxL n
 have ha := zI3 m n
 have hc := zx9 m (s &&& zLi n) (Nat.lt_of_le_of_lt Nat.and_le_left h)
 have hb := bits_and_u64_nat s (zLi n) h hlt
 rw [zm0]
 by_cases h0 : 0 < k
 ·simp (config := {maxSteps := 4000000,implicitDefEqProofs := false}) only [go_sem,↓reduceIte,Nat.reduceAdd,Nat.reduceSub,Nat.reduceMul,Nat.reduceLeDiff,Nat.reduceLT,Int.reduceEq,Int.reduceNe,Int.reduceLT,Int.reduceLE,Int.reduceAdd,Int.reduceSub,Int.reduceMul,Int.reduceNeg,Nat.zero_add,Nat.add_zero,Nat.mul_one,Int.toNat_natCast,Int.natCast_zero,Int.cast_ofNat_Int,or_false,false_or,or_true,true_or,Int.reduceToNat,Nat.sub_zero,Int.natCast_nonneg,Int.toNat_zero,Bool.true_and,Bool.and_true,Bool.false_and,Bool.and_false,Bool.true_or,Bool.or_true,Bool.false_or,Bool.or_false,Bool.not_true,Bool.not_false,Bool.not_not,true_and,and_true,false_and,and_false,not_true_eq_false,not_false_eq_true,eq_self,decide_true,decide_false,ne_eq,implies_true,forall_const,true_implies,false_implies,Bool.true_eq_false,Bool.false_eq_true,reduceCtorEq,List.map_cons,List.map_nil,List.all_cons,List.all_nil,List.length_cons,List.length_nil,List.length_map,List.length_append,List.nil_append,List.cons_append,List.set_cons_zero,List.set_cons_succ,List.set_nil,List.drop_zero,List.drop_succ_cons,List.drop_nil,List.take_zero,List.take_succ_cons,List.take_nil,Option.map_some,Option.map_none,Option.isSome_some,Nat.reduceEqDiff,Nat.reduceBEq,Nat.reduceGT,List.all_append,List.all_map,Function.comp_def,decide_eq_true_eq,Bool.and_eq_true,beq_self_eq_true,or_self,and_self,ite_true,ite_false,Nat.le_refl,Bool.not_eq_true,decide_not,Bool.not_eq_true',decide_eq_false_iff_not,Bool.not_eq_false,Bool.or_eq_true,if_true,if_false,ite_self,zgt,zgL,zgT,zgD,zgN,z5I,h0,ha,hc,hb]
 ·simp (config := {maxSteps := 4000000,implicitDefEqProofs := false}) only [go_sem,↓reduceIte,Nat.reduceAdd,Nat.reduceSub,Nat.reduceMul,Nat.reduceLeDiff,Nat.reduceLT,Int.reduceEq,Int.reduceNe,Int.reduceLT,Int.reduceLE,Int.reduceAdd,Int.reduceSub,Int.reduceMul,Int.reduceNeg,Nat.zero_add,Nat.add_zero,Nat.mul_one,Int.toNat_natCast,Int.natCast_zero,Int.cast_ofNat_Int,or_false,false_or,or_true,true_or,Int.reduceToNat,Nat.sub_zero,Int.natCast_nonneg,Int.toNat_zero,Bool.true_and,Bool.and_true,Bool.false_and,Bool.and_false,Bool.true_or,Bool.or_true,Bool.false_or,Bool.or_false,Bool.not_true,Bool.not_false,Bool.not_not,true_and,and_true,false_and,and_false,not_true_eq_false,not_false_eq_true,eq_self,decide_true,decide_false,ne_eq,implies_true,forall_const,true_implies,false_implies,Bool.true_eq_false,Bool.false_eq_true,reduceCtorEq,List.map_cons,List.map_nil,List.all_cons,List.all_nil,List.length_cons,List.length_nil,List.length_map,List.length_append,List.nil_append,List.cons_append,List.set_cons_zero,List.set_cons_succ,List.set_nil,List.drop_zero,List.drop_succ_cons,List.drop_nil,List.take_zero,List.take_succ_cons,List.take_nil,Option.map_some,Option.map_none,Option.isSome_some,Nat.reduceEqDiff,Nat.reduceBEq,Nat.reduceGT,List.all_append,List.all_map,Function.comp_def,decide_eq_true_eq,Bool.and_eq_true,beq_self_eq_true,or_self,and_self,ite_true,ite_false,Nat.le_refl,Bool.not_eq_true,decide_not,Bool.not_eq_true',decide_eq_false_iff_not,Bool.not_eq_false,Bool.or_eq_true,if_true,if_false,ite_self,zgt,zgL,zgT,zgD,zgN,z5I,h0]
theorem zmh (m s : Nat) (n : Int) (h : s < 2 ^ 64) : z5N m (qA s) (nA n) = some (bA (okN n && decide (2 * (fN n : Int) + 1 ≤ (zKU (s &&& zLi n) : Int))),[]) := by
 have h1 := zA2 m n
 have h2 := zyd m s n (if okN n then 2 * (fN n : Int) + 1 else 0) h
 rw [zjx]
 cases ho : okN n with
 |true =>
  simp only [ho,if_true] at h1 h2
  have h0 : (0 : Int) < 2 * (fN n : Int) + 1 := by omega
  simp (config := {maxSteps := 4000000,implicitDefEqProofs := false}) only [go_sem,↓reduceIte,Nat.reduceAdd,Nat.reduceSub,Nat.reduceMul,Nat.reduceLeDiff,Nat.reduceLT,Int.reduceEq,Int.reduceNe,Int.reduceLT,Int.reduceLE,Int.reduceAdd,Int.reduceSub,Int.reduceMul,Int.reduceNeg,Nat.zero_add,Nat.add_zero,Nat.mul_one,Int.toNat_natCast,Int.natCast_zero,Int.cast_ofNat_Int,or_false,false_or,or_true,true_or,Int.reduceToNat,Nat.sub_zero,Int.natCast_nonneg,Int.toNat_zero,Bool.true_and,Bool.and_true,Bool.false_and,Bool.and_false,Bool.true_or,Bool.or_true,Bool.false_or,Bool.or_false,Bool.not_true,Bool.not_false,Bool.not_not,true_and,and_true,false_and,and_false,not_true_eq_false,not_false_eq_true,eq_self,decide_true,decide_false,ne_eq,implies_true,forall_const,true_implies,false_implies,Bool.true_eq_false,Bool.false_eq_true,reduceCtorEq,List.map_cons,List.map_nil,List.all_cons,List.all_nil,List.length_cons,List.length_nil,List.length_map,List.length_append,List.nil_append,List.cons_append,List.set_cons_zero,List.set_cons_succ,List.set_nil,List.drop_zero,List.drop_succ_cons,List.drop_nil,List.take_zero,List.take_succ_cons,List.take_nil,Option.map_some,Option.map_none,Option.isSome_some,Nat.reduceEqDiff,Nat.reduceBEq,Nat.reduceGT,List.all_append,List.all_map,Function.comp_def,decide_eq_true_eq,Bool.and_eq_true,beq_self_eq_true,or_self,and_self,ite_true,ite_false,Nat.le_refl,Bool.not_eq_true,decide_not,Bool.not_eq_true',decide_eq_false_iff_not,Bool.not_eq_false,Bool.or_eq_true,if_true,if_false,ite_self,zgt,zgL,zgT,zgD,zgN,z5I,h1,h2,h0]
 |false =>
  simp only [ho,Bool.false_eq_true,if_false] at h1 h2
  simp (config := {maxSteps := 4000000,implicitDefEqProofs := false}) only [go_sem,↓reduceIte,Nat.reduceAdd,Nat.reduceSub,Nat.reduceMul,Nat.reduceLeDiff,Nat.reduceLT,Int.reduceEq,Int.reduceNe,Int.reduceLT,Int.reduceLE,Int.reduceAdd,Int.reduceSub,Int.reduceMul,Int.reduceNeg,Nat.zero_add,Nat.add_zero,Nat.mul_one,Int.toNat_natCast,Int.natCast_zero,Int.cast_ofNat_Int,or_false,false_or,or_true,true_or,Int.reduceToNat,Nat.sub_zero,Int.natCast_nonneg,Int.toNat_zero,Bool.true_and,Bool.and_true,Bool.false_and,Bool.and_false,Bool.true_or,Bool.or_true,Bool.false_or,Bool.or_false,Bool.not_true,Bool.not_false,Bool.not_not,true_and,and_true,false_and,and_false,not_true_eq_false,not_false_eq_true,eq_self,decide_true,decide_false,ne_eq,implies_true,forall_const,true_implies,false_implies,Bool.true_eq_false,Bool.false_eq_true,reduceCtorEq,List.map_cons,List.map_nil,List.all_cons,List.all_nil,List.length_cons,List.length_nil,List.length_map,List.length_append,List.nil_append,List.cons_append,List.set_cons_zero,List.set_cons_succ,List.set_nil,List.drop_zero,List.drop_succ_cons,List.drop_nil,List.take_zero,List.take_succ_cons,List.take_nil,Option.map_some,Option.map_none,Option.isSome_some,Nat.reduceEqDiff,Nat.reduceBEq,Nat.reduceGT,List.all_append,List.all_map,Function.comp_def,decide_eq_true_eq,Bool.and_eq_true,beq_self_eq_true,or_self,and_self,ite_true,ite_false,Nat.le_refl,Bool.not_eq_true,decide_not,Bool.not_eq_true',decide_eq_false_iff_not,Bool.not_eq_false,Bool.or_eq_true,if_true,if_false,ite_self,zgt,zgL,zgT,zgD,zgN,z5I,h1,h2]
end Go.Proofs.Ytaaogcnjfkgnoaa

namespace Go.Proofs.Ytaaogcnjfkgnoaa
open Go.RowKit
end Go.Proofs.Ytaaogcnjfkgnoaa

section
namespace Go.Proofs.Ytaaogcnjfkgnoaa
attribute [local go_sem] Nat.zero_add Nat.add_zero Nat.mul_one Int.toNat_natCast Int.natCast_zero Int.cast_ofNat_Int or_false false_or or_true true_or Nat.sub_zero Int.natCast_nonneg Int.toNat_zero Bool.true_and Bool.and_true Bool.false_and Bool.and_false Bool.true_or Bool.or_true Bool.false_or Bool.or_false Bool.not_true Bool.not_false Bool.not_not true_and and_true false_and and_false not_true_eq_false not_false_eq_true eq_self decide_true decide_false ne_eq implies_true forall_const true_implies false_implies Bool.true_eq_false Bool.false_eq_true List.map_cons List.map_nil List.all_cons List.all_nil List.length_cons List.length_nil List.length_map List.length_append List.nil_append List.cons_append List.set_cons_zero List.set_cons_succ List.set_nil List.drop_zero List.drop_succ_cons List.drop_nil List.take_zero List.take_succ_cons List.take_nil Option.map_some Option.map_none Option.isSome_some List.all_append List.all_map Function.comp_def decide_eq_true_eq Bool.and_eq_true beq_self_eq_true or_self and_self ite_true ite_false Nat.le_refl Bool.not_eq_true decide_not Bool.not_eq_true' decide_eq_false_iff_not Bool.not_eq_false Bool.or_eq_true if_true if_false ite_self zgt zgL zgT zgD zgN z5I z6x znr zim zl3 znw zj7 zut zii zw8 zoB znT zva zdk z9t zwp zd2 z9U zw5 zcG z9R zw2 ze0 z9K zwc zdv z9B ziK zd1 ziP zop zok zdz ziu zda zdw zfG zhD zo0 zoy zi3 ziH zoh ziC zwi ziG zvM znZ zoK zuK zcE z9s zw4 zdP z9q zvE zdh z9Q zhM z7f z58 zw1 zdI z9O zj8 zd3 zi7 zno zoe zdJ zic zdF zcX zfx zi8 zaD znN ziB zmB zoo ziO zvb ziX zvZ znv zon zv4 zdb z9S zwg zdZ z9X zun zd7 z9P zuX ze2 z9E zv6 zdn z9M zv5 zdS z9A zhP zdB zi9 znO zoa zcS ziS zcC zdx zgR zhQ zmH zot ziV zmt znC zhE zup zhJ zvO znS znV zvX zcP z9Z zvW zcR z9v zwk zcV z9p zwn zcY z9z zux zcD z9N zj1 z7s z5l zvA zdN z9o zoc z9w z7m zih zdG ziz zo7 znJ zdY zig zdH zde zhR zhX ztp znA zhN znx zou zhx zvj ziJ zuT zoz zox zuA zdO z9H zvp zd5 z9T ziM z6A z5a zuG zdl z9J zij zd4 zhL zoC znq zd8 zia zdu zcU zfe ziW zvn znX zif zog znG ziU zw7 zhz zv8 zny zow zvc zcH z9F zvm zcW z9L zuS zcJ z9I zvV zcF za0 zuH zdV z9C zvL zdR z9Y zik ziv znL zqn zMd zvo zuZ zvk zvS zvN zus zuJ zwA zwD zAL
attribute [local go_sem_proc] Nat.reduceAdd Nat.reduceSub Nat.reduceMul Nat.reduceLeDiff Nat.reduceLT Int.reduceEq Int.reduceNe Int.reduceLT Int.reduceLE Int.reduceAdd Int.reduceSub Int.reduceMul Int.reduceNeg Int.reduceToNat reduceCtorEq Nat.reduceEqDiff Nat.reduceBEq Nat.reduceGT
attribute [local go_sem_proc ↓] reduceIte
section
open Go.RowKit
attribute [local go_sem] List.take_length
theorem zA9 {x0 x1 x2 x3 x4 x5 : AV} : z09 zc_api_Change 0 [x0,x1,x2,x3,x4,x5] = [x0,x1,x2,x3,x4,x5] := _root_.id rfl
theorem zBm {x0 x1 x2 x3 : Int} {x4 : List Sm} {x5 : List Ce} : cgC ⟨x0,x1,x2,x3,x4,x5⟩ = [nA x0,nA x1,nA x2,nA x3,SL (x4.map smE),SL (x5.map ceE)] := _root_.id rfl
theorem zAi {x0 x1 x2 x3 x4 x5 x6 x7 : AV} : z09 zc_api_Msg 0 [x0,x1,x2,x3,x4,x5,x6,x7] = [x0,x1,x2,x3,x4,x5,x6,x7] := _root_.id rfl
theorem zB6 {x0 x1 x2 x3 x4 : Int} {x5 : List UInt8} {x6 : List Sm} {x7 : List Ch} : msC ⟨x0,x1,x2,x3,x4,x5,x6,x7⟩ = [nA x0,nA x1,nA x2,nA x3,nA x4,sA x5,SL (x6.map smE),SL (x7.map cgE)] := _root_.id rfl
end

section
open Go.RowKit
attribute [local go_sem] z3r List.take_length
def txF (s : List UInt8) : List UInt8 := if 3000 < s.length ∧ s.length ≤ 65536 then s.take 3000 else if 65540 < s.length then s.take 65540 else s
def ceF (x : Ce) : Ce := { x with body := txF x.body,vs := x.vs.take 66 }
def cgF (x : Ch) : Ch := { x with pf := x.pf.take 66,cs := (x.cs.take 66).map ceF }
def msF (x : Ms) : Ms := { x with body := txF x.body,vs := x.vs.take 66,chs := (x.chs.take 66).map cgF }
theorem zxS (m : Nat) (s : List UInt8) (h : s.length ≤ 9223372036854775807) : z4J m (sA s) = some (sA (txF s),[]) := by
 rw [zj5]
 unfold txF
 by_cases h1 : 3000 < s.length
 ·have h1' : (s.length : Int) > 3000 := by omega
  by_cases h2 : s.length ≤ 65536
  ·have h2' : (s.length : Int) ≤ 65536 := by omega
   have h3' : (3000 : Int) ≤ (s.length : Int) := by omega
   simp (config := {maxSteps := 4000000,implicitDefEqProofs := false}) (disch := omega) only [go_sem,h1,h2,h1',h2',h3',z33,z3a]
  ·have h2' : ¬ (s.length : Int) ≤ 65536 := by omega
   by_cases h4 : 65540 < s.length
   ·have h4' : (s.length : Int) > 65540 := by omega
    have h3' : (65540 : Int) ≤ (s.length : Int) := by omega
    simp (config := {maxSteps := 4000000,implicitDefEqProofs := false}) (disch := omega) only [go_sem,h1,h2,h1',h2',h4,h4',h3',z33,z3a]
   ·have h4' : ¬ (s.length : Int) > 65540 := by omega
    simp (config := {maxSteps := 4000000,implicitDefEqProofs := false}) (disch := omega) only [go_sem,h1,h2,h1',h2',h4,h4',z33,z3a]
 ·have h1' : ¬ (s.length : Int) > 3000 := by omega
  have h4 : ¬ 65540 < s.length := by omega
  have h4' : ¬ (s.length : Int) > 65540 := by omega
  simp (config := {maxSteps := 4000000,implicitDefEqProofs := false}) (disch := omega) only [go_sem,h1,h1',h4,h4',z33,z3a]
theorem zM4 {α : Type} {f : α → AV} {l : List α} {n : Nat} : zL8 (l.map f) 0 n = (l.take n).map f := by
 unfold zL8
 simp [List.map_take]
theorem zA4 {α : Type} {f : α → AV} {l : List α} : zL8 (l.map f) 0 66 = (l.take 66).map f := zM4 (n := 66)
theorem zqI (m : Nat) (l : List Sm) (h : l.length ≤ 9223372036854775807) : z31 m (SL (l.map smE)) = some (SL ((l.take 66).map smE),[]) := by
 rw [zh5]
 by_cases h1 : 66 < l.length
 ·have h1' : (l.length : Int) > 66 := by omega
  have h3' : (66 : Int) ≤ (l.length : Int) := by omega
  simp (config := {maxSteps := 4000000,implicitDefEqProofs := false}) (disch := omega) only [go_sem,h1',h3',zA4]
 ·have h1' : ¬ (l.length : Int) > 66 := by omega
  rw [List.take_of_length_le (show l.length ≤ 66 by omega)]
  simp (config := {maxSteps := 4000000,implicitDefEqProofs := false}) (disch := omega) only [go_sem,h1']
theorem zHt {x : Ce} : ceC ⟨x.sq,x.vw,x.tm,txF x.body,x.vs.take 66⟩ = ceC (ceF x) := rfl
theorem zIP {A0 A1 : AObj} {e z m : Nat} {c : List AV} {Y : List AObj} : ro1 (A0 :: A1 :: ⟨2,e,z,c⟩ :: Y) (OW 2 m) = if m = c.length then SL c else OW 2 m := by simp [ro1]
theorem zIV (m : Nat) (x0 x1 x2 x3 : Int) (pf : List Sm) (cs : List Ce) (hm : 70 < m) (hc : cs.length ≤ 66) (hv : ∀ y ∈ cs,y.body.length ≤ 9223372036854775807 ∧ y.vs.length ≤ 9223372036854775807) :
  z2l m ⟨[⟨1,z00,0,[nA x0,nA x1,nA x2,nA x3,SL (pf.map smE),SL (cs.map ceE)]⟩,⟨1,z00,0,zc_api_Change⟩],[(1,OP 0 0),(2,OP 1 0)]⟩ = some (.agg (cgC ⟨x0,x1,x2,x3,pf,cs.map ceF⟩),[]) := by
 rw [z2Y,zBm]
 simp (config := {maxSteps := 4000000,implicitDefEqProofs := false}) (disch := omega) only [go_sem,]
 refine z13 (m := m) (ι := {k : Nat // k ≤ cs.length}) (fun k=>⟨[⟨1,z00,0,[nA x0,nA x1,nA x2,nA x3,SL (pf.map smE),SL (cs.map ceE)]⟩,⟨1,z00,0,zc_api_Change⟩,⟨2,z07,5,((cs.take k.1).map ceF).map ceE⟩],[(1,OP 0 0),(2,OP 1 0),(3,OW 2 k.1),(4,nA k.1)]⟩) (fun k=>cs.length - k.1) (fun _=>some (DataW.agg [nA x0,nA x1,nA x2,nA x3,SL (pf.map smE),SL ((cs.map ceF).map ceE)],[])) ?_ ⟨0,Nat.zero_le _⟩ (by dsimp only;omega)
 rintro kx hkx ⟨k,hk⟩ kc hkc
 dsimp only at hkc ⊢
 rw [zaF]
 have hxs : ∀ n,(((cs.take k).map ceF).map ceE).all (ltA n) = true := fun n=>by rw [List.all_map];exact zfx
 have hlen : (((cs.take k).map ceF).map ceE).length = k := by simp;omega
 by_cases hlt : k < cs.length
 ·have hlt' : (k : Int) < (cs.length : Int) := by omega
  obtain ⟨v1,v2⟩ := hv cs[k] (List.getElem_mem hlt)
  have g1 := zxS m cs[k].body v1
  have g2 := zqI m cs[k].vs v2
  have step := hkc ⟨k + 1,by omega⟩ (by dsimp only;omega)
  dsimp only at step
  rw [List.take_succ_eq_append_getElem hlt] at step
  simp only [List.map_append,List.map_cons,List.map_nil,zo0] at step
  generalize hX : ((cs.take k).map ceF).map ceE = XS at *
  have hroom : k + 1 ≤ 34359738368 := by omega
  simp (config := {maxSteps := 4000000,implicitDefEqProofs := false}) (disch := omega) only [go_sem,hlt',g1,g2,zHt,hxs,hlen,hroom,z2s,z5o,z2Y]
  exact step
 ·obtain rfl : k = cs.length := by omega
  have hlt' : ¬ (cs.length : Int) < (cs.length : Int) := Int.lt_irrefl _
  have hk2 : cs.take cs.length = cs := List.take_of_length_le (Nat.le_refl _)
  rw [hk2] at hxs ⊢
  simp (config := {maxSteps := 4000000,implicitDefEqProofs := false}) (disch := omega) only [go_sem,hlt',hkx,hxs,zA9,zIP,z5o,z2Y]
theorem zrX (m : Nat) (x : Ch) (hm : 70 < m) (hp : x.pf.length ≤ 9223372036854775807) (hc : x.cs.length ≤ 9223372036854775807) (hv : ∀ y ∈ x.cs,y.body.length ≤ 9223372036854775807 ∧ y.vs.length ≤ 9223372036854775807) : z3s m (cgE x) = some (cgE (cgF x),[]) := by
 obtain ⟨x0,x1,x2,x3,pf,cs⟩ := x
 dsimp only at hp hc hv
 have g1 := zqI m pf hp
 rw [zd0,zaD,zaD,zBm]
 unfold cgF
 dsimp only
 by_cases h1 : 66 < cs.length
 ·have h1' : (cs.length : Int) > 66 := by omega
  have h3' : (66 : Int) ≤ (cs.length : Int) := by omega
  have hF := zIV m x0 x1 x2 x3 (pf.take 66) (cs.take 66) hm (by simp;omega) (fun y hy=>hv y (List.mem_of_mem_take hy))
  simp (config := {maxSteps := 4000000,implicitDefEqProofs := false}) (disch := omega) only [go_sem,g1,h1',h3',zA4,hF]
 ·have h1' : ¬ (cs.length : Int) > 66 := by omega
  have hF := zIV m x0 x1 x2 x3 (pf.take 66) cs hm (by omega) hv
  rw [List.take_of_length_le (show cs.length ≤ 66 by omega)]
  simp (config := {maxSteps := 4000000,implicitDefEqProofs := false}) (disch := omega) only [go_sem,g1,h1',hF]
def zMX (x : Ch) : Prop := x.pf.length ≤ 9223372036854775807 ∧ x.cs.length ≤ 9223372036854775807 ∧ ∀ y ∈ x.cs,y.body.length ≤ 9223372036854775807 ∧ y.vs.length ≤ 9223372036854775807
def zLA (x : Ms) : Prop := x.body.length ≤ 9223372036854775807 ∧ x.vs.length ≤ 9223372036854775807 ∧ x.chs.length ≤ 9223372036854775807 ∧ ∀ y ∈ x.chs,zMX y
theorem zIq (m : Nat) (x0 x1 x2 x3 x4 : Int) (x5 : List UInt8) (x6 : List Sm) (cs : List Ch) (hm : 70 < m) (hc : cs.length ≤ 66) (hv : ∀ y ∈ cs,zMX y) :
  z59 m ⟨[⟨1,z0t,0,[nA x0,nA x1,nA x2,nA x3,nA x4,sA x5,SL (x6.map smE),SL (cs.map cgE)]⟩,⟨1,z0t,0,zc_api_Msg⟩],[(1,OP 0 0),(2,OP 1 0)]⟩ = some (.agg (msC ⟨x0,x1,x2,x3,x4,x5,x6,cs.map cgF⟩),[]) := by
 rw [z5w,zB6]
 simp (config := {maxSteps := 4000000,implicitDefEqProofs := false}) (disch := omega) only [go_sem,]
 refine z13 (m := m) (ι := {k : Nat // k ≤ cs.length}) (fun k=>⟨[⟨1,z0t,0,[nA x0,nA x1,nA x2,nA x3,nA x4,sA x5,SL (x6.map smE),SL (cs.map cgE)]⟩,⟨1,z0t,0,zc_api_Msg⟩,⟨2,z00,6,((cs.take k.1).map cgF).map cgE⟩],[(1,OP 0 0),(2,OP 1 0),(3,OW 2 k.1),(4,nA k.1)]⟩) (fun k=>cs.length - k.1) (fun _=>some (DataW.agg [nA x0,nA x1,nA x2,nA x3,nA x4,sA x5,SL (x6.map smE),SL ((cs.map cgF).map cgE)],[])) ?_ ⟨0,Nat.zero_le _⟩ (by dsimp only;omega)
 rintro kx hkx ⟨k,hk⟩ kc hkc
 dsimp only at hkc ⊢
 rw [zg2]
 have hxs : ∀ n,(((cs.take k).map cgF).map cgE).all (ltA n) = true := fun n=>by rw [List.all_map];exact zgR
 have hlen : (((cs.take k).map cgF).map cgE).length = k := by simp;omega
 by_cases hlt : k < cs.length
 ·have hlt' : (k : Int) < (cs.length : Int) := by omega
  obtain ⟨v1,v2,v3⟩ := hv cs[k] (List.getElem_mem hlt)
  have g1 := zrX m cs[k] hm v1 v2 v3
  rw [zaD,zaD] at g1
  have step := hkc ⟨k + 1,by omega⟩ (by dsimp only;omega)
  dsimp only at step
  rw [List.take_succ_eq_append_getElem hlt] at step
  simp only [List.map_append,List.map_cons,List.map_nil,zaD] at step
  generalize hX : ((cs.take k).map cgF).map cgE = XS at *
  have hroom : k + 1 ≤ 34359738368 := by omega
  simp (config := {maxSteps := 4000000,implicitDefEqProofs := false}) (disch := omega) only [go_sem,hlt',g1,hxs,hlen,hroom,z2s,z9m,z5w]
  exact step
 ·obtain rfl : k = cs.length := by omega
  have hlt' : ¬ (cs.length : Int) < (cs.length : Int) := Int.lt_irrefl _
  have hk2 : cs.take cs.length = cs := List.take_of_length_le (Nat.le_refl _)
  rw [hk2] at hxs ⊢
  simp (config := {maxSteps := 4000000,implicitDefEqProofs := false}) (disch := omega) only [go_sem,hlt',hkx,hxs,zAi,zIP,z9m,z5w]
theorem zKc (m : Nat) (x : Ms) (hm : 70 < m) (hz : zLA x) : z8j m (msE x) = some (msE (msF x),[]) := by
 obtain ⟨x0,x1,x2,x3,x4,x5,x6,cs⟩ := x
 obtain ⟨z1,z2,z3,z4⟩ := hz
 dsimp only at z1 z2 z3 z4
 have g0 := zxS m x5 z1
 have g1 := zqI m x6 z2
 rw [zjB,zmH,zmH,zB6]
 unfold msF
 dsimp only
 by_cases h1 : 66 < cs.length
 ·have h1' : (cs.length : Int) > 66 := by omega
  have h3' : (66 : Int) ≤ (cs.length : Int) := by omega
  have hF := zIq m x0 x1 x2 x3 x4 (txF x5) (x6.take 66) (cs.take 66) hm (by simp;omega) (fun y hy=>z4 y (List.mem_of_mem_take hy))
  simp (config := {maxSteps := 4000000,implicitDefEqProofs := false}) (disch := omega) only [go_sem,g0,g1,h1',h3',zA4,hF]
 ·have h1' : ¬ (cs.length : Int) > 66 := by omega
  have hF := zIq m x0 x1 x2 x3 x4 (txF x5) (x6.take 66) cs hm (by omega) z4
  rw [List.take_of_length_le (show cs.length ≤ 66 by omega)]
  simp (config := {maxSteps := 4000000,implicitDefEqProofs := false}) (disch := omega) only [go_sem,g0,g1,h1',hF]
end

section
open Go.RowKit
def zJW : Code := zML 1 (zNr 0 ((Try.f93.body).getD .skip)) .skip
def zII : Hint := (.two .n .n)
def zx1 (m : Nat) : Env := []
abbrev zAW (n0 : Nat) : KO (AV × List AObj) := zl7 [0,7,8,9]
def ItA (m : Nat) (D : List Deferred) (t0 t1 : AV) (H : List AObj) : RO := zLa Try.prog GG (zx1 m) m ⟨26,D⟩ zJW zII ⟨H,[(0,t0),(1,t1)]⟩ (zAW H.length)
theorem zH3 (m : Nat) (D : List Deferred) (t0 t1 : AV) (H : List AObj) : ItA m D t0 t1 H =
 z04 1 H t1 fun t7 =>
 zLZ false true H t7 fun t8 =>
 some (TU [t0,t7,t8,(V (.int .i64 0))],H) := by
 refine (zLX _ _ _ _ _ _ _ _ _).trans ?_
 kernel_rfl
theorem zG8 (m : Nat) : zaL Try.prog GG (zx1 m) := (by intro f e h;cases h)
end

section
open Go.RowKit
def zIG : Code := (cdL (cdL (cdL (zNr 1 ((Try.f93.body).getD .skip)))))
def zKE : Hint := .n
def zxo (m : Nat) : Env := []
abbrev zDb (n0 : Nat) : KO (AV × List AObj) := zl7 [0,7,8,9,10]
def ItB (m : Nat) (D : List Deferred) (t0 t7 t8 t9 : AV) (H : List AObj) : RO := zLa Try.prog GG (zxo m) m ⟨26,D⟩ zIG zKE ⟨H,[(0,t0),(7,t7),(8,t8),(9,t9)]⟩ (zDb H.length)
theorem zHB (m : Nat) (D : List Deferred) (t0 t7 t8 t9 : AV) (H : List AObj) : ItB m D t0 t7 t8 t9 H =
 zMe none false false .lss t9 t8 fun t10 =>
 some (TU [t0,t7,t8,t9,t10],H) := by
 refine (zLX _ _ _ _ _ _ _ _ _).trans ?_
 kernel_rfl
theorem zHZ (m : Nat) : zaL Try.prog GG (zxo m) := (by intro f e h;cases h)
end

section
open Go.RowKit
def zI9 : Code := (cdL (cdL (cdL (cdR (cdR (cdL (cdL (zNr 1 ((Try.f93.body).getD .skip)))))))))
def zJZ : Hint := .n
def zxF (m : Nat) : Env := []
abbrev zDv (n0 : Nat) : KO (AV × List AObj) := zl7 [0,4,7,8,9]
def ItC (m : Nat) (D : List Deferred) (t0 t7 t8 t9 : AV) (H : List AObj) : RO := zLa Try.prog GG (zxF m) m ⟨26,D⟩ zI9 zJZ ⟨H,[(0,t0),(7,t7),(8,t8),(9,t9)]⟩ (zDv H.length)
theorem zFi (m : Nat) (D : List Deferred) (t0 t7 t8 t9 : AV) (H : List AObj) : ItC m D t0 t7 t8 t9 H =
 z3H 8 H t7 t9 fun t11 =>
 z04 8 H t11 fun t12 =>
 z2f (some zc_api_Change) z00 H fun t4 H2 =>
 z0I 8 H2 t4 t12 fun H3 =>
 some (TU [t0,t4,t7,t8,t9],H3) := by
 refine (zLX _ _ _ _ _ _ _ _ _).trans ?_
 kernel_rfl
theorem zFh (m : Nat) : zaL Try.prog GG (zxF m) := (by intro f e h;cases h)
end

section
open Go.RowKit
def zI5 : Code := (cdL (cdR (cdL (cdL (cdR (cdR (cdL (cdL (zNr 1 ((Try.f93.body).getD .skip))))))))))
def zJT : Hint := .n
def zwW (m : Nat) : Env := []
abbrev zDV (n0 : Nat) : KO (AV × List AObj) := zl7 [0,7,8,9,14,15,16]
def ItD (m : Nat) (D : List Deferred) (t0 t4 t7 t8 t9 : AV) (H : List AObj) : RO := zLa Try.prog GG (zwW m) m ⟨26,D⟩ zI5 zJT ⟨H,[(0,t0),(4,t4),(7,t7),(8,t8),(9,t9)]⟩ (zDV H.length)
theorem zGN (m : Nat) (D : List Deferred) (t0 t4 t7 t8 t9 : AV) (H : List AObj) : ItD m D t0 t4 t7 t8 t9 H =
 z02 (some (5,1)) t4 fun t13 =>
 z04 1 H t13 fun t14 =>
 zLZ false true H t14 fun t15 =>
 some (TU [t0,t7,t8,t9,t14,t15,(V (.int .i64 0))],H) := by
 refine (zLX _ _ _ _ _ _ _ _ _).trans ?_
 kernel_rfl
theorem zFI (m : Nat) : zaL Try.prog GG (zwW m) := (by intro f e h;cases h)
end

section
open Go.RowKit
def zIz : Code := (cdL (cdL (cdL (cdR (cdR (cdL (cdL (cdR (cdR (cdL (cdL (zNr 1 ((Try.f93.body).getD .skip)))))))))))))
def zKn : Hint := .n
def zxG (m : Nat) : Env := []
abbrev zBI (n0 : Nat) : KO (AV × List AObj) := zl7 [0,7,8,9,14,15,16,17]
def ItE (m : Nat) (D : List Deferred) (t0 t7 t8 t9 t14 t15 t16 : AV) (H : List AObj) : RO := zLa Try.prog GG (zxG m) m ⟨26,D⟩ zIz zKn ⟨H,[(0,t0),(7,t7),(8,t8),(9,t9),(14,t14),(15,t15),(16,t16)]⟩ (zBI H.length)
theorem zHK (m : Nat) (D : List Deferred) (t0 t7 t8 t9 t14 t15 t16 : AV) (H : List AObj) : ItE m D t0 t7 t8 t9 t14 t15 t16 H =
 zMe none false false .lss t16 t15 fun t17 =>
 some (TU [t0,t7,t8,t9,t14,t15,t16,t17],H) := by
 refine (zLX _ _ _ _ _ _ _ _ _).trans ?_
 kernel_rfl
theorem zHO (m : Nat) : zaL Try.prog GG (zxG m) := (by intro f e h;cases h)
end

section
open Go.RowKit
def zIB : Code := (cdL (cdL (cdL (cdR (cdR (cdL (cdL (cdR (cdR (cdL (cdL (cdR (cdR (cdL (cdL (zNr 1 ((Try.f93.body).getD .skip)))))))))))))))))
def zJV : Hint := .n
def zwS (m : Nat) : Env := []
abbrev zEw (n0 : Nat) : KO (AV × List AObj) := zl7 [0,6,7,8,9,14,15,16]
def ItF (m : Nat) (D : List Deferred) (t0 t7 t8 t9 t14 t15 t16 : AV) (H : List AObj) : RO := zLa Try.prog GG (zwS m) m ⟨26,D⟩ zIB zJV ⟨H,[(0,t0),(7,t7),(8,t8),(9,t9),(14,t14),(15,t15),(16,t16)]⟩ (zEw H.length)
theorem zHu (m : Nat) (D : List Deferred) (t0 t7 t8 t9 t14 t15 t16 : AV) (H : List AObj) : ItF m D t0 t7 t8 t9 t14 t15 t16 H =
 z3H 7 H t14 t16 fun t18 =>
 z04 7 H t18 fun t19 =>
 z2f (some zc_api_Cert) z07 H fun t6 H2 =>
 z0I 7 H2 t6 t19 fun H3 =>
 some (TU [t0,t6,t7,t8,t9,t14,t15,t16],H3) := by
 refine (zLX _ _ _ _ _ _ _ _ _).trans ?_
 kernel_rfl
theorem zFN (m : Nat) : zaL Try.prog GG (zwS m) := (by intro f e h;cases h)
end

section
open Go.RowKit
def zDu : Code := (regP 2 (cdL (cdR (cdL (cdL (cdR (cdR (cdL (cdL (cdR (cdR (cdL (cdL (cdR (cdR (cdL (cdL (zNr 1 ((Try.f93.body).getD .skip)))))))))))))))))))
def zK4 : Hint := .n
def zxs (m : Nat) : Env := []
abbrev zEl (n0 : Nat) : KO (AV × List AObj) := zl7 [0,7,8,9,14,15,16,20,21]
def ItG (m : Nat) (D : List Deferred) (t0 t6 t7 t8 t9 t14 t15 t16 : AV) (H : List AObj) : RO := zLa Try.prog GG (zxs m) m ⟨26,D⟩ zDu zK4 ⟨H,[(0,t0),(6,t6),(7,t7),(8,t8),(9,t9),(14,t14),(15,t15),(16,t16)]⟩ (zEl H.length)
theorem zFA (m : Nat) (D : List Deferred) (t0 t6 t7 t8 t9 t14 t15 t16 : AV) (H : List AObj) : ItG m D t0 t6 t7 t8 t9 t14 t15 t16 H =
 z04 7 H t6 fun t21 =>
 some (TU [t0,t7,t8,t9,t14,t15,t16,t0,t21],H) := by
 refine (zLX _ _ _ _ _ _ _ _ _).trans ?_
 kernel_rfl
theorem zHg (m : Nat) : zaL Try.prog GG (zxs m) := (by intro f e h;cases h)
end

section
open Go.RowKit
def zD6 : Code := (regD 3 (cdL (cdR (cdL (cdL (cdR (cdR (cdL (cdL (cdR (cdR (cdL (cdL (cdR (cdR (cdL (cdL (zNr 1 ((Try.f93.body).getD .skip)))))))))))))))))))
def zJu : Hint := .n
def zxb (m : Nat) : Env := []
abbrev zBl (n0 : Nat) : KO (AV × List AObj) := zl7 [0,7,8,9,14,15,16,23]
def ItH (m : Nat) (D : List Deferred) (t0 t7 t8 t9 t14 t15 t16 t22 : AV) (H : List AObj) : RO := zLa Try.prog GG (zxb m) m ⟨26,D⟩ zD6 zJu ⟨H,[(0,t0),(7,t7),(8,t8),(9,t9),(14,t14),(15,t15),(16,t16),(22,t22)]⟩ (zBl H.length)
theorem zHf (m : Nat) (D : List Deferred) (t0 t7 t8 t9 t14 t15 t16 t22 : AV) (H : List AObj) : ItH m D t0 t7 t8 t9 t14 t15 t16 t22 H =
 unE .not t22 fun t23 =>
 some (TU [t0,t7,t8,t9,t14,t15,t16,t23],H) := by
 refine (zLX _ _ _ _ _ _ _ _ _).trans ?_
 kernel_rfl
theorem zGq (m : Nat) : zaL Try.prog GG (zxb m) := (by intro f e h;cases h)
end

section
open Go.RowKit
def zJ8 : Code := (cdR (cdR (cdR (cdL (cdL (cdR (cdR (cdL (cdL (cdR (cdR (cdL (cdL (zNr 1 ((Try.f93.body).getD .skip)))))))))))))))
def zKv : Hint := .n
def zwC (m : Nat) : Env := []
abbrev zCc (n0 : Nat) : KO (AV × List AObj) := zl7 [0,7,8,9,14,15,16]
def ItI (m : Nat) (D : List Deferred) (t0 t7 t8 t9 t14 t15 t16 : AV) (H : List AObj) : RO := zLa Try.prog GG (zwC m) m ⟨26,D⟩ zJ8 zKv ⟨H,[(0,t0),(7,t7),(8,t8),(9,t9),(14,t14),(15,t15),(16,t16)]⟩ (zCc H.length)
theorem zFp (m : Nat) (D : List Deferred) (t0 t7 t8 t9 t14 t15 t16 : AV) (H : List AObj) : ItI m D t0 t7 t8 t9 t14 t15 t16 H =
 zMe none false false .add t16 (V (.int .i64 1)) fun t24 =>
 some (TU [t0,t7,t8,t9,t14,t15,t24],H) := by
 refine (zLX _ _ _ _ _ _ _ _ _).trans ?_
 kernel_rfl
theorem zGk (m : Nat) : zaL Try.prog GG (zwC m) := (by intro f e h;cases h)
end

section
open Go.RowKit
def zIM : Code := (cdR (cdR (cdR (cdL (cdL (zNr 1 ((Try.f93.body).getD .skip)))))))
def zKK : Hint := .n
def zwV (m : Nat) : Env := []
abbrev zCe (n0 : Nat) : KO (AV × List AObj) := zl7 [0,7,8,9]
def ItJ (m : Nat) (D : List Deferred) (t0 t7 t8 t9 : AV) (H : List AObj) : RO := zLa Try.prog GG (zwV m) m ⟨26,D⟩ zIM zKK ⟨H,[(0,t0),(7,t7),(8,t8),(9,t9)]⟩ (zCe H.length)
theorem zHk (m : Nat) (D : List Deferred) (t0 t7 t8 t9 : AV) (H : List AObj) : ItJ m D t0 t7 t8 t9 H =
 zMe none false false .add t9 (V (.int .i64 1)) fun t25 =>
 some (TU [t0,t7,t8,t25],H) := by
 refine (zLX _ _ _ _ _ _ _ _ _).trans ?_
 kernel_rfl
theorem zHX (m : Nat) : zaL Try.prog GG (zwV m) := (by intro f e h;cases h)
end

section
open Go.RowKit
def zem : TypeId := 147
def zkI : List AV := [(V .nilFunc)]
def zEu : List AV := [(V (.int .i64 0))]
def zK8 : Code := zML 4 (zNr 0 ((Try.f78.body).getD .skip)) .skip
def zJ6 : Hint := (.two .n (.two .n (.two .n (.two .n .n))))
def zy0 (m : Nat) : Env := []
abbrev zCG (n0 : Nat) : KO (AV × List AObj) := zl7 [0,3,4,5,6,7]
def AtA (m : Nat) (D : List Deferred) (t0 t1 : AV) (H : List AObj) : RO := zLa Try.prog GG (zy0 m) m ⟨19,D⟩ zK8 zJ6 ⟨H,[(0,t0),(1,t1)]⟩ (zCG H.length)
theorem zGg (m : Nat) (D : List Deferred) (t0 t1 : AV) (H : List AObj) : AtA m D t0 t1 H =
 zN2 z5v H t1 fun t3 H2 =>
 z2f (some zc_api_Choice) z0q H2 fun t4 H3 =>
 z04 1 H3 t3 fun t9 =>
 z1F (some z3M) (some zc_api_Choice) [(0,t9),(3,(V (.bool true)))] fun t10 =>
 z2f (some zc_api_Choice) z0q H3 fun t5 H4 =>
 z0I 6 H4 t5 t10 fun H5 =>
 z2f (some zEu) z5v H5 fun t6 H6 =>
 z0I 1 H6 t6 (V (.int .i64 (-1))) fun H7 =>
 z0C (([t3,t6,t5] : List AV).all zLj) (
 z2f (some zkI) zem H7 fun t7 H8 =>
 z0I 1 H8 t7 (CL (.func 94) 0 [t3,t6,t5]) fun H9 =>
 some (TU [t0,t3,t4,t5,t6,t7],H9)) := by
 refine (zLX _ _ _ _ _ _ _ _ _).trans ?_
 kernel_rfl
theorem zGE (m : Nat) : zaL Try.prog GG (zy0 m) := (by intro f e h;cases h)
end

section
open Go.RowKit
def zJ3 : Code := (cdL (cdL (zNr 4 ((Try.f78.body).getD .skip))))
def zJI : Hint := .n
def ztE (m : Nat) : Env := [(77, .keep (ze1 m))]
abbrev zEW (n0 : Nat) : KO (AV × List AObj) := zl7 [3,4,5,6,7,13]
def AtB (m : Nat) (D : List Deferred) (t0 t3 t4 t5 t6 t7 : AV) (H : List AObj) : RO := zLa Try.prog GG (ztE m) m ⟨19,D⟩ zJ3 zJI ⟨H,[(0,t0),(3,t3),(4,t4),(5,t5),(6,t6),(7,t7)]⟩ (zEW H.length)
theorem zHl (m : Nat) (D : List Deferred) (t0 t3 t4 t5 t6 t7 : AV) (H : List AObj) : AtB m D t0 t3 t4 t5 t6 t7 H =
 z4O (zhA m (ro H t0) H) fun t13 H2 =>
 some (TU [t3,t4,t5,t6,t7,t13],H2) := by
 refine (zLX _ _ _ _ _ _ _ _ _).trans ?_
 kernel_rfl
theorem zI0 (m : Nat) : zaL Try.prog GG (ztE m) := (by
 intro f e h
 simp only [ztE,Prod.mk.injEq,List.mem_cons,List.not_mem_nil,or_false] at h
 obtain ⟨rfl,rfl⟩ := h
 ·exact zks m)
end

section
open Go.RowKit
def zsp : Code := (rfS (cdL (cdR (cdL (zNr 4 ((Try.f78.body).getD .skip))))))
def zIR : Hint := (.two .n (.one .n))
def znc (m : Nat) : Env := [(94, .keep (z8r m))]
abbrev zBa (n0 : Nat) : KO (AV × List AObj) := zui n0
def AtR (m : Nat) (D : List Deferred) (t14 t3 t4 t5 t6 t7 : AV) (H : List AObj) : RO := zLa Try.prog GG (znc m) m ⟨19,D⟩ zsp zIR ⟨H,[(14,t14),(3,t3),(4,t4),(5,t5),(6,t6),(7,t7)]⟩ (zBa H.length)
theorem zGZ (m : Nat) (D : List Deferred) (t14 t3 t4 t5 t6 t7 : AV) (H : List AObj) : AtR m D t14 t3 t4 t5 t6 t7 H =
 z2f (some zc_api_Cert) z07 H fun t8 H2 =>
 z0I 7 H2 t8 t14 fun H3 =>
 z04 1 H3 t7 fun t15 =>
 z04 7 H3 t8 fun t16 =>
 zfn (znc m) t15 [t16] H3 fun t17 H4 =>
 zqL H.length H4 (V (.bool true)) := by
 refine (zLO Try.prog GG (znc m) m ⟨19,D⟩ H.length zsp zIR ⟨H,[(14,t14),(3,t3),(4,t4),(5,t5),(6,t6),(7,t7)]⟩ ).trans ?_
 kernel_rfl
theorem zHP (m : Nat) : zaL Try.prog GG (znc m) := (by
 intro f e h
 simp only [znc,Prod.mk.injEq,List.mem_cons,List.not_mem_nil,or_false] at h
 obtain ⟨rfl,rfl⟩ := h
 ·exact zor m)
end

section
open Go.RowKit
def zFc : Code := (zNr 5 ((Try.f78.body).getD .skip))
def zHv : Hint := (.two .n .n)
def ztL (m : Nat) : Env := []
abbrev zBn (n0 : Nat) : KO (AV × List AObj) := zDc Try.prog n0 [.cell 4 73]
def AtC (m : Nat) (D : List Deferred) (t4 t5 : AV) (H : List AObj) : RO := zLa Try.prog GG (ztL m) m ⟨19,D⟩ zFc zHv ⟨H,[(4,t4),(5,t5)]⟩ (zBn H.length)
theorem zGH (m : Nat) (D : List Deferred) (t4 t5 : AV) (H : List AObj) : AtC m D t4 t5 H =
 z04 6 H t5 fun t18 =>
 z0I 6 H t4 t18 fun H2 =>
 z04 6 H2 t4 fun t9000 =>
 some (ro H2 t9000,H2) := by
 refine (zMa Try.prog GG (ztL m) m ⟨19,D⟩ H.length zFc zHv ⟨H,[(4,t4),(5,t5)]⟩ [.cell 4 73]).trans ?_
 kernel_rfl
theorem zGW (m : Nat) : zaL Try.prog GG (ztL m) := (by intro f e h;cases h)
end

section
open Go.RowKit
theorem zob {R : Type} {H : List AObj} {o : AObj} {K : AObj → Option R} : z2Q (H ++ [o]) H.length K = K o := by
 unfold z2Q;simp
theorem zDG {R : Type} {H : List AObj} {o : AObj} {b : Nat} {K : AObj → Option R} (h : H[b]? = some o) : z2Q H b K = K o := by
 unfold z2Q;rw [h]
theorem zqU {H : List AObj} {o o' : AObj} : (H ++ [o]).set H.length o' = H ++ [o'] := by
 simp
def chO (x : Ch) : AObj := ⟨1,z00,0,cgC x⟩
def ceO (x : Ce) : AObj := ⟨1,z07,0,ceC x⟩
def zNb (l : List Ch) : AV := SL (l.map cgE)
def zNy (l : List Ce) : AV := SL (l.map ceE)
section
variable {H : List AObj} {l : List Ch} {cs : List Ce} {Y a7 a8 a9 a14 a15 : AV}
theorem zJD (m b : Nat) (hb : H[b]? = some ⟨1,z2z,0,[zNb l]⟩) : ItA m [] Y (OP b 0) H = some (TU [Y,zNb l,nA l.length,nA 0],H) := by
 rw [zH3]
 unfold zNb at hb ⊢
 rw [zHG,zDG hb]
 simp (config := {maxSteps := 4000000,implicitDefEqProofs := false}) (disch := omega) only [go_sem,]
theorem zKH (m : Nat) (a b : Int) : ItB m [] Y a7 (nA b) (nA a) H = some (TU [Y,a7,nA b,nA a,bA (decide (a < b))],H) := by
 rw [zHB]
 simp (config := {maxSteps := 4000000,implicitDefEqProofs := false}) (disch := omega) only [go_sem,]
theorem zJR (m k : Nat) (hk : k < l.length) : ItC m [] Y (zNb l) a8 (nA k) H = some (TU [Y,OP H.length 0,zNb l,a8,nA k],H ++ [chO l[k]]) := by
 rw [zFi]
 unfold zNb chO
 simp (config := {maxSteps := 4000000,implicitDefEqProofs := false}) (disch := omega) only [go_sem,hk,zob,zqU]
theorem zJY (m : Nat) (x : Ch) : ItD m [] Y (OP H.length 0) a7 a8 a9 (H ++ [chO x]) = some (TU [Y,a7,a8,a9,zNy x.cs,nA x.cs.length,nA 0],H ++ [chO x]) := by
 rw [zGN]
 unfold chO zNy
 simp (config := {maxSteps := 4000000,implicitDefEqProofs := false}) (disch := omega) only [go_sem,zob,zqU]
theorem zJM (m : Nat) (a b : Int) : ItE m [] Y a7 a8 a9 a14 (nA b) (nA a) H = some (TU [Y,a7,a8,a9,a14,nA b,nA a,bA (decide (a < b))],H) := by
 rw [zHK]
 simp (config := {maxSteps := 4000000,implicitDefEqProofs := false}) (disch := omega) only [go_sem,]
theorem zKx (m k : Nat) (hk : k < cs.length) : ItF m [] Y a7 a8 a9 (zNy cs) a15 (nA k) H = some (TU [Y,OP H.length 0,a7,a8,a9,zNy cs,a15,nA k],H ++ [ceO cs[k]]) := by
 rw [zHu]
 unfold zNy ceO
 simp (config := {maxSteps := 4000000,implicitDefEqProofs := false}) (disch := omega) only [go_sem,hk,zob,zqU]
theorem zJA (m : Nat) (x : Ce) (a16 : AV) : ItG m [] Y (OP H.length 0) a7 a8 a9 a14 a15 a16 (H ++ [ceO x]) = some (TU [Y,a7,a8,a9,a14,a15,a16,Y,ceE x],H ++ [ceO x]) := by
 rw [zFA]
 unfold ceO
 simp (config := {maxSteps := 4000000,implicitDefEqProofs := false}) (disch := omega) only [go_sem,zob,zqU]
theorem zKe (m : Nat) (a16 : AV) (v : Bool) : ItH m [] Y a7 a8 a9 a14 a15 a16 (bA v) H = some (TU [Y,a7,a8,a9,a14,a15,a16,bA (!v)],H) := by
 rw [zHf]
 simp (config := {maxSteps := 4000000,implicitDefEqProofs := false}) (disch := omega) only [go_sem,]
theorem zJS (m : Nat) (a : Int) (h : 0 ≤ a) (h2 : a < 1000000000) : ItI m [] Y a7 a8 a9 a14 a15 (nA a) H = some (TU [Y,a7,a8,a9,a14,a15,nA (a + 1)],H) := by
 rw [zFp]
 simp (config := {maxSteps := 4000000,implicitDefEqProofs := false}) (disch := omega) only [go_sem,z2s]
theorem zJG (m : Nat) (a : Int) (h : 0 ≤ a) (h2 : a < 1000000000) : ItJ m [] Y a7 a8 (nA a) H = some (TU [Y,a7,a8,nA (a + 1)],H) := by
 rw [zHk]
 simp (config := {maxSteps := 4000000,implicitDefEqProofs := false}) (disch := omega) only [go_sem,z2s]
end
def atB (q : Int) (v : Int) (o : Co) : List AObj := [⟨1,z5v,0,[nA q]⟩,⟨1,z0q,0,zc_api_Choice⟩,⟨1,z0q,0,coC o⟩,⟨1,z5v,0,[nA v]⟩,⟨1,zem,0,[CL (.func 94) 0 [OP 0 0,OP 3 0,OP 2 0]]⟩]
def atH (q : Int) (l : List Ch) (v : Int) (o : Co) : List AObj := atB q v o ++ [⟨1,z2z,0,[zNb l]⟩]
def co0 (q : Int) : Co := ⟨q,0,[],true⟩
theorem zJQ (m : Nat) (q : Int) (a : AV) : AtA m [] a (nA q) [] = some (TU [a,OP 0 0,OP 1 0,OP 2 0,OP 3 0,OP 4 0],atB q (-1) (co0 q)) := by
 rw [zGg]
 have hb : ∀ {K1 : AV → RO},z1F (some z3M) (some zc_api_Choice) [(0,nA q),(3,V (.bool true))] K1 = K1 (.agg (coC (co0 q))) := _root_.id rfl
 unfold atB
 simp (config := {maxSteps := 4000000,implicitDefEqProofs := false}) (disch := omega) only [go_sem,hb]
 rfl
theorem zKl (m : Nat) (q v : Int) (o : Co) (l : List Ch) : AtB m [] (zNb l) (OP 0 0) (OP 1 0) (OP 2 0) (OP 3 0) (OP 4 0) (atB q v o) = some (TU [OP 0 0,OP 1 0,OP 2 0,OP 3 0,OP 4 0,CL (.func 93) 0 [OP 5 0]],atH q l v o) := by
 rw [zHl]
 unfold atB atH atB zNb
 simp (config := {maxSteps := 4000000,implicitDefEqProofs := false}) (disch := omega) only [go_sem,zkn]
 rfl
theorem zKb (m : Nat) (q v : Int) (o : Co) (l : List Ch) (D : List Deferred) : AtC m D (OP 1 0) (OP 2 0) (atH q l v o) = some (.agg (coC o),(atH q l v o).set 1 ⟨1,z0q,0,coC o⟩) := by
 rw [zGH]
 unfold atH atB zNb
 simp (config := {maxSteps := 4000000,implicitDefEqProofs := false}) (disch := omega) only [go_sem,]
def zmc (q : Int) (a : Int × Co) (x : Ce) : Int × Co := if x.sq = q ∧ a.1 < x.vw then (x.vw,⟨q,x.tm,x.body,false⟩) else a
theorem zJx (m : Nat) (q v : Int) (o : Co) (l : List Ch) (x : Ce) (Y : List AObj) : zjI m (ceE x) (OP 0 0) (OP 3 0) (OP 2 0) (atH q l v o ++ [ceO x]) = some (TU [],atH q l (zmc q (v,o) x).1 (zmc q (v,o) x).2 ++ [ceO x]) := by
 rw [znB]
 unfold atH atB zNb ceO zmc
 have hb : ∀ {a b : Int} {s : List UInt8} {K1 : AV → RO},z1F (some z3M) (some zc_api_Choice) [(0,nA a),(1,nA b),(2,sA s)] K1 = K1 (.agg (coC ⟨a,b,s,false⟩)) := _root_.id rfl
 by_cases h1 : x.sq = q
 ·by_cases h2 : v < x.vw
  ·rw [if_pos ⟨h1,h2⟩]
   simp (config := {maxSteps := 4000000,implicitDefEqProofs := false}) (disch := omega) only [go_sem,h1,h2,hb,z8P]
   rfl
  ·rw [if_neg (fun h=>h2 h.2)]
   simp (config := {maxSteps := 4000000,implicitDefEqProofs := false}) (disch := omega) only [go_sem,h1,h2,hb,z8P]
   rfl
 ·rw [if_neg (fun h=>h1 h.1)]
  simp (config := {maxSteps := 4000000,implicitDefEqProofs := false}) (disch := omega) only [go_sem,h1,hb,z8P]
  rfl
theorem zBb (m : Nat) : zj9 (znc m) 94 = some (.keep (z8r m)) := _root_.id rfl
theorem zJp (m : Nat) (q v : Int) (o : Co) (l : List Ch) (x : Ce) : AtR m [] (ceE x) (OP 0 0) (OP 1 0) (OP 2 0) (OP 3 0) (OP 4 0) (atH q l v o) = some (bA true,atH q l (zmc q (v,o) x).1 (zmc q (v,o) x).2) := by
 rw [zGZ]
 have h1 := zJx m q v o l x []
 have he := zBb m
 unfold ceO at h1
 unfold atH atB zNb at h1 ⊢
 rw [zo0] at h1 ⊢
 dsimp only [List.cons_append,List.nil_append] at h1
 simp (config := {maxSteps := 4000000,implicitDefEqProofs := false}) (disch := omega) only [go_sem,he,z8r,h1]
 rfl
end

section
open Go.RowKit
def zLJ : Code → List Oper|.region _ ops _=>ops.toList|_=>[]
def zKV (k : Nat) (c : Code) : Oper := (zLJ c).getD k ⟨none, .move (.tmp 0), 0, "", #[], none⟩
def itC : Code := (Try.f93.body).getD .skip
def itR : Code := cdL (cdR (cdL (cdL (cdR (cdR (cdL (cdL (cdR (cdR (cdL (cdL (cdR (cdR (cdL (cdL (zNr 1 itC))))))))))))))))
def zNB : Code := .seq zIB (.seq (.region 6 (zLJ zDu ++ zKV 2 itR :: zLJ zD6).toArray false) (.cond (.tmp 23) .ret .skip))
def zKP : Code := .seq zIz (.seq (.cond (.tmp 17) .skip (.exit 2)) (.seq (.block 3 zNB) zJ8))
def zIC : Code := .seq zIG (.seq (.cond (.tmp 10) .skip (.exit 0)) (.seq (.block 1 (.seq zI9 (.seq zI5 (.block 2 (.loop zKP))))) zIM))
theorem zzf : zNr 1 itC = .block 0 (.loop zIC) := by kernel_rfl
theorem zwj : zDu = .region 6 (zLJ zDu).toArray false := by kernel_rfl
theorem zwe : zD6 = .region 6 (zLJ zD6).toArray false := by kernel_rfl
theorem zHN : (zKV 2 itR).op = .call { callee := .value (.tmp 20),args := #[.tmp 21],argTypes := #[54] } := by kernel_rfl
theorem zBY : (zKV 2 itR).dst = some 22 := by kernel_rfl
theorem zFj : (zKV 2 itR).guard = none := by kernel_rfl
theorem gdG : ((zLJ zDu).all fun o=>o.guard.isNone) = true := by kernel_rfl
theorem gdH : ((zLJ zD6).all fun o=>o.guard.isNone) = true := by kernel_rfl
def zMW : Value → Nat|.int _ i=>i.toNat|_=>0
theorem zx0 {S : SS} {μ : List Value} {T : Tm} {N : FS} {a : Act} {i : Nat} {v : Value} (hf : Fr S μ N T a) (h : get T i = V v) : a.tmps.getD i undef = v := by
 have := hf.slot i
 rw [h] at this
 exact this.1
theorem zu0 {S : SS} {μ : List Value} {N : Nat} {args : List AV} {vs : List Value} (hl : vs.length = args.length) (hargs : args.length ≤ N) (hv : ∀ (j : Nat) (d : AV) (v : Value),args[j]? = some d → vs[j]? = some v → rep S μ d v) :
  Fr S μ (F0 N) (z14 0 args) { tmps := vs.toArray ++ Array.replicate (N - vs.toArray.size) undef,defers := [] } := by
 refine ⟨by simp;omega,rfl,fun i=>?_⟩
 rw [zle]
 simp only [Nat.zero_le,if_true,Nat.sub_zero]
 cases hd : args[i]? with
 |none=>trivial
 |some d =>
  have hi : i < vs.length := by rw [hl];exact (List.getElem?_eq_some_iff.1 hd).1
  have := hv i d vs[i] hd (List.getElem?_eq_getElem hi)
  simp only [Option.getD_some]
  have e : (vs.toArray ++ Array.replicate (N - vs.toArray.size) undef).getD i undef = vs[i] := by
   rw [Array.getD_eq_getD_getElem?,Array.getElem?_append_left (by simpa using hi)]
   simp [hi]
  rw [e];exact this
theorem zxM {H : List AObj} {o : AObj} : HLe (H ++ [o]) H := by
 have := HLe.take (H ++ [o]) H.length
 rwa [List.take_left' rfl] at this
section
variable {β : Type} {C : β → List AObj} {R : β → Ce → β} {b0 : β} {l : List Ch}
def zdU (R : β → Ce → β) (b : β) (cs : List Ce) : β := cs.foldl R b
def zb7 (R : β → Ce → β) (b : β) (l : List Ch) : β := l.foldl (fun a c=>zdU R a c.cs) b
abbrev TO (lp : Nat) (l : List Ch) (k : Nat) : Tm := [(0,V (.func (.yield lp) #[] #[])),(7,zNb l),(8,nA l.length),(9,nA k)]
abbrev TJ (lp : Nat) (l : List Ch) (k : Nat) (cs : List Ce) (j : Nat) : Tm := [(0,V (.func (.yield lp) #[] #[])),(7,zNb l),(8,nA l.length),(9,nA k),(14,zNy cs),(15,nA cs.length),(16,nA j)]
def ItO (C : β → List AObj) (R : β → Ce → β) (b0 : β) (l : List Ch) (lp : Nat) (r : Loop) (w1 : World) (S1 : SS) (μ1 : List Value) (a : Act) (w : World) : Prop :=
 ∃ (k : Nat) (S : SS) (μ : List Value),k ≤ l.length ∧ Rel w S μ (C (zb7 R b0 (l.take k))) ∧ Fr S μ (F0 26) (TO lp l k) a ∧ GOk GG S ∧ Step (C b0).length w1 S1 μ1 (C b0) w S μ (C (zb7 R b0 (l.take k))) ∧ w.heap[lp]? = some (.loop r)
def ItJn (C : β → List AObj) (R : β → Ce → β) (b0 : β) (l : List Ch) (k : Nat) (b : β) (cs : List Ce) (lp : Nat) (r : Loop) (w1 : World) (S1 : SS) (μ1 : List Value) (a : Act) (w : World) : Prop :=
 ∃ (j : Nat) (S : SS) (μ : List Value),j ≤ cs.length ∧ Rel w S μ (C (zdU R b (cs.take j))) ∧ Fr S μ (F0 26) (TJ lp l k cs j) a ∧ GOk GG S ∧ Step (C b0).length w1 S1 μ1 (C b0) w S μ (C (zdU R b (cs.take j))) ∧ w.heap[lp]? = some (.loop r)
theorem ztO {b : β} {cs : List Ce} {j : Nat} (h : j < cs.length) : zdU R b (cs.take (j + 1)) = R (zdU R b (cs.take j)) cs[j] := by
 unfold zdU
 rw [List.take_succ_eq_append_getElem h,List.foldl_append]
 rfl
theorem zua {b : β} {k : Nat} (h : k < l.length) : zb7 R b (l.take (k + 1)) = zdU R (zb7 R b (l.take k)) l[k].cs := by
 unfold zb7
 rw [List.take_succ_eq_append_getElem h,List.foldl_append]
 rfl
theorem zC1 {n : Nat} (cs : List Ce) : ltT n (zNy cs) = true := rfl
theorem ztu {n : Nat} (l : List Ch) : ltT n (zNb l) = true := rfl
variable {w1 : World} {S1 : SS} {μ1 : List Value} {lp K d b : Nat} {r : Loop} {T0 : Tm} {tm : Array Value}
theorem it_calls (hn : ∀ a, (C a).length = (C b0).length) (ho : ∀ a, (C a).all (ltO (C b0).length) = true) (hb : ∀ a, (C a)[b]? = some ⟨1, z2z             , 0, [zNb  l]⟩) (hl : l.length ≤ 1000) (hc : ∀ c ∈ l, c.cs.length ≤ 1000)
    (hround : ∀ (a : β) (x : Ce) (vs : List Value) (w : World) (S : SS) (μ : List Value), Rel w S μ (C a) → Fr S μ (F0 K) T0 ⟨tm, []⟩ → GOk GG S → w.heap[lp]? = some (.loop r) → vs.length = 1 → (∀ (j : Nat) (d : AV) (v : Value), [ceE x][j]? = some d → vs[j]? = some v → rep S μ d v) →
      YieldAt Fence.wide (d - 1) Try.prog lp vs.toArray w (zxW   lp r w S μ (C a) fun e H2 => e = .normal ∧ H2 = C (R a x)))
    (hm : 0 < d) {us : List Value} (hr : Rel w1 S1 μ1 (C b0)) (hf : Fr S1 μ1 (F0 K) T0 ⟨tm, []⟩) (hg : GOk GG S1) (hlp : w1.heap[lp]? = some (.loop r)) (hus : us.length = 1)
    (hu : ∀ (j : Nat) (x : AV) (v : Value), [OP b 0][j]? = some x → us[j]? = some v → rep S1 μ1 x v) :
    CallsIn Fence.wide d Try.prog 93 (.func (.yield lp) #[] #[] :: us).toArray w1 fun e w' => ∃ v, e = .returned v ∧ zIk   lp r w1 S1 μ1 (C b0) (fun e H2 => e = .normal ∧ H2 = C (zb7   R b0 l)) w' := by
  have hnl : ∀ r cs t p, (Obj.loop r) ≠ .cells cs t p := fun _ _ _ _ e => by cases e
  refine callsIn_of_wp Try.func93 rfl trivial ?_
  have hfr0 : Fr S1 μ1 (F0 26) (z14   0 [V (.func (.yield lp) #[] #[]), OP b 0]) { tmps := (.func (.yield lp) #[] #[] :: us).toArray ++ Array.replicate (26 - (.func (.yield lp) #[] #[] :: us).toArray.size) undef, defers := [] } :=
    zu0     (by simp [hus]) (by simp) (by
      intro j x v hx hv
      cases j with
      | zero => simp at hx hv; subst hx hv; exact ⟨rfl, rfl⟩
      | succ j => exact hu j x v (by simpa using hx) (by simpa using hv))
  rw [Try.ntmps93]
  have hA := zJD   (H := C b0) (l := l) (Y := V (.func (.yield lp) #[] #[])) 1000 b (hb b0)
  refine zlk       (n := (C b0).length) MIX (zG8    1000) 1 itC zII   ⟨C b0, z14   0 [V (.func (.yield lp) #[] #[]), OP b 0]⟩ (by kernel_rfl) hA hr hfr0 hg ?_ (Nat.le_refl _)
  rintro a w ⟨S, μ, _, hrA, hfA, hgA, hstA⟩
  rw [zzf     ]
  refine wpIn_block ?_
  refine wpIn_loop (ItO C R b0 l lp r w1 S1 μ1) (fun a _ => l.length - zMW  (a.tmps.getD 9 undef)) ⟨0, S, μ, Nat.zero_le _, hrA, hfA, hgA, hstA, hstA.keeps hr hlp (hnl _)⟩ ?_
  rintro a w ⟨k, S, μ, hk, hr2, hf2, hg2, hst2, hl2⟩
  have h9 : a.tmps.getD 9 undef = .int .i64 k := zx0   hf2 rfl
  unfold zIC  
  refine wpIn_seq (wpIn_mono (znU    (rs := [0, 7, 8, 9, 10]) MIX (zHZ    1000) (zKH   1000 (k : Int) (l.length : Int)) hr2 hf2 hg2) ?_)
  rintro e a3 w3 ⟨rfl, S3, μ3, hr3, hf3, hg3, hst3⟩
  have hl3 := hst3.keeps hr2 hl2 (hnl _)
  have hst3' := hst2.trans (hst3.less (Nat.le_of_eq (hn _).symm))
  have h10 : a3.eval (.tmp 10) = .bool (decide ((k : Int) < l.length)) := zx0   hf3 rfl
  simp only [Exit.then]
  refine wpIn_seq (wpIn_cond (t := decide ((k : Int) < l.length)) h10 ?_)
  by_cases hlt : k < l.length
  · rw [decide_eq_true (by omega), if_pos rfl]
    refine wpIn_skip ?_
    simp only [Exit.then]
    refine wpIn_seq (wpIn_block ?_)
    refine wpIn_seq (wpIn_mono (znU    (rs := [0, 4, 7, 8, 9]) MIX (zFh    1000) (zJR   (Y := V (.func (.yield lp) #[] #[])) (a8 := nA l.length) (H := C (zb7   R b0 (l.take k))) 1000 k hlt) hr3 (hf3.some (by simp [_root_.Go.Proofs.Ytaaogcnjfkgnoaa.get])) hg3) ?_)
    rintro e a4 w4 ⟨rfl, S4, μ4, hr4, hf4, hg4, hst4⟩
    have hl4 := hst4.keeps hr3 hl3 (hnl _)
    have hst4' := hst3'.trans (hst4.less (Nat.le_of_eq (hn _).symm))
    simp only [Exit.then]
    have hf4' : Fr S4 μ4 (F0 26) [(0, V (.func (.yield lp) #[] #[])), (4, OP (C (zb7   R b0 (l.take k))).length 0), (7, zNb  l), (8, nA l.length), (9, nA k)] a4 := hf4
    refine wpIn_seq (wpIn_mono (znU    (rs := [0, 7, 8, 9, 14, 15, 16]) MIX (zFI    1000) (zJY   (Y := V (.func (.yield lp) #[] #[])) (a7 := zNb  l) (a8 := nA l.length) (a9 := nA k) (H := C (zb7   R b0 (l.take k))) 1000 l[k]) hr4 hf4' hg4) ?_)
    rintro e a5 w5 ⟨rfl, S5, μ5, hr5, hf5, hg5, hst5⟩
    have hl5 := hst5.keeps hr4 hl4 (hnl _)
    have hst5' := hst4'.trans (hst5.less (by have := hn (zb7   R b0 (l.take k)); simp only [List.length_append]; omega))
    simp only [Exit.then]
    have hle : Le ⟨C (zb7   R b0 (l.take k)) ++ [chO l[k]], [(0, V (.func (.yield lp) #[] #[])), (7, zNb  l), (8, nA l.length), (9, nA k), (14, zNy  l[k].cs), (15, nA l[k].cs.length), (16, nA 0)]⟩ ⟨C (zb7   R b0 (l.take k)), TJ lp l k l[k].cs 0⟩ :=
      ⟨zxM    , by rw [hn]; exact ho _, ⟨rfl, rfl, rfl, ztu    l, rfl, rfl, rfl, rfl, rfl, zC1    _, rfl, rfl, rfl, rfl, trivial⟩⟩
    refine wpIn_block ?_
    refine wpIn_loop (ItJn C R b0 l k (zb7   R b0 (l.take k)) l[k].cs lp r w1 S1 μ1) (fun a _ => l[k].cs.length - zMW  (a.tmps.getD 16 undef)) ⟨0, S5, _, Nat.zero_le _, hle.rel hr5, hle.fr hf5, hg5, hst5'.trans ((hle.step (Nat.le_of_eq (hn _).symm) _ _ _)), hl5⟩ ?_
    rintro a w ⟨j, S, μ, hj, hr2, hf2, hg2, hst2, hl2⟩
    have h16 : a.tmps.getD 16 undef = .int .i64 j := zx0   hf2 rfl
    obtain ⟨x0, hx0⟩ : ∃ x0, zdU   R (zb7   R b0 (l.take k)) (l[k].cs.take j) = x0 := ⟨_, rfl⟩
    have hck := hc l[k] (List.getElem_mem hlt)
    unfold zKP 
    refine wpIn_seq (wpIn_mono (znU    (rs := [0, 7, 8, 9, 14, 15, 16, 17]) MIX (zHO    1000) (zJM   (Y := V (.func (.yield lp) #[] #[])) (a7 := zNb  l) (a8 := nA l.length) (a9 := nA k) (a14 := zNy  l[k].cs) 1000 (j : Int) (l[k].cs.length : Int)) hr2 hf2 hg2) ?_)
    rintro e a3 w3 ⟨rfl, S3, μ3, hr3, hf3, hg3, hst3⟩
    have hl3 := hst3.keeps hr2 hl2 (hnl _)
    have hst3' := hst2.trans (hst3.less (Nat.le_of_eq (hn _).symm))
    have h17 : a3.eval (.tmp 17) = .bool (decide ((j : Int) < l[k].cs.length)) := zx0   hf3 rfl
    simp only [Exit.then]
    refine wpIn_seq (wpIn_cond (t := decide ((j : Int) < l[k].cs.length)) h17 ?_)
    by_cases hjt : j < l[k].cs.length
    · rw [decide_eq_true (by omega), if_pos rfl]
      refine wpIn_skip ?_
      simp only [Exit.then]
      refine wpIn_seq (wpIn_block ?_)
      unfold zNB 
      refine wpIn_seq (wpIn_mono (znU    (rs := [0, 6, 7, 8, 9, 14, 15, 16]) MIX (zFN    1000) (zKx   (Y := V (.func (.yield lp) #[] #[])) (a7 := zNb  l) (a8 := nA l.length) (a9 := nA k) (a15 := nA l[k].cs.length) (H := C (zdU   R (zb7   R b0 (l.take k)) (l[k].cs.take j))) 1000 j hjt) hr3 (hf3.some (by simp [_root_.Go.Proofs.Ytaaogcnjfkgnoaa.get])) hg3) ?_)
      rintro e a4 w4 ⟨rfl, S4, μ4, hr4, hf4, hg4, hst4⟩
      have hl4 := hst4.keeps hr3 hl3 (hnl _)
      have hst4' := hst3'.trans (hst4.less (Nat.le_of_eq (hn _).symm))
      simp only [Exit.then]
      have hf4' : Fr S4 μ4 (F0 26) [(0, V (.func (.yield lp) #[] #[])), (6, OP (C (zdU   R (zb7   R b0 (l.take k)) (l[k].cs.take j))).length 0), (7, zNb  l), (8, nA l.length), (9, nA k), (14, zNy  l[k].cs), (15, nA l[k].cs.length), (16, nA j)] a4 := hf4
      have hG := zJA   (Y := V (.func (.yield lp) #[] #[])) (a7 := zNb  l) (a8 := nA l.length) (a9 := nA k) (a14 := zNy  l[k].cs) (a15 := nA l[k].cs.length) (H := C (zdU   R (zb7   R b0 (l.take k)) (l[k].cs.take j))) 1000 l[k].cs[j] (nA j)
      unfold ItG at hG
      rw [zwj      ] at hG
      refine wpIn_seq (wpIn_region_lit ?_)
      refine ztq      (rs := [0, 7, 8, 9, 14, 15, 16, 20, 21]) (zHg    1000) rfl gdG hG hr4 hf4' hg4 ?_
      rintro a5 w5 ⟨S5, μ5, hr5, hf5, hg5, hst5⟩
      have hl5 := hst5.keeps hr4 hl4 (hnl _)
      have hst5' := hst4'.trans (hst5.less (by have := hn (zdU   R (zb7   R b0 (l.take k)) (l[k].cs.take j)); simp only [List.length_append]; omega))
      have hle : Le ⟨C (zdU   R (zb7   R b0 (l.take k)) (l[k].cs.take j)) ++ [ceO l[k].cs[j]], [(0, V (.func (.yield lp) #[] #[])), (7, zNb  l), (8, nA l.length), (9, nA k), (14, zNy  l[k].cs), (15, nA l[k].cs.length), (16, nA j), (20, V (.func (.yield lp) #[] #[])), (21, ceE l[k].cs[j])]⟩ ⟨C (zdU   R (zb7   R b0 (l.take k)) (l[k].cs.take j)), [(0, V (.func (.yield lp) #[] #[])), (7, zNb  l), (8, nA l.length), (9, nA k), (14, zNy  l[k].cs), (15, nA l[k].cs.length), (16, nA j), (20, V (.func (.yield lp) #[] #[])), (21, ceE l[k].cs[j])]⟩ :=
        ⟨zxM    , by rw [hn]; exact ho _, ⟨rfl, rfl, rfl, ztu    l, rfl, rfl, rfl, rfl, rfl, zC1    _, rfl, rfl, rfl, rfl, rfl, rfl, rfl, rfl, trivial⟩⟩
      have hr5 := hle.rel hr5
      have hf5 := hle.fr hf5
      have hst5' := hst5'.trans (hle.step (Nat.le_of_eq (hn _).symm) _ _ _)
      generalize μ5.take (C (zdU   R (zb7   R b0 (l.take k)) (l[k].cs.take j))).length = μ6 at *
      have hfc := hf.ext (Step.toExt hr hst5')
      unfold wpListIn
      rw [if_pos (by simp [Region.wanted, zFj   ])]
      have e21 := hf5.slot 21
      have hy := hround (zdU   R (zb7   R b0 (l.take k)) (l[k].cs.take j)) l[k].cs[j] [a5.tmps.getD 21 undef] w5 S5 μ6 hr5 hfc hg5 hl5 rfl (by
        intro i x v hx hv
        match i, hx, hv with
        | 0, hx, hv => simp at hx hv; subst hx hv; simpa [_root_.Go.Proofs.Ytaaogcnjfkgnoaa.get] using e21)
      refine zza      (R := zxW   lp r w5 S5 μ6 (C (zdU   R (zb7   R b0 (l.take k)) (l[k].cs.take j))) _) zHN    (zx0   hf5 rfl) (by simpa [Act.eval] using hy) ?_
      rintro e w' ⟨w7, S7, μ7, H7, x, ⟨rfl, rfl⟩, hr7, hst7, hl7, hx7⟩
      rw [← ztO        (R := R) (b := zb7   R b0 (l.take k)) hjt] at hr7 hst7
      have hst7' := hst5'.trans (hst7.less (Nat.le_of_eq (hn _).symm))
      have hg7 := hg5.ext hst7.still
      have hf7 := hf5.ext (Step.toExt hr5 hst7)
      rw [zBY    ]
      obtain ⟨rfl, rfl⟩ : e = .returned (.bool true) ∧ w' = w7 := by
        rcases hx7 with ⟨_, q1, q2⟩ | ⟨c, q, _⟩
        · exact ⟨q1, q2⟩
        · cases q
      refine ⟨_, rfl, ?_⟩
      have hput := hf7.put (some 22) (fun i e => by cases e; decide) (v := bA true) (u := .bool true) ⟨rfl, rfl⟩
      have hH := zKe   (Y := V (.func (.yield lp) #[] #[])) (a7 := zNb  l) (a8 := nA l.length) (a9 := nA k) (a14 := zNy  l[k].cs) (a15 := nA l[k].cs.length) (H := C (zdU   R (zb7   R b0 (l.take k)) (l[k].cs.take (j + 1)))) 1000 (nA j) true
      unfold ItH at hH
      rw [zwe      ] at hH
      refine zyy      (rs := [0, 7, 8, 9, 14, 15, 16, 23]) (zGq    1000) rfl gdH hH hr7 (hput.some (by simp [_root_.Go.Proofs.Ytaaogcnjfkgnoaa.get, ASt.set, zLw ])) hg7 ?_
      rintro a8 w8 ⟨S8, μ8, hr8, hf8, hg8, hst8⟩
      have hl8 := hst8.keeps hr7 hl7 (hnl _)
      have hst8' := hst7'.trans (hst8.less (Nat.le_of_eq (hn _).symm))
      simp only [Exit.then]
      refine wpIn_cond (t := false) (zx0   hf8 rfl) ?_
      rw [if_neg (by decide)]
      refine wpIn_skip ?_
      simp only [Exit.inBlock, Exit.then]
      refine wpIn_mono (znU    (rs := [0, 7, 8, 9, 14, 15, 16]) MIX (zGk    1000) (zJS   (Y := V (.func (.yield lp) #[] #[])) (a7 := zNb  l) (a8 := nA l.length) (a9 := nA k) (a14 := zNy  l[k].cs) (a15 := nA l[k].cs.length) 1000 (j : Int) (by omega) (by omega)) hr8 (hf8.some (by simp [_root_.Go.Proofs.Ytaaogcnjfkgnoaa.get])) hg8) ?_
      rintro e a9 w9 ⟨rfl, S9, μ9, hr9, hf9, hg9, hst9⟩
      have hl9 := hst9.keeps hr8 hl8 (hnl _)
      have e9 := hst8'.trans (hst9.less (Nat.le_of_eq (hn _).symm))
      have h49 : a9.tmps.getD 16 undef = .int .i64 ((j : Int) + 1) := zx0   hf9 rfl
      refine ⟨⟨j + 1, S9, μ9, hjt, hr9, hf9.some (by simp [_root_.Go.Proofs.Ytaaogcnjfkgnoaa.get]), hg9, e9, hl9⟩, ?_⟩
      rw [h49, h16]
      simp only [zMW ]
      omega
    · rw [decide_eq_false (by omega)]
      refine wpIn_exit ?_
      simp only [Exit.then, Exit.inBlock, ↓reduceIte]
      obtain rfl : j = l[k].cs.length := by omega
      rw [List.take_length] at hr3 hst3'
      rw [← zua        hlt] at hr3 hst3'
      refine wpIn_mono (znU    (rs := [0, 7, 8, 9]) MIX (zHX    1000) (zJG   (Y := V (.func (.yield lp) #[] #[])) (a7 := zNb  l) (a8 := nA l.length) 1000 (k : Int) (by omega) (by omega)) hr3 (hf3.some (by simp [_root_.Go.Proofs.Ytaaogcnjfkgnoaa.get])) hg3) ?_
      rintro e a9 w9 ⟨rfl, S9, μ9, hr9, hf9, hg9, hst9⟩
      have hl9 := hst9.keeps hr3 hl3 (hnl _)
      have e9 := hst3'.trans (hst9.less (Nat.le_of_eq (hn _).symm))
      have h49 : a9.tmps.getD 9 undef = .int .i64 ((k : Int) + 1) := zx0   hf9 rfl
      refine ⟨⟨k + 1, S9, μ9, hlt, hr9, hf9.some (by simp [_root_.Go.Proofs.Ytaaogcnjfkgnoaa.get]), hg9, e9, hl9⟩, ?_⟩
      rw [h49, h9]
      simp only [zMW ]
      omega
  · rw [decide_eq_false (by omega)]
    refine wpIn_exit ?_
    simp only [Exit.then, Exit.inBlock, ↓reduceIte]
    obtain rfl : k = l.length := by omega
    rw [List.take_length] at hr3 hst3'
    exact ⟨hf3.nodef, _, results_none rfl _ _ _, _, rfl, w3, S3, _, _, .normal, ⟨rfl, rfl⟩, hr3, hst3', hl3, .inl ⟨rfl, rfl⟩⟩
end
end

section
open Go.RowKit
section
variable {P : Program} {G : Gl} {n d : Nat} {w w0 : World} {S S0 : SS} {μ : List Value} {H : List AObj}
theorem zrI {fnn : Func} {rs : List ResultVar} {X : AV} {T : Tm} {a : Act} {D K : Nat} (hrs : fnn.results.toList = rs) (hr : Rel w S μ H) (hf : Fr S μ ⟨K,[⟨.collected D,#[]⟩]⟩ T a) (hD : w.heap[D]? = some (.deferred (some []))) (hX : zNt P H T rs fun ds=>ro H (zaR ds) = X) (hl : ltT 0 X = true)
  (hst : Step 0 w0 S0 [] [] w S μ H) (h0 : w0.heap.size ≤ D) : LeavesInM Fence.wide d P fnn a.tmps (zAC w0 S0 [] [] fun r H'=>r = X ∧ H' = []) a.defers .returning w := by
 have hnd : ∀ r cs t p,(Obj.deferred r) ≠ .cells cs t p := fun _ _ _ _ e=>by cases e
 rw [hf.nodef]
 refine ⟨by simp, .inl ⟨D,_,rfl,run_takeDeferred hD,?_⟩⟩
 have hr2 := hr.touch (w' := w.putObj D (.deferred none)) D (NoCells.of hD (hnd _)) (z7H _ _ _)
 obtain ⟨v,r,hrun,hrep,hk⟩ := zh9 (P := P) hrs hr2 hf (K := fun r=>ro H r = X) hX
 have hrepX : rep S μ X v := by rw [← hk];exact hrep.toRo hr2
 have hle : HLe H [] := by cases H <;> trivial
 refine ⟨v,hrun,v,X,[],S,μ.take 0,rfl,⟨rfl,rfl⟩,hr2.le hle rfl,hrepX.take hl,?_⟩
 exact (hst.touch (w' := w.putObj D (.deferred none)) (l := D) h0 rfl rfl rfl (Nat.le_of_eq (z6k w D _).symm) (z7H _ _ _)).trans (Le.step (s := ⟨H,[]⟩) (s' := ⟨[],[]⟩) ⟨hle,rfl,trivial⟩ (Nat.le_refl _) _ _ _)
theorem zrF {rs : List ResultVar} {e : Exit} {s : ASt} {X : AV} {H' : List AObj} (h : zDc P n rs e s = some (X,H')) (hp : ∀ u,X ≠ PN u) : (e = .normal ∨ e = .ret) ∧ (zNt P s.H s.T rs fun ds=>ro s.H (zaR ds) = X) := by
 have key : (zoM P s.H s.T rs fun ds=>some (ro s.H (zaR ds),s.H)) = some (X,H') → zNt P s.H s.T rs fun ds=>ro s.H (zaR ds) = X := fun q=>by
  rw [zht] at q
  exact z8h (fun ds w=>by cases w;rfl) (zlP q)
 cases e with
 |normal=>exact ⟨.inl rfl,key h⟩
 |ret=>exact ⟨.inr rfl,key h⟩
 |exit id=>cases h
 |goto l=>cases h
 |panic ch =>
  exfalso
  have h : chE ch (fun u=>some (PN u,s.H)) = some (X,H') := h
  unfold chE at h
  split at h <;> cases h
  exact hp _ rfl
 |outgrown=>cases h
end
def atC : Code := (Try.f78.body).getD .skip
theorem zyb : zNr 4 atC = .seq (.seq zJ3 (.block 0 (.rangeFunc (.tmp 13) #[14] (.region 5 (zLJ (cdL zsp)).toArray false) (cdR zsp)))) zFc := by kernel_rfl
theorem zuP : zsp = .seq (.region 5 (zLJ (cdL zsp)).toArray false) (cdR zsp) := by kernel_rfl
theorem zyX : ztt (cdR zsp) = true := by kernel_rfl
abbrev T0a : Tm := [(3,OP 0 0),(4,OP 1 0),(5,OP 2 0),(6,OP 3 0),(7,OP 4 0)]
abbrev zMA (fn D : Nat) (tm : Array Value) : Loop := ⟨.ready,none,fn,tm,[14].toArray, .region 5 (zLJ (cdL zsp)).toArray false,cdR zsp,D⟩
theorem zwN {d l : Nat} {r : Loop} {vs : Array Value} {w : World} {S : SS} {μ : List Value} {H : List AObj} {Q Q' : Exit → List AObj → Prop} (hq : ∀ e H2,Q e H2 → Q' e H2) (h : YieldAt Fence.wide d Try.prog l vs w (zxW l r w S μ H Q)) : YieldAt Fence.wide d Try.prog l vs w (zxW l r w S μ H Q') := by
 obtain ⟨fn,tmps,asg,bd,y1,y2⟩ := h
 refine ⟨fn,tmps,asg,bd,y1,y2.mono ?_⟩
 rintro e w' ⟨w2,S',μ',H',x,q,rest⟩
 exact ⟨w2,S',μ',H',x,hq _ _ q,rest⟩
theorem zxw {e : Exit} (h : bA true = xA e) : e = .normal := by
 cases e <;> simp [xA] at h
 rfl
theorem zyD {q : Int} {l : List Ch} {lp fn D d : Nat} {tm : Array Value} (a : Int × Co) (x : Ce) (vs : List Value) (w : World) (S : SS) (μ : List Value) (hr : Rel w S μ (atH q l a.1 a.2)) (hf : Fr S μ (F0 19) T0a ⟨tm,[]⟩) (hg : GOk GG S) (hl : w.heap[lp]? = some (.loop (zMA fn D tm))) (h1 : vs.length = 1)
  (hv : ∀ (j : Nat) (d : AV) (v : Value),[ceE x][j]? = some d → vs[j]? = some v → rep S μ d v) :
  YieldAt Fence.wide d Try.prog lp vs.toArray w (zxW lp (zMA fn D tm) w S μ (atH q l a.1 a.2) fun e H2=>e = .normal ∧ H2 = atH q l (zmc q a x).1 (zmc q a x).2) := by
 have hx := zJp 1000 q a.1 a.2 l x
 unfold AtR at hx
 rw [zuP] at hx
 refine zwN ?_ (zph (ps := [14]) (xs := [ceE x]) (T := T0a) (zHP 1000) rfl hr hf hg (by decide) hl (by rw [h1];rfl) rfl hv zyX rfl hx)
 rintro e H2 ⟨q1,q2⟩
 exact ⟨zxw q1,q2⟩
def atF (q : Int) (l : List Ch) : Co := (zb7 (zmc q) (-1,co0 q) l).2
theorem at_c (q : Int) (l : List Ch) (hl : l.length ≤ 1000) (hc : ∀ c ∈ l,c.cs.length ≤ 1000) : ACp Try.prog GG 78 [zNb l,nA q] (.agg (coC (atF q l))) := by
 have hnd : ∀ r cs t p,(Obj.deferred r) ≠ .cells cs t p := fun _ _ _ _ e=>by cases e
 refine ⟨by kernel_rfl,?_⟩
 intro w S μ vs hr hg hlen hv
 have hμ : μ = [] := List.eq_nil_of_length_eq_zero hr.len
 subst hμ
 refine (callsIn_wide (n := 5)).1 ?_
 refine callsIn_of_wp_marks Try.func78 rfl trivial ?_
 rw [Try.ntmps78]
 have hfr := zu0 (S := S) (μ := []) (N := 19) (args := [zNb l,nA q]) (vs := vs) hlen (by simp) hv
 refine zlk (n := 0) MIX (zGE 1000) 4 atC zJ6 ⟨[],z14 0 [zNb l,nA q]⟩ (by kernel_rfl) (zJQ 1000 q (zNb l)) hr hfr hg ?_ (Nat.le_refl _)
 rintro a2 w2 ⟨S2,μ2,_,hr2,hf2,hg2,hst2⟩
 rw [zyb]
 refine wpIn_seq (wpIn_seq (wpIn_mono (znU (rs := [3,4,5,6,7,13]) MIX (zI0 1000) (zKl 1000 q (-1) (co0 q) l) hr2 hf2 hg2) ?_))
 rintro e a3 w3 ⟨rfl,S3,μ3,hr3,hf3,hg3,hst3⟩
 simp only [Exit.then]
 have hst3' : Step 0 w S [] [] w3 S3 μ3 (atH q l (-1) (co0 q)) := hst2.trans (hst3.less (Nat.zero_le _))
 refine wpIn_block ?_
 have hlaw := range_law (d := 4) (P := Try.prog) (G := GG) (g := .tmp 13) (ps := [14]) (assign := .region 5 (zLJ (cdL zsp)).toArray false) (body := cdR zsp) (N := 19) (f := 93) (caps := [OP 5 0]) (q2 := 0) (Q := fun e H2=>e = .normal ∧ H2 = atH q l (zb7 (zmc q) (-1,co0 q) l).1 (atF q l)) hr3 hf3 hg3 rfl (by kernel_rfl) ?_
 refine wpIn_mono hlaw ?_
 ·rintro e a5 w5 ⟨S5,μ5,H5,⟨rfl,rfl⟩,hr5,hst5,hf5,hD5,hsz⟩
  simp only [Exit.inBlock,Exit.then]
  have hst5' := hst3'.trans (hst5.less (Nat.zero_le _))
  have hx := zKb 1000 q (zb7 (zmc q) (-1,co0 q) l).1 (atF q l) l [⟨.collected w3.heap.size,#[]⟩]
  refine wpIn_wide.2 (wp_mono (zae (n := 6) MIX (zGW 1000) zFc zHv ⟨atH q l (zb7 (zmc q) (-1,co0 q) l).1 (atF q l),[(4,OP 1 0),(5,OP 2 0)]⟩ _ (Nat.le_refl _) hx w5 S5 μ5 a5 hr5 (hf5.some (by simp [_root_.Go.Proofs.Ytaaogcnjfkgnoaa.get])) (hg3.ext hst5.still)) ?_)
  rintro e a6 w6 ⟨s6,S6,μ6,hq6,hr6,hf6,hst6⟩
  obtain ⟨he6,hX6⟩ := zrF (rs := [.cell 4 73]) hq6 (fun u h=>by cases h)
  have hend := zrI (P := Try.prog) (d := 5) (fnn := Try.f78) (rs := [.cell 4 73]) (X := .agg (coC (atF q l))) rfl hr6 hf6 (hst6.keeps hr5 hD5 (hnd _)) hX6 rfl (hst5'.trans (hst6.less (Nat.zero_le _))) hst3'.size
  rcases he6 with rfl|rfl
  ·exact hend
  ·exact hend
 ·intro lp D fn w1 us hr1 hl1 hus hu
  exact it_calls (β := Int × Co) (C := fun a=>atH q l a.1 a.2) (R := zmc q) (b0 := (-1,co0 q)) (b := 5) (r := zMA fn D a3.tmps) (T0 := T0a) (tm := a3.tmps) (K := 19) (fun a=>rfl) (fun a=>rfl) (fun a=>rfl) hl hc (fun a x vs w S μ h1 h2 h3 h4 h5 h6=>zyD a x vs w S μ h1 h2 h3 h4 h5 h6) (by decide) hr1 ⟨hf3.size,rfl,(hf3.some (T' := T0a) (by simp [_root_.Go.Proofs.Ytaaogcnjfkgnoaa.get])).slot⟩ hg3 hl1 hus hu
end

section
open Go.RowKit
def zNE (l : List Ch) : Prop := l.length ≤ 1000 ∧ ∀ c ∈ l,c.cs.length ≤ 1000
def zfS (m : Nat) : List AV → RO := zL7 (ι := List Ch × Int) (fun p=>[zNb p.1,nA p.2]) (fun p=>.agg (coC (atF p.2 p.1))) (fun p=>zNE p.1)
theorem zqB (m : Nat) : ∀ args X H',zfS m args = some (X,H') → ACp Try.prog GG 78 args X := ztH (by
 rintro ⟨l,q⟩ h
 exact at_c q l h.1 h.2)
theorem zxB {x y : Sm} (h : smE x = smE y) : x = y := by
 cases x;cases y
 unfold smE smC at h
 injection h with h
 simp only [List.cons.injEq,and_true] at h
 obtain ⟨a,b,c,d,e⟩ := h
 rw [zjl a,zjl b,zjl c,zjl d,zjl e]
theorem zk5 {α : Type} {f : α → AV} (hf : ∀ {x y},f x = f y → x = y) : ∀ {l k : List α},l.map f = k.map f → l = k
 |[],[],_=>rfl
 |[],_ :: _,h=>by cases h
 |_ :: _,[],h=>by cases h
 |a :: l,b :: k,h=>by
  simp only [List.map_cons,List.cons.injEq] at h
  rw [hf h.1,zk5 hf h.2]
theorem zDi {x y : Ce} (h : ceE x = ceE y) : x = y := by
 cases x;cases y
 unfold ceE ceC at h
 injection h with h
 simp only [List.cons.injEq,and_true] at h
 obtain ⟨a,b,c,d,e⟩ := h
 injection e with e
 rw [zjl a,zjl b,zjl c,zFO d,zk5 zxB e]
theorem zwK {x y : Ch} (h : cgE x = cgE y) : x = y := by
 cases x;cases y
 unfold cgE cgC at h
 injection h with h
 simp only [List.cons.injEq,and_true] at h
 obtain ⟨a,b,c,d,e,f⟩ := h
 injection e with e
 injection f with f
 rw [zjl a,zjl b,zjl c,zjl d,zk5 zxB e,zk5 zDi f]
theorem zsi (m : Nat) (l : List Ch) (q : Int) (h : zNE l) : zfS m [zNb l,nA q] = some (.agg (coC (atF q l)),[]) := zsQ (ι := List Ch × Int) (by
 rintro ⟨l,q⟩ ⟨k,q'⟩ e
 dsimp only at e ⊢
 simp only [List.cons.injEq,and_true] at e
 obtain ⟨e1,e2⟩ := e
 unfold zNb at e1
 injection e1 with e1
 rw [zjl e2,zk5 zwK e1]) (i := (l,q)) h
end

end Go.Proofs.Ytaaogcnjfkgnoaa
end

namespace Go.Proofs.Ytaaogcnjfkgnoaa
open Go.RowKit
def cP (p : Nat → Bool) : Nat := ((List.range 64).filter p).length
theorem zwz {p q : Nat → Bool} (h : ∀ i,i < 64 → p i = true → q i = true) : cP p ≤ cP q := by
 unfold cP
 have key : ∀ l : List Nat,(∀ i ∈ l,p i = true → q i = true) → (l.filter p).length ≤ (l.filter q).length := by
  intro l
  induction l with
  |nil=>intro _;exact Nat.le_refl _
  |cons a l ih =>
   intro h
   have h1 := ih fun i hi=>h i (List.mem_cons_of_mem _ hi)
   have h2 := h a (List.mem_cons_self ..)
   simp only [List.filter_cons]
   cases hp : p a with
   |true=>rw [h2 hp];simp;omega
   |false=>cases q a <;> simp <;> omega
 exact key _ fun i hi=>h i (List.mem_range.1 hi)
theorem zFC (p q : Nat → Bool) : cP p + cP q = cP (fun i=>p i && q i) + cP (fun i=>p i || q i) := by
 unfold cP
 have key : ∀ l : List Nat,(l.filter p).length + (l.filter q).length = (l.filter fun i=>p i && q i).length + (l.filter fun i=>p i || q i).length := by
  intro l
  induction l with
  |nil=>rfl
  |cons a l ih =>
   simp only [List.filter_cons]
   cases hp : p a <;> cases hq : q a <;> simp <;> omega
 exact key _
theorem zJ5 (s : Nat) : zKU s = cP s.testBit := rfl
theorem zwo {p q : Nat → Bool} (h : ∀ i,i < 64 → p i = q i) : cP p = cP q :=
 Nat.le_antisymm (zwz fun i hi k=>by rw [← h i hi];exact k) (zwz fun i hi k=>by rw [h i hi];exact k)
theorem zF5 {n : Int} (h : okN n = true) : n = 3 * (fN n : Int) + 1 := by
 unfold fN;rw [h]
 rcases okN_iff.1 h with rfl|rfl|rfl|rfl|rfl <;> decide
theorem zE4 {t i : Nat} (ht : t < 2 ^ 64) (hi : i < 64) : (18446744073709551615 - t).testBit i = !t.testBit i := by
 have e : 18446744073709551615 - t = 2 ^ 64 - (t + 1) := by omega
 rw [e,Nat.testBit_two_pow_sub_succ ht]
 simp [hi]
theorem zpo {s : Nat} {n : Int} : zKU (s &&& zLi n) = cP fun i=>s.testBit i && decide ((i : Int) < n) := by
 rw [zJ5]
 exact zwo fun i hi=>by rw [Nat.testBit_and,zsx hi]
theorem zl9 (m : Nat) (n : Int) (hm : 6 < m) : z1P m (nA n) = some (nA (fN n),[]) := by
 rw [zgi]
 refine zqK (ι := {k : Nat // 1 ≤ k ∧ k ≤ 6 ∧ ∀ j : Nat,1 ≤ j → j < k → ¬ n = 3 * (j : Int) + 1}) (fun k=>⟨[],[(0,nA n),(3,nA k.1)]⟩) (fun k=>6 - k.1) (fun _=>some (nA (fN n),[])) ?_ ⟨1,by omega,by omega,fun j h1 h2=>by omega⟩ (by dsimp only;omega)
 rintro ⟨k,hk1,hk,hall⟩ kc hkc
 dsimp only at hkc ⊢
 rw [zdj]
 by_cases hlt : k ≤ 5
 ·have hlt' : (k : Int) ≤ 5 := by omega
  by_cases he : n = 3 * (k : Int) + 1
  ·have hf : (fN n : Int) = k := by
    have ho : okN n = true := okN_iff.2 (by omega)
    have := zF5 ho
    omega
   simp (config := {maxSteps := 4000000,implicitDefEqProofs := false}) (disch := omega) only [go_sem,↓reduceIte,Nat.reduceAdd,Nat.reduceSub,Nat.reduceMul,Nat.reduceLeDiff,Nat.reduceLT,Int.reduceEq,Int.reduceNe,Int.reduceLT,Int.reduceLE,Int.reduceAdd,Int.reduceSub,Int.reduceMul,Int.reduceNeg,Nat.zero_add,Nat.add_zero,Nat.mul_one,Int.toNat_natCast,Int.natCast_zero,Int.cast_ofNat_Int,or_false,false_or,or_true,true_or,Int.reduceToNat,Nat.sub_zero,Int.natCast_nonneg,Int.toNat_zero,Bool.true_and,Bool.and_true,Bool.false_and,Bool.and_false,Bool.true_or,Bool.or_true,Bool.false_or,Bool.or_false,Bool.not_true,Bool.not_false,Bool.not_not,true_and,and_true,false_and,and_false,not_true_eq_false,not_false_eq_true,eq_self,decide_true,decide_false,ne_eq,implies_true,forall_const,true_implies,false_implies,Bool.true_eq_false,Bool.false_eq_true,reduceCtorEq,List.map_cons,List.map_nil,List.all_cons,List.all_nil,List.length_cons,List.length_nil,List.length_map,List.length_append,List.nil_append,List.cons_append,List.set_cons_zero,List.set_cons_succ,List.set_nil,List.drop_zero,List.drop_succ_cons,List.drop_nil,List.take_zero,List.take_succ_cons,List.take_nil,Option.map_some,Option.map_none,Option.isSome_some,Nat.reduceEqDiff,Nat.reduceBEq,Nat.reduceGT,List.all_append,List.all_map,Function.comp_def,decide_eq_true_eq,Bool.and_eq_true,beq_self_eq_true,or_self,and_self,ite_true,ite_false,Nat.le_refl,Bool.not_eq_true,decide_not,Bool.not_eq_true',decide_eq_false_iff_not,Bool.not_eq_false,Bool.or_eq_true,if_true,if_false,ite_self,zgt,zgL,zgT,zgD,zgN,z5I,hlt',z2s,he]
   rw [← he,hf]
  ·have hs := hkc ⟨k + 1,by omega,by omega,fun j h1 h2=>by
    by_cases e : j = k
    ·subst e;exact he
    ·exact hall j h1 (by omega)⟩ (by dsimp only;omega)
   simp (config := {maxSteps := 4000000,implicitDefEqProofs := false}) (disch := omega) only [go_sem,↓reduceIte,Nat.reduceAdd,Nat.reduceSub,Nat.reduceMul,Nat.reduceLeDiff,Nat.reduceLT,Int.reduceEq,Int.reduceNe,Int.reduceLT,Int.reduceLE,Int.reduceAdd,Int.reduceSub,Int.reduceMul,Int.reduceNeg,Nat.zero_add,Nat.add_zero,Nat.mul_one,Int.toNat_natCast,Int.natCast_zero,Int.cast_ofNat_Int,or_false,false_or,or_true,true_or,Int.reduceToNat,Nat.sub_zero,Int.natCast_nonneg,Int.toNat_zero,Bool.true_and,Bool.and_true,Bool.false_and,Bool.and_false,Bool.true_or,Bool.or_true,Bool.false_or,Bool.or_false,Bool.not_true,Bool.not_false,Bool.not_not,true_and,and_true,false_and,and_false,not_true_eq_false,not_false_eq_true,eq_self,decide_true,decide_false,ne_eq,implies_true,forall_const,true_implies,false_implies,Bool.true_eq_false,Bool.false_eq_true,reduceCtorEq,List.map_cons,List.map_nil,List.all_cons,List.all_nil,List.length_cons,List.length_nil,List.length_map,List.length_append,List.nil_append,List.cons_append,List.set_cons_zero,List.set_cons_succ,List.set_nil,List.drop_zero,List.drop_succ_cons,List.drop_nil,List.take_zero,List.take_succ_cons,List.take_nil,Option.map_some,Option.map_none,Option.isSome_some,Nat.reduceEqDiff,Nat.reduceBEq,Nat.reduceGT,List.all_append,List.all_map,Function.comp_def,decide_eq_true_eq,Bool.and_eq_true,beq_self_eq_true,or_self,and_self,ite_true,ite_false,Nat.le_refl,Bool.not_eq_true,decide_not,Bool.not_eq_true',decide_eq_false_iff_not,Bool.not_eq_false,Bool.or_eq_true,if_true,if_false,ite_self,zgt,zgL,zgT,zgD,zgN,z5I,hlt',z2s,he]
   exact hs
 ·have hlt' : ¬ (k : Int) ≤ 5 := by omega
  have hf : fN n = 0 := by
   unfold fN
   rw [if_neg]
   intro ho
   have h1 := hall 1 (by omega) (by omega)
   have h2 := hall 2 (by omega) (by omega)
   have h3 := hall 3 (by omega) (by omega)
   have h4 := hall 4 (by omega) (by omega)
   have h5 := hall 5 (by omega) (by omega)
   rcases okN_iff.1 ho with q|q|q|q|q <;> omega
  simp (config := {maxSteps := 4000000,implicitDefEqProofs := false}) only [go_sem,↓reduceIte,Nat.reduceAdd,Nat.reduceSub,Nat.reduceMul,Nat.reduceLeDiff,Nat.reduceLT,Int.reduceEq,Int.reduceNe,Int.reduceLT,Int.reduceLE,Int.reduceAdd,Int.reduceSub,Int.reduceMul,Int.reduceNeg,Nat.zero_add,Nat.add_zero,Nat.mul_one,Int.toNat_natCast,Int.natCast_zero,Int.cast_ofNat_Int,or_false,false_or,or_true,true_or,Int.reduceToNat,Nat.sub_zero,Int.natCast_nonneg,Int.toNat_zero,Bool.true_and,Bool.and_true,Bool.false_and,Bool.and_false,Bool.true_or,Bool.or_true,Bool.false_or,Bool.or_false,Bool.not_true,Bool.not_false,Bool.not_not,true_and,and_true,false_and,and_false,not_true_eq_false,not_false_eq_true,eq_self,decide_true,decide_false,ne_eq,implies_true,forall_const,true_implies,false_implies,Bool.true_eq_false,Bool.false_eq_true,reduceCtorEq,List.map_cons,List.map_nil,List.all_cons,List.all_nil,List.length_cons,List.length_nil,List.length_map,List.length_append,List.nil_append,List.cons_append,List.set_cons_zero,List.set_cons_succ,List.set_nil,List.drop_zero,List.drop_succ_cons,List.drop_nil,List.take_zero,List.take_succ_cons,List.take_nil,Option.map_some,Option.map_none,Option.isSome_some,Nat.reduceEqDiff,Nat.reduceBEq,Nat.reduceGT,List.all_append,List.all_map,Function.comp_def,decide_eq_true_eq,Bool.and_eq_true,beq_self_eq_true,or_self,and_self,ite_true,ite_false,Nat.le_refl,Bool.not_eq_true,decide_not,Bool.not_eq_true',decide_eq_false_iff_not,Bool.not_eq_false,Bool.or_eq_true,if_true,if_false,ite_self,zgt,zgL,zgT,zgD,zgN,z5I,hlt']
  rw [zdC,hf]
  simp (config := {maxSteps := 4000000,implicitDefEqProofs := false}) only [go_sem,↓reduceIte,Nat.reduceAdd,Nat.reduceSub,Nat.reduceMul,Nat.reduceLeDiff,Nat.reduceLT,Int.reduceEq,Int.reduceNe,Int.reduceLT,Int.reduceLE,Int.reduceAdd,Int.reduceSub,Int.reduceMul,Int.reduceNeg,Nat.zero_add,Nat.add_zero,Nat.mul_one,Int.toNat_natCast,Int.natCast_zero,Int.cast_ofNat_Int,or_false,false_or,or_true,true_or,Int.reduceToNat,Nat.sub_zero,Int.natCast_nonneg,Int.toNat_zero,Bool.true_and,Bool.and_true,Bool.false_and,Bool.and_false,Bool.true_or,Bool.or_true,Bool.false_or,Bool.or_false,Bool.not_true,Bool.not_false,Bool.not_not,true_and,and_true,false_and,and_false,not_true_eq_false,not_false_eq_true,eq_self,decide_true,decide_false,ne_eq,implies_true,forall_const,true_implies,false_implies,Bool.true_eq_false,Bool.false_eq_true,reduceCtorEq,List.map_cons,List.map_nil,List.all_cons,List.all_nil,List.length_cons,List.length_nil,List.length_map,List.length_append,List.nil_append,List.cons_append,List.set_cons_zero,List.set_cons_succ,List.set_nil,List.drop_zero,List.drop_succ_cons,List.drop_nil,List.take_zero,List.take_succ_cons,List.take_nil,Option.map_some,Option.map_none,Option.isSome_some,Nat.reduceEqDiff,Nat.reduceBEq,Nat.reduceGT,List.all_append,List.all_map,Function.comp_def,decide_eq_true_eq,Bool.and_eq_true,beq_self_eq_true,or_self,and_self,ite_true,ite_false,Nat.le_refl,Bool.not_eq_true,decide_not,Bool.not_eq_true',decide_eq_false_iff_not,Bool.not_eq_false,Bool.or_eq_true,if_true,if_false,ite_self,zgt,zgL,zgT,zgD,zgN,z5I]
theorem zGX (m s : Nat) (n : Int) (h : s < 2 ^ 64) : zfA m (qA s) (nA n) = some (bA (!decide ((s &&& qb n : Nat) = 0)),[]) := by
 have hb := zFa m n
 have ha := bits_and_u64_nat s (qb n) h (zvg n)
 have e : decide (((s &&& qb n : Nat) : Int) = 0) = decide ((s &&& qb n : Nat) = 0) := by rw [decide_eq_decide];omega
 rw [zq1]
 simp (config := {maxSteps := 4000000,implicitDefEqProofs := false}) only [go_sem,↓reduceIte,Nat.reduceAdd,Nat.reduceSub,Nat.reduceMul,Nat.reduceLeDiff,Nat.reduceLT,Int.reduceEq,Int.reduceNe,Int.reduceLT,Int.reduceLE,Int.reduceAdd,Int.reduceSub,Int.reduceMul,Int.reduceNeg,Nat.zero_add,Nat.add_zero,Nat.mul_one,Int.toNat_natCast,Int.natCast_zero,Int.cast_ofNat_Int,or_false,false_or,or_true,true_or,Int.reduceToNat,Nat.sub_zero,Int.natCast_nonneg,Int.toNat_zero,Bool.true_and,Bool.and_true,Bool.false_and,Bool.and_false,Bool.true_or,Bool.or_true,Bool.false_or,Bool.or_false,Bool.not_true,Bool.not_false,Bool.not_not,true_and,and_true,false_and,and_false,not_true_eq_false,not_false_eq_true,eq_self,decide_true,decide_false,ne_eq,implies_true,forall_const,true_implies,false_implies,Bool.true_eq_false,Bool.false_eq_true,reduceCtorEq,List.map_cons,List.map_nil,List.all_cons,List.all_nil,List.length_cons,List.length_nil,List.length_map,List.length_append,List.nil_append,List.cons_append,List.set_cons_zero,List.set_cons_succ,List.set_nil,List.drop_zero,List.drop_succ_cons,List.drop_nil,List.take_zero,List.take_succ_cons,List.take_nil,Option.map_some,Option.map_none,Option.isSome_some,Nat.reduceEqDiff,Nat.reduceBEq,Nat.reduceGT,List.all_append,List.all_map,Function.comp_def,decide_eq_true_eq,Bool.and_eq_true,beq_self_eq_true,or_self,and_self,ite_true,ite_false,Nat.le_refl,Bool.not_eq_true,decide_not,Bool.not_eq_true',decide_eq_false_iff_not,Bool.not_eq_false,Bool.or_eq_true,if_true,if_false,ite_self,zgt,zgL,zgT,zgD,zgN,z5I,hb,ha,e]
theorem zCL {a : Nat} (h : a < 64) : cP (fun i=>decide (i = a)) = 1 := by
 have : ∀ a,a < 64 → cP (fun i=>decide (i = a)) = 1 := by decide +kernel
 exact this a h
theorem zCU {p q : Nat → Bool} {a : Nat} (h : a < 64) (hp : p a = false) (hq : ∀ i,i < 64 → q i = (p i || decide (i = a))) : cP q = cP p + 1 := by
 have h1 := zFC p (fun i=>decide (i = a))
 have h2 : cP (fun i=>p i && decide (i = a)) = 0 := by
  unfold cP
  rw [List.length_eq_zero_iff,List.filter_eq_nil_iff]
  intro i _
  by_cases e : i = a
  ·subst e;simp [hp]
  ·simp [e]
 rw [zCL h,h2,← zwo hq] at h1
 omega
end Go.Proofs.Ytaaogcnjfkgnoaa

section
namespace Go.Proofs.Ytaaogcnjfkgnoaa
attribute [local go_sem] Nat.zero_add Nat.add_zero Nat.mul_one Int.toNat_natCast Int.natCast_zero Int.cast_ofNat_Int or_false false_or or_true true_or Nat.sub_zero Int.natCast_nonneg Int.toNat_zero Bool.true_and Bool.and_true Bool.false_and Bool.and_false Bool.true_or Bool.or_true Bool.false_or Bool.or_false Bool.not_true Bool.not_false Bool.not_not true_and and_true false_and and_false not_true_eq_false not_false_eq_true eq_self decide_true decide_false ne_eq implies_true forall_const true_implies false_implies Bool.true_eq_false Bool.false_eq_true List.map_cons List.map_nil List.all_cons List.all_nil List.length_cons List.length_nil List.length_map List.length_append List.nil_append List.cons_append List.set_cons_zero List.set_cons_succ List.set_nil List.drop_zero List.drop_succ_cons List.drop_nil List.take_zero List.take_succ_cons List.take_nil Option.map_some Option.map_none Option.isSome_some List.all_append List.all_map Function.comp_def decide_eq_true_eq Bool.and_eq_true beq_self_eq_true or_self and_self ite_true ite_false Nat.le_refl Bool.not_eq_true decide_not Bool.not_eq_true' decide_eq_false_iff_not Bool.not_eq_false Bool.or_eq_true if_true if_false ite_self zgt zgL zgT zgD zgN z5I z6x znr zim zl3 znw zj7 zut zii zw8 zoB znT zva zdk z9t zwp zd2 z9U zw5 zcG z9R zw2 ze0 z9K zwc zdv z9B ziK zd1 ziP zop zok zdz ziu zda zdw zfG zhD zo0 zoy zi3 ziH zoh ziC zwi ziG zvM znZ zoK zuK zcE z9s zw4 zdP z9q zvE zdh z9Q zhM z7f z58 zw1 zdI z9O zj8 zd3 zi7 zno zoe zdJ zic zdF zcX zfx zi8 zaD znN ziB zmB zoo ziO zvb ziX zvZ znv zon zv4 zdb z9S zwg zdZ z9X zun zd7 z9P zuX ze2 z9E zv6 zdn z9M zv5 zdS z9A zhP zdB zi9 znO zoa zcS ziS zcC zdx zgR zhQ zmH zot ziV zmt znC zhE zup zhJ zvO znS znV zvX zcP z9Z zvW zcR z9v zwk zcV z9p zwn zcY z9z zux zcD z9N zj1 z7s z5l zvA zdN z9o zoc z9w z7m zih zdG ziz zo7 znJ zdY zig zdH zde zhR zhX ztp znA zhN znx zou zhx zvj ziJ zuT zoz zox zuA zdO z9H zvp zd5 z9T ziM z6A z5a zuG zdl z9J zij zd4 zhL zoC znq zd8 zia zdu zcU zfe ziW zvn znX zif zog znG ziU zw7 zhz zv8 zny zow zvc zcH z9F zvm zcW z9L zuS zcJ z9I zvV zcF za0 zuH zdV z9C zvL zdR z9Y zik ziv znL zqn zMd zvo zuZ zvk zvS zvN zus zuJ zwA zwD zAL
attribute [local go_sem_proc] Nat.reduceAdd Nat.reduceSub Nat.reduceMul Nat.reduceLeDiff Nat.reduceLT Int.reduceEq Int.reduceNe Int.reduceLT Int.reduceLE Int.reduceAdd Int.reduceSub Int.reduceMul Int.reduceNeg Int.reduceToNat reduceCtorEq Nat.reduceEqDiff Nat.reduceBEq Nat.reduceGT
attribute [local go_sem_proc ↓] reduceIte
section
open Go.RowKit
def zNs (q : Int) : Bool := decide (0 < q) && decide (q % 4 = 0)
theorem zFF (m : Nat) (q : Int) : zj6 m (nA q) = some (bA (zNs q),[]) := by
 rw [zq6]
 unfold zNs
 by_cases h1 : 0 < q
 ·have h2 : q.tmod 4 = q % 4 := ztg (by omega)
  simp (config := {maxSteps := 4000000,implicitDefEqProofs := false}) (disch := omega) only [go_sem,h1,h2]
 ·simp (config := {maxSteps := 4000000,implicitDefEqProofs := false}) (disch := omega) only [go_sem,h1]
theorem zCt (m : Nat) (q : Int) : z5G m (nA q) = some (bA (zNs q),[]) := by
 rw [zjb]
 unfold zNs
 by_cases h1 : 0 < q
 ·have h2 : q.tmod 4 = q % 4 := ztg (by omega)
  simp (config := {maxSteps := 4000000,implicitDefEqProofs := false}) (disch := omega) only [go_sem,h1,h2]
 ·simp (config := {maxSteps := 4000000,implicitDefEqProofs := false}) (disch := omega) only [go_sem,h1]
def znj (st : Int) (cs : List Ce) : Nat → Int
 |0=>st
 |j + 1=>(cs.getD j Ce.zero).sq
theorem zbR {st : Int} {cs : List Ce} {j : Nat} (h : j < cs.length) : znj st cs (j + 1) = cs[j].sq := by
 simp [znj,List.getD,h]
structure CeOk (st : Int) (cs : List Ce) (j : Nat) (x : Ce) : Prop where
 lo : znj st cs j < x.sq
 hi : x.sq ≤ st + 16
 vw : 0 ≤ x.vw
 bd : x.body.length ≤ 65536
def CsOk (st : Int) (cs : List Ce) : Prop := ∀ (j : Nat) (h : j < cs.length),CeOk st cs j cs[j]
theorem CsOk.last {st : Int} {cs : List Ce} (h : CsOk st cs) : ∀ j,j ≤ cs.length → st ≤ znj st cs j
 |0,_=>Int.le_refl _
 |j + 1,hj=>by
  have h1 := CsOk.last h j (by omega)
  have h2 := (h j (by omega)).lo
  rw [zbR (by omega)]
  omega
theorem CsOk.st {st : Int} {cs : List Ce} (h : CsOk st cs) {j : Nat} (hj : j < cs.length) : st < cs[j].sq := by
 have h1 := h.last j (by omega)
 have h2 := (h j hj).lo
 omega
theorem zxk (m : Nat) (x : Ch) (hm : x.cs.length < m) (h0 : 0 ≤ x.st) (h1 : x.st ≤ 2147483647) (hl : x.cs.length ≤ 1000) (hcs : CsOk x.st x.cs) : zay m (cgE x) = some (bA true,[]) := by
 rw [zmx,zaD]
 simp (config := {maxSteps := 4000000,implicitDefEqProofs := false}) (disch := omega) only [go_sem,]
 refine z13 (m := m) (ι := {k : Nat // k ≤ x.cs.length}) (fun k=>⟨[⟨1,z00,0,cgC x⟩],[(1,OP 0 0),(3,nA (znj x.st x.cs k.1)),(9,zNy x.cs),(10,nA x.cs.length),(11,nA k.1)]⟩) (fun k=>x.cs.length - k.1) (fun _=>some (bA true,[])) ?_ ⟨0,Nat.zero_le _⟩ (by dsimp only;omega)
 rintro kx hkx ⟨k,hk⟩ kc hkc
 dsimp only at hkc ⊢
 rw [zjN]
 unfold zNy at hkc ⊢
 by_cases hlt : k < x.cs.length
 ·have hlt' : (k : Int) < (x.cs.length : Int) := by omega
  obtain ⟨c1,c2,c3,c4⟩ := hcs k hlt
  have c5 := hcs.st hlt
  have step := hkc ⟨k + 1,by omega⟩ (by dsimp only;omega)
  dsimp only at step
  rw [zbR hlt] at step
  have d1 : ¬ x.cs[k].sq ≤ znj x.st x.cs k := by omega
  have d2 : ¬ (16 : Int) < x.cs[k].sq - x.st := by omega
  have d3 : ¬ x.cs[k].vw < 0 := by omega
  have d4 : ¬ (65536 : Int) < (x.cs[k].body.length : Int) := by omega
  have d5 : IntKind.i64.wrap (x.cs[k].sq - x.st) = x.cs[k].sq - x.st := z2s (by omega) (by omega)
  simp (config := {maxSteps := 4000000,implicitDefEqProofs := false}) (disch := omega) only [go_sem,hlt',hlt,d1,d2,d3,d4,d5,z2s,zk2,zjh,zjW]
  exact step
 ·obtain rfl : k = x.cs.length := by omega
  have hlt' : ¬ (x.cs.length : Int) < (x.cs.length : Int) := Int.lt_irrefl _
  simp (config := {maxSteps := 4000000,implicitDefEqProofs := false}) (disch := omega) only [go_sem,hlt',hkx,zjz]
def zL5 (l : List Ch) (k : Nat) : Nat := (l.take k).foldl (fun s c=>s ||| qb c.fr) 0
theorem zfL {l : List Ch} {k : Nat} (h : k < l.length) : zL5 l (k + 1) = zL5 l k ||| qb l[k].fr := by
 unfold zL5
 rw [List.take_succ_eq_append_getElem h,List.foldl_append]
 rfl
theorem zp9 (l : List Ch) : ∀ k,k ≤ l.length → zL5 l k < 2 ^ 64
 |0,_=>by unfold zL5;simp
 |k + 1,hk=>by
  rw [zfL (by omega)]
  exact Nat.or_lt_two_pow (zp9 l k (by omega)) (zvg _)
structure ChOk (n : Int) (c : Ch) : Prop where
 f0 : 0 ≤ c.fr
 fn : c.fr < n
 sd : c.st = 0 ∨ zNs c.st = true
 sl : c.st ≤ 2147483647
 cs : CsOk c.st c.cs
theorem ChOk.s0 {n : Int} {c : Ch} (h : ChOk n c) : 0 ≤ c.st := by
 rcases h.sd with q|q
 ·omega
 ·unfold zNs at q
  simp only [Bool.and_eq_true,decide_eq_true_eq] at q
  omega
structure LOk (n : Int) (l : List Ch) : Prop where
 nn : okN n = true
 len : 2 * fN n + 1 ≤ l.length
 all : ∀ c ∈ l,ChOk n c
 one : (l.map Ch.fr).Nodup
theorem zqE {n : Int} {l : List Ch} (hn : okN n = true) (h : ∀ c ∈ l,ChOk n c) : ∀ k,k ≤ l.length → ∀ j,j < 64 → ((zL5 l k).testBit j = true ↔ ∃ i,∃ h : i < l.length,i < k ∧ l[i].fr = j)
 |0,_,j,hj=>by
  have : zL5 l 0 = 0 := rfl
  rw [this]
  simp
 |k + 1,hk,j,hj=>by
  rw [zfL (by omega),zNm hj,Bool.or_eq_true,zqE hn h k (by omega) j hj,decide_eq_true_eq]
  constructor
  ·rintro (⟨i,h1,h2,h3⟩|h3)
   ·exact ⟨i,h1,by omega,h3⟩
   ·exact ⟨k,by omega,by omega,h3⟩
  ·rintro ⟨i,h1,h2,h3⟩
   by_cases e : i = k
   ·subst e;exact .inr h3
   ·exact .inl ⟨i,h1,by omega,h3⟩
theorem zGY {a : Nat} (h : a ≤ 63) : qb a = 2 ^ a := by unfold qb;rw [if_pos (by omega)];simp
theorem zDR {s a : Nat} (h : a ≤ 63) : (s &&& qb a = 0) ↔ s.testBit a = false := by
 rw [zGY h]
 constructor
 ·intro q
  have : (s &&& 2 ^ a).testBit a = false := by rw [q];exact Nat.zero_testBit a
  rwa [Nat.testBit_and,Nat.testBit_two_pow_self,Bool.and_true] at this
 ·intro q
  apply Nat.eq_of_testBit_eq
  intro j
  rw [Nat.testBit_and,Nat.testBit_two_pow,Nat.zero_testBit]
  by_cases e : a = j
  ·subst e;simp [q]
  ·simp [e]
section
variable {n : Int} {l : List Ch}
theorem LOk.n64 (h : LOk n l) : n ≤ 16 := by
 rcases okN_iff.1 h.nn with q|q|q|q|q <;> omega
theorem LOk.fresh (h : LOk n l) {k : Nat} (hk : k < l.length) : (zL5 l k).testBit l[k].fr.toNat = false := by
 have hc := h.all l[k] (List.getElem_mem hk)
 have h1 := hc.f0
 have h2 := hc.fn
 have h3 := h.n64
 have hj : l[k].fr.toNat < 64 := by omega
 have key := zqE h.nn h.all k (by omega) l[k].fr.toNat hj
 cases hb : (zL5 l k).testBit l[k].fr.toNat with
 |false=>rfl
 |true =>
  exfalso
  obtain ⟨i,hi,hik,he⟩ := key.1 hb
  have h4 : l[i].fr = l[k].fr := by rw [he,Int.toNat_of_nonneg h1]
  have h5 := (List.pairwise_iff_getElem.1 h.one) i k (by simpa using hi) (by simpa using hk) hik
  rw [List.getElem_map,List.getElem_map] at h5
  exact h5 h4
theorem LOk.has (h : LOk n l) {k : Nat} (hk : k < l.length) : (zL5 l k &&& qb l[k].fr : Nat) = 0 := by
 have hc := h.all l[k] (List.getElem_mem hk)
 have h1 := hc.f0
 have h2 := hc.fn
 have h3 := h.n64
 have h4 := h.fresh hk
 obtain ⟨a,ha⟩ : ∃ a : Nat,l[k].fr = a := ⟨l[k].fr.toNat,by omega⟩
 rw [ha] at h4 ⊢
 exact (zDR (by omega)).2 (by simpa using h4)
theorem LOk.cnt (h : LOk n l) : ∀ k,k ≤ l.length → zKU (zL5 l k &&& zLi n) = k
 |0,_=>by
  rw [zpo]
  have : zL5 l 0 = 0 := rfl
  rw [this]
  unfold cP
  rw [List.length_eq_zero_iff,List.filter_eq_nil_iff]
  intro i _
  simp
 |k + 1,hk=>by
  have ih := LOk.cnt h k (by omega)
  have hk' : k < l.length := by omega
  have hc := h.all l[k] (List.getElem_mem hk')
  have h1 := hc.f0
  have h2 := hc.fn
  have h3 := h.n64
  have h4 := h.fresh hk'
  rw [zpo] at ih ⊢
  rw [zCU (p := fun i=>(zL5 l k).testBit i && decide ((i : Int) < n)) (a := l[k].fr.toNat) (by omega) (by simp [h4]) (fun i hi=>by
   rw [zfL hk',zNm hi]
   have e : decide (l[k].fr = (i : Int)) = decide (i = l[k].fr.toNat) := by rw [decide_eq_decide];omega
   rw [e]
   by_cases q : i = l[k].fr.toNat
   ·have : (i : Int) < n := by omega
    simp [q,this]
    omega
   ·simp [q]),ih]
end
end

section
open Go.RowKit
section
variable {n : Int} {l : List Ch}
theorem zJP (m : Nat) (h : LOk n l) (hf : zNE l) (hm : 1000 < m) : zc2 m (zNb l) (nA n) = some (bA true,[]) := by
 have hF := zh6 m n
 rw [h.nn] at hF
 rw [zku]
 have hl := hf.1
 unfold zNb
 simp (config := {maxSteps := 4000000,implicitDefEqProofs := false}) (disch := omega) only [go_sem,hF]
 refine z13 (m := m) (ι := {k : Nat // k ≤ l.length}) (fun k=>⟨[],[(1,nA n),(7,qA (zL5 l k.1)),(17,zNb l),(18,nA l.length),(19,nA k.1)]⟩) (fun k=>l.length - k.1) (fun _=>some (bA true,[])) ?_ ⟨0,Nat.zero_le _⟩ (by dsimp only;omega)
 rintro kx hkx ⟨k,hk⟩ kc hkc
 dsimp only at hkc ⊢
 rw [zeY]
 unfold zNb at hkc ⊢
 by_cases hlt : k < l.length
 ·have hlt' : (k : Int) < (l.length : Int) := by omega
  have hc := h.all l[k] (List.getElem_mem hlt)
  have c0 := hc.s0
  obtain ⟨c1,c2,c3,c4,c5⟩ := hc
  have step := hkc ⟨k + 1,by omega⟩ (by dsimp only;omega)
  dsimp only at step
  have hs := zp9 l k (by omega)
  rw [zfL hlt] at step
  have g1 := zGX m (zL5 l k) l[k].fr hs
  have hhas := h.has hlt
  rw [hhas] at g1
  have g2 := zxk m l[k] (by have := hf.2 l[k] (List.getElem_mem hlt);omega) c0 c4 (hf.2 l[k] (List.getElem_mem hlt)) c5
  rw [zaD] at g2
  have g3 := zz5 m (zL5 l k) l[k].fr hs
  have g4 := zFF m l[k].st
  have d1 : ¬ l[k].fr < 0 := by omega
  have d2 : ¬ n ≤ l[k].fr := by omega
  have d3 : ¬ (2147483647 : Int) < l[k].st := by omega
  by_cases hz : l[k].st = 0
  ·simp (config := {maxSteps := 4000000,implicitDefEqProofs := false}) (disch := omega) only [go_sem,hlt',hlt,d1,d2,d3,g1,g2,g3,hz,z2s,z4F,z4S,z4D]
   exact step
  ·have hd : zNs l[k].st = true := by
    rcases c3 with q|q
    ·exact absurd q hz
    ·exact q
   rw [hd] at g4
   simp (config := {maxSteps := 4000000,implicitDefEqProofs := false}) (disch := omega) only [go_sem,hlt',hlt,d1,d2,d3,g1,g2,g3,g4,hz,z2s,z4F,z4S,z4D]
   exact step
 ·obtain rfl : k = l.length := by omega
  have hlt' : ¬ (l.length : Int) < (l.length : Int) := Int.lt_irrefl _
  have g5 := zmh m (zL5 l l.length) n (zp9 l _ (Nat.le_refl _))
  have hlen := h.len
  rw [h.cnt l.length (Nat.le_refl _),h.nn,decide_eq_true (show 2 * (fN n : Int) + 1 ≤ (l.length : Int) by omega)] at g5
  simp (config := {maxSteps := 4000000,implicitDefEqProofs := false}) (disch := omega) only [go_sem,hlt',hkx,zfr,g5]
def zom (l : List Ch) : Nat → Ch
 |0=>l.headD Ch.zero
 |k + 1=>if (zom l k).st < (l.getD k Ch.zero).st then l.getD k Ch.zero else zom l k
def zMg (l : List Ch) : Ch := zom l l.length
theorem znD (h : 0 < l.length) : ∀ k,k ≤ l.length → zom l k ∈ l
 |0,_=>by
  cases l with
  |nil=>simp at h
  |cons a l=>exact List.mem_cons_self ..
 |k + 1,hk=>by
  unfold zom
  split
  ·rw [List.getD_eq_getElem?_getD,List.getElem?_eq_getElem (by omega)]
   exact List.getElem_mem _
  ·exact znD h k (by omega)
theorem zKd (m : Nat) (h : LOk n l) (hf : zNE l) (hm : 1000 < m) : zhS m (zNb l) (nA n) = some (TU [nA (zMg l).st,nA (zMg l).rt,nA 0],[]) := by
 have hM := zJP m h hf hm
 have hl := hf.1
 have h0 : 0 < l.length := by have := h.len;omega
 have e0 : l[0] = l.headD Ch.zero := by cases l with|nil=>simp at h0|cons=>rfl
 rw [zpl]
 unfold zNb at hM ⊢
 simp (config := {maxSteps := 4000000,implicitDefEqProofs := false}) (disch := omega) only [go_sem,hM,h0,e0]
 refine z13 (m := m) (ι := {k : Nat // k ≤ l.length}) (fun k=>⟨[⟨1,z00,0,cgC (zom l k.1)⟩],[(7,OP 0 0),(17,zNb l),(18,nA l.length),(19,nA k.1)]⟩) (fun k=>l.length - k.1) (fun _=>some (TU [nA (zMg l).st,nA (zMg l).rt,nA 0],[])) ?_ ⟨0,Nat.zero_le _⟩ (by dsimp only;omega)
 rintro kx hkx ⟨k,hk⟩ kc hkc
 dsimp only at hkc ⊢
 rw [zlB]
 unfold zNb at hkc ⊢
 by_cases hlt : k < l.length
 ·have hlt' : (k : Int) < (l.length : Int) := by omega
  have step := hkc ⟨k + 1,by omega⟩ (by dsimp only;omega)
  dsimp only at step
  have eg : l.getD k Ch.zero = l[k] := by simp [List.getD,hlt]
  rw [show zom l (k + 1) = if (zom l k).st < (l.getD k Ch.zero).st then l.getD k Ch.zero else zom l k from rfl,eg] at step
  generalize zom l k = B at *
  by_cases hb : B.st < l[k].st
  ·rw [if_pos hb] at step
   simp (config := {maxSteps := 4000000,implicitDefEqProofs := false}) (disch := omega) only [go_sem,hlt',hlt,hb,z2s,zfd]
   exact step
  ·rw [if_neg hb] at step
   simp (config := {maxSteps := 4000000,implicitDefEqProofs := false}) (disch := omega) only [go_sem,hlt',hlt,hb,z2s,zfd]
   exact step
 ·obtain rfl : k = l.length := by omega
  have hlt' : ¬ (l.length : Int) < (l.length : Int) := Int.lt_irrefl _
  have eL : zom l l.length = zMg l := rfl
  rw [eL]
  simp (config := {maxSteps := 4000000,implicitDefEqProofs := false}) (disch := omega) only [go_sem,hlt',hkx,zlz]
end
end

section
open Go.RowKit
def zKj : Code := zML 4 (zNr 0 ((Try.f52.body).getD .skip)) .skip
def zIv : Hint := (.two .n (.two .n (.two (.two .n (.two (.two .n .n) .n)) (.two .n .n))))
def ztC (m : Nat) : Env := [(76, .tell (zhn m))]
abbrev zB0 (n0 : Nat) : KO (AV × List AObj) := zl7 [0,6,9]
def ChA (m : Nat) (D : List Deferred) (t0 t1 : AV) (H : List AObj) : RO := zLa Try.prog GG (ztC m) m ⟨45,D⟩ zKj zIv ⟨H,[(0,t0),(1,t1)]⟩ (zB0 H.length)
theorem zFw (m : Nat) (D : List Deferred) (t0 t1 : AV) (H : List AObj) : ChA m D t0 t1 H =
 z1D (zhS m (ro H t0) (ro H t1)) [(ro H t0),(ro H t1)] fun t16 =>
 zLC t16 0 fun t17 =>
 zLC t16 1 fun t18 =>
 zLC t16 2 fun t19 =>
 zMe none false false .neq t19 (V (.int .i64 0)) fun t21 =>
 z0o t21 (
  none) (
  z2f (some zEu) z5v H fun t9 H2 =>
  z0I 1 H2 t9 t17 fun H3 =>
  some (TU [t0,t17,t9],H3)) := by
 refine (zLX _ _ _ _ _ _ _ _ _).trans ?_
 kernel_rfl
theorem zGf (m : Nat) : zaL Try.prog GG (ztC m) := (by
 intro f e h
 simp only [ztC,Prod.mk.injEq,List.mem_cons,List.not_mem_nil,or_false] at h
 obtain ⟨rfl,rfl⟩ := h
 ·exact zp8 m)
end

section
open Go.RowKit
def zIS : Code := (cdL (cdL (zNr 4 ((Try.f52.body).getD .skip))))
def zJz : Hint := .n
def zsA (m : Nat) : Env := [(77, .keep (ze1 m))]
abbrev zB4 (n0 : Nat) : KO (AV × List AObj) := zl7 [0,6,9,25]
def ChB (m : Nat) (D : List Deferred) (t0 t6 t9 : AV) (H : List AObj) : RO := zLa Try.prog GG (zsA m) m ⟨45,D⟩ zIS zJz ⟨H,[(0,t0),(6,t6),(9,t9)]⟩ (zB4 H.length)
theorem zGI (m : Nat) (D : List Deferred) (t0 t6 t9 : AV) (H : List AObj) : ChB m D t0 t6 t9 H =
 z4O (zhA m (ro H t0) H) fun t25 H2 =>
 some (TU [t0,t6,t9,t25],H2) := by
 refine (zLX _ _ _ _ _ _ _ _ _).trans ?_
 kernel_rfl
theorem zGh (m : Nat) : zaL Try.prog GG (zsA m) := (by
 intro f e h
 simp only [zsA,Prod.mk.injEq,List.mem_cons,List.not_mem_nil,or_false] at h
 obtain ⟨rfl,rfl⟩ := h
 ·exact zks m)
end

section
open Go.RowKit
def zAP : Code := (zNr 5 ((Try.f52.body).getD .skip))
def ChC_h : Hint := (.two .n (.join [11] (.two .n (.one (.lp [(11,z0q,4)] [0,9,11,12] [11] (.two (.two .n (.two .n .n)) (.two (.one .n) .n))))) (.two .n .n)))
def znf (m : Nat) : Env := [(78, .tell (zfS m))]
abbrev zth (n0 : Nat) : KO (AV × List AObj) := zDc Try.prog n0 [.tmp 4, .tmp 5]
def zED (m : Nat) (D : List Deferred) (n0k : Nat) (s : ASt) : RO := z11 Try.prog GG (znf m) m ⟨45,D⟩ (cdR (cdR zAP)) ChC_h.r.r s (zth n0k)
def zDP (m : Nat) (D : List Deferred) (s : ASt) (kc : ASt → RO) (kx : KO (AV × List AObj)) : RO := z8G Try.prog GG (znf m) m ⟨45,D⟩ (cdL (cdL (cdR (cdL (cdR zAP))))) ChC_h.r.l.r.c.c [0,9,11,12] [11] s kc kx
def ChC (m : Nat) (D : List Deferred) (t0 t6 t9 : AV) (H : List AObj) : RO := zLa Try.prog GG (znf m) m ⟨45,D⟩ zAP ChC_h ⟨H,[(0,t0),(6,t6),(9,t9)]⟩ (zth H.length)
theorem zvx (m : Nat) (D : List Deferred) (n0k : Nat) (H : List AObj) (t11 : AV) : zED m D n0k ⟨H,[(11,t11)]⟩ =
 some (ro H (TU [noT t11,noT (V (.int .i64 0))]),H) := by
 refine (z03 _ _ _ _ _ _ _ _ _).trans ?_
 kernel_rfl
theorem zw0 (m : Nat) (D : List Deferred) (H : List AObj) (t0 t9 t11 t12 : AV) (kc : ASt → RO) (kx : KO (AV × List AObj)) : zDP m D ⟨H,[(0,t0),(9,t9),(11,t11),(12,t12)]⟩ kc kx =
 z04 1 H t9 fun t34 =>
 zMe none false false .leq t12 t34 fun t35 =>
 z0o t35 (
  z1D (zfS m [(ro H t0),(ro H t12)]) [(ro H t0),(ro H t12)] fun t41 =>
  z0O (some (z0q,4)) 1 [(0,t41)] fun t42 =>
  zNh (some (z0q,4)) H t11 t42 fun t43 H2 =>
  zMe none false false .add t12 (V (.int .i64 1)) fun t37 =>
  z7z H.length H2 [(0,t0),(9,t9),(11,t43),(12,t37)] kc) (
  kx (.exit 2) ⟨H,[(11,t11)]⟩) := by
 refine (z0F _ _ _ _ _ _ _ _ _ _ _ _).trans ?_
 kernel_rfl
theorem zGF (m : Nat) (D : List Deferred) (t0 t6 t9 : AV) (H : List AObj) : ChC m D t0 t6 t9 H =
 zMe none false false .add t6 (V (.int .i64 1)) fun t32 =>
 zNf (V (.slice none 0 0)) z0q 4 H fun t11 H2 =>
 z7c m (zDP m D) ⟨H2,[(0,t0),(9,t9),(11,t11),(12,t32)]⟩ (z0P 2 (zM3 (fun s=>zED m D H.length ⟨s.H,[(11,gt s.T 11)]⟩) (zth H.length))) := by
 refine (zMa Try.prog GG (znf m) m ⟨45,D⟩ H.length zAP ChC_h ⟨H,[(0,t0),(6,t6),(9,t9)]⟩ [.tmp 4, .tmp 5]).trans ?_
 kernel_rfl
theorem zHC (m : Nat) : zaL Try.prog GG (znf m) := (by
 intro f e h
 simp only [znf,Prod.mk.injEq,List.mem_cons,List.not_mem_nil,or_false] at h
 obtain ⟨rfl,rfl⟩ := h
 ·exact zqB m)
end

section
open Go.RowKit
def zso : Code := (rfS (cdL (cdR (cdL (zNr 4 ((Try.f52.body).getD .skip))))))
def zIi : Hint := (.two .n (.one .n))
def ztJ (m : Nat) : Env := []
abbrev zEQ (n0 : Nat) : KO (AV × List AObj) := zui n0
def ChR (m : Nat) (D : List Deferred) (t26 t9 : AV) (H : List AObj) : RO := zLa Try.prog GG (ztJ m) m ⟨45,D⟩ zso zIi ⟨H,[(26,t26),(9,t9)]⟩ (zEQ H.length)
theorem zG0 (m : Nat) (D : List Deferred) (t26 t9 : AV) (H : List AObj) : ChR m D t26 t9 H =
 z2f (some zc_api_Cert) z07 H fun t10 H2 =>
 z0I 7 H2 t10 t26 fun H3 =>
 z04 1 H3 t9 fun t27 =>
 z02 (some (0,1)) t10 fun t28 =>
 z04 1 H3 t28 fun t29 =>
 mmE true t27 t29 fun t30 =>
 z0I 1 H3 t9 t30 fun H4 =>
 zqL H.length H4 (V (.bool true)) := by
 refine (zLO Try.prog GG (ztJ m) m ⟨45,D⟩ H.length zso zIi ⟨H,[(26,t26),(9,t9)]⟩ ).trans ?_
 kernel_rfl
theorem zGc (m : Nat) : zaL Try.prog GG (ztJ m) := (by intro f e h;cases h)
end

section
open Go.RowKit
def chH (l : List Ch) (hi : Int) : List AObj := [⟨1,z5v,0,[nA hi]⟩,⟨1,z2z,0,[zNb l]⟩]
def zLp (a : Int) (x : Ce) : Int := if x.sq > a then x.sq else a
def zMP (l : List Ch) (low : Int) (d : Nat) : List Co := (List.range d).map fun i : Nat=>atF (low + ((i + 1 : Nat) : Int)) l
section
variable {n : Int} {l : List Ch}
theorem zJk (h : LOk n l) (hf : zNE l) : ChA 1001 [] (zNb l) (nA n) [] = some (TU [zNb l,nA (zMg l).st,OP 0 0],[⟨1,z5v,0,[nA (zMg l).st]⟩]) := by
 have hL := zKd 1001 h hf (by omega)
 rw [zFw]
 unfold zNb at hL ⊢
 simp (config := {maxSteps := 4000000,implicitDefEqProofs := false}) (disch := omega) only [go_sem,hL]
 rfl
theorem zKM (m : Nat) (low hi : Int) : ChB m [] (zNb l) (nA low) (OP 0 0) [⟨1,z5v,0,[nA hi]⟩] = some (TU [zNb l,nA low,OP 0 0,CL (.func 93) 0 [OP 1 0]],chH l hi) := by
 rw [zGI]
 unfold chH zNb
 simp (config := {maxSteps := 4000000,implicitDefEqProofs := false}) (disch := omega) only [go_sem,zkn]
 rfl
theorem zJm (m : Nat) (hi : Int) (x : Ce) : ChR m [] (ceE x) (OP 0 0) (chH l hi) = some (bA true,chH l (zLp hi x)) := by
 rw [zG0]
 unfold chH zNb zLp
 simp (config := {maxSteps := 4000000,implicitDefEqProofs := false}) (disch := omega) only [go_sem,]
theorem zqY {low : Int} {d : Nat} : zMP l low (d + 1) = zMP l low d ++ [atF (low + ((d + 1 : Nat) : Int)) l] := by
 unfold zMP
 rw [List.range_succ,List.map_append]
 rfl
theorem zKp (m : Nat) (low : Int) (e : Nat) (D : List Deferred) (hf : zNE l) (he : e ≤ 1000) (hm : 1000 < m) (h0 : 0 ≤ low) (h1 : low ≤ 3000000000) : ChC m D (zNb l) (nA low) (OP 0 0) (chH l (low + e)) = some (TU [SL ((zMP l low e).map coE),nA 0],chH l (low + e) ++ [⟨2,z0q,4,(zMP l low e).map coE⟩]) := by
 rw [zGF]
 unfold chH zNb
 simp (config := {maxSteps := 4000000,implicitDefEqProofs := false}) (disch := omega) only [go_sem,z2s]
 refine z13 (m := m) (ι := {k : Nat // k ≤ e}) (fun k=>⟨[⟨1,z5v,0,[nA (low + e)]⟩,⟨1,z2z,0,[zNb l]⟩,⟨2,z0q,4,(zMP l low k.1).map coE⟩],[(0,zNb l),(9,OP 0 0),(11,OW 2 k.1),(12,nA (low + ((k.1 + 1 : Nat) : Int)))]⟩) (fun k=>e - k.1) (fun _=>some (TU [SL ((zMP l low e).map coE),nA 0],([⟨1,z5v,0,[nA (low + e)]⟩,⟨1,z2z,0,[SL (l.map cgE)]⟩,⟨2,z0q,4,(zMP l low e).map coE⟩] : List AObj))) ?_ ⟨0,Nat.zero_le _⟩ (by dsimp only;omega)
 rintro kx hkx ⟨k,hk⟩ kc hkc
 dsimp only at hkc ⊢
 rw [zw0]
 have hlen : ((zMP l low k).map coE).length = k := by simp [zMP]
 have hxs : ∀ n,((zMP l low k).map coE).all (ltA n) = true := fun n=>by rw [List.all_map];exact zfe
 unfold zNb at hkc ⊢
 by_cases hlt : k < e
 ·have hlt' : low + ((k + 1 : Nat) : Int) ≤ low + e := by omega
  have g1 := zsi m l (low + ((k + 1 : Nat) : Int)) hf
  unfold zNb at g1
  have step := hkc ⟨k + 1,by omega⟩ (by dsimp only;omega)
  dsimp only at step
  rw [zqY,List.map_append,show low + ((k + 1 + 1 : Nat) : Int) = low + ((k + 1 : Nat) : Int) + 1 by omega] at step
  simp only [List.map_cons,List.map_nil,ztp] at step
  generalize (zMP l low k).map coE = XS at *
  have hroom : k + 1 ≤ 34359738368 := by omega
  simp (config := {maxSteps := 4000000,implicitDefEqProofs := false}) (disch := omega) only [go_sem,hlt',g1,hxs,hlen,hroom,z2s]
  exact step
 ·obtain rfl : k = e := by omega
  have hlt' : ¬ low + ((k + 1 : Nat) : Int) ≤ low + k := by omega
  simp (config := {maxSteps := 4000000,implicitDefEqProofs := false}) (disch := omega) only [go_sem,hlt',hkx,hxs,zvx]
  rw [if_pos (by simp [zMP])]
end
end

section
open Go.RowKit
def zNe : Code := (Try.f52.body).getD .skip
theorem zyR : zNr 4 zNe = .seq (.seq zIS (.block 0 (.rangeFunc (.tmp 25) #[26] (.region 6 (zLJ (cdL zso)).toArray false) (cdR zso)))) zAP := by kernel_rfl
theorem zvr : zso = .seq (.region 6 (zLJ (cdL zso)).toArray false) (cdR zso) := by kernel_rfl
theorem zzr : ztt (cdR zso) = true := by kernel_rfl
abbrev T0c : Tm := [(9,OP 0 0)]
abbrev zMV (fn D : Nat) (tm : Array Value) : Loop := ⟨.ready,none,fn,tm,[26].toArray, .region 6 (zLJ (cdL zso)).toArray false,cdR zso,D⟩
theorem zzS {l : List Ch} {lp fn D d : Nat} {tm : Array Value} (a : Int) (x : Ce) (vs : List Value) (w : World) (S : SS) (μ : List Value) (hr : Rel w S μ (chH l a)) (hf : Fr S μ (F0 45) T0c ⟨tm,[]⟩) (hg : GOk GG S) (hl : w.heap[lp]? = some (.loop (zMV fn D tm))) (h1 : vs.length = 1)
  (hv : ∀ (j : Nat) (d : AV) (v : Value),[ceE x][j]? = some d → vs[j]? = some v → rep S μ d v) :
  YieldAt Fence.wide d Try.prog lp vs.toArray w (zxW lp (zMV fn D tm) w S μ (chH l a) fun e H2=>e = .normal ∧ H2 = chH l (zLp a x)) := by
 have hx := zJm (l := l) 1000 a x
 unfold ChR at hx
 rw [zvr] at hx
 refine zwN ?_ (zph (ps := [26]) (xs := [ceE x]) (T := T0c) (zGc 1000) rfl hr hf hg (by decide) hl (by rw [h1];rfl) rfl hv zzr rfl hx)
 rintro e H2 ⟨q1,q2⟩
 exact ⟨zxw q1,q2⟩
def zkJ (l : List Ch) : Int := zb7 zLp (zMg l).st l
theorem zuR {n : Int} {l : List Ch} {e : Nat} (h : LOk n l) (hf : zNE l) (he : e ≤ 1000) (hh : zkJ l = (zMg l).st + e) : ACp Try.prog GG 52 [zNb l,nA n] (TU [SL ((zMP l (zMg l).st e).map coE),nA 0]) := by
 have hnd : ∀ r cs t p,(Obj.deferred r) ≠ .cells cs t p := fun _ _ _ _ e=>by cases e
 have h0 : 0 < l.length := by have := h.len;omega
 have hlo := (h.all _ (znD h0 l.length (Nat.le_refl _)))
 have hl0 : 0 ≤ (zMg l).st := hlo.s0
 have hl1 : (zMg l).st ≤ 2147483647 := hlo.sl
 refine ⟨by kernel_rfl,?_⟩
 intro w S μ vs hr hg hlen hv
 have hμ : μ = [] := List.eq_nil_of_length_eq_zero hr.len
 subst hμ
 refine (callsIn_wide (n := 5)).1 ?_
 refine callsIn_of_wp_marks Try.func52 rfl trivial ?_
 rw [Try.ntmps52]
 have hfr := zu0 (S := S) (μ := []) (N := 45) (args := [zNb l,nA n]) (vs := vs) hlen (by simp) hv
 refine zlk (n := 0) MIX (zGf 1001) 4 zNe zIv ⟨[],z14 0 [zNb l,nA n]⟩ (by kernel_rfl) (zJk h hf) hr hfr hg ?_ (Nat.le_refl _)
 rintro a2 w2 ⟨S2,μ2,_,hr2,hf2,hg2,hst2⟩
 rw [zyR]
 refine wpIn_seq (wpIn_seq (wpIn_mono (znU (rs := [0,6,9,25]) MIX (zGh 1000) (zKM 1000 (zMg l).st (zMg l).st) hr2 hf2 hg2) ?_))
 rintro e a3 w3 ⟨rfl,S3,μ3,hr3,hf3,hg3,hst3⟩
 simp only [Exit.then]
 have hst3' : Step 0 w S [] [] w3 S3 μ3 (chH l (zMg l).st) := hst2.trans (hst3.less (Nat.zero_le _))
 refine wpIn_block ?_
 have hlaw := range_law (d := 4) (P := Try.prog) (G := GG) (g := .tmp 25) (ps := [26]) (assign := .region 6 (zLJ (cdL zso)).toArray false) (body := cdR zso) (N := 45) (f := 93) (caps := [OP 1 0]) (q2 := 0) (Q := fun e H2=>e = .normal ∧ H2 = chH l (zkJ l)) hr3 hf3 hg3 rfl (by kernel_rfl) ?_
 refine wpIn_mono hlaw ?_
 ·rintro ex a5 w5 ⟨S5,μ5,H5,⟨rfl,rfl⟩,hr5,hst5,hf5,hD5,hsz⟩
  simp only [Exit.inBlock,Exit.then]
  have hst5' := hst3'.trans (hst5.less (Nat.zero_le _))
  rw [hh] at hr5 hst5 hst5'
  have hx := zKp (l := l) 1001 (zMg l).st e [⟨.collected w3.heap.size,#[]⟩] hf he (by omega) hl0 (by omega)
  refine wpIn_wide.2 (wp_mono (zae (n := 2) MIX (zHC 1001) zAP ChC_h ⟨chH l ((zMg l).st + e),[(0,zNb l),(6,nA (zMg l).st),(9,OP 0 0)]⟩ _ (Nat.le_refl _) hx w5 S5 μ5 a5 hr5 (hf5.some (by simp [_root_.Go.Proofs.Ytaaogcnjfkgnoaa.get])) (hg3.ext hst5.still)) ?_)
  rintro ex a6 w6 ⟨s6,S6,μ6,hq6,hr6,hf6,hst6⟩
  obtain ⟨he6,hX6⟩ := zrF (rs := [.tmp 4, .tmp 5]) hq6 (fun u h=>by cases h)
  have hend := zrI (P := Try.prog) (d := 5) (fnn := Try.f52) (rs := [.tmp 4, .tmp 5]) (X := TU [SL ((zMP l (zMg l).st e).map coE),nA 0]) rfl hr6 hf6 (hst6.keeps hr5 hD5 (hnd _)) hX6 rfl (hst5'.trans (hst6.less (Nat.zero_le _))) hst3'.size
  rcases he6 with rfl|rfl
  ·exact hend
  ·exact hend
 ·intro lp D fn w1 us hr1 hl1 hus hu
  exact it_calls (β := Int) (C := fun a=>chH l a) (R := zLp) (b0 := (zMg l).st) (b := 1) (r := zMV fn D a3.tmps) (T0 := T0c) (tm := a3.tmps) (K := 45) (fun a=>rfl) (fun a=>rfl) (fun a=>rfl) hf.1 hf.2 (fun a x vs w S μ h1 h2 h3 h4 h5 h6=>zzS a x vs w S μ h1 h2 h3 h4 h5 h6) (by decide) hr1 ⟨hf3.size,rfl,(hf3.some (T' := T0c) (by simp [_root_.Go.Proofs.Ytaaogcnjfkgnoaa.get])).slot⟩ hg3 hl1 hus hu
def z73 (m : Nat) : List AV → RO := zL7 (ι := List Ch × Int × Nat) (fun p=>[zNb p.1,nA p.2.1]) (fun p=>TU [SL ((zMP p.1 (zMg p.1).st (zkJ p.1 - (zMg p.1).st).toNat).map coE),nA 0]) (fun p=>LOk p.2.1 p.1 ∧ zNE p.1 ∧ p.2.2 ≤ 1000 ∧ zkJ p.1 = (zMg p.1).st + p.2.2)
theorem zkD (m : Nat) : ∀ args X H',z73 m args = some (X,H') → ACp Try.prog GG 52 args X := ztH (by
 rintro ⟨l,n,e⟩ ⟨h1,h2,h3,h4⟩
 have := zuR h1 h2 h3 h4
 dsimp only at h4 ⊢
 rw [show (zkJ l - (zMg l).st).toNat = e by omega]
 exact this)
theorem zlT (m : Nat) (l : List Ch) (n : Int) (e : Nat) (h1 : LOk n l) (h2 : zNE l) (h3 : e ≤ 1000) (h4 : zkJ l = (zMg l).st + e) : z73 m [zNb l,nA n] = some (TU [SL ((zMP l (zMg l).st e).map coE),nA 0],[]) := by
 have key := zsQ (ι := List Ch × Int × Nat) (A := fun p=>[zNb p.1,nA p.2.1]) (X := fun p=>TU [SL ((zMP p.1 (zMg p.1).st (zkJ p.1 - (zMg p.1).st).toNat).map coE),nA 0]) (D := fun p=>LOk p.2.1 p.1 ∧ zNE p.1 ∧ p.2.2 ≤ 1000 ∧ zkJ p.1 = (zMg p.1).st + p.2.2) (by
  rintro ⟨l,n,e⟩ ⟨k,n',e'⟩ q
  dsimp only at q ⊢
  simp only [List.cons.injEq,and_true] at q
  obtain ⟨e1,e2⟩ := q
  unfold zNb at e1
  injection e1 with e1
  rw [zk5 zwK e1]) (i := (l,n,e)) ⟨h1,h2,h3,h4⟩
 dsimp only at key
 rw [show (zkJ l - (zMg l).st).toNat = e by omega] at key
 exact key
end

section
open Go.RowKit
def zkv : List (Nat × Nat) := [(0,1),(1,1),(2,1),(3,1),(4,1),(5,1)]
def zp1 : List (Nat × Nat) := [(0,1),(1,1),(2,1),(3,1),(4,1),(5,1),(6,1),(7,1)]
def z1t : Code := (Try.f20.body).getD .skip
def view_NewView_h : Hint := (.two .n (.two .n (.join [0,1,3,6] (.one (.join [0,1,3,6,21] .n (.two (.two .n .n) (.two .n (.two (.two .n .n) .n))))) (.join [0,1,3,6] (.two .n (.one (.lp [] [0,1,3,6,38,39,40] [0,1,3,6,8,9] (.two .n (.two (.two .n .n) (.join [0,1,3,6,38,39,40] (.one (.two .n (.join [0,1,3,6,38,39,40,56] .n (.two (.two .n .n) .n)))) .n)))))) (.two (.two .n (.two (.two .n .n) .n)) (.join [3,6] (.two .n (.join [3,6,76] .n (.two (.two .n .n) .n))) (.two .n .n)))))))
def z16 (m : Nat) : Env := [(32, .tell (z3n m)),(37, .tell (z6S m)),(11, .keep (zaZ m)),(51, .tell (zdp m)),(22, .keep (z9G m)),(36, .keep (z4a m)),(52, .tell (z73 m))]
abbrev z2B (n0 : Nat) : KO (AV × List AObj) := z5e Try.prog n0 [.tmp 8, .tmp 9]
def zbc (m : Nat) (n0k : Nat) (s : ASt) : RO := z11 Try.prog GG (z16 m) m ⟨83,[]⟩ (cdR (cdR (cdR (cdR (cdR (cdR z1t)))))) view_NewView_h.r.r.r.r.r.r s (z2B n0k)
def zbb (m : Nat) (n0 : Nat) (kc : ASt → RO) (kx : KO (AV × List AObj)) (s : ASt) : RO := z11 Try.prog GG (z16 m) m ⟨83,[]⟩ (cdR (cdR (cdR (cdL (cdL (cdR (cdL (cdR (cdR (cdR z1t)))))))))) view_NewView_h.r.r.r.l.r.c.c.r.r.r s (z5s n0 [0,1,3,6,38,39,40] [0,1,3,6,8,9] kc kx)
def zbF (m : Nat) (n0k : Nat) (s : ASt) : RO := z11 Try.prog GG (z16 m) m ⟨83,[]⟩ (cdR (cdR (cdL (cdR (cdR (cdR (cdR (cdR z1t)))))))) view_NewView_h.r.r.r.r.r.l.r.r s (zM3 (fun s=>zbc m n0k ⟨s.H,[(3,gt s.T 3),(6,gt s.T 6)]⟩) (z2B n0k))
def zbf (m : Nat) (n0 : Nat) (kc : ASt → RO) (kx : KO (AV × List AObj)) (s : ASt) : RO := z11 Try.prog GG (z16 m) m ⟨83,[]⟩ (cdR (cdR (cdL (cdL (cdR (cdR (cdL (cdL (cdR (cdL (cdR (cdR (cdR z1t))))))))))))) view_NewView_h.r.r.r.l.r.c.c.r.r.l.c.r.r s (z0P 2 (zM3 (fun s=>zbb m n0 kc kx ⟨s.H,[(0,gt s.T 0),(1,gt s.T 1),(3,gt s.T 3),(6,gt s.T 6),(38,gt s.T 38),(39,gt s.T 39),(40,gt s.T 40)]⟩) (z5s n0 [0,1,3,6,38,39,40] [0,1,3,6,8,9] kc kx)))
def zbz (m : Nat) (n0k : Nat) (s : ASt) : RO := z11 Try.prog GG (z16 m) m ⟨83,[]⟩ (cdR (cdR (cdR (cdR z1t)))) view_NewView_h.r.r.r.r s (z2B n0k)
def zgy (m : Nat) (s : ASt) (kc : ASt → RO) (kx : KO (AV × List AObj)) : RO := z8G Try.prog GG (z16 m) m ⟨83,[]⟩ (cdL (cdL (cdR (cdL (cdR (cdR (cdR z1t))))))) view_NewView_h.r.r.r.l.r.c.c [0,1,3,6,38,39,40] [0,1,3,6,8,9] s kc kx
def z8f (m : Nat) (n0k : Nat) (s : ASt) : RO := z11 Try.prog GG (z16 m) m ⟨83,[]⟩ (cdR (cdR (cdR z1t))) view_NewView_h.r.r.r s (z2B n0k)
def zbm (m : Nat) (n0k : Nat) (s : ASt) : RO := z11 Try.prog GG (z16 m) m ⟨83,[]⟩ (cdR (cdL (cdL (cdR (cdR z1t))))) view_NewView_h.r.r.l.c.r s (z0P 0 (zM3 (fun s=>z8f m n0k ⟨s.H,[(0,gt s.T 0),(1,gt s.T 1),(3,gt s.T 3),(6,gt s.T 6)]⟩) (z2B n0k)))
def z69 (m : Nat) (t0 t1 t2 t3 : AV) (H : List AObj) : RO := zLa Try.prog GG (z16 m) m ⟨83,[]⟩ z1t view_NewView_h ⟨H,z14 0 [t0,t1,t2,t3]⟩ (z2B H.length)
theorem zjs (m : Nat) (n0k : Nat) (H : List AObj) (t3 t6 : AV) : zbc m n0k ⟨H,[(3,t3),(6,t6)]⟩ =
 z02 (some (7,1)) t6 fun t77 =>
 z04 1 H t77 fun t78 =>
 z1D (z73 m [(ro H t78),(ro H t3)]) [(ro H t78),(ro H t3)] fun t80 =>
 zLC t80 0 fun t81 =>
 zLC t80 1 fun t82 =>
 z4f n0k H (ro H (TU [noT t81,noT t82])) := by
 refine (z03 _ _ _ _ _ _ _ _ _).trans ?_
 kernel_rfl
theorem zjo (m : Nat) (n0 : Nat) (kc : ASt → RO) (kx : KO (AV × List AObj)) (H : List AObj) (t0 t1 t3 t6 t38 t39 t40 : AV) : zbb m n0 kc kx ⟨H,[(0,t0),(1,t1),(3,t3),(6,t6),(38,t38),(39,t39),(40,t40)]⟩ =
 zMe none false false .add t40 (V (.int .i64 1)) fun t57 =>
 z7z n0 H [(0,t0),(1,t1),(3,t3),(6,t6),(38,t38),(39,t39),(40,t57)] kc := by
 refine (z03 _ _ _ _ _ _ _ _ _).trans ?_
 kernel_rfl
theorem z57 (m : Nat) (n0k : Nat) (H : List AObj) (t3 t6 t76 : AV) : zbF m n0k ⟨H,[(3,t3),(6,t6),(76,t76)]⟩ =
 z0o t76 (
  z4f n0k H (ro H (TU [noT (V (.slice none 0 0)),noT (V (.int .i64 19))]))) (
  zbc m n0k ⟨H,[(3,t3),(6,t6)]⟩) := by
 refine (z03 _ _ _ _ _ _ _ _ _).trans ?_
 kernel_rfl
theorem z7D (m : Nat) (n0 : Nat) (kc : ASt → RO) (kx : KO (AV × List AObj)) (H : List AObj) (t0 t1 t3 t6 t38 t39 t40 t56 : AV) : zbf m n0 kc kx ⟨H,[(0,t0),(1,t1),(3,t3),(6,t6),(38,t38),(39,t39),(40,t40),(56,t56)]⟩ =
 z0o t56 (
  kx .ret ⟨H,[(0,t0),(1,t1),(3,t3),(6,t6),(8,(V (.slice none 0 0))),(9,(V (.int .i64 3)))]⟩) (
  zbb m n0 kc kx ⟨H,[(0,t0),(1,t1),(3,t3),(6,t6),(38,t38),(39,t39),(40,t40)]⟩) := by
 refine (z03 _ _ _ _ _ _ _ _ _).trans ?_
 kernel_rfl
theorem zjU (m : Nat) (n0k : Nat) (H : List AObj) (t0 t1 t3 t6 : AV) : zbz m n0k ⟨H,[(0,t0),(1,t1),(3,t3),(6,t6)]⟩ =
 z02 (some (7,1)) t6 fun t58 =>
 z04 1 H t58 fun t59 =>
 z1D (zc2 m (ro H t59) (ro H t3)) [(ro H t59),(ro H t3)] fun t61 =>
 unE .not t61 fun t62 =>
 z0o t62 (
  z4f n0k H (ro H (TU [noT (V (.slice none 0 0)),noT (V (.int .i64 1))]))) (
  z04 10 H t6 fun t65 =>
  z4O (z89 m (ro H t1) (ro H t65) H) fun t66 H2 =>
  zLC t66 0 fun t67 =>
  zLC t66 1 fun t68 =>
  z2f (some zc_api_Stmt) z01 H2 fun t14 H3 =>
  z0I 7 H3 t14 t67 fun H4 =>
  zMe none false false .neq t68 (V (.int .i64 0)) fun t70 =>
  z0o t70 (
   zbF m n0k ⟨H4,[(3,t3),(6,t6),(76,(V (.bool true)))]⟩) (
   z04 7 H4 t14 fun t73 =>
   z4O (z4V m (ro H4 t0) (ro H4 t73) H4) fun t74 H5 =>
   unE .not t74 fun t75 =>
   zbF m n0k ⟨H5,[(3,t3),(6,t6),(76,t75)]⟩)) := by
 refine (z03 _ _ _ _ _ _ _ _ _).trans ?_
 kernel_rfl
theorem zjE (m : Nat) (H : List AObj) (t0 t1 t3 t6 t38 t39 t40 : AV) (kc : ASt → RO) (kx : KO (AV × List AObj)) : zgy m ⟨H,[(0,t0),(1,t1),(3,t3),(6,t6),(38,t38),(39,t39),(40,t40)]⟩ kc kx =
 zMe none false false .lss t40 t39 fun t41 =>
 z0o t41 (
  z3H 8 H t38 t40 fun t42 =>
  z04 8 H t42 fun t43 =>
  z2f (some zc_api_Change) z00 H fun t13 H2 =>
  z0I 8 H2 t13 t43 fun H3 =>
  z02 (some (1,1)) t13 fun t44 =>
  z04 1 H3 t44 fun t45 =>
  z02 (some (2,1)) t6 fun t46 =>
  z04 1 H3 t46 fun t47 =>
  zMe none false false .neq t45 t47 fun t48 =>
  z0o t48 (
   zbf m H.length kc kx ⟨H3,[(0,t0),(1,t1),(3,t3),(6,t6),(38,t38),(39,t39),(40,t40),(56,(V (.bool true)))]⟩) (
   z04 8 H3 t13 fun t52 =>
   z4O (z6m m (ro H3 t0) (ro H3 t1) (ro H3 t52) (ro H3 t3) H3) fun t54 H4 =>
   unE .not t54 fun t55 =>
   zbf m H.length kc kx ⟨H4,[(0,t0),(1,t1),(3,t3),(6,t6),(38,t38),(39,t39),(40,t40),(56,t55)]⟩)) (
  kx (.exit 1) ⟨H,[(0,t0),(1,t1),(3,t3),(6,t6),(8, .nil),(9, .nil)]⟩) := by
 refine (z0F _ _ _ _ _ _ _ _ _ _ _ _).trans ?_
 kernel_rfl
theorem zjT (m : Nat) (n0k : Nat) (H : List AObj) (t0 t1 t3 t6 : AV) : z8f m n0k ⟨H,[(0,t0),(1,t1),(3,t3),(6,t6)]⟩ =
 z02 (some (7,1)) t6 fun t37 =>
 z04 1 H t37 fun t38 =>
 zLZ false true H t38 fun t39 =>
 z7c m (zgy m) ⟨H,[(0,t0),(1,t1),(3,t3),(6,t6),(38,t38),(39,t39),(40,(V (.int .i64 0)))]⟩ (z0P 1 (zM3 (fun s=>zbz m n0k ⟨s.H,[(0,gt s.T 0),(1,gt s.T 1),(3,gt s.T 3),(6,gt s.T 6)]⟩) (z2B n0k))) := by
 refine (z03 _ _ _ _ _ _ _ _ _).trans ?_
 kernel_rfl
theorem z3E (m : Nat) (n0k : Nat) (H : List AObj) (t0 t1 t3 t6 t21 : AV) : zbm m n0k ⟨H,[(0,t0),(1,t1),(3,t3),(6,t6),(21,t21)]⟩ =
 z0o t21 (
  z4f n0k H (ro H (TU [noT (V (.slice none 0 0)),noT (V (.int .i64 1))]))) (
  z02 (some (1,1)) t6 fun t30 =>
  z04 1 H t30 fun t31 =>
  z02 (some (2,1)) t6 fun t32 =>
  z04 1 H t32 fun t33 =>
  z1D (z7o m (ro H t33) (ro H t3)) [(ro H t33),(ro H t3)] fun t35 =>
  zMe none false false .neq t31 t35 fun t36 =>
  z0o t36 (
   z4f n0k H (ro H (TU [noT (V (.slice none 0 0)),noT (V (.int .i64 21))]))) (
   z8f m n0k ⟨H,[(0,t0),(1,t1),(3,t3),(6,t6)]⟩)) := by
 refine (z03 _ _ _ _ _ _ _ _ _).trans ?_
 kernel_rfl
theorem zgP (m : Nat) (t0 t1 t2 t3 : AV) (H : List AObj) : z69 m t0 t1 t2 t3 H =
 zN2 z0t H t2 fun t6 H2 =>
 z1D (z3L m (ro H2 t3)) [(ro H2 t3)] fun t18 =>
 zLC t18 0 fun t19 =>
 zLC t18 1 fun t20 =>
 z02 (some (0,1)) t6 fun t22 =>
 z04 1 H2 t22 fun t23 =>
 zMe none false false .neq t23 (V (.int .i64 7)) fun t24 =>
 z0o t24 (
  zbm m H.length ⟨H2,[(0,t0),(1,t1),(3,t3),(6,t6),(21,(V (.bool true)))]⟩) (
  zMe none false false .neq t20 (V (.int .i64 0)) fun t27 =>
  zbm m H.length ⟨H2,[(0,t0),(1,t1),(3,t3),(6,t6),(21,t27)]⟩) := by
 refine (zhw Try.prog GG (z16 m) m ⟨83,[]⟩ H.length z1t view_NewView_h ⟨H,z14 0 [t0,t1,t2,t3]⟩ [.tmp 8, .tmp 9]).trans ?_
 kernel_rfl
def z9u (m : Nat) : List AV → List AObj → RO|[t0,t1,t2,t3],H=>z69 m t0 t1 t2 t3 H|_,_=>none
theorem zgw (m : Nat) : ∀ args H X H',z9u m args H = some (X,H') → AC Try.prog GG 20 args H (Is X H') := by
 intro args H X H' h
 unfold z9u at h
 split at h
 ·exact z1p MIX (by
  intro f e h
  simp only [z16,Prod.mk.injEq,List.mem_cons,List.not_mem_nil,or_false] at h
  rcases h with ⟨rfl,rfl⟩|⟨rfl,rfl⟩|⟨rfl,rfl⟩|⟨rfl,rfl⟩|⟨rfl,rfl⟩|⟨rfl,rfl⟩|⟨rfl,rfl⟩
  ·exact z53 m
  ·exact zer m
  ·exact ziR m
  ·exact zkh m
  ·exact zgB m
  ·exact z7g m
  ·exact zkD m) (f := 20) (c := z1t) Try.func20 rfl (by kernel_rfl) _ rfl Try.ntmps20 (Nat.le_of_ble_eq_true rfl) view_NewView_h h
 ·cases h
def z0c : Code := (Try.f21.body).getD .skip
def plenumref32_World_NewView_h : Hint := (.two .n (.join [0,2,4] (.join [0,2,4,22] .n (.two (.two .n .n) .n)) (.two (.two .n (.two (.two .n .n) .n)) (.join [0,2,4] (.two .n (.one (.lp [] [0,2,4,8] [0,2,4,6,7] (.two (.two .n (.two .n .n)) (.join [0,2,4,8] (.one (.join [0,2,4,8,56] .n (.two (.two .n .n) .n))) .n))))) (.two (.two .n (.two (.two .n .n) .n)) (.two .n (.join [4] (.join [4,78] .n (.two (.two .n .n) .n)) (.two .n (.two .n (.join [13] (.two .n (.one (.lp [(13,z0q,4)] [4,13,14] [13] (.two (.two .n (.two .n .n)) (.two (.one .n) .n))))) (.two .n .n)))))))))))
def z08 (m : Nat) : Env := [(42, .tell (z1R m)),(44, .tell (z3p m)),(17, .keep (z3k m)),(53, .tell (z95 m)),(23, .keep (z1G m)),(49, .tell (z1n m)),(54, .tell (z5R m)),(55, .tell (z7U m)),(56, .tell (zau m))]
abbrev z0n (n0 : Nat) : KO (AV × List AObj) := z5e Try.prog n0 [.tmp 6, .tmp 7]
def z4A (m : Nat) (n0k : Nat) (s : ASt) : RO := z11 Try.prog GG (z08 m) m ⟨102,[]⟩ (cdR (cdR (cdR (cdR (cdR (cdR (cdR (cdR (cdR (cdR z0c)))))))))) plenumref32_World_NewView_h.r.r.r.r.r.r.r.r.r.r s (z0n n0k)
def z4x (m : Nat) (s : ASt) (kc : ASt → RO) (kx : KO (AV × List AObj)) : RO := z8G Try.prog GG (z08 m) m ⟨102,[]⟩ (cdL (cdL (cdR (cdL (cdR (cdR (cdR (cdR (cdR (cdR (cdR (cdR (cdR z0c))))))))))))) plenumref32_World_NewView_h.r.r.r.r.r.r.r.r.r.l.r.c.c [4,13,14] [13] s kc kx
def z1s (m : Nat) (n0k : Nat) (s : ASt) : RO := z11 Try.prog GG (z08 m) m ⟨102,[]⟩ (cdR (cdR (cdR (cdR (cdR (cdR (cdR z0c))))))) plenumref32_World_NewView_h.r.r.r.r.r.r.r s (z0n n0k)
def z2C (m : Nat) (n0 : Nat) (kc : ASt → RO) (kx : KO (AV × List AObj)) (s : ASt) : RO := z11 Try.prog GG (z08 m) m ⟨102,[]⟩ (cdR (cdR (cdL (cdL (cdR (cdL (cdR (cdR (cdR z0c))))))))) plenumref32_World_NewView_h.r.r.r.l.r.c.c.r.r s (z5s n0 [0,2,4,8] [0,2,4,6,7] kc kx)
def z2J (m : Nat) (n0k : Nat) (s : ASt) : RO := z11 Try.prog GG (z08 m) m ⟨102,[]⟩ (cdR (cdL (cdR (cdR (cdR (cdR (cdR (cdR z0c)))))))) plenumref32_World_NewView_h.r.r.r.r.r.r.l.r s (zM3 (fun s=>z1s m n0k ⟨s.H,[(4,gt s.T 4)]⟩) (z0n n0k))
def z2M (m : Nat) (n0 : Nat) (kc : ASt → RO) (kx : KO (AV × List AObj)) (s : ASt) : RO := z11 Try.prog GG (z08 m) m ⟨102,[]⟩ (cdR (cdL (cdL (cdR (cdL (cdL (cdR (cdL (cdR (cdR (cdR z0c))))))))))) plenumref32_World_NewView_h.r.r.r.l.r.c.c.r.l.c.r s (z0P 1 (zM3 (fun s=>z2C m n0 kc kx ⟨s.H,[(0,gt s.T 0),(2,gt s.T 2),(4,gt s.T 4),(8,gt s.T 8)]⟩) (z5s n0 [0,2,4,8] [0,2,4,6,7] kc kx)))
def z1q (m : Nat) (n0k : Nat) (s : ASt) : RO := z11 Try.prog GG (z08 m) m ⟨102,[]⟩ (cdR (cdR (cdR (cdR z0c)))) plenumref32_World_NewView_h.r.r.r.r s (z0n n0k)
def z2L (m : Nat) (s : ASt) (kc : ASt → RO) (kx : KO (AV × List AObj)) : RO := z8G Try.prog GG (z08 m) m ⟨102,[]⟩ (cdL (cdL (cdR (cdL (cdR (cdR (cdR z0c))))))) plenumref32_World_NewView_h.r.r.r.l.r.c.c [0,2,4,8] [0,2,4,6,7] s kc kx
def z2I (m : Nat) (n0k : Nat) (s : ASt) : RO := z11 Try.prog GG (z08 m) m ⟨102,[]⟩ (cdR (cdR z0c)) plenumref32_World_NewView_h.r.r s (z0n n0k)
def z2A (m : Nat) (n0k : Nat) (s : ASt) : RO := z11 Try.prog GG (z08 m) m ⟨102,[]⟩ (cdR (cdL (cdR z0c))) plenumref32_World_NewView_h.r.l.r s (zM3 (fun s=>z2I m n0k ⟨s.H,[(0,gt s.T 0),(2,gt s.T 2),(4,gt s.T 4)]⟩) (z0n n0k))
def z1k (m : Nat) (t0 t1 t2 : AV) (H : List AObj) : RO := zLa Try.prog GG (z08 m) m ⟨102,[]⟩ z0c plenumref32_World_NewView_h ⟨H,z14 0 [t0,t1,t2]⟩ (z0n H.length)
theorem z8x (m : Nat) (n0k : Nat) (H : List AObj) (t13 : AV) : z4A m n0k ⟨H,[(13,t13)]⟩ =
 z4f n0k H (ro H (TU [noT t13,noT (V (.int .i64 0))])) := by
 refine (z03 _ _ _ _ _ _ _ _ _).trans ?_
 kernel_rfl
theorem z8q (m : Nat) (H : List AObj) (t4 t13 t14 : AV) (kc : ASt → RO) (kx : KO (AV × List AObj)) : z4x m ⟨H,[(4,t4),(13,t13),(14,t14)]⟩ kc kx =
 z02 (some (7,1)) t4 fun t88 =>
 z04 1 H t88 fun t89 =>
 z1D (z6W m (ro H t89)) [(ro H t89)] fun t90 =>
 zMe none false false .leq t14 t90 fun t91 =>
 z0o t91 (
  z02 (some (7,1)) t4 fun t95 =>
  z04 1 H t95 fun t96 =>
  z1D (z6J m (ro H t96) (ro H t14)) [(ro H t96),(ro H t14)] fun t98 =>
  z0O (some (z0q,4)) 1 [(0,t98)] fun t99 =>
  zNh (some (z0q,4)) H t13 t99 fun t100 H2 =>
  zMe none false false .add t14 (V (.int .i64 1)) fun t93 =>
  z7z H.length H2 [(4,t4),(13,t100),(14,t93)] kc) (
  kx (.exit 2) ⟨H,[(13,t13)]⟩) := by
 refine (z0F _ _ _ _ _ _ _ _ _ _ _ _).trans ?_
 kernel_rfl
theorem z8n (m : Nat) (n0k : Nat) (H : List AObj) (t4 : AV) : z1s m n0k ⟨H,[(4,t4)]⟩ =
 z02 (some (7,1)) t4 fun t80 =>
 z04 1 H t80 fun t81 =>
 z1D (z5L m (ro H t81)) [(ro H t81)] fun t82 =>
 zLC t82 0 fun t83 =>
 zLC t82 1 fun t84 =>
 zMe none false false .add t83 (V (.int .i64 1)) fun t86 =>
 zNf (V (.slice none 0 0)) z0q 4 H fun t13 H2 =>
 z7c m (z4x m) ⟨H2,[(4,t4),(13,t13),(14,t86)]⟩ (z0P 2 (zM3 (fun s=>z4A m n0k ⟨s.H,[(13,gt s.T 13)]⟩) (z0n n0k))) := by
 refine (z03 _ _ _ _ _ _ _ _ _).trans ?_
 kernel_rfl
theorem z8w (m : Nat) (n0 : Nat) (kc : ASt → RO) (kx : KO (AV × List AObj)) (H : List AObj) (t0 t2 t4 t8 : AV) : z2C m n0 kc kx ⟨H,[(0,t0),(2,t2),(4,t4),(8,t8)]⟩ =
 zMe none false false .add t8 (V (.int .i64 1)) fun t36 =>
 z7z n0 H [(0,t0),(2,t2),(4,t4),(8,t36)] kc := by
 refine (z03 _ _ _ _ _ _ _ _ _).trans ?_
 kernel_rfl
theorem z22 (m : Nat) (n0k : Nat) (H : List AObj) (t4 t78 : AV) : z2J m n0k ⟨H,[(4,t4),(78,t78)]⟩ =
 z0o t78 (
  z4f n0k H (ro H (TU [noT (V (.slice none 0 0)),noT (V (.int .i64 19))]))) (
  z1s m n0k ⟨H,[(4,t4)]⟩) := by
 refine (z03 _ _ _ _ _ _ _ _ _).trans ?_
 kernel_rfl
theorem z20 (m : Nat) (n0 : Nat) (kc : ASt → RO) (kx : KO (AV × List AObj)) (H : List AObj) (t0 t2 t4 t8 t56 : AV) : z2M m n0 kc kx ⟨H,[(0,t0),(2,t2),(4,t4),(8,t8),(56,t56)]⟩ =
 z0o t56 (
  kx .ret ⟨H,[(0,t0),(2,t2),(4,t4),(6,(V (.slice none 0 0))),(7,(V (.int .i64 3)))]⟩) (
  z2C m n0 kc kx ⟨H,[(0,t0),(2,t2),(4,t4),(8,t8)]⟩) := by
 refine (z03 _ _ _ _ _ _ _ _ _).trans ?_
 kernel_rfl
theorem z8t (m : Nat) (n0k : Nat) (H : List AObj) (t0 t2 t4 : AV) : z1q m n0k ⟨H,[(0,t0),(2,t2),(4,t4)]⟩ =
 z02 (some (7,1)) t4 fun t57 =>
 z04 1 H t57 fun t58 =>
 z1D (z8i m (ro H t58) (ro H t2)) [(ro H t58),(ro H t2)] fun t60 =>
 unE .not t60 fun t61 =>
 z0o t61 (
  z4f n0k H (ro H (TU [noT (V (.slice none 0 0)),noT (V (.int .i64 1))]))) (
  z04 10 H t4 fun t64 =>
  z4O (z12 m (ro H t0) (ro H t64) H) fun t65 H2 =>
  zLC t65 0 fun t66 =>
  zLC t65 1 fun t67 =>
  z2f (some zc_api_Stmt) z01 H2 fun t9 H3 =>
  z0I 7 H3 t9 t66 fun H4 =>
  zMe none false false .neq t67 (V (.int .i64 0)) fun t69 =>
  z0o t69 (
   z2J m n0k ⟨H4,[(4,t4),(78,(V (.bool true)))]⟩) (
   zMC t0 fun t72 =>
   z02 (some (1,5)) t72 fun t73 =>
   z04 5 H4 t73 fun t74 =>
   z04 7 H4 t9 fun t75 =>
   z1D (z1f m (ro H4 t74) (ro H4 t75)) [(ro H4 t74),(ro H4 t75)] fun t76 =>
   unE .not t76 fun t77 =>
   z2J m n0k ⟨H4,[(4,t4),(78,t77)]⟩)) := by
 refine (z03 _ _ _ _ _ _ _ _ _).trans ?_
 kernel_rfl
theorem z8o (m : Nat) (H : List AObj) (t0 t2 t4 t8 : AV) (kc : ASt → RO) (kx : KO (AV × List AObj)) : z2L m ⟨H,[(0,t0),(2,t2),(4,t4),(8,t8)]⟩ kc kx =
 z02 (some (7,1)) t4 fun t31 =>
 z04 1 H t31 fun t32 =>
 zLZ false true H t32 fun t33 =>
 zMe none false false .lss t8 t33 fun t34 =>
 z0o t34 (
  z02 (some (7,1)) t4 fun t37 =>
  z04 1 H t37 fun t38 =>
  z3H 8 H t38 t8 fun t40 =>
  z02 (some (1,1)) t40 fun t41 =>
  z04 1 H t41 fun t42 =>
  z02 (some (2,1)) t4 fun t43 =>
  z04 1 H t43 fun t44 =>
  zMe none false false .neq t42 t44 fun t45 =>
  z0o t45 (
   z2M m H.length kc kx ⟨H,[(0,t0),(2,t2),(4,t4),(8,t8),(56,(V (.bool true)))]⟩) (
   z02 (some (7,1)) t4 fun t48 =>
   z04 1 H t48 fun t49 =>
   z3H 8 H t49 t8 fun t51 =>
   z04 8 H t51 fun t52 =>
   z4O (z2p m (ro H t0) (ro H t52) (ro H t2) H) fun t54 H2 =>
   unE .not t54 fun t55 =>
   z2M m H.length kc kx ⟨H2,[(0,t0),(2,t2),(4,t4),(8,t8),(56,t55)]⟩)) (
  kx (.exit 0) ⟨H,[(0,t0),(2,t2),(4,t4),(6, .nil),(7, .nil)]⟩) := by
 refine (z0F _ _ _ _ _ _ _ _ _ _ _ _).trans ?_
 kernel_rfl
theorem z3K (m : Nat) (n0k : Nat) (H : List AObj) (t0 t2 t4 : AV) : z2I m n0k ⟨H,[(0,t0),(2,t2),(4,t4)]⟩ =
 z02 (some (1,1)) t4 fun t23 =>
 z04 1 H t23 fun t24 =>
 z02 (some (2,1)) t4 fun t25 =>
 z04 1 H t25 fun t26 =>
 z1D (z3f m (ro H t26) (ro H t2)) [(ro H t26),(ro H t2)] fun t28 =>
 zMe none false false .neq t24 t28 fun t29 =>
 z0o t29 (
  z4f n0k H (ro H (TU [noT (V (.slice none 0 0)),noT (V (.int .i64 21))]))) (
  z7c m (z2L m) ⟨H,[(0,t0),(2,t2),(4,t4),(8,(V (.int .i64 0)))]⟩ (z0P 0 (zM3 (fun s=>z1q m n0k ⟨s.H,[(0,gt s.T 0),(2,gt s.T 2),(4,gt s.T 4)]⟩) (z0n n0k)))) := by
 refine (z03 _ _ _ _ _ _ _ _ _).trans ?_
 kernel_rfl
theorem z1d (m : Nat) (n0k : Nat) (H : List AObj) (t0 t2 t4 t22 : AV) : z2A m n0k ⟨H,[(0,t0),(2,t2),(4,t4),(22,t22)]⟩ =
 z0o t22 (
  z4f n0k H (ro H (TU [noT (V (.slice none 0 0)),noT (V (.int .i64 1))]))) (
  z2I m n0k ⟨H,[(0,t0),(2,t2),(4,t4)]⟩) := by
 refine (z03 _ _ _ _ _ _ _ _ _).trans ?_
 kernel_rfl
theorem zak (m : Nat) (t0 t1 t2 : AV) (H : List AObj) : z1k m t0 t1 t2 H =
 zN2 z0t H t1 fun t4 H2 =>
 z02 (some (0,1)) t4 fun t15 =>
 z04 1 H2 t15 fun t16 =>
 zMe none false false .neq t16 (V (.int .i64 7)) fun t17 =>
 z0o t17 (
  z2A m H.length ⟨H2,[(0,t0),(2,t2),(4,t4),(22,(V (.bool true)))]⟩) (
  z1D (z1P m (ro H2 t2)) [(ro H2 t2)] fun t20 =>
  zMe none false false .eql t20 (V (.int .i64 0)) fun t21 =>
  z2A m H.length ⟨H2,[(0,t0),(2,t2),(4,t4),(22,t21)]⟩) := by
 refine (zhw Try.prog GG (z08 m) m ⟨102,[]⟩ H.length z0c plenumref32_World_NewView_h ⟨H,z14 0 [t0,t1,t2]⟩ [.tmp 6, .tmp 7]).trans ?_
 kernel_rfl
def z30 (m : Nat) : List AV → List AObj → RO|[t0,t1,t2],H=>z1k m t0 t1 t2 H|_,_=>none
theorem zav (m : Nat) : ∀ args H X H',z30 m args H = some (X,H') → AC Try.prog GG 21 args H (Is X H') := by
 intro args H X H' h
 unfold z30 at h
 split at h
 ·exact z1p MIX (by
  intro f e h
  simp only [z08,Prod.mk.injEq,List.mem_cons,List.not_mem_nil,or_false] at h
  rcases h with ⟨rfl,rfl⟩|⟨rfl,rfl⟩|⟨rfl,rfl⟩|⟨rfl,rfl⟩|⟨rfl,rfl⟩|⟨rfl,rfl⟩|⟨rfl,rfl⟩|⟨rfl,rfl⟩|⟨rfl,rfl⟩
  ·exact z3q m
  ·exact z8z m
  ·exact zaE m
  ·exact zjt m
  ·exact z52 m
  ·exact z2T m
  ·exact zbI m
  ·exact zit m
  ·exact zkF m) (f := 21) (c := z0c) Try.func21 rfl (by kernel_rfl) _ rfl Try.ntmps21 (Nat.le_of_ble_eq_true rfl) plenumref32_World_NewView_h h
 ·cases h
def z4o : Code := (Try.f10.body).getD .skip
def plenumlaw32_awake_h : Hint := (.two .n (.two .n (.two .n (.join [1,2] (.join [1,2,25] .n (.two (.two .n .n) .n)) (.two .n (.two .n (.two .n (.two .n (.two .n (.two .n (.two .n .n)))))))))))
def z3v (m : Nat) : Env := [(26, .keep (zhY m)),(27, .keep (zhH m)),(11, .keep (zaZ m)),(12, .keep (z5U m)),(30, .keep (z8k m)),(20, .keep (z9u m))]
abbrev z5C : KO (AV × List AObj) := z1L Try.prog [.tmp 0]
def z5Z (m : Nat) (s : ASt) : RO := z11 Try.prog GG (z3v m) m ⟨69,[]⟩ (cdR (cdR (cdR (cdR z4o)))) plenumlaw32_awake_h.r.r.r.r s (z5C)
def z3R (m : Nat) (s : ASt) : RO := z11 Try.prog GG (z3v m) m ⟨69,[]⟩ (cdR (cdL (cdR (cdR (cdR z4o))))) plenumlaw32_awake_h.r.r.r.l.r s (zM3 (fun s=>z5Z m ⟨s.H,[(1,gt s.T 1),(2,gt s.T 2)]⟩) (z5C))
def z43 (m : Nat) : RO := zLa Try.prog GG (z3v m) m ⟨69,[]⟩ z4o plenumlaw32_awake_h ⟨[],z14 0 []⟩ (z5C)
theorem zeH (m : Nat) (H : List AObj) (t1 t2 : AV) : z5Z m ⟨H,[(1,t1),(2,t2)]⟩ =
 z1F (some zkv) (some zc_api_Change) [(1,(V (.int .i64 1)))] fun t26 =>
 z2f (some zc_api_Change) z00 H fun t4 H2 =>
 z0I 8 H2 t4 t26 fun H3 =>
 z04 8 H3 t4 fun t29 =>
 z4O (z6m m (ro H3 t2) (ro H3 t1) (ro H3 t29) (V (.int .i64 4)) H3) fun t30 H4 =>
 z04 8 H4 t4 fun t33 =>
 z4O (z4b m (ro H4 t1) (ro H4 t33) H4) fun t34 H5 =>
 zLC t34 0 fun t35 =>
 zLC t34 1 fun t36 =>
 z2f (some zc_api_Stmt) z01 H5 fun t6 H6 =>
 z0I 7 H6 t6 t35 fun H7 =>
 z04 7 H7 t6 fun t38 =>
 z4O (z6n m (ro H7 t2) (V (.int .i64 0)) (ro H7 t38) H7) fun t39 H8 =>
 z04 8 H8 t4 fun t42 =>
 z4O (z6m m (ro H8 t2) (ro H8 t1) (ro H8 t42) (V (.int .i64 4)) H8) fun t43 H9 =>
 z1F (some zp1) (some zc_api_Msg) [(0,(V (.int .i64 7))),(2,(V (.int .i64 1)))] fun t47 =>
 z4O (z69 m (ro H9 t2) (ro H9 t1) (ro H9 t47) (V (.int .i64 4)) H9) fun t48 H10 =>
 zLC t48 0 fun t49 =>
 zLC t48 1 fun t50 =>
 unE .not t30 fun t52 =>
 z0o t52 (
  zMe none false false .eql t36 (V (.int .i64 0)) fun t55 =>
  z0o t55 (
  z02 (some (1,1)) t6 fun t58 =>
  z04 1 H10 t58 fun t59 =>
  zMe none false false .eql t59 (V (.int .i64 6)) fun t60 =>
  z0o t60 (
  z0o t43 (
  zMe none false false .eql t50 (V (.int .i64 21)) fun t67 =>
  z1Z H10 (ro H10 t67)) (
  z1Z H10 (ro H10 (V (.bool false))))) (
  z1Z H10 (ro H10 (V (.bool false))))) (
  z1Z H10 (ro H10 (V (.bool false))))) (
  z1Z H10 (ro H10 (V (.bool false)))) := by
 refine (z03 _ _ _ _ _ _ _ _ _).trans ?_
 kernel_rfl
theorem zeG (m : Nat) (H : List AObj) (t1 t2 t25 : AV) : z3R m ⟨H,[(1,t1),(2,t2),(25,t25)]⟩ =
 z0o t25 (
  z1Z H (ro H (V (.bool false)))) (
  z5Z m ⟨H,[(1,t1),(2,t2)]⟩) := by
 refine (z03 _ _ _ _ _ _ _ _ _).trans ?_
 kernel_rfl
theorem zh3 (m : Nat) : z43 m =
 z4O (zjV m []) fun t11 H1 =>
 z4O (zeM m (V (.int .i64 4)) (ro H1 (V (.slice none 0 0))) H1) fun t13 H2 =>
 zLC t13 0 fun t14 =>
 zLC t13 1 fun t15 =>
 zNi .eql t11 (V (.pointer none)) fun t17 =>
 z0o t17 (
  z3R m ⟨H2,[(1,t11),(2,t14),(25,(V (.bool true)))]⟩) (
  zMe none false false .neq t15 (V (.int .i64 0)) fun t20 =>
  z0o t20 (
  z3R m ⟨H2,[(1,t11),(2,t14),(25,(V (.bool true)))]⟩) (
  zNi .eql t14 (V (.pointer none)) fun t24 =>
  z3R m ⟨H2,[(1,t11),(2,t14),(25,t24)]⟩)) := by
 refine (z8O _ _ _ _ _ _ _ _ _).trans ?_
 kernel_rfl
def z6P (m : Nat) : List AV → RO|[]=>z43 m|_=>none
theorem zh7 (m : Nat) : ∀ args X H',z6P m args = some (X,H') → ACp Try.prog GG 10 args X := by
 intro args X H' h
 unfold z6P at h
 split at h
 ·exact z0B MIX (by
  intro f e h
  simp only [z3v,Prod.mk.injEq,List.mem_cons,List.not_mem_nil,or_false] at h
  rcases h with ⟨rfl,rfl⟩|⟨rfl,rfl⟩|⟨rfl,rfl⟩|⟨rfl,rfl⟩|⟨rfl,rfl⟩|⟨rfl,rfl⟩
  ·exact zn7 m
  ·exact zni m
  ·exact ziR m
  ·exact zcb m
  ·exact zeX m
  ·exact zgw m) (f := 10) (c := z4o) Try.func10 rfl (by kernel_rfl) _ rfl Try.ntmps10 (Nat.le_of_ble_eq_true rfl) plenumlaw32_awake_h h
 ·cases h
def z1j : Code := (Try.f6.body).getD .skip
def plenumlaw32_ViewNews_h : Hint := (.two .n (.two .n (.two .n (.two (.two .n (.two (.two .n .n) .n)) (.two .n (.two .n (.join [4,7,9,11,13] (.join [4,7,9,11,13,60] .n (.two (.two .n .n) .n)) (.join [4,7,9] (.two .n (.one (.lp [] [4,7,9,11,13,15] [4,6,7,9] (.two (.two .n (.two .n .n)) (.two (.one (.two .n (.two (.two .n .n) .n))) .n))))) (.two .n (.two .n (.two .n .n)))))))))))
def z17 (m : Nat) : Env := [(19, .tell (z97 m)),(8, .keep (z8S m)),(9, .tell (z8N m)),(10, .tell (z6P m)),(20, .keep (z9u m)),(21, .keep (z30 m)),(22, .keep (z9G m)),(23, .keep (z1G m)),(16, .keep (z7S m))]
abbrev z1u : KO (AV × List AObj) := z1L Try.prog [.tmp 6]
def z2S (m : Nat) (s : ASt) : RO := z11 Try.prog GG (z17 m) m ⟨109,[]⟩ (cdR (cdR (cdR (cdR (cdR (cdR (cdR (cdR z1j)))))))) plenumlaw32_ViewNews_h.r.r.r.r.r.r.r.r s (z1u)
def z7x (m : Nat) (s : ASt) (kc : ASt → RO) (kx : KO (AV × List AObj)) : RO := z8G Try.prog GG (z17 m) m ⟨109,[]⟩ (cdL (cdL (cdR (cdL (cdR (cdR (cdR (cdR (cdR (cdR (cdR z1j))))))))))) plenumlaw32_ViewNews_h.r.r.r.r.r.r.r.l.r.c.c [4,7,9,11,13,15] [4,6,7,9] s kc kx
def z2R (m : Nat) (s : ASt) : RO := z11 Try.prog GG (z17 m) m ⟨109,[]⟩ (cdR (cdR (cdR (cdR (cdR (cdR (cdR z1j))))))) plenumlaw32_ViewNews_h.r.r.r.r.r.r.r s (z1u)
def z4g (m : Nat) (s : ASt) : RO := z11 Try.prog GG (z17 m) m ⟨109,[]⟩ (cdR (cdL (cdR (cdR (cdR (cdR (cdR (cdR z1j)))))))) plenumlaw32_ViewNews_h.r.r.r.r.r.r.l.r s (zM3 (fun s=>z2R m ⟨s.H,[(4,gt s.T 4),(7,gt s.T 7),(9,gt s.T 9),(11,gt s.T 11),(13,gt s.T 13)]⟩) (z1u))
def z6f (m : Nat) (t0 t1 t2 : AV) : RO := zLa Try.prog GG (z17 m) m ⟨109,[]⟩ z1j plenumlaw32_ViewNews_h ⟨[],z14 0 [t0,t1,t2]⟩ (z1u)
theorem zbg (m : Nat) (H : List AObj) (t4 t7 t9 : AV) : z2S m ⟨H,[(4,t4),(7,t7),(9,t9)]⟩ =
 z04 10 H t4 fun t78 =>
 z4O (z89 m (ro H t7) (ro H t78) H) fun t79 H2 =>
 zLC t79 0 fun t80 =>
 zLC t79 1 fun t81 =>
 z2f (some zc_api_Stmt) z01 H2 fun t16 H3 =>
 z0I 7 H3 t16 t80 fun H4 =>
 z04 10 H4 t4 fun t84 =>
 z4O (z12 m (ro H4 t9) (ro H4 t84) H4) fun t85 H5 =>
 zLC t85 0 fun t86 =>
 zLC t85 1 fun t87 =>
 z2f (some zc_api_Stmt) z01 H5 fun t18 H6 =>
 z0I 7 H6 t18 t86 fun H7 =>
 z04 7 H7 t16 fun t88 =>
 z04 7 H7 t18 fun t89 =>
 zMe (some [.i .i64, .i .i64, .i .i64, .i .i64, .i .i64]) false false .eql t88 t89 fun t90 =>
 z0o t90 (
  zMe none false false .eql t81 t87 fun t94 =>
  z0o t94 (
  z4O (z4z m (ro H7 t7) H7) fun t98 H8 =>
  zMC t9 fun t100 =>
  z02 (some (0,1)) t100 fun t101 =>
  z04 1 H8 t101 fun t102 =>
  z04 1 H7 t101 fun t8034 =>
 eqE t102 t8034 (
 zLZ false true [] t102 fun t103 =>
  zMe none false false .eql t98 t103 fun t104 =>
  z0o t104 (
  z1D (z43 m) [] fun t107 =>
  z1Z H8 (ro H8 t107)) (
  z1Z H8 (ro H8 (V (.bool false)))))) (
  z1Z H7 (ro H7 (V (.bool false))))) (
  z1Z H7 (ro H7 (V (.bool false)))) := by
 refine (z03 _ _ _ _ _ _ _ _ _).trans ?_
 kernel_rfl
theorem zbC (m : Nat) (H : List AObj) (t4 t7 t9 t11 t13 t15 : AV) (kc : ASt → RO) (kx : KO (AV × List AObj)) : z7x m ⟨H,[(4,t4),(7,t7),(9,t9),(11,t11),(13,t13),(15,t15)]⟩ kc kx =
 zLZ false true H t11 fun t63 =>
 zMe none false false .lss t15 t63 fun t64 =>
 z0o t64 (
  z3H 6 H t11 t15 fun t69 =>
  z04 6 H t69 fun t70 =>
  z3H 6 H t13 t15 fun t73 =>
  z04 6 H t73 fun t74 =>
  zMe (some [.i .i64, .i .i64, .s, .b]) false false .neq t70 t74 fun t75 =>
  z0o t75 (
   kx .ret ⟨H,[(4,t4),(6,(V (.bool false))),(7,t7),(9,t9)]⟩) (
   zMe none false false .add t15 (V (.int .i64 1)) fun t66 =>
   z7z H.length H [(4,t4),(7,t7),(9,t9),(11,t11),(13,t13),(15,t66)] kc)) (
  kx (.exit 0) ⟨H,[(4,t4),(6, .nil),(7,t7),(9,t9)]⟩) := by
 refine (z0F _ _ _ _ _ _ _ _ _ _ _ _).trans ?_
 kernel_rfl
theorem zbD (m : Nat) (H : List AObj) (t4 t7 t9 t11 t13 : AV) : z2R m ⟨H,[(4,t4),(7,t7),(9,t9),(11,t11),(13,t13)]⟩ =
 z7c m (z7x m) ⟨H,[(4,t4),(7,t7),(9,t9),(11,t11),(13,t13),(15,(V (.int .i64 0)))]⟩ (z0P 0 (zM3 (fun s=>z2S m ⟨s.H,[(4,gt s.T 4),(7,gt s.T 7),(9,gt s.T 9)]⟩) (z1u))) := by
 refine (z03 _ _ _ _ _ _ _ _ _).trans ?_
 kernel_rfl
theorem zbd (m : Nat) (H : List AObj) (t4 t7 t9 t11 t13 t60 : AV) : z4g m ⟨H,[(4,t4),(7,t7),(9,t9),(11,t11),(13,t13),(60,t60)]⟩ =
 z0o t60 (
  z1Z H (ro H (V (.bool false)))) (
  z2R m ⟨H,[(4,t4),(7,t7),(9,t9),(11,t11),(13,t13)]⟩) := by
 refine (z03 _ _ _ _ _ _ _ _ _).trans ?_
 kernel_rfl
theorem zeK (m : Nat) (t0 t1 t2 : AV) : z6f m t0 t1 t2 =
 zN2 z1h [] t0 fun t3 H1 =>
 zN2 z0t H1 t1 fun t4 H2 =>
 z04 10 H2 t4 fun t20 =>
 z1D (z8j m (ro H2 t20)) [(ro H2 t20)] fun t21 =>
 z0I 10 H2 t4 t21 fun H3 =>
 z04 5 H3 t3 fun t23 =>
 z4O (z2r m (ro H3 t23) H3) fun t24 H4 =>
 zLC t24 0 fun t25 =>
 zLC t24 1 fun t26 =>
 zLC t24 2 fun t27 =>
 zLC t24 3 fun t28 =>
 unE .not t28 fun t30 =>
 z0o t30 (
  z04 5 H4 t3 fun t31 =>
  z1D (z8e m (ro H4 t31)) [(ro H4 t31)] fun t32 =>
  z0o t32 (
   z1D (z43 m) [] fun t34 =>
   z1Z H4 (ro H4 t34)) (
   z1Z H4 (ro H4 (V (.bool false))))) (
  z04 10 H4 t4 fun t39 =>
  z4O (z69 m (ro H4 t26) (ro H4 t25) (ro H4 t39) (ro H4 t2) H4) fun t41 H5 =>
  zLC t41 0 fun t42 =>
  zLC t41 1 fun t43 =>
  z04 10 H5 t4 fun t46 =>
  z4O (z1k m (ro H5 t27) (ro H5 t46) (ro H5 t2) H5) fun t48 H6 =>
  zLC t48 0 fun t49 =>
  zLC t48 1 fun t50 =>
  zLZ false true H6 t42 fun t52 =>
  zLZ false true H6 t49 fun t54 =>
  zMe none false false .neq t52 t54 fun t55 =>
  z0o t55 (
   z4g m ⟨H6,[(4,t4),(7,t25),(9,t27),(11,t42),(13,t49),(60,(V (.bool true)))]⟩) (
   zMe none false false .neq t43 t50 fun t59 =>
   z4g m ⟨H6,[(4,t4),(7,t25),(9,t27),(11,t42),(13,t49),(60,t59)]⟩)) := by
 refine (z8O _ _ _ _ _ _ _ _ _).trans ?_
 kernel_rfl
def z8v (m : Nat) : List AV → RO|[t0,t1,t2]=>z6f m t0 t1 t2|_=>none
theorem zeE (m : Nat) : ∀ args X H',z8v m args = some (X,H') → ACp Try.prog GG 6 args X := by
 intro args X H' h
 unfold z8v at h
 split at h
 ·exact z0B MIX (by
  intro f e h
  simp only [z17,Prod.mk.injEq,List.mem_cons,List.not_mem_nil,or_false] at h
  rcases h with ⟨rfl,rfl⟩|⟨rfl,rfl⟩|⟨rfl,rfl⟩|⟨rfl,rfl⟩|⟨rfl,rfl⟩|⟨rfl,rfl⟩|⟨rfl,rfl⟩|⟨rfl,rfl⟩|⟨rfl,rfl⟩
  ·exact zjp m
  ·exact zjy m
  ·exact zjZ m
  ·exact zh7 m
  ·exact zgw m
  ·exact zav m
  ·exact zgB m
  ·exact z52 m
  ·exact zhG m) (f := 6) (c := z1j) Try.func6 rfl (by kernel_rfl) _ rfl Try.ntmps6 (Nat.le_of_ble_eq_true rfl) plenumlaw32_ViewNews_h h
 ·cases h
end

section
open Go.RowKit
open Go.Maps (Keyed)
def zLs {α : Type} [DecidableEq α] (L : List α) (s : α) : Nat := if s ∈ L then L.idxOf s + 1 else 0
def mpF {α : Type} (kb : α → List UInt8) : Nat → List α → List AV
 |_,[]=>[]
 |k,s :: r=>zMG (kb s) .i64 ((k + 1 : Nat) : Int) :: mpF kb (k + 1) r
section
variable {α : Type} {kb : α → List UInt8}
theorem ztj : ∀ (L : List α) (k : Nat),(mpF kb k L).length = L.length
 |[],k=>rfl
 |s :: r,k=>by simp [mpF,ztj r]
theorem zqN (s : α) : ∀ (L : List α) (k : Nat),mpF kb k (L ++ [s]) = mpF kb k L ++ [zMG (kb s) .i64 ((k + L.length + 1 : Nat) : Int)]
 |[],k=>rfl
 |x :: r,k=>by
  show zMG (kb x) .i64 ((k + 1 : Nat) : Int) :: mpF kb (k + 1) (r ++ [s]) = zMG (kb x) .i64 ((k + 1 : Nat) : Int) :: (mpF kb (k + 1) r ++ _)
  rw [zqN s r (k + 1),show k + 1 + r.length + 1 = k + (x :: r).length + 1 by simp;omega]
theorem zzQ (n : Nat) : ∀ (L : List α) (k : Nat),(mpF kb k L).all (ltA n) = true
 |[],k=>rfl
 |s :: r,k=>by
  show (ltA n (zMG (kb s) .i64 ((k + 1 : Nat) : Int)) && (mpF kb (k + 1) r).all (ltA n)) = true
  rw [zzQ n r];rfl
def zMr (D : DataW Unit) (e : AV) : DataW Unit := D.put (.string (zNo e)) (zM5 e)
theorem zEe (k : List UInt8) (q : IntKind) (c : Int) : zNo (zMG k q c) = k := by simp [zNo,zMG]
theorem zwy [DecidableEq α] {s : α} : ∀ (L : List α) (k : Nat) (D : DataW Unit),Maps.IsMap D → L.Nodup → (∀ x ∈ L,kb x = kb s → x = s) →
  ((mpF kb k L).foldl zMr D).atKey (.string (kb s)) (.lit (.int .i64 0)) = (if s ∈ L then .lit (.int .i64 ((k + L.idxOf s + 1 : Nat) : Int)) else D.atKey (.string (kb s)) (.lit (.int .i64 0))) ∧
  Maps.has ((mpF kb k L).foldl zMr D) (.string (kb s)) = (decide (s ∈ L) || Maps.has D (.string (kb s)))
 |[],k,D,hD,_,_=>by simp [mpF]
 |x :: r,k,D,hD,hn,hi=>by
  have hn' := List.nodup_cons.1 hn
  obtain ⟨h1,h2⟩ := zwy r (k + 1) (zMr D (zMG (kb x) .i64 ((k + 1 : Nat) : Int))) (hD.put _ _) hn'.2 (fun y hy=>hi y (List.mem_cons_of_mem _ hy))
  show ((mpF kb (k + 1) r).foldl zMr (zMr D _)).atKey _ _ = _ ∧ Maps.has ((mpF kb (k + 1) r).foldl zMr (zMr D _)) _ = _
  rw [h1,h2]
  by_cases e : x = s
  ·subst e
   rw [if_neg hn'.1,if_pos (List.mem_cons_self ..)]
   have hk : (Lit.string (kb x)) = .string (zNo (zMG (kb x) .i64 ((k + 1 : Nat) : Int))) := by rw [zEe]
   constructor
   ·unfold zMr
    rw [hk,Maps.atKey_put_same hD (show WideAt.IsKeyLit (.string (zNo (zMG (kb x) .i64 ((k + 1 : Nat) : Int)))) from trivial)]
    simp [zM5,zMG]
   ·unfold zMr
    rw [hk,Maps.has_put_same hD (show WideAt.IsKeyLit (.string (zNo (zMG (kb x) .i64 ((k + 1 : Nat) : Int)))) from trivial)]
    simp
  ·have hne : (Lit.string (kb s)) ≠ .string (zNo (zMG (kb x) .i64 ((k + 1 : Nat) : Int))) := fun q=>by
    rw [zEe] at q
    injection q with q
    exact e (hi x (List.mem_cons_self ..) q.symm)
   have hm : (s ∈ x :: r) = (s ∈ r) := by simp [show s ≠ x from fun q=>e q.symm]
   simp only [hm]
   unfold zMr
   rw [Maps.atKey_put_other hne,Maps.has_put_other hne]
   refine ⟨?_,rfl⟩
   by_cases hs : s ∈ r
   ·rw [if_pos hs,if_pos hs,List.idxOf_cons,show (x == s) = false by simpa using e,cond_false,show k + 1 + r.idxOf s + 1 = k + (r.idxOf s + 1) + 1 by omega]
   ·rw [if_neg hs,if_neg hs]
theorem zv9 (c : List AV) : zNc c = c.foldl zMr (.map []) := rfl
theorem zIy [DecidableEq α] {L : List α} {s : α} (hn : L.Nodup) (hi : ∀ x ∈ L,kb x = kb s → x = s) :
  (zNc (mpF kb 0 L)).atKey (.string (kb s)) (.lit (.int .i64 0)) = .lit (.int .i64 (zLs L s)) ∧ Maps.has (zNc (mpF kb 0 L)) (.string (kb s)) = decide (s ∈ L) := by
 obtain ⟨h1,h2⟩ := zwy (kb := kb) (s := s) L 0 (.map []) ⟨[],rfl⟩ hn hi
 rw [zv9,h1,h2]
 constructor
 ·unfold zLs
  split
  ·rw [Nat.zero_add]
  ·rfl
 ·rw [Maps.has_eq];simp
end
theorem zDs : Keyed Try.prog 9 := Maps.string_keyed Try.underlying9
theorem zMD {s : List UInt8} (h : s.length ≤ 9223372036854775807) : keyOf Try.prog 9 (.string ⟨s.toArray⟩) = some (.string s) := by
 unfold keyOf mapKey
 simp only [Try.underlying9]
 rw [if_pos (show ByteArray.size ⟨s.toArray⟩ ≤ maxLen by simp only [ByteArray.size,List.size_toArray];unfold maxLen;omega)]
theorem laidOut : laidOutB Try.prog = true := by kernel_rfl
theorem zK6 : (match Try.prog.underlying 41 with|some (.array _ _)|some (.struct _)=>true|_=>false) = true := by rw [Try.underlying41]
theorem zLN : (41 : TypeId) < Try.prog.types.size := of_decide_eq_true (by kernel_rfl)
theorem zDo : Keyed Try.prog 41 := Keyed.of_law (deep_law_laid laidOut (m := 3) (by omega) zLN (by kernel_rfl) zK6)
theorem zy5 (w : World) : (zeroValue 3).run Try.prog w = .ok (.int .i64 0) w := by kernel_rfl
def I64 (i : Int) : Prop := -9223372036854775808 ≤ i ∧ i ≤ 9223372036854775807
def SmI (s : Sm) : Prop := I64 s.fr ∧ I64 s.kd ∧ I64 s.vw ∧ I64 s.sq ∧ I64 s.tm
theorem zLF {i : Int} (h : I64 i) : (Lit.int .i64 i).wf = true := by
 have := h
 simp [I64,Lit.wf,IntKind.min,IntKind.max,IntKind.signed,IntKind.bits] at this ⊢
 omega
def kS (s : Sm) : List UInt8 := keyBytes [.int .i64 s.fr, .int .i64 s.kd, .int .i64 s.vw, .int .i64 s.sq, .int .i64 s.tm]
theorem zLW {s : Sm} (h : SmI s) : keyOf Try.prog 41 (.agg #[.int .i64 s.fr, .int .i64 s.kd, .int .i64 s.vw, .int .i64 s.sq, .int .i64 s.tm]) = some (.string (kS s)) := by
 obtain ⟨h1,h2,h3,h4,h5⟩ := h
 have w1 := zLF h1;have w2 := zLF h2;have w3 := zLF h3;have w4 := zLF h4;have w5 := zLF h5
 have hkt : Try.prog.keyType 41 = true := by kernel_rfl
 have hce : Try.prog.cellsOf 41 = 5 := by kernel_rfl
 have hc3 : Try.prog.cellsOf 3 = 1 := by kernel_rfl
 obtain ⟨m,hm⟩ : ∃ m,Try.prog.types.size = m + 1 := Nat.exists_eq_succ_of_ne_zero (Nat.ne_of_gt (Nat.lt_of_le_of_lt (Nat.zero_le _) zLN))
 unfold keyOf
 simp only [Try.underlying41]
 rw [if_pos (by simp [hkt,Value.formed,Try.underlying41,hce]),hm]
 unfold Program.keyLits
 simp only [Try.underlying41,Value.cells]
 rw [if_pos ⟨by rw [hce];rfl,by simp⟩]
 simp [hc3,Program.keyLits,Try.underlying3,w1,w2,w3,w4,w5,kS]
theorem zHD {s t : Sm} (hs : SmI s) (ht : SmI t) (h : kS s = kS t) : s = t := by
 obtain ⟨a1,a2,a3,a4,a5⟩ := hs
 obtain ⟨b1,b2,b3,b4,b5⟩ := ht
 unfold kS at h
 have := keyBytes_inj (by simp [Alike,Lit.sameKind]) (by simp [Lit.keyWf,zLF a1,zLF a2,zLF a3,zLF a4,zLF a5]) (by simp [Lit.keyWf,zLF b1,zLF b2,zLF b3,zLF b4,zLF b5]) h
 simp at this
 obtain ⟨e1,e2,e3,e4,e5⟩ := this
 cases s;cases t;simp_all
def tmO (L : List (List UInt8)) : AObj := ⟨5,9,3,mpF _root_.id 0 L⟩
def rmO (R : List Sm) : AObj := ⟨5,41,3,mpF kS 0 R⟩
theorem zDj {R : Type} {H : List AObj} {i : Nat} {L : List (List UInt8)} {s : List UInt8} {K : AV → Option R} (hH : H[i]? = some (tmO L)) (hn : L.Nodup) (hs : s.length ≤ 9223372036854775807) :
  zuk Try.prog 105 H (MP i) (sA s) true K = K (TU [nA (zLs L s),bA (decide (s ∈ L))]) := by
 obtain ⟨h1,h2⟩ := zIy (kb := _root_.id) (L := L) (s := s) hn (fun x _ e=>e)
 refine zxg ⟨rfl,i,tmO L, .i64, .string ⟨s.toArray⟩, .string s,zLs L s,rfl,hH,rfl,zDs,Try.underlying105,Try.underlying3,zy5,rfl,zMD hs,h1,?_⟩
 rw [if_pos rfl]
 exact congrArg (fun b=>TU [nA (zLs L s),bA b]) ((decide_eq_decide.2 Iff.rfl).trans h2.symm)
theorem zEI {R : Type} {H : List AObj} {i : Nat} {L : List Sm} {s : Sm} {K : AV → Option R} (hH : H[i]? = some (rmO L)) (hn : L.Nodup) (hL : ∀ x ∈ L,SmI x) (hs : SmI s) :
  zuk Try.prog 116 H (MP i) (.agg (smC s)) false K = K (nA (zLs L s)) := by
 obtain ⟨h1,h2⟩ := zIy (kb := kS) (L := L) (s := s) hn (fun x hx e=>zHD (hL x hx) hs e)
 exact zxg ⟨rfl,i,rmO L, .i64,_, .string (kS s),zLs L s,rfl,hH,rfl,zDo,Try.underlying116,Try.underlying3,zy5,rfl,zLW hs,h1,rfl⟩
theorem zGV {R : Type} {H : List AObj} {i : Nat} {L : List (List UInt8)} {s : List UInt8} {K : List AObj → Option R} (hH : H[i]? = some (tmO L)) (hs : s.length ≤ 9223372036854775807) (hl : L.length < 100000) :
  zue Try.prog 105 H (MP i) (sA s) (nA ((L.length + 1 : Nat) : Int)) K = K (H.set i (tmO (L ++ [s]))) := by
 refine zwI ⟨rfl,i,tmO L, .i64, .string ⟨s.toArray⟩,s,_,rfl,hH,rfl,zDs,Try.underlying105,Try.underlying3,rfl,zMD hs,rfl,zLF ⟨by omega,by omega⟩,?_,?_⟩
 ·rw [show (tmO L).c = mpF _root_.id 0 L from rfl,ztj];unfold maxLen;omega
 ·unfold tmO;rw [zqN,Nat.zero_add];rfl
theorem zG7 {R : Type} {H : List AObj} {i : Nat} {L : List Sm} {s : Sm} {K : List AObj → Option R} (hH : H[i]? = some (rmO L)) (hs : SmI s) (hl : L.length < 100000) :
  zue Try.prog 116 H (MP i) (.agg (smC s)) (nA ((L.length + 1 : Nat) : Int)) K = K (H.set i (rmO (L ++ [s]))) := by
 refine zwI ⟨rfl,i,rmO L, .i64,_,kS s,_,rfl,hH,rfl,zDo,Try.underlying116,Try.underlying3,rfl,zLW hs,rfl,zLF ⟨by omega,by omega⟩,?_,?_⟩
 ·rw [show (rmO L).c = mpF kS 0 L from rfl,ztj];unfold maxLen;omega
 ·unfold rmO;rw [zqN,Nat.zero_add]
end

section
open Go.RowKit
theorem zoL {R : Type} : ∀ (A : List AObj) {Z : List AObj} {k : Nat} {K : AObj → Option R},z2Q (A ++ Z) (A.length + k) K = z2Q Z k K
 |[],Z,k,K=>by simp
 |a :: A,Z,k,K=>by
  show z2Q (a :: (A ++ Z)) ((A.length + 1) + k) K = _
  rw [show A.length + 1 + k = (A.length + k) + 1 by omega]
  exact zoL A
theorem zLG : ∀ (A : List AObj) {Z : List AObj} {k : Nat} {o : AObj},(A ++ Z).set (A.length + k) o = A ++ Z.set k o
 |[],Z,k,o=>by simp
 |a :: A,Z,k,o=>by
  show (a :: (A ++ Z)).set ((A.length + 1) + k) o = _
  rw [show A.length + 1 + k = (A.length + k) + 1 by omega,List.set_cons_succ,zLG A]
  rfl
theorem zLE : ∀ (A : List AObj) {Z : List AObj} {k : Nat},(A ++ Z)[A.length + k]? = Z[k]? := fun A {Z k}=>by
 rw [List.getElem?_append_right (by omega)];congr 1;omega
def scM (A B : List AObj) (o0 o1 o2 o3 o4 o5 : AObj) : List AObj := A ++ (o0 :: o1 :: o2 :: o3 :: o4 :: o5 :: B)
def nAB (A B : List AObj) : Nat := A.length + (B.length + 6)
section
variable {R : Type} {A B Y : List AObj} {o0 o1 o2 o3 o4 o5 o : AObj} {K : AObj → Option R} {k : Nat}
theorem z8p : (scM A B o0 o1 o2 o3 o4 o5).length = nAB A B := by simp [scM,nAB]
theorem z6s : scM A (B ++ Y) o0 o1 o2 o3 o4 o5 = scM A B o0 o1 o2 o3 o4 o5 ++ Y := by simp [scM]
theorem zEq : nAB A (B ++ Y) = nAB A B + Y.length := by simp [nAB];omega
theorem zzu : z2Q (scM A B o0 o1 o2 o3 o4 o5) A.length K = K o0 := (zoL A (k := 0))
theorem zz1 : z2Q (scM A B o0 o1 o2 o3 o4 o5) (A.length + 1) K = K o1 := (zoL A (k := 1))
theorem zyz : z2Q (scM A B o0 o1 o2 o3 o4 o5) (A.length + 2) K = K o2 := (zoL A (k := 2))
theorem zAn : z2Q (scM A B o0 o1 o2 o3 o4 o5) (A.length + 3) K = K o3 := (zoL A (k := 3))
theorem zyk : z2Q (scM A B o0 o1 o2 o3 o4 o5) (A.length + 4) K = K o4 := (zoL A (k := 4))
theorem zzp : z2Q (scM A B o0 o1 o2 o3 o4 o5) (A.length + 5) K = K o5 := (zoL A (k := 5))
theorem zAE : z2Q (scM A B o0 o1 o2 o3 o4 o5 ++ Y) A.length K = K o0 := by rw [← z6s];exact zzu
theorem zAx : z2Q (scM A B o0 o1 o2 o3 o4 o5 ++ Y) (A.length + 1) K = K o1 := by rw [← z6s];exact zz1
theorem zAG : z2Q (scM A B o0 o1 o2 o3 o4 o5 ++ Y) (A.length + 2) K = K o2 := by rw [← z6s];exact zyz
theorem zAv : z2Q (scM A B o0 o1 o2 o3 o4 o5 ++ Y) (A.length + 3) K = K o3 := by rw [← z6s];exact zAn
theorem zAA : z2Q (scM A B o0 o1 o2 o3 o4 o5 ++ Y) (A.length + 4) K = K o4 := by rw [← z6s];exact zyk
theorem zAz : z2Q (scM A B o0 o1 o2 o3 o4 o5 ++ Y) (A.length + 5) K = K o5 := by rw [← z6s];exact zzp
theorem zz6 : (scM A B o0 o1 o2 o3 o4 o5).set A.length o = scM A B o o1 o2 o3 o4 o5 := (zLG A (k := 0))
theorem zzL : (scM A B o0 o1 o2 o3 o4 o5).set (A.length + 1) o = scM A B o0 o o2 o3 o4 o5 := (zLG A (k := 1))
theorem zAf : (scM A B o0 o1 o2 o3 o4 o5).set (A.length + 2) o = scM A B o0 o1 o o3 o4 o5 := (zLG A (k := 2))
theorem zzi : (scM A B o0 o1 o2 o3 o4 o5).set (A.length + 3) o = scM A B o0 o1 o2 o o4 o5 := (zLG A (k := 3))
theorem zz4 : (scM A B o0 o1 o2 o3 o4 o5).set (A.length + 4) o = scM A B o0 o1 o2 o3 o o5 := (zLG A (k := 4))
theorem zyv : (scM A B o0 o1 o2 o3 o4 o5).set (A.length + 5) o = scM A B o0 o1 o2 o3 o4 o := (zLG A (k := 5))
theorem zAy : (scM A B o0 o1 o2 o3 o4 o5 ++ Y).set A.length o = scM A B o o1 o2 o3 o4 o5 ++ Y := by rw [← z6s,← z6s];exact zz6
theorem zAH : (scM A B o0 o1 o2 o3 o4 o5 ++ Y).set (A.length + 1) o = scM A B o0 o o2 o3 o4 o5 ++ Y := by rw [← z6s,← z6s];exact zzL
theorem zAN : (scM A B o0 o1 o2 o3 o4 o5 ++ Y).set (A.length + 2) o = scM A B o0 o1 o o3 o4 o5 ++ Y := by rw [← z6s,← z6s];exact zAf
theorem zAD : (scM A B o0 o1 o2 o3 o4 o5 ++ Y).set (A.length + 3) o = scM A B o0 o1 o2 o o4 o5 ++ Y := by rw [← z6s,← z6s];exact zzi
theorem zAQ : (scM A B o0 o1 o2 o3 o4 o5 ++ Y).set (A.length + 4) o = scM A B o0 o1 o2 o3 o o5 ++ Y := by rw [← z6s,← z6s];exact zz4
theorem zAJ : (scM A B o0 o1 o2 o3 o4 o5 ++ Y).set (A.length + 5) o = scM A B o0 o1 o2 o3 o4 o ++ Y := by rw [← z6s,← z6s];exact zyv
theorem zwM : z2Q (scM A B o0 o1 o2 o3 o4 o5 ++ Y) (nAB A B + k) K = z2Q Y k K := by
 rw [← z8p (o0 := o0) (o1 := o1) (o2 := o2) (o3 := o3) (o4 := o4) (o5 := o5)];exact zoL _
theorem zA3 : z2Q (scM A B o0 o1 o2 o3 o4 o5 ++ Y) (nAB A B) K = z2Q Y 0 K := zwM (k := 0)
theorem zpq : (scM A B o0 o1 o2 o3 o4 o5 ++ Y).set (nAB A B + k) o = scM A B o0 o1 o2 o3 o4 o5 ++ Y.set k o := by
 rw [← z8p (o0 := o0) (o1 := o1) (o2 := o2) (o3 := o3) (o4 := o4) (o5 := o5)];exact zLG _
theorem zqt : (scM A B o0 o1 o2 o3 o4 o5 ++ Y).set (nAB A B) o = scM A B o0 o1 o2 o3 o4 o5 ++ Y.set 0 o := zpq (k := 0)
theorem zgK : (scM A B o0 o1 o2 o3 o4 o5).take (nAB A B) = scM A B o0 o1 o2 o3 o4 o5 := by
 rw [← z8p (o0 := o0) (o1 := o1) (o2 := o2) (o3 := o3) (o4 := o4) (o5 := o5)];exact List.take_length
theorem zhc : (scM A B o0 o1 o2 o3 o4 o5 ++ Y).take (nAB A B) = scM A B o0 o1 o2 o3 o4 o5 := by
 rw [← z8p (o0 := o0) (o1 := o1) (o2 := o2) (o3 := o3) (o4 := o4) (o5 := o5)];exact List.take_left
end
def GB (A B : List AObj) : Prop := ∀ n,nAB A B ≤ n → A.all (ltO n) = true ∧ B.all (ltO n) = true
theorem GB.app {A B Y : List AObj} (h : GB A B) (hY : ∀ n,Y.all (ltO n) = true) : GB A (B ++ Y) := fun n hn=>by
 rw [zEq] at hn
 obtain ⟨h1,h2⟩ := h n (by omega)
 exact ⟨h1,by rw [List.all_append,h2,hY];rfl⟩
def ttO (a : Nat) (L : List (List UInt8)) : AObj := ⟨1,z35,0,[MP a,OW (a + 2) L.length]⟩
def trO (L : List (List UInt8)) : AObj := ⟨2,z4p,1,L.map sA⟩
def rgC (a : Nat) (n : Int) (bd : List Bool) (R : List Sm) : List AV := nA n :: (bd.map bA ++ [MP a,OW (a + 2) R.length])
def rgO (a : Nat) (n : Int) (bd : List Bool) (R : List Sm) : AObj := ⟨1,z54,0,rgC a n bd R⟩
def rrO (R : List Sm) : AObj := ⟨2,z01,5,R.map smE⟩
structure Sg where
 T : List (List UInt8)
 n : Int
 bd : List Bool
 R : List Sm
def sc (A B : List AObj) (σ : Sg) : List AObj := scM A B (tmO σ.T) (ttO A.length σ.T) (trO σ.T) (rmO σ.R) (rgO (A.length + 3) σ.n σ.bd σ.R) (rrO σ.R)
structure SgOk (σ : Sg) : Prop where
 tn : σ.T.Nodup
 tl : σ.T.length ≤ 65536
 ts : ∀ s ∈ σ.T,s.length ≤ 9223372036854775807
 n1 : 1 ≤ σ.n
 n2 : σ.n ≤ 64
 bl : σ.bd.length = 64
 rn : σ.R.Nodup
 rl : σ.R.length ≤ 65536
 ri : ∀ s ∈ σ.R,SmI s
 rf : ∀ s ∈ σ.R,0 ≤ s.fr ∧ s.fr < σ.n
theorem zAe {n : Nat} {L : List (List UInt8)} : ltO n (tmO L) = true := zzQ n L 0
theorem zD8 {n : Nat} {L : List Sm} : ltO n (rmO L) = true := zzQ n L 0
theorem zzE {n a : Nat} {L : List (List UInt8)} (h : a + 2 < n) : ltO n (ttO a L) = true := by
 simp [ltO,ttO,ltA,lt1];omega
theorem zrU {n : Nat} {L : List (List UInt8)} : ltO n (trO L) = true := by
 simp [ltO,trO,ltA,lt1]
theorem zBr {n : Nat} {L : List Sm} : ltO n (rrO L) = true := by
 show ((2 : Nat) == 0 || (L.map smE).all (ltA n)) = true
 rw [List.all_map];exact zfG
theorem zCD {n a : Nat} {q : Int} {bd : List Bool} {R : List Sm} (h : a + 2 < n) : ltO n (rgO a q bd R) = true := by
 simp [ltO,rgO,rgC,ltA,lt1];omega
theorem zkx {A B : List AObj} {σ : Sg} (h : GB A B) {n : Nat} (hn : nAB A B ≤ n) : (sc A B σ).all (ltO n) = true := by
 obtain ⟨h1,h2⟩ := h n hn
 have h3 : A.length + 6 ≤ n := by unfold nAB at hn;omega
 unfold sc scM
 rw [List.all_append,h1]
 simp only [List.all_cons,zAe,zzE (show A.length + 2 < n by omega),zrU,zD8,zCD (show A.length + 3 + 2 < n by omega),zBr,h2,Bool.and_self]
theorem zyB {A B Y : List AObj} {σ : Sg} {X : AV} (h : GB A B) (hX : ltT (nAB A B) X = true) : z4f (nAB A B) (sc A B σ ++ Y) X = some (X,sc A B σ) := by
 rw [zsM]
 have h1 := zkx (σ := σ) h (Nat.le_refl _)
 unfold sc at h1 ⊢
 rw [zhc,List.length_append,z8p,h1,hX,decide_eq_true (by omega)]
 rfl
theorem z82 {A B : List AObj} {σ : Sg} : (sc A B σ).length = nAB A B := z8p
theorem z8H {A B Y : List AObj} {σ : Sg} : sc A (B ++ Y) σ = sc A B σ ++ Y := z6s
section
variable {R : Type} {A B Y : List AObj} {σ : Sg} {K : AObj → Option R} {k : Nat} {o : AObj}
theorem zN3 : z2Q (sc A B σ ++ Y) (nAB A B) K = z2Q Y 0 K := zA3
theorem zMM : z2Q (sc A B σ ++ Y) (nAB A B + k) K = z2Q Y k K := zwM
theorem zpp : (sc A B σ ++ Y).set (nAB A B) o = sc A B σ ++ Y.set 0 o := zqt
theorem zoA : (sc A B σ ++ Y).set (nAB A B + k) o = sc A B σ ++ Y.set k o := zpq
theorem zat : (sc A B σ ++ Y).take (nAB A B) = sc A B σ := zhc
theorem z7p : (sc A B σ ++ Y).take (nAB A B + k) = sc A B σ ++ Y.take k := by
 rw [← z8p (A := A) (B := B) (o0 := tmO σ.T) (o1 := ttO A.length σ.T) (o2 := trO σ.T) (o3 := rmO σ.R) (o4 := rgO (A.length + 3) σ.n σ.bd σ.R) (o5 := rrO σ.R)]
 exact List.take_length_add_append ..
theorem zK9 : (sc A B σ ++ Y)[nAB A B + k]? = Y[k]? := by
 rw [← z8p (A := A) (B := B) (o0 := tmO σ.T) (o1 := ttO A.length σ.T) (o2 := trO σ.T) (o3 := rmO σ.R) (o4 := rgO (A.length + 3) σ.n σ.bd σ.R) (o5 := rrO σ.R)]
 exact zLE _
theorem zEP {n : Nat} {l : List Int} : (l.map nA).all (ltA n) = true := by rw [List.all_map];exact List.all_eq_true.2 fun _ _=>rfl
theorem zGu {n : Nat} {l : List Int} : ltT n (SL (l.map nA)) = true := _root_.id rfl
theorem zMl {H : List AObj} {i n : Nat} {e z : Nat} {c : List AV} (h : H[i]? = some ⟨2,e,z,c⟩) (hn : n = c.length) : ro1 H (OW i n) = SL c := by
 subst hn
 unfold ro1
 dsimp only
 rw [h]
 simp
theorem zi6 : (sc A B σ).take (nAB A B) = sc A B σ := zgK
end
def oqT (L : List (List UInt8)) (s : List UInt8) : List (List UInt8) := if s ∈ L then L else if 65536 ≤ L.length then L else L ++ [s]
def ofN (L : List (List UInt8)) (s : List UInt8) : Nat := if s ∈ L then zLs L s else if 65536 ≤ L.length then 0 else L.length + 1
def ofE (L : List (List UInt8)) (s : List UInt8) : Int := if s ∈ L then 0 else if 65536 ≤ L.length then 5 else 0
theorem zBk {L : List (List UInt8)} {s : List UInt8} : (⟨2,z4p,1,L.map sA ++ [sA s]⟩ : AObj) = trO (L ++ [s]) := by simp [trO]
end

section
open Go.RowKit
attribute [local go_sem] zzu zz1 zyz zAn zyk zzp zAE zAx zAG zAv zAA zAz zz6 zzL zAf zzi zz4 zyv zAy zAH zAN zAD zAQ zAJ zA3 zwM zqt zpq List.append_assoc
theorem zx8 {A B : List AObj} {o0 o1 o2 o3 o4 o5 : AObj} : (scM A B o0 o1 o2 o3 o4 o5)[A.length]? = some o0 := (zLE A (k := 0))
theorem zCl {A B : List AObj} {o0 o1 o2 o3 o4 o5 : AObj} : (scM A B o0 o1 o2 o3 o4 o5)[A.length + 3]? = some o3 := (zLE A (k := 3))
section
variable {R : Type} {a : Nat} {L : List (List UInt8)} {K : List AV → Option R} {K2 : AObj → Option R}
theorem zoI : zjw (ttO a L) K = K [MP a,OW (a + 2) L.length] := by unfold ttO;exact zz9
theorem zHM {n : Nat} : zKS (ttO a L) 1 1 (OW (a + 2) n) K2 = K2 ⟨1,z35,0,[MP a,OW (a + 2) n]⟩ := by unfold ttO;rw [zud];rfl
theorem zL4 : (trO L).k = 2 := _root_.id rfl
theorem zLQ : (trO L).e = z4p := _root_.id rfl
theorem zLY : (trO L).z = 1 := _root_.id rfl
theorem zLd : (trO L).c = L.map sA := _root_.id rfl
end
theorem znn {A B : List AObj} (hG : GB A B) {L : List (List UInt8)} {n : Int} {bd : List Bool} {R : List Sm} : (scM A B (tmO L) (ttO A.length L) (trO L) (rmO R) (rgO (A.length + 3) n bd R) (rrO R)).all (ltO (nAB A B)) = true := zkx (σ := ⟨L,n,bd,R⟩) hG (Nat.le_refl _)
theorem zEZ (m : Nat) (A B : List AObj) (σ : Sg) (s : List UInt8) (hG : GB A B) (hσ : SgOk σ) (hs : s.length ≤ 9223372036854775807) :
  z4Z m (OP (A.length + 1) 0) (sA s) (sc A B σ) = some (TU [nA (ofN σ.T s),nA (ofE σ.T s)],sc A B { σ with T := oqT σ.T s }) := by
 have h0 := hσ.tl
 rw [zll]
 have hl := fun (K : AV → RO)=>zDj (K := K) (zx8 (A := A) (B := B) (o0 := tmO σ.T) (o1 := ttO A.length σ.T) (o2 := trO σ.T) (o3 := rmO σ.R) (o4 := rgO (A.length + 3) σ.n σ.bd σ.R) (o5 := rrO σ.R)) hσ.tn hs
 have hlt := fun {L : List (List UInt8)} {n : Int} {bd : List Bool} {R : List Sm}=>znn hG (L := L) (n := n) (bd := bd) (R := R)
 clear hG
 unfold oqT ofN ofE sc
 obtain ⟨T,n,bd,R⟩ := σ
 dsimp only at *
 by_cases h1 : s ∈ T
 ·simp (config := {maxSteps := 4000000,implicitDefEqProofs := false}) (disch := omega) only [go_sem,zoI,hl,z8p,hlt,zgK,h1]
 ·by_cases h2 : 65536 ≤ T.length
  ·have h2' : (65536 : Int) ≤ (T.length : Int) := by omega
   simp (config := {maxSteps := 4000000,implicitDefEqProofs := false}) (disch := omega) only [go_sem,zoI,hl,z8p,hlt,zgK,h1,h2,h2']
  ·have h2' : ¬ (65536 : Int) ≤ (T.length : Int) := by omega
   have ht : (⟨1,z35,0,[MP A.length,OW (A.length + 2) (T.length + 1)]⟩ : AObj) = ttO A.length (T ++ [s]) := by unfold ttO;rw [List.length_append];rfl
   have hp := fun (K : List AObj → RO)=>zGV (K := K) (s := s) (zx8 (A := A) (B := B) (o0 := tmO T) (o1 := ttO A.length (T ++ [s])) (o2 := trO (T ++ [s])) (o3 := rmO R) (o4 := rgO (A.length + 3) n bd R) (o5 := rrO R)) hs (by omega)
   have hb : T.length + 1 ≤ 34359738368 := by omega
   have hx : (T ++ [s]).length = T.length + 1 := by simp
   simp (config := {maxSteps := 4000000,implicitDefEqProofs := false}) (disch := omega) only [go_sem,zoI,zHM,zL4,zLQ,zLY,zLd,zBk,ht,hl,hp,hx,z8p,hlt,zgK,h1,h2,h2',hb]
theorem zzV (m : Nat) (A B : List AObj) (σ : Sg) (hG : GB A B) : z4z m (OP (A.length + 1) 0) (sc A B σ) = some (nA σ.T.length,sc A B σ) := by
 have hlt := fun {L : List (List UInt8)} {n : Int} {bd : List Bool} {R : List Sm}=>znn hG (L := L) (n := n) (bd := bd) (R := R)
 rw [zhF]
 unfold sc
 simp (config := {maxSteps := 4000000,implicitDefEqProofs := false}) (disch := omega) only [go_sem,zoI,z8p,hlt,zgK]
theorem zH7 : zMo Try.prog 105 = some (9,3) := by unfold zMo;rw [Try.underlying105]
theorem zz2 (m : Nat) (H : List AObj) (hH : ∀ n,H.length ≤ n → H.all (ltO n) = true) : zjV m H = some (OP (H.length + 1) 0,H ++ [tmO [],ttO H.length [],trO []]) := by
 rw [zrO,zH7]
 have e1 : ∀ K : AV → List AObj → RO,zuj (some (9,3)) H K = K (MP H.length) (H ++ [tmO []]) := fun K=>_root_.id rfl
 have e2 : ∀ (x : AV) (K : AV → RO),z1F (some zko) (some zkc) [(0,MP H.length)] K = K (.agg [MP H.length,V (.slice none 0 0)]) := fun x K=>_root_.id rfl
 have e3 : ∀ (H' : List AObj) (K : AV → List AObj → RO),zN2 z35 H' (.agg [MP H.length,V (.slice none 0 0)]) K = K (OP H'.length 0) (H' ++ [⟨1,z35,0,[MP H.length,V (.slice none 0 0)]⟩]) := fun H' K=>_root_.id rfl
 rw [e1,e2 .nil,e3]
 have e4 : ghS 0 1 z4p 1 ⟨H ++ [tmO []] ++ [⟨1,z35,0,[MP H.length,V (.slice none 0 0)]⟩],[(0,OP (H ++ [tmO []]).length 0)]⟩ = ⟨H ++ [tmO [],ttO H.length [],trO []],[(0,OP (H.length + 1) 0)]⟩ := by
  unfold ghS
  show (match OP (H ++ [tmO []]).length 0 with|_=>_) = _
  have h1 : (H ++ [tmO []] ++ [⟨1,z35,0,[MP H.length,V (.slice none 0 0)]⟩])[(H ++ [tmO []]).length]? = some ⟨1,z35,0,[MP H.length,V (.slice none 0 0)]⟩ := by simp
  dsimp only
  rw [h1]
  simp [ttO,trO]
 rw [e4,znM,zpD]
 have h2 := hH (H.length + 3) (by omega)
 have h3 : (H ++ [tmO [],ttO H.length [],trO []]).all (ltO (H.length + 3)) = true := by
  rw [List.all_append,h2]
  simp [zAe,zzE (show H.length + 2 < H.length + 3 by omega),zrU]
 have h4 : (H ++ [tmO [],ttO H.length [],trO []]).length = H.length + 3 := by simp
 rw [h4,h3]
 have h5 : ltT (H.length + 3) (OP (H.length + 1) 0) = true := decide_eq_true (show H.length + 1 < H.length + 3 by omega)
 rw [show ro (H ++ [tmO [],ttO H.length [],trO []]) (OP (H.length + 1) 0) = OP (H.length + 1) 0 from rfl,h5]
 rfl
end

section
open Go.RowKit
attribute [local go_sem] zzu zz1 zyz zAn zyk zzp zAE zAx zAG zAv zAA zAz zz6 zzL zAf zzi zz4 zyv zAy zAH zAN zAD zAQ zAJ zA3 zwM zqt zpq z8p zgK zhc List.append_assoc Nat.le_add_right
section
variable {R : Type} {a k : Nat} {n : Int} {bd : List Bool} {L : List Sm} {K : AV → Option R} {K1 : List AV → Option R} {K2 : AObj → Option R}
theorem zgV : zjw (rgO a n bd L) K1 = K1 (rgC a n bd L) := by unfold rgO;exact zz9
theorem zL9 : zLl (rgC a n bd L) 0 K = K (nA n) := _root_.id rfl
theorem zGz (h : bd.length = 64) (hk : k < 64) : (rgC a n bd L)[1 + k]? = some (bA (bd.getD k false)) := by
 unfold rgC
 rw [show 1 + k = k + 1 by omega,List.getElem?_cons_succ,List.getElem?_append_left (by simp;omega),List.getElem?_map,List.getD_eq_getElem?_getD,List.getElem?_eq_getElem (by omega)]
 rfl
theorem rg_b (h : bd.length = 64) (hk : k < 64) : zLl (rgC a n bd L) (1 + k) K = K (bA (bd.getD k false)) := by
 have := zGz (a := a) (n := n) (L := L) h hk
 unfold zLl
 rw [this]
theorem zLV (h : bd.length = 64) : zLl (rgC a n bd L) 65 K = K (MP a) := by
 have : (rgC a n bd L)[65]? = some (MP a) := by
  unfold rgC
  rw [List.getElem?_cons_succ,List.getElem?_append_right (by simp;omega)]
  simp [h]
 unfold zLl
 rw [this]
theorem zKR (h : bd.length = 64) : zLl (rgC a n bd L) 66 K = K (OW (a + 2) L.length) := by
 have : (rgC a n bd L)[66]? = some (OW (a + 2) L.length) := by
  unfold rgC
  rw [List.getElem?_cons_succ,List.getElem?_append_right (by simp;omega)]
  simp [h]
 unfold zLl
 rw [this]
theorem zwB (h : bd.length = 64) : (rgC a n bd L).length = 67 := by simp [rgC,h]
theorem zBB (h : bd.length = 64) (hk : k < 64) (b : Bool) : zKS (rgO a n bd L) 1 (1 + k) (bA b) K2 = K2 (rgO a n (bd.set k b) L) := by
 unfold rgO
 rw [zud]
 have h1 : z09 (rgC a n bd L) (1 + k) (cellsOf (bA b)) = rgC a n (bd.set k b) L := by
  show (rgC a n bd L).set (1 + k) (bA b) = _
  unfold rgC
  rw [show 1 + k = k + 1 by omega,List.set_cons_succ,List.set_append_left _ _ (by simp;omega),List.map_set]
 rw [h1,zwB h,show decide (1 + k + zMH 1 ≤ 67) = true from decide_eq_true (by simp [zMH];omega)]
 rfl
theorem zBR (h : bd.length = 64) (s : Sm) : zKS (rgO a n bd L) 1 66 (OW (a + 2) (L.length + 1)) K2 = K2 (rgO a n bd (L ++ [s])) := by
 unfold rgO
 rw [zud]
 have h1 : z09 (rgC a n bd L) 66 (cellsOf (OW (a + 2) (L.length + 1))) = rgC a n bd (L ++ [s]) := by
  show (rgC a n bd L).set 66 (OW (a + 2) (L.length + 1)) = _
  unfold rgC
  rw [List.set_cons_succ,List.set_append_right _ _ (by simp;omega)]
  simp [h]
 rw [h1,zwB h,show decide (66 + zMH 1 ≤ 67) = true from by decide]
 rfl
end
def zMU (n : Int) (bd : List Bool) (p : Int) : Bool := decide (0 ≤ p) && decide (p < n) && bd.getD p.toNat false
theorem zFf (m : Nat) (A B : List AObj) (σ : Sg) (p : Int) (hG : GB A B) : z8a m (OP (A.length + 4) 0) (nA p) (sc A B σ) = some (bA (decide (0 ≤ p) && decide (p < σ.n)),sc A B σ) := by
 have hlt := fun {L : List (List UInt8)} {n : Int} {bd : List Bool} {R : List Sm}=>znn hG (L := L) (n := n) (bd := bd) (R := R)
 rw [zmF]
 unfold sc
 by_cases h : 0 ≤ p
 ·simp (config := {maxSteps := 4000000,implicitDefEqProofs := false}) (disch := omega) only [go_sem,zgV,zL9,hlt,h]
 ·simp (config := {maxSteps := 4000000,implicitDefEqProofs := false}) (disch := omega) only [go_sem,zgV,zL9,hlt,h]
theorem zDh (m : Nat) (A B : List AObj) (σ : Sg) (p : Int) (hG : GB A B) (hσ : SgOk σ) : z8D m (OP (A.length + 4) 0) (nA p) (sc A B σ) = some (bA (zMU σ.n σ.bd p),sc A B σ) := by
 have hi := zFf m A B σ p hG
 have hlt := fun {L : List (List UInt8)} {n : Int} {bd : List Bool} {R : List Sm}=>znn hG (L := L) (n := n) (bd := bd) (R := R)
 have hn := hσ.n2
 have hb := hσ.bl
 rw [zlD]
 unfold zMU
 by_cases h : 0 ≤ p ∧ p < σ.n
 ·have e1 : (decide (0 ≤ p) && decide (p < σ.n)) = true := by simp [h]
  rw [e1] at hi ⊢
  unfold sc at *
  have h1 := h.1
  have h2 : p < 64 := by omega
  have h3 : p.toNat < 64 := by omega
  have hr := fun (K : AV → RO)=>rg_b (a := A.length + 3) (n := σ.n) (bd := σ.bd) (L := σ.R) (k := p.toNat) (K := K) hb h3
  simp (config := {maxSteps := 4000000,implicitDefEqProofs := false}) (disch := omega) only [go_sem,hi,zgV,hr,hlt,h1,h2,zMH]
 ·have e1 : (decide (0 ≤ p) && decide (p < σ.n)) = false := by
   rw [Bool.eq_false_iff]
   simpa using h
  rw [e1] at hi ⊢
  unfold sc at *
  simp (config := {maxSteps := 4000000,implicitDefEqProofs := false}) (disch := omega) only [go_sem,hi,hlt]
theorem zsY {A B Y : List AObj} {o0 o1 o2 o3 o4 o5 : AObj} : (scM A B o0 o1 o2 o3 o4 o5 ++ Y)[A.length + 3]? = some o3 := by rw [← z6s];exact zCl
theorem zyF {R : List Sm} {s : Sm} : decide ((0 : Int) < (zLs R s : Int)) = decide (s ∈ R) := by
 rw [decide_eq_decide]
 unfold zLs
 split
 ·simp [*]
 ·simp [*]
theorem zuI (m : Nat) (A B : List AObj) (σ : Sg) (s : Sm) (hG : GB A B) (hσ : SgOk σ) (hs : SmI s) : z4V m (OP (A.length + 4) 0) (smE s) (sc A B σ) = some (bA (decide (s ∈ σ.R)),sc A B σ) := by
 have hlt := fun {L : List (List UInt8)} {n : Int} {bd : List Bool} {R : List Sm}=>znn hG (L := L) (n := n) (bd := bd) (R := R)
 have hb := hσ.bl
 have hr := fun (K : AV → RO)=>zLV (a := A.length + 3) (n := σ.n) (bd := σ.bd) (L := σ.R) (K := K) hb
 have hl := fun (K : AV → RO)=>zEI (K := K) (s := s) (zsY (A := A) (B := B) (Y := [⟨1,z01,0,smC s⟩]) (o0 := tmO σ.T) (o1 := ttO A.length σ.T) (o2 := trO σ.T) (o3 := rmO σ.R) (o4 := rgO (A.length + 3) σ.n σ.bd σ.R) (o5 := rrO σ.R)) hσ.rn hσ.ri hs
 rw [zm4,z6x]
 unfold sc
 simp (config := {maxSteps := 4000000,implicitDefEqProofs := false}) (disch := omega) only [go_sem,hl,zgV,hr,hlt,zyF]
end

end Go.Proofs.Ytaaogcnjfkgnoaa
end

