/-
  Texts laid together, part 6 of 7: laws of a walk over data, contracts of functions, each whole by itself.
-/
import Derived.Test.YtaplemeamcgpkaaDoorMge
import Derived.WalkKit
import Derived.Shelf.Strings.BuilderX
import Derived.Lib.Walk
import Derived.Lib.Builder
import Derived.Lib.AppendStr
import Derived.Laws.Externs
import Derived.Laws.IdiomCopy
import Derived.KernelRfl
import Derived.Test.YtaplemeamcgpkaaDoorProg
import Derived.Test.YtaplemeamcgpkaaDoorMgd
import Derived.Test.YtaplemeamcgpkaaDoorMga
import Derived.Maps.Views
import Derived.DeepKeys4
import Derived.Shelf.Spec.SlicesInsert
import Derived.Lib.AppendZerosOnto
import Derived.Laws.CopyRow
set_option maxRecDepth 100000
noncomputable section
set_option linter.unusedVariables false
set_option linter.unusedSimpArgs false
namespace Go.Proofs.YtaplemeamcgpkaaDoor
open Go.RowKit
theorem zl4 : ACp Tryd.prog GG 53 [lA []] (lA []) := by
 refine acp_of_tells (by kernel_rfl) fun w S vs hr hg hlen hv=>?_
 rcases vs with _|⟨v1,_|⟨_,_⟩⟩ <;> simp at hlen
 obtain ⟨A,c,rfl,h1,h2,_⟩ := hv 0 _ v1 rfl rfl
 have fin : ∀ A' w',Below w.heap.size w w' → ∃ v,Ending.returned (.slice A' 0 0) = .returned v ∧ Below w.heap.size w w' ∧ rep S [] (lA []) v := fun A' w' hb=>⟨_,rfl,hb,A',0,rfl,Nat.le_refl _,by decide,fun q=>absurd rfl q⟩
 cases A with
 |none =>
  have hq : ∀ w,(binOp .eql 22 (.slice none 0 c) (.slice none 0 0)).run Tryd.prog w = .ok (.bool true) w := fun w=>by
   simp only [binOp]
   rw [Sem.run_bind,run_equal_slice_nil (P := Tryd.prog) w _ _ none 0 c Tryd.underlying22]
   rfl
  go_enter Tryd.func53,Tryd.ntmps53
  go_wp2
  go_ret
  exact fin none _ (Below.refl _ _)
 |some a =>
  have hq : ∀ w,(binOp .eql 22 (.slice (some a) 0 c) (.slice none 0 0)).run Tryd.prog w = .ok (.bool false) w := fun w=>by
   simp only [binOp]
   rw [Sem.run_bind,run_equal_slice_nil (P := Tryd.prog) w _ _ (some a) 0 c Tryd.underlying22]
   rfl
  go_enter Tryd.func53,Tryd.ntmps53
  go_wp2
  go_ret
  exact fin _ _ ((Below.refl _ w).alloc (Nat.le_refl _) _)
theorem its5 {l : List Item} : zjs 5 (l.map (flA Item.cells)) = true := by
 unfold zjs
 rw [List.all_eq_true]
 intro d hd
 obtain ⟨x,_,rfl⟩ := List.mem_map.1 hd
 rfl
theorem zsm (l : List Item) (hl : l.length ≤ 34359738368) : ACp Tryd.prog GG 53 [lA l] (lA l) := by
 cases l with
 |nil=>exact zl4
 |cons x l =>
  refine z83 0 _ _ [] ?_
  show z3q 0 (lA (x :: l)) = _
  rw [z7T]
  have h2 := its5 (l := x :: l)
  have h1 : (lA (x :: l) : AV) = SL (flA Item.cells x :: l.map (flA Item.cells)) := _root_.id rfl
  have h3 : (flA Item.cells x :: l.map (flA Item.cells)).length ≤ 34359738368 := by simpa using hl
  rw [List.map_cons] at h2
  rw [h1]
  generalize flA Item.cells x = a at h2 h3 ⊢
  generalize l.map (flA Item.cells) = r at h2 h3 ⊢
  show zF4 (some (z2j,5)) [] ZV (SL (a :: r)) (fun t7 H1=>z4l H1 (ro H1 t7)) = _
  rw [zqI,zzC,h2,z5h,show decide ((a :: r).length ≤ 34359738368) = true by simpa using h3,z5h]
  have e : ro ([] ++ [⟨2,z2j,5,a :: r⟩]) (OW ([] : List AObj).length (a :: r).length) = SL (a :: r) := by
   show (if _ ∧ _ then SL (a :: r) else OW 0 (a :: r).length) = _
   exact if_pos ⟨rfl,rfl⟩
  rw [e]
  rfl
attribute [local go_sem_proc] Nat.reduceEqDiff Nat.reduceAdd Nat.reduceSub Nat.reduceMul Nat.reduceLeDiff Nat.reduceLT Int.reduceEq Int.reduceNe Int.reduceLT Int.reduceLE Int.reduceAdd Int.reduceSub Int.reduceMul Int.reduceNeg Int.reduceToNat reduceCtorEq
attribute [local go_sem_proc ↓] reduceIte
attribute [local go_sem ↓] z74 zpB zpp z75 z6B z9O zq9 zp9 zpb zpE zao z6f zDb zDH zDA zEa zE1 zD4 zer zfx z9S zfk z9T zae z6x z4o z9N z4J zal zfh zpk z6w z1k z9X z2m zaj z3a z1A z6i z1B z6h z6Y zeJ z6O zew z6d z9V z4I z2l z6j zet z6A z6H z9P za0 z4q z4x za8 zam zfA zfQ zpK zpm z6r z6P z1j z1h za2 z9I z2o z2h za9 za3 z35 z38 z1L z1y z6E z6Q z1C z1E z6J z6U z6M z6m zen zfm z9Z za5 zfy zp0 zfq zfn zqh zpd zpP zqt z9K z9M z9U z9F zp1 zpR zpO zeo zeV z33 z3g zfp zf3
attribute [local go_sem] zcW z95 zoB zoh ze7 znr zxN zyr zxF zyp zsb zg4 zl6 zm7 zz8 zyT zwW z2K zz1 zop zix zdZ zAc zzs zA4 zea zdR zkx zgU zrn zg8 zkV zkc zk1 zgk zdg ze6 zgK zlt zg2 zei zgh zlL zdx ziE zdn zis znp zyU zAb zyu zzL zAv zAr zyF lt1 zgW zfY z7S zsL zgg zlj zdW ze1 zqV zkQ zrA zhd zsp zqZ zmw zge zmj zdc zk5 zzP zzr zzW zzl zA0 zzE zDV zzz zga zyt zAm zyz zAw zz5 zze zyI zAt zzN zyV zyY zAu zzf zF8 zEc zEW zFc zmJ zi8 zyK zgr zg5 ze5 zdp zz3 zsO zqz zD2 zrO zrM zqO zrX zzj zyS zFg zr9 zmU zFJ zdB zxU zyl zn4 zou z8k zhj zhF zed zdI zmW zic ixS zDU zEv zin zds zh9 zrF zrZ zki zdr zmg zk4 zgT zh3 zr8 zkZ znz zib zoy ziJ ze0 zoF zxx zsb znV zy4 zhN zxT zaW zg4 zmN zhT zol zhZ znG ziH zdN zmy zyi zgL zgf zbf zxi zhM zaU znQ zoI zhB zi3 zdH zbN zh7 zdq z9r zcW z95 zr6 zkB zE0 zyd znI zye zxp zow zxI zFE zyk znE zxH zxh zmL zEj zy8 zn7 zxt zxG zxQ z7S beq_self_eq_true Nat.zero_lt_succ Nat.lt_add_one true_or or_true Bool.or_self Nat.zero_add Nat.add_zero Nat.mul_one Int.toNat_natCast Int.natCast_zero Int.natCast_add Int.cast_ofNat_Int or_false false_or or_true true_or Nat.sub_zero Int.natCast_nonneg Int.toNat_zero Bool.true_and Bool.and_true Bool.false_and Bool.and_false Bool.true_or Bool.or_true Bool.false_or Bool.or_false Bool.not_true Bool.not_false Bool.not_not true_and and_true false_and and_false not_true_eq_false not_false_eq_true eq_self decide_true decide_false ne_eq implies_true forall_const true_implies false_implies Bool.true_eq_false Bool.false_eq_true List.map_cons List.map_nil List.all_cons List.all_nil List.length_cons List.length_nil List.length_map List.length_append List.nil_append List.cons_append List.set_cons_zero List.set_cons_succ List.set_nil List.drop_zero List.drop_succ_cons List.drop_nil List.take_zero List.take_succ_cons List.take_nil Option.map_some Option.map_none Option.isSome_some zF2 zD5 zCy zxM zy1 zxr zxz zyg zy9 zyq zyj zyf zxA zy3 zox ziu zhJ zif zhE zhR ziF zhe zi6 zhx zir ziz zhu zi1 zhh zih zEV zya zxy zyh zxD zxj zxY zna zFL zyn zym zxw zy6 zxq zxJ zn9 zy0 zxZ zy7 zxB zxs zxm zxV zDO zDz zoD zDP zxK zxo zxk zxC zxE zxO zCM zCx zET zFV zxX zo3 zcs zxW zeq zaO zw4 zio z5m zjK z0E z7q z47 z8E z7R z8e z99 zgo z4y zhO z4K z56 z8H zjo zjA zjy zje ziV zEH z2a
abbrev rO (t : Tr) (l : List Item) : List AObj := [⟨1,26,0,tC t⟩,⟨1,22,0,[lA l]⟩,⟨1,26,0,zC⟩]
abbrev rO2 (t : Tr) (l : List Item) : List AObj := [⟨1,26,0,tC t⟩,⟨1,22,0,[lA l]⟩,⟨1,26,0,zC⟩,⟨1,26,0,tC t⟩,⟨1,26,0,zC⟩]
set_option maxHeartbeats 400000 in
theorem zz7 (t : Tr) (l0 l : List Item) (hl : l.length ≤ 34359738368) : AC Tryd.prog GG 52 [lA l0,OP 1 0] (rO2 t l) (Is (TU [lA l,nA 0]) (rO2 t l)) := by
 refine z5p (c := _) Tryd.func52 rfl (by kernel_rfl) [.tmp 3, .tmp 4] rfl _ Tryd.ntmps52 (Nat.le_of_ble_eq_true rfl) ?_ (Nat.le_of_ble_eq_true rfl) ?_ ?_
 ·(simp (disch := omega) only [go_sem,z0C,z0I,z02,z01,z05,z00,z0i,z0k,z0j,z0d,z0c])
 ·(simp (disch := omega) only [go_sem,z0C,z0I,z02,z01,z05,z00,z0i,z0k,z0j,z0d,z0c])
 repeat' (first|(refine z0h (zsm l hl) rfl ?_)|(with_reducible first|refine aq ?_|refine yr (by kernel_rfl) (Nat.le_of_ble_eq_true rfl) ?_|refine yx MIX (by kernel_rfl) (by kernel_rfl) (by kernel_rfl) (Nat.le_of_ble_eq_true rfl) ?_|refine yc ?_|refine zCI ?_|refine z0p ?_|refine z0H ?_|refine z0u ?_|refine z0v ?_|refine yr1 (by kernel_rfl) (Nat.le_of_ble_eq_true rfl) ?_|refine yx1 MIX (by kernel_rfl) (by kernel_rfl) (by kernel_rfl) (Nat.le_of_ble_eq_true rfl) ?_)|(simp only [go_sem])|((with_reducible first|refine zE8 (by first|assumption|(simp only [decide_eq_true_eq,decide_eq_false_iff_not];first|assumption|omega)) (fun h=>?_)|refine zFf (by first|assumption|(simp only [decide_eq_true_eq,decide_eq_false_iff_not];first|assumption|omega)) (fun h=>?_)|refine zF6 (by first|assumption|(simp only [decide_eq_true_eq,decide_eq_false_iff_not];first|assumption|omega)) (fun h=>?_)|refine zCY (by first|assumption|(simp only [decide_eq_true_eq,decide_eq_false_iff_not];first|assumption|omega)) (fun h=>?_)|refine zER (by first|assumption|(simp only [decide_eq_true_eq,decide_eq_false_iff_not];first|assumption|omega)) (fun h=>?_)|refine zDm (by first|assumption|(simp only [decide_eq_true_eq,decide_eq_false_iff_not];first|assumption|omega)) (fun h=>?_)) <;> (try rewrite [h]) <;> clear h)|(with_reducible refine z6G ?_)|((with_reducible first|refine z0w (fun h=>?_) (fun h=>?_)|refine z0y (fun h=>?_) (fun h=>?_)) <;> (try rewrite [h]) <;> (try simp (disch := omega) only [z0C,z0I,z02,z01,z05,z00,z0i,z0k,z0j,z0d,z0c] at h) <;> (try simp only [decide_eq_true_eq,decide_eq_false_iff_not,Bool.not_eq_true,Bool.not_eq_false,Bool.not_eq_true',Bool.not_eq_false',not_true_eq_false,not_false_eq_true] at h) <;> (try (exfalso;omega)))|(simp (disch := omega) only [z0C,z0I,z02,z01,z05,z00,z0i,z0k,z0j,z0d,z0c])|(with_reducible first|refine And.intro (by first|assumption|rfl|omega) ?_|refine And.intro ?_ ?_))
set_option maxHeartbeats 400000 in
theorem zyL (t : Tr) (l : List Item) (B ver : Int) (h0 : 0 ≤ B) (h1 : B < 16) (hl : l.length ≤ 34359738368) : AC Tryd.prog GG 43 [tA t,nA B,nA ver,CL (.func 52) 0 [OP 1 0]] (rO t l)
  (Is (TU [tA ((t.setL B.toNat l).setV B.toNat ver),nA 0]) (rO t l)) := by
 refine z5p (c := _) Tryd.func43 rfl (by kernel_rfl) [.cell 8 26, .tmp 9] rfl _ Tryd.ntmps43 (Nat.le_of_ble_eq_true rfl) ?_ (Nat.le_of_ble_eq_true rfl) ?_ ?_
 ·(simp (disch := omega) only [go_sem,z0C,z0I,z02,z01,z05,z00,z0i,z0k,z0j,z0d,z0c])
 ·(simp (disch := omega) only [go_sem,z0C,z0I,z02,z01,z05,z00,z0i,z0k,z0j,z0d,z0c])
 repeat' (first|(refine z3T (zz7 t _ l hl) ?_)|(with_reducible first|refine aq ?_|refine yr (by kernel_rfl) (Nat.le_of_ble_eq_true rfl) ?_|refine yx MIX (by kernel_rfl) (by kernel_rfl) (by kernel_rfl) (Nat.le_of_ble_eq_true rfl) ?_|refine yc ?_|refine zCI ?_|refine z0p ?_|refine z0H ?_|refine z0u ?_|refine z0v ?_|refine yr1 (by kernel_rfl) (Nat.le_of_ble_eq_true rfl) ?_|refine yx1 MIX (by kernel_rfl) (by kernel_rfl) (by kernel_rfl) (Nat.le_of_ble_eq_true rfl) ?_)|(simp only [go_sem])|((with_reducible first|refine zE8 (by first|assumption|(simp only [decide_eq_true_eq,decide_eq_false_iff_not];first|assumption|omega)) (fun h=>?_)|refine zFf (by first|assumption|(simp only [decide_eq_true_eq,decide_eq_false_iff_not];first|assumption|omega)) (fun h=>?_)|refine zF6 (by first|assumption|(simp only [decide_eq_true_eq,decide_eq_false_iff_not];first|assumption|omega)) (fun h=>?_)|refine zCY (by first|assumption|(simp only [decide_eq_true_eq,decide_eq_false_iff_not];first|assumption|omega)) (fun h=>?_)|refine zER (by first|assumption|(simp only [decide_eq_true_eq,decide_eq_false_iff_not];first|assumption|omega)) (fun h=>?_)|refine zDm (by first|assumption|(simp only [decide_eq_true_eq,decide_eq_false_iff_not];first|assumption|omega)) (fun h=>?_)) <;> (try rewrite [h]) <;> clear h)|(with_reducible refine z6G ?_)|((with_reducible first|refine z0w (fun h=>?_) (fun h=>?_)|refine z0y (fun h=>?_) (fun h=>?_)) <;> (try rewrite [h]) <;> (try simp (disch := omega) only [z0C,z0I,z02,z01,z05,z00,z0i,z0k,z0j,z0d,z0c] at h) <;> (try simp only [decide_eq_true_eq,decide_eq_false_iff_not,Bool.not_eq_true,Bool.not_eq_false,Bool.not_eq_true',Bool.not_eq_false',not_true_eq_false,not_false_eq_true] at h) <;> (try (exfalso;omega)))|(simp (disch := omega) only [z0C,z0I,z02,z01,z05,z00,z0i,z0k,z0j,z0d,z0c])|(with_reducible first|refine And.intro (by first|assumption|rfl|omega) ?_|refine And.intro ?_ ?_))
def zDE (t : Tr) (b : Int) (l : List Item) (v : Int) : Tr × Nat := if zEb t = false then (Tr.zero,1) else if b < 0 ∨ 16 ≤ b then (Tr.zero,4) else if zcw b l v = false then (Tr.zero,1) else ((t.setL b.toNat l).setV b.toNat v,0)
set_option maxHeartbeats 400000 in
theorem zn6 (t : Tr) (b ver : Int) (l : List Item) (hl : l.length ≤ 34359738368) (ht : ∀ i,(t.leaf i).length ≤ 34359738368) : ACp Tryd.prog GG 33 [tA t,nA b,lA l,nA ver] (TU [tA (zDE t b l ver).1,nA (zDE t b l ver).2]) := by
 cases hm : zEb t with
 |false =>
  have e : zDE t b l ver = (Tr.zero,1) := by unfold zDE;rw [if_pos hm]
  refine z0x (c := _) Tryd.func33 rfl (by kernel_rfl) [.cell 8 26, .tmp 9] rfl _ Tryd.ntmps33 (Nat.le_of_ble_eq_true rfl) rfl ?_
  repeat' (first|(refine z0h (zgl sigGG _ ht) (by (simp (disch := omega) only [go_sem,z0C,z0I,z02,z01,z05,z00,z0i,z0k,z0j,z0d,z0c])) ?_)|(with_reducible first|refine aq ?_|refine yr (by kernel_rfl) (Nat.le_of_ble_eq_true rfl) ?_|refine yx MIX (by kernel_rfl) (by kernel_rfl) (by kernel_rfl) (Nat.le_of_ble_eq_true rfl) ?_|refine yc ?_|refine zCI ?_|refine z0p ?_|refine z0H ?_|refine z0u ?_|refine z0v ?_|refine yr1 (by kernel_rfl) (Nat.le_of_ble_eq_true rfl) ?_|refine yx1 MIX (by kernel_rfl) (by kernel_rfl) (by kernel_rfl) (Nat.le_of_ble_eq_true rfl) ?_)|(simp only [go_sem,hm,e])|((with_reducible first|refine zE8 (by first|assumption|(simp only [decide_eq_true_eq,decide_eq_false_iff_not];first|assumption|omega)) (fun h=>?_)|refine zFf (by first|assumption|(simp only [decide_eq_true_eq,decide_eq_false_iff_not];first|assumption|omega)) (fun h=>?_)|refine zF6 (by first|assumption|(simp only [decide_eq_true_eq,decide_eq_false_iff_not];first|assumption|omega)) (fun h=>?_)|refine zCY (by first|assumption|(simp only [decide_eq_true_eq,decide_eq_false_iff_not];first|assumption|omega)) (fun h=>?_)|refine zER (by first|assumption|(simp only [decide_eq_true_eq,decide_eq_false_iff_not];first|assumption|omega)) (fun h=>?_)|refine zDm (by first|assumption|(simp only [decide_eq_true_eq,decide_eq_false_iff_not];first|assumption|omega)) (fun h=>?_)) <;> (try rewrite [h]) <;> clear h)|(with_reducible refine z6G ?_)|((with_reducible first|refine z0w (fun h=>?_) (fun h=>?_)|refine z0y (fun h=>?_) (fun h=>?_)) <;> (try rewrite [h]) <;> (try simp (disch := omega) only [z0C,z0I,z02,z01,z05,z00,z0i,z0k,z0j,z0d,z0c] at h) <;> (try simp only [decide_eq_true_eq,decide_eq_false_iff_not,Bool.not_eq_true,Bool.not_eq_false,Bool.not_eq_true',Bool.not_eq_false',not_true_eq_false,not_false_eq_true] at h) <;> (try (exfalso;omega)))|(simp (disch := omega) only [z0C,z0I,z02,z01,z05,z00,z0i,z0k,z0j,z0d,z0c])|(with_reducible first|refine And.intro (by first|assumption|rfl|omega) ?_|refine And.intro ?_ ?_))
 |true =>
  by_cases hb : b < 0 ∨ 16 ≤ b
  ·have e : zDE t b l ver = (Tr.zero,4) := by unfold zDE;rw [if_neg (by rw [hm];decide),if_pos hb]
   refine z0x (c := _) Tryd.func33 rfl (by kernel_rfl) [.cell 8 26, .tmp 9] rfl _ Tryd.ntmps33 (Nat.le_of_ble_eq_true rfl) rfl ?_
   repeat' (first|(refine z0h (zgl sigGG _ ht) (by (simp (disch := omega) only [go_sem,z0C,z0I,z02,z01,z05,z00,z0i,z0k,z0j,z0d,z0c])) ?_)|(with_reducible first|refine aq ?_|refine yr (by kernel_rfl) (Nat.le_of_ble_eq_true rfl) ?_|refine yx MIX (by kernel_rfl) (by kernel_rfl) (by kernel_rfl) (Nat.le_of_ble_eq_true rfl) ?_|refine yc ?_|refine zCI ?_|refine z0p ?_|refine z0H ?_|refine z0u ?_|refine z0v ?_|refine yr1 (by kernel_rfl) (Nat.le_of_ble_eq_true rfl) ?_|refine yx1 MIX (by kernel_rfl) (by kernel_rfl) (by kernel_rfl) (Nat.le_of_ble_eq_true rfl) ?_)|(simp only [go_sem,hm,e])|((with_reducible first|refine zE8 (by first|assumption|(simp only [decide_eq_true_eq,decide_eq_false_iff_not];first|assumption|omega)) (fun h=>?_)|refine zFf (by first|assumption|(simp only [decide_eq_true_eq,decide_eq_false_iff_not];first|assumption|omega)) (fun h=>?_)|refine zF6 (by first|assumption|(simp only [decide_eq_true_eq,decide_eq_false_iff_not];first|assumption|omega)) (fun h=>?_)|refine zCY (by first|assumption|(simp only [decide_eq_true_eq,decide_eq_false_iff_not];first|assumption|omega)) (fun h=>?_)|refine zER (by first|assumption|(simp only [decide_eq_true_eq,decide_eq_false_iff_not];first|assumption|omega)) (fun h=>?_)|refine zDm (by first|assumption|(simp only [decide_eq_true_eq,decide_eq_false_iff_not];first|assumption|omega)) (fun h=>?_)) <;> (try rewrite [h]) <;> clear h)|(with_reducible refine z6G ?_)|((with_reducible first|refine z0w (fun h=>?_) (fun h=>?_)|refine z0y (fun h=>?_) (fun h=>?_)) <;> (try rewrite [h]) <;> (try simp (disch := omega) only [z0C,z0I,z02,z01,z05,z00,z0i,z0k,z0j,z0d,z0c] at h) <;> (try simp only [decide_eq_true_eq,decide_eq_false_iff_not,Bool.not_eq_true,Bool.not_eq_false,Bool.not_eq_true',Bool.not_eq_false',not_true_eq_false,not_false_eq_true] at h) <;> (try (exfalso;omega)))|(simp (disch := omega) only [z0C,z0I,z02,z01,z05,z00,z0i,z0k,z0j,z0d,z0c])|(with_reducible first|refine And.intro (by first|assumption|rfl|omega) ?_|refine And.intro ?_ ?_))
  ·cases hf : zcw b l ver with
   |false =>
    have e : zDE t b l ver = (Tr.zero,1) := by unfold zDE;rw [if_neg (by rw [hm];decide),if_neg hb,if_pos hf]
    refine z0x (c := _) Tryd.func33 rfl (by kernel_rfl) [.cell 8 26, .tmp 9] rfl _ Tryd.ntmps33 (Nat.le_of_ble_eq_true rfl) rfl ?_
    repeat' (first|(refine z0h (zgl sigGG _ ht) (by (simp (disch := omega) only [go_sem,z0C,z0I,z02,z01,z05,z00,z0i,z0k,z0j,z0d,z0c])) ?_)|(refine z0h (ze3 sigGG _ _ _ hl) rfl ?_)|(with_reducible first|refine aq ?_|refine yr (by kernel_rfl) (Nat.le_of_ble_eq_true rfl) ?_|refine yx MIX (by kernel_rfl) (by kernel_rfl) (by kernel_rfl) (Nat.le_of_ble_eq_true rfl) ?_|refine yc ?_|refine zCI ?_|refine z0p ?_|refine z0H ?_|refine z0u ?_|refine z0v ?_|refine yr1 (by kernel_rfl) (Nat.le_of_ble_eq_true rfl) ?_|refine yx1 MIX (by kernel_rfl) (by kernel_rfl) (by kernel_rfl) (Nat.le_of_ble_eq_true rfl) ?_)|(simp only [go_sem,hm,hf,e])|((with_reducible first|refine zE8 (by first|assumption|(simp only [decide_eq_true_eq,decide_eq_false_iff_not];first|assumption|omega)) (fun h=>?_)|refine zFf (by first|assumption|(simp only [decide_eq_true_eq,decide_eq_false_iff_not];first|assumption|omega)) (fun h=>?_)|refine zF6 (by first|assumption|(simp only [decide_eq_true_eq,decide_eq_false_iff_not];first|assumption|omega)) (fun h=>?_)|refine zCY (by first|assumption|(simp only [decide_eq_true_eq,decide_eq_false_iff_not];first|assumption|omega)) (fun h=>?_)|refine zER (by first|assumption|(simp only [decide_eq_true_eq,decide_eq_false_iff_not];first|assumption|omega)) (fun h=>?_)|refine zDm (by first|assumption|(simp only [decide_eq_true_eq,decide_eq_false_iff_not];first|assumption|omega)) (fun h=>?_)) <;> (try rewrite [h]) <;> clear h)|(with_reducible refine z6G ?_)|((with_reducible first|refine z0w (fun h=>?_) (fun h=>?_)|refine z0y (fun h=>?_) (fun h=>?_)) <;> (try rewrite [h]) <;> (try simp (disch := omega) only [z0C,z0I,z02,z01,z05,z00,z0i,z0k,z0j,z0d,z0c] at h) <;> (try simp only [decide_eq_true_eq,decide_eq_false_iff_not,Bool.not_eq_true,Bool.not_eq_false,Bool.not_eq_true',Bool.not_eq_false',not_true_eq_false,not_false_eq_true] at h) <;> (try (exfalso;omega)))|(simp (disch := omega) only [z0C,z0I,z02,z01,z05,z00,z0i,z0k,z0j,z0d,z0c])|(with_reducible first|refine And.intro (by first|assumption|rfl|omega) ?_|refine And.intro ?_ ?_))
   |true =>
    have e : zDE t b l ver = ((t.setL b.toNat l).setV b.toNat ver,0) := by unfold zDE;rw [if_neg (by rw [hm];decide),if_neg hb,if_neg (by rw [hf];decide)]
    refine z0x (c := _) Tryd.func33 rfl (by kernel_rfl) [.cell 8 26, .tmp 9] rfl _ Tryd.ntmps33 (Nat.le_of_ble_eq_true rfl) rfl ?_
    repeat' (first|(refine z0h (zgl sigGG _ ht) (by (simp (disch := omega) only [go_sem,z0C,z0I,z02,z01,z05,z00,z0i,z0k,z0j,z0d,z0c])) ?_)|(refine z0h (ze3 sigGG _ _ _ hl) rfl ?_)|(refine z3T (zyL t l _ _ (by omega) (by omega) hl) ?_)|(with_reducible first|refine aq ?_|refine yr (by kernel_rfl) (Nat.le_of_ble_eq_true rfl) ?_|refine yx MIX (by kernel_rfl) (by kernel_rfl) (by kernel_rfl) (Nat.le_of_ble_eq_true rfl) ?_|refine yc ?_|refine zCI ?_|refine z0p ?_|refine z0H ?_|refine z0u ?_|refine z0v ?_|refine yr1 (by kernel_rfl) (Nat.le_of_ble_eq_true rfl) ?_|refine yx1 MIX (by kernel_rfl) (by kernel_rfl) (by kernel_rfl) (Nat.le_of_ble_eq_true rfl) ?_)|(simp only [go_sem,hm,hf,e])|((with_reducible first|refine zE8 (by first|assumption|(simp only [decide_eq_true_eq,decide_eq_false_iff_not];first|assumption|omega)) (fun h=>?_)|refine zFf (by first|assumption|(simp only [decide_eq_true_eq,decide_eq_false_iff_not];first|assumption|omega)) (fun h=>?_)|refine zF6 (by first|assumption|(simp only [decide_eq_true_eq,decide_eq_false_iff_not];first|assumption|omega)) (fun h=>?_)|refine zCY (by first|assumption|(simp only [decide_eq_true_eq,decide_eq_false_iff_not];first|assumption|omega)) (fun h=>?_)|refine zER (by first|assumption|(simp only [decide_eq_true_eq,decide_eq_false_iff_not];first|assumption|omega)) (fun h=>?_)|refine zDm (by first|assumption|(simp only [decide_eq_true_eq,decide_eq_false_iff_not];first|assumption|omega)) (fun h=>?_)) <;> (try rewrite [h]) <;> clear h)|(with_reducible refine z6G ?_)|((with_reducible first|refine z0w (fun h=>?_) (fun h=>?_)|refine z0y (fun h=>?_) (fun h=>?_)) <;> (try rewrite [h]) <;> (try simp (disch := omega) only [z0C,z0I,z02,z01,z05,z00,z0i,z0k,z0j,z0d,z0c] at h) <;> (try simp only [decide_eq_true_eq,decide_eq_false_iff_not,Bool.not_eq_true,Bool.not_eq_false,Bool.not_eq_true',Bool.not_eq_false',not_true_eq_false,not_false_eq_true] at h) <;> (try (exfalso;omega)))|(simp (disch := omega) only [z0C,z0I,z02,z01,z05,z00,z0i,z0k,z0j,z0d,z0c])|(with_reducible first|refine And.intro (by first|assumption|rfl|omega) ?_|refine And.intro ?_ ?_))
def z2Y (_ : Nat) : List AV → RO := zDW (ι := Tr × Int × List Item × Int) (fun q=>[tA q.1,nA q.2.1,lA q.2.2.1,nA q.2.2.2]) (fun q=>TU [tA (zDE q.1 q.2.1 q.2.2.1 q.2.2.2).1,nA (zDE q.1 q.2.1 q.2.2.1 q.2.2.2).2]) (fun q=>q.2.2.1.length ≤ 34359738368 ∧ ∀ i,(q.1.leaf i).length ≤ 34359738368)
theorem zbI (m : Nat) : ∀ args X H',z2Y m args = some (X,H') → ACp Tryd.prog GG 33 args X := z3B fun q h=>zn6 q.1 q.2.1 q.2.2.2 q.2.2.1 h.1 h.2
end Go.Proofs.YtaplemeamcgpkaaDoor

namespace Go.Proofs.YtaplemeamcgpkaaDoor
open Go.RowKit
def SEq (s u : St) : Prop := s.t.Eq16 u.t ∧ s.ver = u.ver ∧ s.bytes = u.bytes ∧ s.keys = u.keys
theorem zvS {s u : St} (h : stA s = stA u) : SEq s u := by
 rw [z2w,z2w] at h
 injection h with h
 have h1 : tC s.t = tC u.t := by
  have := congrArg (List.take 32) h
  rwa [z4i,z4i] at this
 have h2 : s.tail = u.tail := by
  have := congrArg (List.drop 32) h
  unfold stC at this
  rwa [List.drop_left' z0E,List.drop_left' z0E] at this
 refine ⟨z8O (by rw [z2a,z2a,h1]),?_⟩
 unfold St.tail at h2
 injection h2 with a h2
 injection h2 with b h2
 injection h2 with c _
 exact ⟨zcd a,zcd b,zcd c⟩
theorem zyN {s u : St} (h : SEq s u) : stA s = stA u := by
 obtain ⟨h1,h2,h3,h4⟩ := h
 have e := zt2 h1
 rw [z2a,z2a] at e
 injection e with e
 rw [z2w,z2w]
 unfold stC St.tail
 rw [e,h2,h3,h4]
theorem zpF {s u : St} (h : SEq s u) : zEB s = zEB u := by
 obtain ⟨h1,h2,h3,h4⟩ := h
 unfold zEB zt6
 rw [zab h1,h2,h3,h4,zbi h1,ze9 h1]
 rw [z7t (f := fun i=>decide (s.t.ver i ≤ u.ver)) (g := fun i=>decide (u.t.ver i ≤ u.ver)) fun i hi=>by rw [(h1 i hi).2]]
theorem zw1 {t u : Tr} (h : t.Eq16 u) (x : Edt) (v : Int) : tA (zDi t x v).1 = tA (zDi u x v).1 ∧ (zDi t x v).2 = (zDi u x v).2 := by
 unfold zDi
 rw [zmc h]
 split
 ·split
  ·exact zlm h x.key v
  ·exact ⟨zt2 h,rfl⟩
 ·exact zme h _
theorem zld {v : Int} : ∀ (l : List Edt) (k : Nat) {t u : Tr} (h : t.Eq16 u),tA (z97 v k l t).1 = tA (z97 v k l u).1 ∧ (z97 v k l t).2 = (z97 v k l u).2
 |[],k,t,u,h=>⟨zt2 h,rfl⟩
 |x :: r,k,t,u,h=>by
  obtain ⟨e1,e2⟩ := zw1 h x v
  unfold z97
  rw [e2]
  split
  ·exact zld r (k + 1) (z8O e1)
  ·exact ⟨zt2 h,rfl⟩
theorem zsJ {s u : St} (h : SEq s u) (l : List Edt) : zEs (zek s l) = zEs (zek u l) := by
 have hM := zpF h
 obtain ⟨h1,h2,h3,h4⟩ := h
 obtain ⟨e1,e2⟩ := zld (v := s.ver + 1) l 0 h1
 have e3 := z8O e1
 have eO : zpe s (z97 (s.ver + 1) 0 l s.t).1 = zpe u (z97 (s.ver + 1) 0 l u.t).1 := by
  unfold zpe
  rw [zbi e3,ze9 e3,h3,h4]
 unfold zek
 rw [hM,h2] at *
 split
 ·rfl
 ·split
  ·rfl
  ·rw [e2,eO]
   split
   ·split
    ·rfl
    ·have : SEq ⟨(z97 (u.ver + 1) 0 l s.t).1,u.ver + 1,s.bytes,s.keys⟩ ⟨(z97 (u.ver + 1) 0 l u.t).1,u.ver + 1,u.bytes,u.keys⟩ := ⟨e3,rfl,h3,h4⟩
     unfold zEs
     rw [zyN this]
   ·rfl
theorem zyP {x y : Edt} (h : flA Edt.cells x = flA Edt.cells y) : x = y := by
 obtain ⟨k1,d1,i1,s1⟩ := x
 obtain ⟨k2,d2,i2,s2⟩ := y
 rw [zoo,zoo] at h
 simp only [DataW.agg.injEq,List.cons.injEq,DataW.held.injEq,Sum.inl.injEq,Value.string.injEq,Value.int.injEq,ByteArray.mk.injEq,Array.mk.injEq,true_and,and_true] at h
 obtain ⟨h1,h2,h3,h4⟩ := h
 have h1 : k1 = k2 := by simpa using h1
 have h4 : s1 = s2 := by simpa using h4
 subst h1 h2 h3 h4
 rfl
def z4A (m : Nat) : List AV → RO := zDW (ι := St × List Edt) (fun p=>[stA p.1,SL (p.2.map eA)]) (fun p=>zEs (zek p.1 p.2)) (fun p=>p.1.t.Ok ∧ (zEb p.1.t = true → TInv p.1.t) ∧ (∀ x ∈ p.2,z3i (x.it 0)) ∧ p.2.length ≤ 34359738368)
theorem zee (m : Nat) : ∀ args X H',z4A m args = some (X,H') → ACp Tryd.prog GG 5 args X := z3B (by
 rintro ⟨s,l⟩ ⟨h1,h2,h3,h4⟩
 exact zs5 h1 h2 h3 h4)
theorem zeY (m : Nat) (s : St) (l : List Edt) (h : s.t.Ok) (hi : zEb s.t = true → TInv s.t) (hx : ∀ x ∈ l,z3i (x.it 0)) (hl : l.length ≤ 34359738368) : z4A m [stA s,SL (l.map eA)] = some (zEs (zek s l),[]) := z3A (ι := St × List Edt) (by
 rintro ⟨s,l⟩ ⟨u,k⟩ e
 dsimp only at e ⊢
 simp only [List.cons.injEq,and_true] at e
 obtain ⟨e1,e2⟩ := e
 injection e2 with e2
 have := zkf (fun _ _=>zyP) e2
 subst this
 exact zsJ (zvS e1) l) (i := (s,l)) ⟨h,hi,hx,hl⟩
theorem zhs {v : Int} : ∀ (l : List Edt) (k : Nat) {t : Tr},TInv t → (∀ x ∈ l,z3i (x.it 0)) → TInv (z97 v k l t).1
 |[],k,t,h,_=>h
 |x :: r,k,t,h,hx=>by
  unfold z97
  split
  ·rename_i he
   exact zhs r (k + 1) (zpA h (hx x (List.mem_cons_self ..)) he) fun y hy=>hx y (List.mem_cons_of_mem _ hy)
  ·exact h
theorem zkN : zEb Tr.zero = true := by decide +kernel
theorem zbv : TInv Tr.zero := ⟨zkN,fun i x hx=>(by cases hx),fun i _=>rfl⟩
theorem zhW {s : St} {l : List Edt} (h : zEb s.t = true → TInv s.t) (hx : ∀ x ∈ l,z3i (x.it 0)) : TInv (zek s l).1.t := by
 unfold zek
 split
 ·exact zbv
 ·rename_i hb
  have hm : zEb s.t = true := by
   simp only [Bool.not_eq_false,Bool.and_eq_true,zEB] at hb
   exact hb.1.1.1.1.1.1.1
  split
  ·exact zbv
  ·split
   ·split
    ·exact zbv
    ·exact zhs l 0 (h hm) hx
   ·exact zbv
theorem znl {t : Tr} {x : Edt} {v : Int} (h : ∀ i,i < 16 → t.ver i ≤ v) (he : (zDi t x v).2 = 0) : ∀ i,i < 16 → (zDi t x v).1.ver i ≤ v := by
 have hc : ∀ (b : Nat) (r : List Item × Nat),(zCW t b v r).2 = 0 → ∀ i,i < 16 → (zCW t b v r).1.ver i ≤ v := fun b r hr i hi=>by
  unfold zCW at hr ⊢
  split at hr
  ·rename_i h0
   rw [if_pos h0]
   show (if i = b then v else t.ver i) ≤ v
   split
   ·exact Int.le_refl _
   ·exact h i hi
  ·rename_i h0
   exact absurd hr h0
 unfold zDi at he ⊢
 split
 ·rename_i hk
  rw [if_pos hk] at he
  split
  ·rename_i hg
   rw [if_pos hg] at he
   unfold zE4 at he ⊢
   split
   ·rename_i h1;rw [if_pos h1] at he;cases he
   ·rename_i h1
    rw [if_neg h1] at he
    split
    ·rename_i h2;rw [if_pos h2] at he;cases he
    ·rename_i h2
     rw [if_neg h2] at he
     split
     ·rename_i h3;rw [if_pos h3] at he;cases he
     ·rename_i h3
      rw [if_neg h3] at he
      exact hc _ _ he
  ·exact h
 ·rename_i hk
  rw [if_neg hk] at he
  unfold zEt at he ⊢
  split
  ·rename_i h1;rw [if_pos h1] at he;cases he
  ·rename_i h1
   rw [if_neg h1] at he
   split
   ·rename_i h2;rw [if_pos h2] at he;cases he
   ·rename_i h2
    rw [if_neg h2] at he
    exact hc _ _ he
theorem zeI {v : Int} : ∀ (l : List Edt) (k : Nat) {t : Tr},(∀ i,i < 16 → t.ver i ≤ v) → ∀ i,i < 16 → (z97 v k l t).1.ver i ≤ v
 |[],_,t,h=>h
 |x :: r,k,t,h=>by
  unfold z97
  split
  ·rename_i he
   exact zeI r (k + 1) (znl h he)
  ·exact h
theorem znD {s : St} {l : List Edt} (h : (zek s l).2.1 ≠ 0) : (zek s l).1 = St.zero := by
 unfold zek at h ⊢
 split
 ·rfl
 ·rename_i h1
  rw [if_neg h1] at h
  split
  ·rfl
  ·rename_i h2
   rw [h2] at h
   dsimp only at h
   split
   ·rename_i h3
    rw [if_pos h3] at h
    split
    ·rfl
    ·rename_i h4
     rw [if_neg h4] at h
     exact absurd rfl h
   ·rfl
theorem znk {s : St} {l : List Edt} (h : zEb s.t = true → TInv s.t) (hx : ∀ x ∈ l,z3i (x.it 0)) (he : (zek s l).2.1 = 0) : zEB s = true ∧ zEB (zek s l).1 = true := by
 have hI := zhW h hx
 unfold zek at he hI ⊢
 split
 ·rename_i h1;rw [if_pos h1] at he;cases he
 ·rename_i h1
  rw [if_neg h1] at he hI
  have h1' : (zEB s && decide (s.ver ≠ 2147483647)) = true := by simpa using h1
  rw [Bool.and_eq_true,decide_eq_true_eq] at h1'
  obtain ⟨hs,hv⟩ := h1'
  refine ⟨hs,?_⟩
  split
  ·rename_i h2;rw [h2] at he;cases he
  ·rename_i h2
   rw [h2] at he hI
   dsimp only at he hI
   split
   ·rename_i h3
    rw [if_pos h3] at he hI
    split
    ·rename_i h4;rw [if_pos h4] at he;cases he
    ·rename_i h4
     rw [if_neg h4] at hI
     unfold zEB at hs ⊢
     simp only [Bool.and_eq_true,decide_eq_true_eq] at hs ⊢
     unfold zpe at h4
     simp only [Bool.or_eq_true,decide_eq_true_eq] at h4
     obtain ⟨⟨⟨⟨⟨⟨g1,g2⟩,g3⟩,g4⟩,g5⟩,g6⟩,g7⟩ := hs
     refine ⟨⟨⟨⟨⟨⟨hI.may,?_⟩,g3⟩,g4⟩,?_⟩,by omega⟩,by omega⟩
     ·unfold inB at g2 ⊢
      simp only [Bool.and_eq_true,decide_eq_true_eq] at g2 ⊢
      omega
     ·unfold zt6 at g5 ⊢
      rw [List.all_eq_true] at g5 ⊢
      intro i hi
      rw [decide_eq_true_eq]
      refine zeI l 0 (fun j hj=>?_) i (List.mem_range.1 hi)
      have := g5 j (List.mem_range.2 hj)
      rw [decide_eq_true_eq] at this
      omega
   ·rename_i h3
    rw [if_neg h3] at he
    exact absurd he h3
theorem zqj {t u : Tr} (h : t.Eq16 u) (b : Int) (l : List Item) (v : Int) : tA (zDE t b l v).1 = tA (zDE u b l v).1 ∧ (zDE t b l v).2 = (zDE u b l v).2 := by
 unfold zDE
 rw [zab h]
 split
 ·exact ⟨rfl,rfl⟩
 ·split
  ·exact ⟨rfl,rfl⟩
  ·split
   ·exact ⟨rfl,rfl⟩
   ·exact zlS h b.toNat v (l,0)
theorem zc9 (m : Nat) (t : Tr) (b : Int) (l : List Item) (v : Int) (hl : l.length ≤ 34359738368) (h : t.Ok) : z2Y m [tA t,nA b,lA l,nA v] = some (TU [tA (zDE t b l v).1,nA (zDE t b l v).2],[]) := z3A (ι := Tr × Int × List Item × Int) (by
 rintro ⟨t,b,l,v⟩ ⟨u,b',l',v'⟩ e
 dsimp only at e ⊢
 simp only [List.cons.injEq,and_true] at e
 rw [zcd e.2.1,zgG e.2.2.1,zcd e.2.2.2,(zqj (z8O e.1) b' l' v').1,(zqj (z8O e.1) b' l' v').2]) (i := (t,b,l,v)) ⟨hl,h.len2⟩
end Go.Proofs.YtaplemeamcgpkaaDoor

namespace Go.Proofs.YtaplemeamcgpkaaDoor
open Go.RowKit
theorem zlk : (Tryd.prog.info? 125).map (·.size) = some 2 := by kernel_rfl
theorem zsS : liesAt Tryd.prog Tryd.prog.depth 125 (2 / Tryd.prog.cellsOf 125) 0 125 1 = true := by kernel_rfl
theorem zhf : (Tryd.prog.info? 5).map (fun i=>(i.zero,i.size,i.bytes)) = some (some (.int .u8 0),1,1) := by kernel_rfl
set_option maxHeartbeats 1000000 in
theorem zuT (b : Nat) (w : World) (h0 : w.cell? ⟨b,0,none⟩ = some (.pointer (some ⟨b,0,none⟩))) :
  Calls Tryd.prog 72 #[.pointer (some ⟨b,0,none⟩)] w fun e w'=>e = .returned (.tuple #[]) ∧ w' = w := by
 obtain ⟨j,hj,_⟩ := Option.map_eq_some_iff.1 zlk
 go_enter Tryd.func72,Tryd.ntmps72
 go_wp2
 rw [Lib.run_neq_ptr_same w _ Tryd.underlying123 hj]
 go_wp2
 go_end0
 exact ⟨rfl,rfl⟩
set_option maxHeartbeats 1000000 in
theorem zs1 (b : Nat) (w : World) (h0 : w.cell? ⟨b,0,none⟩ = some (.pointer none)) (hsh : w.shape? b = some (125,2)) (hfz : w.frozen? ⟨b,0,none⟩ = false) :
  Calls Tryd.prog 72 #[.pointer (some ⟨b,0,none⟩)] w fun e w'=>e = .returned (.tuple #[]) ∧ w' = w.setCell ⟨b,0,none⟩ (.pointer (some ⟨b,0,none⟩)) := by
 obtain ⟨j,hj,hjs⟩ := Option.map_eq_some_iff.1 zlk
 go_enter Tryd.func72,Tryd.ntmps72
 go_wp2
 rw [Lib.run_to_unsafe w ⟨b,0,none⟩ Tryd.underlying123 Tryd.underlying145 hj (by rw [hjs];decide) hsh (Nat.zero_lt_succ 1)]
 simp only [Result.andThen]
 rw [Oper.upon_value]
 go_wp2
 rw [run_callFunc_extern Tryd.func76 (by kernel_rfl) (by kernel_rfl) (by kernel_rfl) (e := Extern.AbiNoEscape.same) (by kernel_rfl)]
 rw [Lib.run_noEscape]
 simp only [Result.andThen]
 rw [Oper.upon_value]
 go_wp2
 rw [Lib.run_from_unsafe w ⟨b,0,none⟩ Tryd.underlying145 Tryd.underlying123 hj hsh zsS]
 simp only [Result.andThen]
 rw [Oper.upon_value]
 go_wp2
 go_end0
 exact ⟨rfl,rfl⟩
abbrev BA (b : Nat) (bs : List Value) (w : World) : Prop := Lib.BuilderAt 125 5 b b (.pointer (some ⟨b,0,none⟩)) bs w
abbrev BI (b : Nat) (bs : List Value) (w : World) : Prop := Lib.IsBuilder 125 5 b b bs w
theorem zwl (b : Nat) (bs : List Value) (w : World) (h : BI b bs w) :
  Calls Tryd.prog 72 #[.pointer (some ⟨b,0,none⟩)] w fun e w'=>e = .returned (.tuple #[]) ∧ BA b bs w' ∧ Below b w w' := by
 rcases h with h|h
 ·refine (zs1 b w h.cell0 h.shape h.frozen0).mono ?_
  rintro e w' ⟨rfl,rfl⟩
  exact ⟨rfl,h.used _,(Below.refl b w).setCell (p := ⟨b,0,none⟩) h.1 _⟩
 ·refine (zuT b w h.cell0).mono ?_
  rintro e w' ⟨rfl,rfl⟩
  exact ⟨rfl,h,Below.refl b _⟩
theorem BA.kept {b : Nat} {v : Value} {w1 w2 : World} {row : Option Nat} (hb : w1.heap[b]? = some (.cells #[.pointer (some ⟨b,0,none⟩),v] 125 (0,0))) (hg : w1.grownBy w2 row) (hne : row ≠ some b) :
  w2.heap[b]? = some (.cells #[.pointer (some ⟨b,0,none⟩),v] 125 (0,0)) := by
 have hlt : b < w1.heap.size := (Array.getElem?_eq_some_iff.1 hb).1
 rw [hg.block b hlt (fun e=>hne e.symm)]
 exact hb
set_option maxHeartbeats 2000000 in
theorem zmI (b : Nat) (bs : List Value) (c : Int) (w : World) (h : BI b bs w) (hlen : bs.length + 1 ≤ 140737488355328) (hBw : b ≤ w.heap.size) :
  Calls Tryd.prog 65 #[.pointer (some ⟨b,0,none⟩), .int .u8 c] w fun e w'=>e = .returned .nilIface ∧ BA b (bs ++ [.int .u8 c]) w' ∧ Below b w w' := by
 obtain ⟨i0,hi,hz0,hz1,hz2⟩ := info_parts zhf
 go_enter Tryd.func65,Tryd.ntmps65
 go_wp2_with (go_at_call 72;refine (zwl b bs _ h).mono ?_)
 rintro e w1 ⟨rfl,h1,hb1⟩
 obtain ⟨hB,v,hbk,hown,hne⟩ := h1
 have c0 : w1.cell? ⟨b,0,none⟩ = some (.pointer (some ⟨b,0,none⟩)) := by rw [Lib.cell_of_heap hbk];rfl
 have c1 : w1.cell? ⟨b,1,none⟩ = some v := by rw [Lib.cell_of_heap hbk];rfl
 go_wp2_with (at_builtin;refine wpList_append_own _ rfl _ _ 89 rfl b 5 i0 (.int .u8 0) 1 1 Tryd.underlying89 hi hz0 hz1 hz2 rfl (by decide) _ _ _ rfl (hown.alloc _) ⟨w1.heap.size,0,none⟩ 1 1 [.int .u8 c] rfl rfl ?c1 ?c2 ?c3 ?c4 ?c5 ?_)
 case c1 =>
  intro j u hj
  match j,hj with
  |0,hj=>simp at hj;subst hj;simp [Addr.add]
 case c2=>intro u hu;simp at hu;subst hu;rfl
 case c3=>unfold maxLen;omega
 case c4=>omega
 case c5=>have := hb1.size;simp;omega
 intro v' w2 hown' hgrow _
 have hlt : b < w1.heap.size := (Array.getElem?_eq_some_iff.1 hbk).1
 have hb2 := BA.kept (by rw [Lib.alloc_old w1 _ b hlt];exact hbk) hgrow hne
 have d0 : w2.cell? ⟨b,0,none⟩ = some (.pointer (some ⟨b,0,none⟩)) := by rw [Lib.cell_of_heap hb2];rfl
 have d1 : w2.cell? ⟨b,1,none⟩ = some v := by rw [Lib.cell_of_heap hb2];rfl
 have f1 : w2.frozen? ⟨b,1,none⟩ = false := Lib.frozen_of_heap hb2 1
 obtain ⟨ao,n',cap,rfl⟩ : ∃ ao n' cap,v' = .slice ao n' cap := by
  rcases hown'.2 with ⟨hv,_⟩|⟨g,cap,cur,hv,_⟩
  ·exact ⟨_,_,_,hv⟩
  ·exact ⟨_,_,_,hv⟩
 go_wp2
 go_ret
 refine ⟨rfl,?_,?_⟩
 ·exact Lib.BuilderAt.put (T := 125) (e := 5) hB hb2 (bs' := bs ++ [.int .u8 c]) (by simpa using hown') (by decide)
 ·exact ((hb1.alloc (by have := hb1.size;omega) _).grown hgrow (by have := hb1.size;simp;omega) (fun k hk=>(hown.lt k hk).1)).setCell (p := ⟨b,1,none⟩) hB _
set_option maxHeartbeats 2000000 in
theorem zsP (b : Nat) (bs : List Value) (s : ByteArray) (w : World) (h : BI b bs w) (hlen : bs.length + s.size ≤ 140737488355328) (hBw : b ≤ w.heap.size) :
  Calls Tryd.prog 63 #[.pointer (some ⟨b,0,none⟩), .string s] w fun e w'=>e = .returned (.tuple #[.int .i64 s.size, .nilIface]) ∧ BA b (bs ++ Lib.strCells s) w' ∧ Below b w w' := by
 obtain ⟨i0,hi,hz0,hz1,hz2⟩ := info_parts zhf
 go_enter Tryd.func63,Tryd.ntmps63
 go_wp2_with (go_at_call 72;refine (zwl b bs _ h).mono ?_)
 rintro e w1 ⟨rfl,h1,hb1⟩
 obtain ⟨hB,v,hbk,hown,hne⟩ := h1
 have c0 : w1.cell? ⟨b,0,none⟩ = some (.pointer (some ⟨b,0,none⟩)) := by rw [Lib.cell_of_heap hbk];rfl
 have c1 : w1.cell? ⟨b,1,none⟩ = some v := by rw [Lib.cell_of_heap hbk];rfl
 go_wp2_with (at_builtin;refine Lib.wpList_append_own_string _ rfl _ _ 89 9 rfl b 5 i0 Tryd.underlying89 Tryd.underlying9 hi hz0 hz1 hz2 _ _ _ rfl hown s rfl ?c3 ?c4 ?c5 ?_)
 case c3=>unfold maxLen;omega
 case c4=>omega
 case c5=>have := hb1.size;omega
 intro v' w2 hown' hgrow _
 have hb2 := BA.kept hbk hgrow hne
 have d0 : w2.cell? ⟨b,0,none⟩ = some (.pointer (some ⟨b,0,none⟩)) := by rw [Lib.cell_of_heap hb2];rfl
 have d1 : w2.cell? ⟨b,1,none⟩ = some v := by rw [Lib.cell_of_heap hb2];rfl
 have f1 : w2.frozen? ⟨b,1,none⟩ = false := Lib.frozen_of_heap hb2 1
 obtain ⟨ao,n',cap,rfl⟩ : ∃ ao n' cap,v' = .slice ao n' cap := by
  rcases hown'.2 with ⟨hv,_⟩|⟨g,cap,cur,hv,_⟩
  ·exact ⟨_,_,_,hv⟩
  ·exact ⟨_,_,_,hv⟩
 go_wp2
 go_ret2
 refine ⟨rfl,?_,?_⟩
 ·exact Lib.BuilderAt.put (T := 125) (e := 5) hB hb2 (bs' := bs ++ Lib.strCells s) (by simpa [Lib.strCells_length] using hown') (by decide)
 ·exact (hb1.grown hgrow (by have := hb1.size;omega) (fun k hk=>(hown.lt k hk).1)).setCell (p := ⟨b,1,none⟩) hB _
end Go.Proofs.YtaplemeamcgpkaaDoor

namespace Go.Proofs.YtaplemeamcgpkaaDoor
open Go.RowKit
def zFp (g : List Item) : z0f := UInt8.ofNat g.length :: (g.map zEd).flatten
def z8p : Nat → List Item → List z0f
 |0,_=>[]
 |n + 1,l=>if l = [] then [] else zFp (l.take 8) :: z8p n (l.drop 8)
def z0t (l : List Item) : List z0f := z8p l.length l
theorem zbe : ∀ (n m : Nat) (l : List Item),l.length ≤ n → l.length ≤ m → z8p n l = z8p m l
 |0,m,l,h,_=>by
  have : l = [] := List.eq_nil_of_length_eq_zero (by omega)
  subst this;cases m <;> simp [z8p]
 |n + 1,0,l,_,h=>by
  have : l = [] := List.eq_nil_of_length_eq_zero (by omega)
  subst this;simp [z8p]
 |n + 1,m + 1,l,h1,h2=>by
  rw [z8p,z8p]
  split
  ·rfl
  ·rename_i hne
   have : 0 < l.length := List.length_pos_iff.2 hne
   rw [zbe n m (l.drop 8) (by simp;omega) (by simp;omega)]
theorem z2V : z0t [] = [] := rfl
theorem z82 (l : List Item) (h : 0 < l.length) : z0t l = zFp (l.take 8) :: z0t (l.drop 8) := by
 unfold z0t
 obtain ⟨n,hn⟩ : ∃ n,l.length = n + 1 := ⟨l.length - 1,by omega⟩
 rw [hn,z8p,if_neg (by rintro rfl;simp at h),zbe n _ (l.drop 8) (by simp;omega) (Nat.le_refl _)]
def z1X (l : List Item) : List z0f := if z3u l then z0t l else []
def OwnAll (w : World) (base : Nat) (vs : List Value) (ch : List z0f) : Prop :=
 vs.length = ch.length ∧ ∀ i (h : i < ch.length),∃ A c,vs[i]? = some (.slice A ch[i].length c) ∧ w.ownsRow base 5 1 (.slice A ch[i].length c) ch[i].length (ch[i].map cB)
theorem OwnAll.nil (w : World) (base : Nat) : OwnAll w base [] [] := ⟨rfl,fun i h=>by simp at h⟩
theorem OwnAll.kept {w w' : World} {base : Nat} {vs : List Value} {ch : List z0f} {row : Option Nat} (h : OwnAll w base vs ch) (hg : w.grownBy w' row)
  (hne : ∀ v ∈ vs,v.ownBlock = none ∨ v.ownBlock ≠ row) : OwnAll w' base vs ch :=
 ⟨h.1,fun i hi=>by
  obtain ⟨A,c,hv,ho⟩ := h.2 i hi
  exact ⟨A,c,hv,ho.kept hg (hne _ (List.mem_of_getElem? hv))⟩⟩
theorem OwnAll.below {w w' : World} {base : Nat} {vs : List Value} {ch : List z0f} (h : OwnAll w base vs ch) (hb : Below w.heap.size w w') : OwnAll w' base vs ch :=
 ⟨h.1,fun i hi=>by
  obtain ⟨A,c,hv,ho⟩ := h.2 i hi
  exact ⟨A,c,hv,z1c ho hb⟩⟩
theorem OwnAll.snoc {w : World} {base : Nat} {vs : List Value} {ch : List z0f} (h : OwnAll w base vs ch) {A : Option Addr} {c : Nat} {b : z0f} (ho : w.ownsRow base 5 1 (.slice A b.length c) b.length (b.map cB)) :
  OwnAll w base (vs ++ [.slice A b.length c]) (ch ++ [b]) :=
 ⟨by simp [h.1],fun i hi=>by
  by_cases h2 : i < ch.length
  ·obtain ⟨A',c',hv,ho'⟩ := h.2 i h2
   rw [List.getElem_append_left h2]
   exact ⟨A',c',by rw [List.getElem?_append_left (by rw [h.1];exact h2)];exact hv,ho'⟩
  ·have : i = ch.length := by simp at hi;omega
   subst this
   refine ⟨A,c,?_,?_⟩
   ·rw [List.getElem?_append_right (by rw [h.1];exact Nat.le_refl _),h.1];simp
   ·simpa using ho⟩
theorem znL {w : World} {base base' : Nat} {e e' : TypeId} {size size' : Nat} {v v' : Value} {n n' : Nat} {xs xs' : List Value} (h : w.ownsRow base e size v n xs) (h' : w.ownsRow base' e' size' v' n' xs') (hne : e ≠ e') : v.ownBlock = none ∨ v.ownBlock ≠ v'.ownBlock := by
 rcases h.2 with ⟨rfl,_⟩|⟨g,cap,cur,rfl,_,hg,_⟩
 ·left;rfl
 ·rcases h'.2 with ⟨rfl,_⟩|⟨g',cap',cur',rfl,_,hg',_⟩
  ·right;simp [Value.ownBlock]
  ·right
   intro e1
   simp only [Value.ownBlock,Option.some.injEq] at e1
   subst e1
   rw [hg] at hg'
   injection hg' with hg'
   injection hg' with _ h2 _
   exact hne h2
theorem OwnAll.appended {w w' : World} {base base' : Nat} {e' : TypeId} {size' n' : Nat} {v' : Value} {xs' : List Value} {vs : List Value} {ch : List z0f} (h : OwnAll w base vs ch) (ho : w.ownsRow base' e' size' v' n' xs') (hne : 5 ≠ e') (hg : w.grownBy w' v'.ownBlock) : OwnAll w' base vs ch :=
 ⟨h.1,fun i hi=>by
  obtain ⟨A,c,hv,hoi⟩ := h.2 i hi
  exact ⟨A,c,hv,hoi.kept hg (znL hoi ho hne)⟩⟩
theorem zgA {P : Program} (w : World) {ops : Array Oper} {rest : List Oper} {o : Oper} {a : Act} {Q : Exit → Act → World → Prop} (hgd : o.guard = none) (s x : Operand) (t : TypeId)
  (ho : o.op = .call { callee := .builtin .append,args := #[s,x],argTypes := #[t,t] })
  (w0 : World) (base : Nat) (e te : TypeId) (z : Value) (size bytes : Nat) (ht : P.underlying t = some (.slice e)) (hi : (P.info? e).map (fun i=>(i.zero,i.size,i.bytes)) = some (some z,size,bytes))
  (hzs : z.cells.size = size) (hsz : 0 < size) (hby : bytes ≤ 4096)
  (v : Value) (n : Nat) (xs : List Value) (cs : Array Value) (hs : a.eval s = v) (H : Nat) (hH : w.heap.size = H) (hx : a.eval x = .slice (some ⟨H,0,none⟩) 1 1) (hcs : cs.size = size) (h1 : ∀ u ∈ cs.toList,u.oneCell' = true)
  (hown : w.ownsRow base e size v n xs) (hbel : Below base w0 w) (hbase : base ≤ w.heap.size) (hroom : n + 1 ≤ 34359738368)
  (h : ∀ g cap w',w'.ownsRow base e size (.slice (some ⟨g,0,none⟩) (n + 1) cap) (n + 1) (xs ++ cs.toList) → Below base w0 w' → (w.alloc (.cells cs te)).grownBy w' v.ownBlock → wpList P ops Q rest (a.put o.dst (.slice (some ⟨g,0,none⟩) (n + 1) cap)) w') :
  wpList P ops Q (o :: rest) a (w.alloc (.cells cs te)) := by
 subst hH
 refine zbu (w.alloc (.cells cs te)) hgd s x t ho w0 base e z size bytes ht hi hzs hsz hby v n xs hs (hown.alloc _) (hbel.alloc hbase _) ⟨w.heap.size,0,none⟩ 1 1 cs.toList hx (by simp [hcs]) (fun j u hj=>?_)
  h1 (by omega) hroom (by simp;omega) h
 rw [show (⟨w.heap.size,0,none⟩ : Addr).add j = ⟨w.heap.size,j,none⟩ from by unfold Addr.add;split <;> simp_all,(Blk.new w te cs).cell]
 simpa using hj
def zyX (w : World) (ch : List z0f) (e : Ending) (w' : World) : Prop :=
 ∃ A cap vs,e = .returned (.slice A ch.length cap) ∧ w'.ownsRow w.heap.size 89 1 (.slice A ch.length cap) ch.length vs ∧ OwnAll w' w.heap.size vs ch ∧ Below w.heap.size w w'
theorem zka : (Tryd.prog.info? 89).map (fun i=>(i.zero,i.size,i.bytes)) = some (some (.slice none 0 0),1,24) := by kernel_rfl
theorem zjO {x : Item} (h : z2S x = true) (hn : z3i x) : (zEd x).length ≤ 150 := by
 obtain ⟨key,kind,i,s,ver⟩ := x
 obtain ⟨hk1,hv,-,hv0,hv1⟩ := z78 h
 have h1 := zde hk1
 have h2 := zdm hn.1 hn.2 hv
 have h3 := z7x key.length (by omega)
 have h4 := z7x ver.toNat (by omega)
 simp only [zEd,List.length_append] at *
 omega
def zFi (n : Nat) (g : List Item) (k : Nat) : z0f := UInt8.ofNat n :: ((g.take k).map zEd).flatten
theorem ziD (n : Nat) (g : List Item) (k : Nat) (h : k < g.length) : zFi n g (k + 1) = zFi n g k ++ zEd g[k] := by
 unfold zFi;rw [zlZ _ g k h];simp
theorem zk0 (g : List Item) : zFi g.length g g.length = zFp g := by unfold zFi zFp;rw [List.take_length]
theorem zh0 (n : Nat) (g : List Item) (h : ∀ x ∈ g,z2S x = true ∧ z3i x) : ∀ k,k ≤ g.length → (zFi n g k).length ≤ 1 + k * 150
 |0,_=>by simp [zFi]
 |k + 1,hk=>by
  have h1 := zh0 n g h k (by omega)
  have h2 := zjO (h g[k] (List.getElem_mem (by omega))).1 (h g[k] (List.getElem_mem (by omega))).2
  rw [ziD n g k (by omega),List.length_append]
  omega
set_option maxHeartbeats 8000000 in
theorem zkW (A : Option Addr) (l : List Item) (c : Nat) (w : World) (hS : Sig w) (hF : Fs Item.cells 5 w A l) (hnum : ∀ x ∈ l,z3i x) (hlc : l.length ≤ c) (hcm : c ≤ maxLen) (hl : l.length ≤ 1000000) :
  Calls Tryd.prog 31 #[.slice A l.length c] w (zyX w (z1X l)) := by
 cases hlf : z3u l with
 |false =>
  have HR := zCC (show z1X l = [] from by unfold z1X;rw [hlf];rfl)
  go_enter Tryd.func31,Tryd.ntmps31
  go_wp2_with (go_at_call 49;refine (z0G A l c _ hS hF (by omega)).mono ?_;rintro e w1 ⟨rfl,hb⟩)
  go_ret
  rw [HR.out];exact ⟨_,_,[],rfl,World.ownsRow_nil _ _ _ _,OwnAll.nil _ _,hb⟩
 |true =>
  obtain ⟨hl64,hall,hsrt⟩ := (z0D l).1 hlf
  have HR := zCC (show z1X l = z0t l from by unfold z1X;rw [if_pos hlf])
  have HI := zCC (show ∀ x ∈ l,z2S x = true ∧ z3i x from fun x hx=>⟨hall x hx,hnum x hx⟩)
  have hcm' : c ≤ 9223372036854775807 := by unfold maxLen at hcm;omega
  clear hall hnum hsrt hcm
  go_enter Tryd.func31,Tryd.ntmps31
  go_wp2_with (go_at_call 49;refine (z0G A l c _ hS hF (by omega)).mono ?_;rintro e w1 ⟨rfl,hb⟩)
  have HB := zCC hb;clear hb
  go_loopw [0,3] (fun v0 o wr=>∃ (m : List Item) (A' : Option Addr) (c' : Nat) (done : List z0f) (vs : List Value) (Ao : Option Addr) (co : Nat),v0 = .slice A' m.length c' ∧ Fs Item.cells 5 w A' m ∧ m.length ≤ c' ∧ c' ≤ c ∧ m.length + done.length ≤ 64 ∧ (∀ x ∈ m,z2S x = true ∧ z3i x) ∧
   o = .slice Ao done.length co ∧ wr.ownsRow w.heap.size 89 1 (.slice Ao done.length co) done.length vs ∧ OwnAll wr w.heap.size vs done ∧ Below w.heap.size w wr ∧ done ++ z0t m = z0t l) (fun v0 _ _=>lenOf v0)
  case atStart=>exact ⟨l,A,c,[],[],none,0,rfl,hF,hlc,Nat.le_refl _,by simp;omega,HI.out,rfl,World.ownsRow_nil _ _ _ _,OwnAll.nil _ _,HB.out,rfl⟩
  case round =>
   obtain ⟨m,A',c',done,vs,Ao,co,rfl,hFm,hmc,hcc,hmd,hmi,rfl,hown,hoa,hbel,hch⟩ := hrel
   have HC := zCC hch;have HMI := zCC hmi;have HO := zCC hown;have HOA := zCC hoa;have HF := zCC hFm
   clear hch hmi hown hoa hFm
   obtain ⟨wo,rfl⟩ : ∃ wo : World,wo = wr := ⟨_,rfl⟩
   by_cases hpos : 0 < m.length
   ·have hpos' : (0 : Int) < m.length := by omega
    obtain ⟨n,hn⟩ : ∃ n : Nat,n = min 8 m.length := ⟨_,rfl⟩
    have hn8 : n ≤ 8 := by omega
    have hnm : n ≤ m.length := by omega
    have hn1 : 1 ≤ n := by omega
    have hmin : min (8 : Int) (m.length : Int) = (n : Int) := by omega
    have hcut := fun w=>zlM Tryd.underlying22 z4D A' m.length c' n (by omega) (n : Int) rfl w
    have hcut2 := fun w=>z2e Tryd.underlying22 z4D A' m.length c' n (by omega) (n : Int) rfl w
    obtain ⟨g,hg⟩ : ∃ g,g = m.take n := ⟨_,rfl⟩
    have hgl : g.length = n := by rw [hg];simp;omega
    have HFg := zCC (show Fs Item.cells 5 w A' g from by rw [hg];exact HF.out.take (fun _=>rfl) n)
    have HGI := zCC (show ∀ x ∈ g,z2S x = true ∧ z3i x from fun x hx=>HMI.out x (List.mem_of_mem_take (hg ▸ hx)))
    have HGB := zCC (show z0t m = zFp g :: z0t (m.drop n) from by
     have h8 : g = m.take 8 ∧ m.drop n = m.drop 8 := by
      rcases Nat.lt_or_ge m.length 8 with h|h
      ·have : n = m.length := by omega
       rw [hg,this]
       exact ⟨by rw [List.take_length,List.take_of_length_le (by omega)],by rw [List.drop_length,List.drop_of_length_le (by omega)]⟩
      ·have : n = 8 := by omega
       rw [hg,this];exact ⟨rfl,rfl⟩
     rw [z82 m hpos,h8.1,h8.2])
    have hgn : n ≤ g.length := by omega
    have hgn2 : g.length ≤ n := by omega
    have HGL := zCC hgl
    clear hg hgl hn
    go_wp2_with fail
    go_loopw [5,24] (fun b i wi=>∃ (k : Nat) (Ab : Option Addr) (cb : Nat),k ≤ n ∧ i = .int .i64 k ∧ b = .slice Ab (zFi n g k).length cb ∧ wi.ownsRow wo.heap.size 5 1 (.slice Ab (zFi n g k).length cb) (zFi n g k).length ((zFi n g k).map cB) ∧ Below wo.heap.size wo wi) (fun _ i _=>n - (intOf i).toNat)
    case atStart =>
     refine ⟨0,some ⟨wo.heap.size,0,none⟩,1,Nat.zero_le _,rfl,rfl,?_,gr1 _ _⟩
     rw [show (zFi n g 0).map cB = [Value.int .u8 (n : Int)] from by simp [zFi,zAZ n (show n < 256 by omega)]]
     exact zbY wo wo.heap.size 5 1 1 #[.int .u8 (n : Int)] (Nat.le_refl _) rfl (by simp [maxLen])
    case round =>
     obtain ⟨k,Ab,cb,hk,rfl,rfl,hownb,hbi⟩ := hrel
     have HOB := zCC hownb;clear hownb
     have hgl2 := zh0 n g HGI.out k (by omega)
     by_cases hlt : k < n
     ·have hlt' : (k : Int) < n := by omega
      obtain ⟨b,off,rfl,hbl,hcell⟩ := HFg.out.cell (fun _=>rfl) (by omega)
      obtain ⟨c0,c1,c2,c3,c4⟩ := zEz hcell (hbel.trans (hbi.mono hbel.size)) hbl (show k < g.length by omega)
      have HK := zCC (ziD n g k (by omega))
      have hgi := HGI.out (g[k]'(by omega)) (List.getElem_mem _)
      have hel := zjO hgi.1 hgi.2
      have hby := fun w=>znK (g[k]'(by omega)).key (g[k]'(by omega)).kind (g[k]'(by omega)).i (g[k]'(by omega)).s (g[k]'(by omega)).ver w hgi.1 hgi.2.1 hgi.2.2
      generalize g[k] = x at c0 c1 c2 c3 c4 HK hgi hel hby
      obtain ⟨key,kind,i,s,ver⟩ := x
      have hby' : ∀ w,Calls Tryd.prog 50 #[.agg #[.string ⟨key.toArray⟩, .int .i64 kind, .int .i64 i, .string ⟨s.toArray⟩, .int .i64 ver]] w (z3p 5 w (zEd ⟨key,kind,i,s,ver⟩)) := hby
      generalize zEd ⟨key,kind,i,s,ver⟩ = E at hel hby' HK
      have HBY := zCC hby'
      generalize hG : zFi n g k = G at HOB HK hgl2 ⊢
      clear hcell hgi hby hby' hG
      go_wp2_with (first
       |(go_at_call 50;refine (HBY.out _).mono ?_;rintro e w5 ⟨A5,c5,rfl,hown5,hb5⟩;have hb6 := hbi.trans ((z0a (gr1 _ _) hb5).mono hbi.size);have hown6 := z1c HOB.out (z0a (gr1 _ _) hb5))
       |(at_builtin;refine z0Q _ rfl (.tmp 28) (.tmp 30) _ rfl wo wo.heap.size 5 _ 1 1 Tryd.underlying89 z7C rfl (by omega) (by omega) _ _ _ (by rfl) hown6 hb6 _ _ _ _ (by rfl) (Rd.of_own hown5) (ziO _) (by omega) hb6.size ?_;intro A7 c7 w7 hown7 hb7))
      refine ⟨⟨k + 1,A7,c7,by omega,by go_num,?_,?_,hb7⟩,by simp [intOf];omega⟩
      ·rw [HK.out,List.length_append]
      ·rw [HK.out,List.length_append,List.map_append];exact hown7
     ·have hk' : k = n := by omega
      have hGB : zFi n g k = zFp g := by rw [hk',← HGL.out,zk0]
      rw [hGB] at HOB hgl2 ⊢
      generalize zFp g = B at HOB hgl2 HGB ⊢
      have hlt' : ¬ (k : Int) < n := by omega
      have hb1 := hbel.trans (hbi.mono hbel.size)
      have HO1 := zCC (z1c HO.out hbi)
      have HA1 := zCC (HOA.out.below hbi)
      clear hGB
      go_wp2_with (at_builtin;refine zgA wr rfl (.tmp 33) (.tmp 35) _ rfl w w.heap.size 89 89 _ 1 24 Tryd.underlying87 zka rfl (by omega) (by omega) _ done.length vs #[.slice Ab B.length cb] (by rfl) wr.heap.size rfl (by rfl) rfl (by intro u hu;simp at hu;subst hu;rfl) HO1.out hb1 hb1.size (by omega) ?_;intro gg cap w7 hown7 hb7 hgr7)
      have hob : (wr.alloc (.cells #[.slice Ab B.length cb] 89)).ownsRow w.heap.size 5 1 (.slice Ab B.length cb) B.length (B.map cB) := (HOB.out.mono hbel.size).alloc _
      have hoa7 := (OwnAll.snoc (HA1.out.below (gr1 _ _)) hob).appended (HO1.out.alloc _) (by decide) hgr7
      refine ⟨⟨m.drop n,_,c' - n,done ++ [B],vs ++ [.slice Ab B.length cb],some ⟨gg,0,none⟩,cap,?_,HF.out.cutL (fun _=>rfl) hnm hmc,by simp;omega,by omega,by simp;omega,fun x hx=>HMI.out x (List.mem_of_mem_drop hx),?_,?_,hoa7,hb7,?_⟩,?_⟩
      ·rw [List.length_drop]
      ·rw [List.length_append];rfl
      ·rw [List.length_append];exact hown7
      ·rw [← HC.out,HGB.out,List.append_assoc];rfl
      ·simp [lenOf];omega
   ·have hm0 : m = [] := List.eq_nil_of_length_eq_zero (by omega)
    subst hm0
    have HD := zCC (show z1X l = done from by have := HC.out;rw [z2V,List.append_nil] at this;rw [HR.out,this])
    go_wp2_with fail
    go_ret
    rw [HD.out];exact ⟨_,_,vs,rfl,HO.out,HOA.out,hbel⟩
end Go.Proofs.YtaplemeamcgpkaaDoor

namespace Go.Proofs.YtaplemeamcgpkaaDoor
open Go.RowKit
attribute [local go_sem ↓] Go.wp_at_zero Go.wp_at_succ
def zFR (l : List Nat) : z0f := l.flatMap fun n=>Lib.decDigits n ++ [44]
theorem zoA (l : List Nat) (k : Nat) (h : k < l.length) : zFR (l.take (k + 1)) = zFR (l.take k) ++ (Lib.decDigits l[k] ++ [44]) := by
 unfold zFR
 rw [← List.take_append_getElem h,List.flatMap_append]
 simp
theorem zpj {n : Nat} (h : n ≤ 9223372036854775807) : (Lib.decDigits n).length ≤ 20 := by
 rw [Lib.decDigits_length]
 rcases Nat.eq_zero_or_pos n with h0|h0
 ·subst h0;rw [Lib.nDigits];decide
 ·have := Lib.numDigits_eq n h0 (by omega)
  split at this <;> omega
theorem zke (l : List Nat) (h : ∀ n ∈ l,n ≤ 9223372036854775807) : (zFR l).length ≤ l.length * 21 := by
 induction l with
 |nil=>simp [zFR]
 |cons n r ih =>
  have h1 := ih fun x hx=>h x (List.mem_cons_of_mem _ hx)
  have h2 := zpj (h n (List.mem_cons_self ..))
  unfold zFR at h1 ⊢
  rw [List.flatMap_cons,List.length_append,List.length_append,List.length_cons]
  simp only [List.length_cons,List.length_nil]
  omega
theorem BI.below {b : Nat} {bs : List Value} {w w' : World} (h : BI b bs w) (hb : Below w.heap.size w w') : BI b bs w' := by
 have go : ∀ p,Lib.BuilderAt 125 5 b b p bs w → Lib.BuilderAt 125 5 b b p bs w' := by
  rintro p ⟨h1,v,h2,h3,h4⟩
  have hlt : b < w.heap.size := (Array.getElem?_eq_some_iff.1 h2).1
  exact ⟨h1,v,by rw [hb.block b hlt];exact h2,z1c h3 hb,h4⟩
 exact h.imp (go _) (go _)
theorem Tab.below {w w' : World} (h : Tab w) (hg : 1 < w.heap.size) (hb : Below w.heap.size w w') (o : Obj) : Tab (w'.alloc o) := fun q hq=>by
 have : Below w.heap.size w (w'.alloc o) := hb.alloc hb.size o
 rw [this.cell hg]
 exact h q hq
def Nms (w : World) (A : Option Addr) (l : List Nat) : Prop := 0 < l.length → ∃ b off,A = some ⟨b,off,none⟩ ∧ b < w.heap.size ∧ ∀ k (h : k < l.length),w.cell? ⟨b,off + k,none⟩ = some (.int .i64 (l[k] : Int))
set_option maxHeartbeats 8000000 in
theorem zjZ (A : Option Addr) (l : List Nat) (c : Nat) (w : World) (hT : Tab w) (hg : 1 < w.heap.size) (hF : Nms w A l) (hn : ∀ n ∈ l,n ≤ 9223372036854775807) (hl : l.length ≤ 1000000) :
  Calls Tryd.prog 48 #[.slice A l.length c] w fun e w'=>e = .returned (.string ⟨(zFR l).toArray⟩) ∧ Below w.heap.size w w' := by
 have HT := zCC fun (wr : World) (hb : Below w.heap.size w wr)=>hT.below hg hb
 have HN := zCC hn
 clear hT hg hn
 go_enter Tryd.func48,Tryd.ntmps48
 go_wp2_with fail
 go_loopw [8] (fun i wr=>∃ k : Nat,k ≤ l.length ∧ i = .int .i64 k ∧ BI w.heap.size (Lib.byteCells (zFR (l.take k))) wr ∧ Below w.heap.size w wr) (fun i _=>l.length - (intOf i).toNat)
 case atStart=>exact ⟨0,Nat.zero_le _,rfl,Lib.fresh_isBuilder 125 5 w,gr1 _ _⟩
 case round =>
  obtain ⟨k,hk,rfl,hB,hbel⟩ := hrel
  have hlen := zke (l.take k) fun n hn=>HN.out n (List.mem_of_mem_take hn)
  rw [List.length_take] at hlen
  have hbz := hbel.size
  by_cases hlt : k < l.length
  ·have hlt' : (k : Int) < l.length := by omega
   obtain ⟨b,off,rfl,hbl,hcell⟩ := hF (by omega)
   have hc : wr.cell? ⟨b,off + k,none⟩ = some (.int .i64 (l[k] : Int)) := by rw [hbel.cell hbl];exact hcell k hlt
   have HK := zCC (zoA l k hlt)
   have hx := HN.out l[k] (List.getElem_mem _)
   generalize l[k] = x at hc HK hx
   have hdl := zpj hx
   have hsz : (⟨(Lib.decDigits x).toArray⟩ : ByteArray).size = (Lib.decDigits x).length := by simp [ByteArray.size]
   generalize hG : zFR (l.take k) = G at hB HK hlen ⊢
   have HB := zCC hB
   have HTr := zCC (HT.out wr hbel)
   have hmin : min k l.length = k := by omega
   rw [hmin] at hlen
   clear hcell hF hG hB hmin
   go_wp2_with (first
    |(go_at_call 64;refine (zsj x hx _ HTr.out).mono ?_;rintro e w1 ⟨rfl,hb1⟩;have HB1 := zCC (HB.out.below hb1);have hz1 := hb1.size)
    |(go_at_call 63;refine (zsP w.heap.size _ _ _ HB1.out (by rw [Lib.byteCells_length,hsz];omega) (by omega)).mono ?_;rintro e w2 ⟨rfl,hb2,hb2'⟩;have HB2 := zCC hb2;clear hb2;have hz2 := hb2'.size)
    |(go_at_call 65;refine (zmI w.heap.size _ _ _ (.inr HB2.out) (by rw [List.length_append,Lib.byteCells_length,Lib.strCells_length,hsz];omega) (by omega)).mono ?_;rintro e w3 ⟨rfl,hb3,hb3'⟩))
   go_roundw
   case rel =>
    refine ⟨k + 1,by omega,by congr 1, .inr ?_,((hbel.trans (hb1.mono hbz)).trans hb2').trans hb3'⟩
    rw [HK.out,Lib.byteCells_append,Lib.byteCells_append,← List.append_assoc]
    exact hb3
   case measure=>simp only [intOf];omega
  ·have hlt' : ¬ (k : Int) < l.length := by omega
   have hke : k = l.length := by omega
   subst hke
   rw [List.take_length] at hB
   have HB := zCC hB
   clear hB hF
   go_wp2_with (go_at_call 66;refine (zs8 w.heap.size w.heap.size _ _ HB.out hbz).mono ?_;rintro e w1 ⟨rfl,hb1⟩)
   go_ret
   exact ⟨rfl,hbel.trans hb1⟩
def bC (l : List UInt8) : List AV := l.map fun b=>V (cB b)
theorem zhm (l : List UInt8) : (bC l).length = l.length := by simp [bC]
theorem zwQ (s : List UInt8) : zFB ⟨s.toArray⟩ = bC s := by simp [zFB,bC,cB]
theorem z8P (l : List UInt8) : z6b (bC l) = some l := zcy l
theorem zyM {a b : List UInt8} (h : bC a = bC b) : a = b := by
 have := congrArg z6b h
 rw [z8P,z8P] at this
 injection this
section
variable {w : World} {S : SS}
theorem zp7 {l : List Value} (hr : Rel w S [] []) {v : Value} (h : rep S [] (SL (l.map fun u=>V u)) v) : ∃ A c,v = .slice A l.length c ∧ l.length ≤ c ∧ c ≤ maxLen ∧ Rd w A 1 l.length l := by
 obtain ⟨A,c,rfl,h1,h2,h3⟩ := h
 rw [List.length_map] at h1 ⊢
 refine ⟨A,c,rfl,h1,h2,by simp,fun hn=>?_⟩
 obtain ⟨b,o,z,rfl,hin⟩ := h3 (by intro e;have := congrArg List.length e;rw [List.length_map] at this;simp at this;simp [this] at hn)
 have hz : z = 1 := by
  have hh : (l.map fun u=>(V u : AV))[0]? = some (V l[0]) := by simp [List.getElem?_eq_getElem hn]
  exact ((hin 0 _ hh).1).symm
 subst hz
 have hcell : ∀ j u,l[j]? = some u → S b (o + j) (V u) := by
  intro j u hj
  have := (hin j (V u) (by simp [hj])).2 0 (V u) rfl
  simpa using this
 refine ⟨b,o,rfl,hr.still_lt (hcell 0 l[0] (by simp [List.getElem?_eq_getElem hn])),fun j u hj=>?_⟩
 obtain ⟨u',h4,_,h5⟩ := hr.still _ _ _ (hcell j u hj)
 rw [h4,h5.1]
theorem zBH {l : List UInt8} (hr : Rel w S [] []) {v : Value} (h : rep S [] (SL (bC l)) v) : ∃ A c,v = .slice A l.length c ∧ l.length ≤ c ∧ c ≤ maxLen ∧ Bs w A l := by
 have e : bC l = (l.map cB).map fun u=>V u := by simp [bC]
 rw [e] at h
 obtain ⟨A,c,h1,h2,h3,h4⟩ := zp7 hr h
 rw [List.length_map] at h1 h2 h4
 exact ⟨A,c,h1,h2,h3,h4⟩
theorem zzH {l : List Nat} (hr : Rel w S [] []) {v : Value} (h : rep S [] (SL (l.map fun n : Nat=>nA (n : Int))) v) : ∃ A c,v = .slice A l.length c ∧ Nms w A l := by
 have e : (l.map fun n : Nat=>(nA (n : Int) : AV)) = (l.map fun n : Nat=>Value.int .i64 (n : Int)).map fun u=>V u := by simp [nA]
 rw [e] at h
 obtain ⟨A,c,h1,h2,h3,h4⟩ := zp7 hr h
 rw [List.length_map] at h1 h4
 refine ⟨A,c,h1,fun hn=>?_⟩
 obtain ⟨b,off,e1,e2,e3⟩ := h4.2 hn
 exact ⟨b,off,e1,e2,fun k hk=>e3 k _ (by simp [List.getElem?_eq_getElem hk])⟩
theorem zyD (hr : Rel w S [] []) (hg : GOk GG S) : Tab w ∧ 1 < w.heap.size := by
 have hm : (1,(.agg (Lib.pow10Tab.map fun k : Int=>V (.int .u64 k)) : AV)) ∈ GG := List.mem_cons_of_mem _ (List.mem_cons_self ..)
 have hc : ∀ q,q < 20 → S 1 q (V (.int .u64 ((10 ^ q : Nat) : Int))) := fun q hq=>by
  refine hg _ _ hm q _ ?_
  show (Lib.pow10Tab.map fun k : Int=>(V (.int .u64 k) : AV))[q]? = _
  have h1 := Lib.pow10Tab_at q hq
  have h2 : q < Lib.pow10Tab.length := by rw [Lib.pow10Tab_length];exact hq
  rw [List.getD_eq_getElem?_getD,List.getElem?_eq_getElem h2] at h1
  rw [List.getElem?_map,List.getElem?_eq_getElem h2]
  simp only [Option.getD_some] at h1
  rw [h1];rfl
 refine ⟨fun q hq=>?_,hr.still_lt (hc 0 (by omega))⟩
 obtain ⟨u',h4,_,h5⟩ := hr.still _ _ _ (hc q hq)
 rw [h4,h5.1]
end
theorem zoe (l : List Nat) (hn : ∀ n ∈ l,n ≤ 9223372036854775807) (hl : l.length ≤ 1000000) : ACp Tryd.prog GG 48 [SL (l.map fun n : Nat=>nA (n : Int))] (sA (zFR l)) := by
 refine acp_of_tells (by kernel_rfl) fun w S vs hr hg hlen hv=>?_
 rcases vs with _|⟨v1,_|⟨_,_⟩⟩ <;> simp at hlen
 obtain ⟨A1,c1,rfl,hF1⟩ := zzH hr (hv 0 _ v1 rfl rfl)
 obtain ⟨hT,hg⟩ := zyD hr hg
 refine (zjZ A1 l c1 w hT hg hF1 hn hl).mono ?_
 rintro e w' ⟨rfl,hb⟩
 exact ⟨_,rfl,hb,⟨rfl,rfl⟩⟩
def z4z (_ : Nat) : List AV → RO := zDW (ι := List Nat) (fun l=>[SL (l.map fun n : Nat=>nA (n : Int))]) (fun l=>sA (zFR l)) (fun l=>(∀ n ∈ l,n ≤ 9223372036854775807) ∧ l.length ≤ 1000000)
theorem ze8 (m : Nat) : ∀ args X H',z4z m args = some (X,H') → ACp Tryd.prog GG 48 args X := z3B fun l h=>zoe l h.1 h.2
theorem zxe {a b : List Nat} (h : (a.map fun n : Nat=>(nA (n : Int) : AV)) = b.map fun n : Nat=>nA (n : Int)) : a = b := by
 refine (List.map_inj_right (fun x y e=>?_)).1 h
 injection e with e;injection e with e;injection e with _ e;omega
theorem zfE (m : Nat) (l : List Nat) (h1 : ∀ n ∈ l,n ≤ 9223372036854775807) (h2 : l.length ≤ 1000000) : z4z m [SL (l.map fun n : Nat=>nA (n : Int))] = some (sA (zFR l),[]) := z3A (fun a b e=>by
 injection e with e _
 injection e with e _
 rw [zxe e]) ⟨h1,h2⟩
end Go.Proofs.YtaplemeamcgpkaaDoor

namespace Go.Proofs.YtaplemeamcgpkaaDoor
open Go.RowKit
theorem zsn (w : World) : Calls Tryd.prog 85 #[] w fun e w'=>e = .returned (.agg #[.int .i64 0, .int .i64 0, .string ⟨#[]⟩]) ∧ Below w.heap.size w w' := by
 go_enter Tryd.func85,Tryd.ntmps85
 go_wp2_with fail
 exact bodyPost_ret (v := .agg #[.int .i64 0, .int .i64 0, .string ⟨#[]⟩]) (by simp [results,Tryd.results85,go_sem]) rfl ⟨rfl,by first|exact gr1 _ _|exact gr2 _ _ _⟩
theorem zsH (n : Int) (w : World) : Calls Tryd.prog 88 #[.int .i64 n] w fun e w'=>e = .returned (.agg #[.int .i64 2, .int .i64 n, .string ⟨#[]⟩]) ∧ Below w.heap.size w w' := by
 go_enter Tryd.func88,Tryd.ntmps88
 go_wp2_with fail
 exact bodyPost_ret (v := .agg #[.int .i64 2, .int .i64 n, .string ⟨#[]⟩]) (by simp [results,Tryd.results88,go_sem]) rfl ⟨rfl,by first|exact gr1 _ _|exact gr2 _ _ _⟩
theorem zie (b : Bool) (w : World) : Calls Tryd.prog 86 #[.bool b] w fun e w'=>e = .returned (.agg #[.int .i64 1, .int .i64 b.toNat, .string ⟨#[]⟩]) ∧ Below w.heap.size w w' := by
 cases b
 all_goals
  go_enter Tryd.func86,Tryd.ntmps86
  go_wp2_with fail
 ·exact bodyPost_ret (v := .agg #[.int .i64 1, .int .i64 0, .string ⟨#[]⟩]) (by simp [results,Tryd.results86,go_sem]) rfl ⟨rfl,by first|exact gr1 _ _|exact gr2 _ _ _⟩
 ·exact bodyPost_ret (v := .agg #[.int .i64 1, .int .i64 1, .string ⟨#[]⟩]) (by simp [results,Tryd.results86,go_sem]) rfl ⟨rfl,by first|exact gr1 _ _|exact gr2 _ _ _⟩
theorem zsA (s : z0f) (h : 64 < s.length) (w : World) : Calls Tryd.prog 89 #[.string ⟨s.toArray⟩] w fun e w'=>e = .returned (.tuple #[.agg #[.int .i64 0, .int .i64 0, .string ⟨#[]⟩], .int .i64 5]) ∧ Below w.heap.size w w' := by
 have h' : (64 : Int) < s.length := by omega
 go_enter Tryd.func89,Tryd.ntmps89
 go_wp2_with fail
 exact bodyPost_ret (v := .tuple #[.agg #[.int .i64 0, .int .i64 0, .string ⟨#[]⟩], .int .i64 5]) (by simp [results,Tryd.results89,go_sem]) rfl ⟨rfl,by first|exact gr1 _ _|exact gr2 _ _ _⟩
theorem zni (s : z0f) (h : s.length ≤ 64) (w : World) : Calls Tryd.prog 89 #[.string ⟨s.toArray⟩] w fun e w'=>e = .returned (.tuple #[.agg #[.int .i64 3, .int .i64 0, .string ⟨s.toArray⟩], .int .i64 0]) ∧ Below w.heap.size w w' := by
 have h' : ¬ (64 : Int) < s.length := by omega
 go_enter Tryd.func89,Tryd.ntmps89
 go_wp2_with fail
 exact bodyPost_ret (v := .tuple #[.agg #[.int .i64 3, .int .i64 0, .string ⟨s.toArray⟩], .int .i64 0]) (by simp [results,Tryd.results89,go_sem]) rfl ⟨rfl,by first|exact gr1 _ _|exact gr2 _ _ _⟩
structure CutV where
 kind : Int
 i : Int
 s : z0f
 n : Nat
 e : Nat
def zFW : z0f → CutV
 |[]=>⟨0,0,[],0,2⟩
 |t :: r =>
  if t.toNat = 0 then ⟨0,0,[],1,0⟩
  else if t.toNat = 1 then (match r with|[]=>⟨0,0,[],0,2⟩|b :: _=>if 1 < b.toNat then ⟨0,0,[],0,3⟩ else ⟨1,b.toNat,[],2,0⟩)
  else if t.toNat = 2 then (if (cut r).2.2 = 0 then ⟨2,zag (cut r).1,[],(cut r).2.1 + 1,0⟩ else ⟨0,0,[],0,(cut r).2.2⟩)
  else if t.toNat = 3 then (if (z07 r).2.2 ≠ 0 then ⟨0,0,[],0,(z07 r).2.2⟩ else if 64 < (z07 r).1.length then ⟨0,0,[],0,5⟩ else ⟨3,0,(z07 r).1,(z07 r).2.1 + 1,0⟩)
  else ⟨0,0,[],0,3⟩
def zsV (w : World) (x : CutV) (e : Ending) (w' : World) : Prop :=
 e = .returned (.tuple #[.agg #[.int .i64 x.kind, .int .i64 x.i, .string ⟨x.s.toArray⟩], .int .i64 x.n, .int .i64 x.e]) ∧ Below w.heap.size w w'
theorem zCH {w w1 : World} (h : Below w.heap.size w w1) (u0 u1 u2 : Value) :
  Below w.heap.size w (((w1.setCell ⟨w.heap.size,0,none⟩ u0).setCell ⟨w.heap.size,1,none⟩ u1).setCell ⟨w.heap.size,2,none⟩ u2) :=
 ((h.setCell (Nat.le_refl _) _).setCell (Nat.le_refl _) _).setCell (Nat.le_refl _) _
theorem zAO {w w1 : World} (h : Below w.heap.size w w1) (u0 u1 u2 : Value) (o : Obj) :
  Below w.heap.size w ((((w1.setCell ⟨w.heap.size,0,none⟩ u0).setCell ⟨w.heap.size,1,none⟩ u1).setCell ⟨w.heap.size,2,none⟩ u2).alloc o) :=
 (zCH h u0 u1 u2).alloc (zCH h u0 u1 u2).size o
theorem z2y {w w' : World} {x : CutV} {n : Int} (h : (x.n : Int) = n) (hb : Below w.heap.size w w') : zsV w x (.returned (.tuple #[.agg #[.int .i64 x.kind, .int .i64 x.i, .string ⟨x.s.toArray⟩], .int .i64 n, .int .i64 x.e])) w' := ⟨by rw [← h],hb⟩
theorem z8J (l : z0f) : (z07 l).2.1 ≤ l.length := by
 have := zrH l
 unfold z07;split
 ·simp
 ·split
  ·simp
  ·split
   ·simp
   ·simp only;omega
theorem zeE {n k : Nat} (h : ¬ n = k) : ((n : Int) == (k : Int)) = false := by rw [beq_eq_false_iff_ne];omega
set_option maxHeartbeats 4000000 in
theorem zsD (A : Option Addr) (l : z0f) (c : Nat) (w : World) (hF : Bs w A l) (hl : l.length ≤ 34359738368) (hlc : l.length ≤ c) (hcm : c ≤ maxLen) :
  Calls Tryd.prog 79 #[.slice A l.length c] w (zsV w (zFW l)) := by
 have HF := zCC hF
 clear hF
 match l with
 |[] =>
  go_enter Tryd.func79,Tryd.ntmps79
  go_wp2_with fail
  exact bodyPost_ret (v := .tuple #[.agg #[.int .i64 0, .int .i64 0, .string ⟨#[]⟩], .int .i64 0, .int .i64 2]) (by simp [results,Tryd.results79,go_sem]) rfl ⟨rfl,by first|exact gr1 _ _|exact gr2 _ _ _⟩
 |t :: r =>
  have hrl : r.length + 1 ≤ c := hlc
  have hr2 : r.length ≤ 34359738368 := by simp at hl;omega
  obtain ⟨b,off,rfl,hbl,hcell⟩ := HF.out.cell (by simp)
  have h0 : w.cell? ⟨b,off,none⟩ = some (.int .u8 t.toNat) := by have := hcell 0 (by simp);simpa using this
  have hcut := fun w=>z2e Tryd.underlying89 zcD (some ⟨b,off,none⟩) (r.length + 1) c 1 (by omega) 1 rfl w
  rw [show r.length + 1 - 1 = r.length from rfl] at hcut
  have hR : Bs w (cutA (some ⟨b,off,none⟩) c 1 1) r := by
   have := HF.out.cutA (lo := 1) (n := r.length) (c := c) (by simp;omega) hlc
   simpa using this
  generalize cutA (some ⟨b,off,none⟩) c 1 1 = A2 at hcut hR
  have HRr := zCC hR
  clear hcell hR
  show Calls Tryd.prog 79 #[.slice (some ⟨b,off,none⟩) (r.length + 1) c] w _
  by_cases t0 : t.toNat = 0
  ·have HR := zCC (show zFW (t :: r) = ⟨0,0,[],1,0⟩ from by simp [zFW,t0])
   rw [t0] at h0
   clear t0
   go_enter Tryd.func79,Tryd.ntmps79
   go_wp2_with (go_at_call 85;refine (zsn _).mono ?_;rintro e w2 ⟨rfl,hb2⟩;obtain ⟨hc2,hf2⟩ := z5a hb2;have hz2 := bz hb2)
   exact bodyPost_ret (v := .tuple #[.agg #[.int .i64 0, .int .i64 0, .string ⟨#[]⟩], .int .i64 1, .int .i64 0]) (by simp [results,Tryd.results79,go_sem,hc2,hz2]) rfl (by rw [HR.out];exact z2y (rfl) (zCH (z0a (gr1 _ _) hb2) _ _ _))
  by_cases t1 : t.toNat = 1
  ·rw [t1] at h0
   by_cases hz : r.length = 0
   ·have hri : ((r.length : Int) == 0) = true := by rw [hz];rfl
    have hre : r = [] := List.length_eq_zero_iff.1 hz
    have HR := zCC (show zFW (t :: r) = ⟨0,0,[],0,2⟩ from by rw [hre];simp [zFW,t1])
    clear hre hz
    clear t0 t1
    go_enter Tryd.func79,Tryd.ntmps79
    go_wp2_with fail
    exact bodyPost_ret (v := .tuple #[.agg #[.int .i64 0, .int .i64 0, .string ⟨#[]⟩], .int .i64 0, .int .i64 2]) (by simp [results,Tryd.results79,go_sem]) rfl (by rw [HR.out];exact z2y (rfl) (gr1 _ _))
   ·have hri : ((r.length : Int) == 0) = false := zeE (k := 0) hz
    have hpos : 0 < r.length := by omega
    obtain ⟨b2,off2,rfl,hbl2,hcell2⟩ := HRr.out.cell hpos
    obtain ⟨b1,r1,hrr0⟩ : ∃ b1 r1,r = b1 :: r1 := by cases r with|nil=>simp at hpos|cons x y=>exact ⟨x,y,rfl⟩
    have hrr := zCC hrr0
    clear hrr0
    have h1 : w.cell? ⟨b2,off2,none⟩ = some (.int .u8 b1.toNat) := by have := hcell2 0 hpos;rw [show r[0] = b1 from by simp [hrr.out]] at this;simpa using this
    clear hcell2 hz
    by_cases hb0 : b1.toNat = 0
    ·have HR := zCC (show zFW (t :: r) = ⟨1,0,[],2,0⟩ from by rw [hrr.out];simp [zFW,t1,hb0])
     rw [hb0] at h1
     clear hb0 t0 t1
     go_enter Tryd.func79,Tryd.ntmps79
     go_wp2_with (go_at_call 86;refine (zie false _).mono ?_;rintro e w2 ⟨rfl,hb2⟩;obtain ⟨hc2,hf2⟩ := z5a hb2;have hz2 := bz hb2)
     exact bodyPost_ret (v := .tuple #[.agg #[.int .i64 1, .int .i64 0, .string ⟨#[]⟩], .int .i64 2, .int .i64 0]) (by simp [results,Tryd.results79,go_sem,hc2,hz2]) rfl (by rw [HR.out];exact z2y (rfl) (zCH (z0a (gr1 _ _) hb2) _ _ _))
    by_cases hb1' : b1.toNat = 1
    ·have HR := zCC (show zFW (t :: r) = ⟨1,1,[],2,0⟩ from by rw [hrr.out];simp [zFW,t1,hb1'])
     rw [hb1'] at h1
     clear hb0 hb1' t0 t1
     go_enter Tryd.func79,Tryd.ntmps79
     go_wp2_with (go_at_call 86;refine (zie true _).mono ?_;rintro e w2 ⟨rfl,hb2⟩;obtain ⟨hc2,hf2⟩ := z5a hb2;have hz2 := bz hb2)
     exact bodyPost_ret (v := .tuple #[.agg #[.int .i64 1, .int .i64 1, .string ⟨#[]⟩], .int .i64 2, .int .i64 0]) (by simp [results,Tryd.results79,go_sem,hc2,hz2]) rfl (by rw [HR.out];exact z2y (rfl) (zCH (z0a (gr1 _ _) hb2) _ _ _))
    ·have hbg : 1 < b1.toNat := by omega
     have hbg' : (1 : Int) < b1.toNat := by omega
     have HR := zCC (show zFW (t :: r) = ⟨0,0,[],0,3⟩ from by rw [hrr.out];simp [zFW,t1,hbg])
     clear hbg hb0 hb1' t0 t1
     go_enter Tryd.func79,Tryd.ntmps79
     go_wp2_with fail
     exact bodyPost_ret (v := .tuple #[.agg #[.int .i64 0, .int .i64 0, .string ⟨#[]⟩], .int .i64 0, .int .i64 3]) (by simp [results,Tryd.results79,go_sem]) rfl (by rw [HR.out];exact z2y (rfl) (gr1 _ _))
  by_cases t2 : t.toNat = 2
  ·rw [t2] at h0
   have hn := zrH r
   by_cases he : (cut r).2.2 = 0
   ·have he' : (((cut r).2.2 : Int) != 0) = false := by rw [he];rfl
    have HR := zCC (show zFW (t :: r) = ⟨2,zag (cut r).1,[],(cut r).2.1 + 1,0⟩ from by simp [zFW,t0,t1,t2,he])
    clear t0 t1 t2 he
    go_enter Tryd.func79,Tryd.ntmps79
    go_wp2_with (first
     |(go_at_call 88;refine (zsH _ _).mono ?_;rintro e w2 ⟨rfl,hb2⟩;obtain ⟨hc2,hf2⟩ := z5a hb2;have hz2 := bz hb2)
     |(go_at_call 87;refine (zeu A2 r (c - 1) _ (HRr.out.below (gr1 _ _)) hr2).mono ?_;rintro e w' ⟨rfl,rfl⟩))
    exact bodyPost_ret (v := .tuple #[.agg #[.int .i64 2, .int .i64 (zag (cut r).1), .string ⟨#[]⟩], .int .i64 (1 + ((cut r).2.1 : Int)), .int .i64 0]) (by simp [results,Tryd.results79,go_sem,hc2,hz2]) rfl (by rw [HR.out];exact z2y (by simp;omega) (zCH (z0a (gr1 _ _) hb2) _ _ _))
   ·have he' : (((cut r).2.2 : Int) != 0) = true := by rw [bne_iff_ne];omega
    have HR := zCC (show zFW (t :: r) = ⟨0,0,[],0,(cut r).2.2⟩ from by simp [zFW,t0,t1,t2,he])
    clear t0 t1 t2 he
    go_enter Tryd.func79,Tryd.ntmps79
    go_wp2_with (go_at_call 87;refine (zeu A2 r (c - 1) _ (HRr.out.below (gr1 _ _)) hr2).mono ?_;rintro e w' ⟨rfl,rfl⟩)
    exact bodyPost_ret (v := .tuple #[.agg #[.int .i64 0, .int .i64 0, .string ⟨#[]⟩], .int .i64 0, .int .i64 (cut r).2.2]) (by simp [results,Tryd.results79,go_sem]) rfl (by rw [HR.out];exact z2y (rfl) (gr1 _ _))
  by_cases t3 : t.toNat = 3
  ·rw [t3] at h0
   have hcm2 : c - 1 ≤ 9223372036854775807 := by unfold maxLen at hcm;omega
   have hn := z8J r
   by_cases he : (z07 r).2.2 = 0
   ·have he' : (((z07 r).2.2 : Int) != 0) = false := by rw [he];rfl
    by_cases hlong : 64 < (z07 r).1.length
    ·have HR := zCC (show zFW (t :: r) = ⟨0,0,[],0,5⟩ from by simp [zFW,t0,t1,t2,t3,he,hlong])
     clear t0 t1 t2 t3 he
     go_enter Tryd.func79,Tryd.ntmps79
     go_wp2_with (first
      |(go_at_call 89;refine (zsA _ hlong _).mono ?_;rintro e w2 ⟨rfl,hb2⟩;obtain ⟨hc2,hf2⟩ := z5a hb2;have hz2 := bz hb2)
      |(go_at_call 78;refine (z2i A2 r (c - 1) _ (HRr.out.below (gr1 _ _)) hr2 (by omega) hcm2).mono ?_;rintro e w' ⟨rfl,rfl⟩))
     exact bodyPost_ret (v := .tuple #[.agg #[.int .i64 0, .int .i64 0, .string ⟨#[]⟩], .int .i64 0, .int .i64 5]) (by simp [results,Tryd.results79,go_sem,hc2,hz2]) rfl (by rw [HR.out];exact z2y (rfl) (zAO (z0a (gr1 _ _) hb2) _ _ _ _))
    ·have hshort : (z07 r).1.length ≤ 64 := by omega
     have HR := zCC (show zFW (t :: r) = ⟨3,0,(z07 r).1,(z07 r).2.1 + 1,0⟩ from by simp [zFW,t0,t1,t2,t3,he,hlong])
     clear t0 t1 t2 t3 he hlong
     go_enter Tryd.func79,Tryd.ntmps79
     go_wp2_with (first
      |(go_at_call 89;refine (zni _ hshort _).mono ?_;rintro e w2 ⟨rfl,hb2⟩;obtain ⟨hc2,hf2⟩ := z5a hb2;have hz2 := bz hb2)
      |(go_at_call 78;refine (z2i A2 r (c - 1) _ (HRr.out.below (gr1 _ _)) hr2 (by omega) hcm2).mono ?_;rintro e w' ⟨rfl,rfl⟩))
     exact bodyPost_ret (v := .tuple #[.agg #[.int .i64 3, .int .i64 0, .string ⟨(z07 r).1.toArray⟩], .int .i64 (1 + ((z07 r).2.1 : Int)), .int .i64 0]) (by simp [results,Tryd.results79,go_sem,hc2,hz2]) rfl (by rw [HR.out];exact z2y (by simp;omega) (zAO (z0a (gr1 _ _) hb2) _ _ _ _))
   ·have he' : (((z07 r).2.2 : Int) != 0) = true := by rw [bne_iff_ne];omega
    have HR := zCC (show zFW (t :: r) = ⟨0,0,[],0,(z07 r).2.2⟩ from by simp [zFW,t0,t1,t2,t3,he])
    clear t0 t1 t2 t3 he
    go_enter Tryd.func79,Tryd.ntmps79
    go_wp2_with (go_at_call 78;refine (z2i A2 r (c - 1) _ (HRr.out.below (gr1 _ _)) hr2 (by omega) hcm2).mono ?_;rintro e w' ⟨rfl,rfl⟩)
    exact bodyPost_ret (v := .tuple #[.agg #[.int .i64 0, .int .i64 0, .string ⟨#[]⟩], .int .i64 0, .int .i64 (z07 r).2.2]) (by simp [results,Tryd.results79,go_sem]) rfl (by rw [HR.out];exact z2y (rfl) (gr1 _ _))
  have e0 : ((t.toNat : Int) == 0) = false := zeE (k := 0) t0
  have e1 : ((t.toNat : Int) == 1) = false := zeE (k := 1) t1
  have e2 : ((t.toNat : Int) == 2) = false := zeE (k := 2) t2
  have e3 : ((t.toNat : Int) == 3) = false := zeE (k := 3) t3
  have HR := zCC (show zFW (t :: r) = ⟨0,0,[],0,3⟩ from by simp [zFW,t0,t1,t2,t3])
  clear t0 t1 t2 t3
  go_enter Tryd.func79,Tryd.ntmps79
  go_wp2_with fail
  exact bodyPost_ret (v := .tuple #[.agg #[.int .i64 0, .int .i64 0, .string ⟨#[]⟩], .int .i64 0, .int .i64 3]) (by simp [results,Tryd.results79,go_sem]) rfl (by rw [HR.out];exact z2y (rfl) (gr1 _ _))
end Go.Proofs.YtaplemeamcgpkaaDoor

namespace Go.Proofs.YtaplemeamcgpkaaDoor
open Go.RowKit
structure CutI where
 x : Item
 n : Nat
 e : Nat
def ziW (u : Nat) : Nat := if 2147483647 < u then 2147483648 else u
def zDM (l : z0f) : CutI :=
 let a := z07 l
 let v := zFW (l.drop a.2.1)
 let u := cut (l.drop (a.2.1 + v.n))
 if a.2.2 ≠ 0 then ⟨Item.zero,0,a.2.2⟩ else if v.e ≠ 0 then ⟨Item.zero,0,v.e⟩ else if u.2.2 ≠ 0 then ⟨Item.zero,0,u.2.2⟩
 else ⟨⟨a.1,v.kind,v.i,v.s,ziW u.1⟩,a.2.1 + v.n + u.2.1,0⟩
def zp2 (w : World) (c : CutI) (e : Ending) (w' : World) : Prop :=
 e = .returned (.tuple #[.agg #[.string ⟨c.x.key.toArray⟩, .int .i64 c.x.kind, .int .i64 c.x.i, .string ⟨c.x.s.toArray⟩, .int .i64 c.x.ver], .int .i64 c.n, .int .i64 c.e]) ∧ Below w.heap.size w w'
theorem zw6 (l : z0f) : (zFW l).n ≤ l.length := by
 match l with
 |[]=>simp [zFW]
 |[t] =>
  have h1 := (zrH []).2.1
  have h2 := z8J []
  simp only [List.length_nil,Nat.le_zero] at h1 h2
  simp only [zFW,List.length_cons,List.length_nil]
  repeat' split
  all_goals simp [h1,h2]
 |t :: b :: r1 =>
  have h1 := (zrH (b :: r1)).2.1
  have h2 := z8J (b :: r1)
  simp only [List.length_cons] at h1 h2
  simp only [zFW,List.length_cons]
  repeat' split
  all_goals first|omega|(simp;done)|(simp;omega)
theorem zxS {w w1 : World} (h : Below w.heap.size w w1) (u0 u1 u2 u3 u4 : Value) (o : Obj) :
  Below w.heap.size w ((((((w1.setCell ⟨w.heap.size,0,none⟩ u0).setCell ⟨w.heap.size,1,none⟩ u1).setCell ⟨w.heap.size,2,none⟩ u2).setCell ⟨w.heap.size,3,none⟩ u3).setCell ⟨w.heap.size,4,none⟩ u4).alloc o) :=
 (zCV h u0 u1 u2 u3 u4).alloc (zCV h u0 u1 u2 u3 u4).size o
set_option maxHeartbeats 4000000 in
theorem zrx (A : Option Addr) (l : z0f) (c : Nat) (w : World) (hF : Bs w A l) (hl : l.length ≤ 34359738368) (hlc : l.length ≤ c) (hcm : c ≤ maxLen) :
  Calls Tryd.prog 74 #[.slice A l.length c] w (zp2 w (zDM l)) := by
 have HF := zCC hF
 clear hF
 have hcm2 : c ≤ 9223372036854775807 := by unfold maxLen at hcm;omega
 have ha := z8J l
 by_cases he : (z07 l).2.2 = 0
 ·have he' : (((z07 l).2.2 : Int) != 0) = false := by rw [he];rfl
  have hcut1 := fun w=>z2e Tryd.underlying89 zcD A l.length c (z07 l).2.1 ha ((z07 l).2.1 : Int) rfl w
  have hB1 : Bs w (cutA A c (z07 l).2.1 1) (l.drop (z07 l).2.1) := by
   have := HF.out.cutA (lo := (z07 l).2.1) (n := l.length - (z07 l).2.1) (c := c) (by omega) hlc
   rwa [List.take_of_length_le (by simp)] at this
  have HF1 := zCC hB1
  have HCV := zCC (show ∀ w',Bs w' (cutA A c (z07 l).2.1 1) (l.drop (z07 l).2.1) → Calls Tryd.prog 79 #[.slice (cutA A c (z07 l).2.1 1) (l.length - (z07 l).2.1) (c - (z07 l).2.1)] w' (zsV w' (zFW (l.drop (z07 l).2.1))) from fun w' h=>by
   have := zsD _ _ (c - (z07 l).2.1) w' h (by simp;omega) (by simp;omega) (by omega)
   rwa [List.length_drop] at this)
  have hvn := zw6 (l.drop (z07 l).2.1)
  rw [List.length_drop] at hvn
  generalize hA1 : cutA A c (z07 l).2.1 1 = A1 at hcut1 HF1 HCV
  clear hB1 hA1
  have HVV := zCC (show zDM l = if (zFW (l.drop (z07 l).2.1)).e ≠ 0 then ⟨Item.zero,0,(zFW (l.drop (z07 l).2.1)).e⟩ else if (cut (l.drop ((z07 l).2.1 + (zFW (l.drop (z07 l).2.1)).n))).2.2 ≠ 0 then ⟨Item.zero,0,(cut (l.drop ((z07 l).2.1 + (zFW (l.drop (z07 l).2.1)).n))).2.2⟩ else ⟨⟨(z07 l).1,(zFW (l.drop (z07 l).2.1)).kind,(zFW (l.drop (z07 l).2.1)).i,(zFW (l.drop (z07 l).2.1)).s,ziW (cut (l.drop ((z07 l).2.1 + (zFW (l.drop (z07 l).2.1)).n))).1⟩,(z07 l).2.1 + (zFW (l.drop (z07 l).2.1)).n + (cut (l.drop ((z07 l).2.1 + (zFW (l.drop (z07 l).2.1)).n))).2.1,0⟩ from by simp [zDM,he])
  clear he
  generalize zFW (l.drop (z07 l).2.1) = V at HCV hvn HVV
  obtain ⟨vk,vi,vs,vn,ve⟩ := V
  simp only at hvn
  by_cases hv : ve = 0
  ·have hv' : ((ve : Int) != 0) = false := by rw [hv];rfl
   have hcut2 := fun w=>z2e Tryd.underlying89 zcD A l.length c ((z07 l).2.1 + vn) (by omega) (((z07 l).2.1 : Int) + (vn : Int)) (by omega) w
   have hB2 : Bs w (cutA A c ((z07 l).2.1 + vn) 1) (l.drop ((z07 l).2.1 + vn)) := by
    have := HF.out.cutA (lo := (z07 l).2.1 + vn) (n := l.length - ((z07 l).2.1 + vn)) (c := c) (by omega) hlc
    rwa [List.take_of_length_le (by simp)] at this
   have HF2 := zCC hB2
   have HCC := zCC (show ∀ w',Bs w' (cutA A c ((z07 l).2.1 + vn) 1) (l.drop ((z07 l).2.1 + vn)) → Calls Tryd.prog 80 #[.slice (cutA A c ((z07 l).2.1 + vn) 1) (l.length - ((z07 l).2.1 + vn)) (c - ((z07 l).2.1 + vn))] w' (fun e w2=>e = .returned (.tuple #[.int .u64 (cut (l.drop ((z07 l).2.1 + vn))).1, .int .i64 (cut (l.drop ((z07 l).2.1 + vn))).2.1, .int .i64 (cut (l.drop ((z07 l).2.1 + vn))).2.2]) ∧ w' = w2) from fun w' h=>by
    have := zcM _ _ (c - ((z07 l).2.1 + vn)) w' h (by simp;omega)
    rwa [List.length_drop] at this)
   have hun := zrH (l.drop ((z07 l).2.1 + vn))
   have hul := zqA (l.drop ((z07 l).2.1 + vn))
   generalize cutA A c ((z07 l).2.1 + vn) 1 = A3 at hcut2 HF2 HCC
   clear hB2
   generalize cut (l.drop ((z07 l).2.1 + vn)) = U at HCC HVV hun hul
   obtain ⟨u1,un,ue⟩ := U
   simp only at hun hul
   by_cases hu : ue = 0
   ·have hu' : ((ue : Int) != 0) = false := by rw [hu];rfl
    by_cases hbig : 2147483647 < u1
    ·have hbi : (2147483647 : Int) < (u1 : Int) := by omega
     have HR := zCC (show zDM l = ⟨⟨(z07 l).1,vk,vi,vs,((2147483648 : Nat) : Int)⟩,(z07 l).2.1 + vn + un,0⟩ from by rw [HVV.out];simp [hv,hu,ziW,hbig])
     clear hv hu hbig
     go_enter Tryd.func74,Tryd.ntmps74
     go_wp2_with (first
      |(go_at_call 80;refine (HCC.out _ ((HF2.out.below (z0a (gr1 _ _) hb2)).alloc _)).mono ?_;rintro e w' ⟨rfl,rfl⟩)
      |(go_at_call 79;refine (HCV.out _ (HF1.out.below (gr1 _ _))).mono ?_;rintro e w2 ⟨rfl,hb2⟩;obtain ⟨hc2,hf2⟩ := z5a hb2;have hz2 := bz hb2)
      |(go_at_call 78;refine (z2i A l c _ (HF.out.below (gr1 _ _)) hl hlc hcm2).mono ?_;rintro e w' ⟨rfl,rfl⟩))
     exact bodyPost_ret (v := .tuple #[.agg #[.string ⟨(z07 l).1.toArray⟩, .int .i64 vk, .int .i64 vi, .string ⟨vs.toArray⟩, .int .i64 2147483648], .int .i64 (((z07 l).2.1 : Int) + (vn : Int) + (un : Int)), .int .i64 0]) (by simp [results,Tryd.results74,go_sem,hc2,hz2]) rfl (by rw [HR.out];exact ⟨by simp,zxS (z0a (gr1 _ _) hb2) _ _ _ _ _ _⟩)
    ·have hbi : ¬ (2147483647 : Int) < (u1 : Int) := by omega
     have HR := zCC (show zDM l = ⟨⟨(z07 l).1,vk,vi,vs,(u1 : Int)⟩,(z07 l).2.1 + vn + un,0⟩ from by rw [HVV.out];simp [hv,hu,ziW,hbig])
     clear hv hu hbig
     go_enter Tryd.func74,Tryd.ntmps74
     go_wp2_with (first
      |(go_at_call 80;refine (HCC.out _ ((HF2.out.below (z0a (gr1 _ _) hb2)).alloc _)).mono ?_;rintro e w' ⟨rfl,rfl⟩)
      |(go_at_call 79;refine (HCV.out _ (HF1.out.below (gr1 _ _))).mono ?_;rintro e w2 ⟨rfl,hb2⟩;obtain ⟨hc2,hf2⟩ := z5a hb2;have hz2 := bz hb2)
      |(go_at_call 78;refine (z2i A l c _ (HF.out.below (gr1 _ _)) hl hlc hcm2).mono ?_;rintro e w' ⟨rfl,rfl⟩))
     exact bodyPost_ret (v := .tuple #[.agg #[.string ⟨(z07 l).1.toArray⟩, .int .i64 vk, .int .i64 vi, .string ⟨vs.toArray⟩, .int .i64 u1], .int .i64 (((z07 l).2.1 : Int) + (vn : Int) + (un : Int)), .int .i64 0]) (by simp [results,Tryd.results74,go_sem,hc2,hz2]) rfl (by rw [HR.out];exact ⟨by simp,zxS (z0a (gr1 _ _) hb2) _ _ _ _ _ _⟩)
   ·have hu' : ((ue : Int) != 0) = true := by rw [bne_iff_ne];omega
    have HR := zCC (show zDM l = ⟨Item.zero,0,ue⟩ from by rw [HVV.out];simp [hv,hu])
    clear hv hu
    go_enter Tryd.func74,Tryd.ntmps74
    go_wp2_with (first
     |(go_at_call 80;refine (HCC.out _ ((HF2.out.below (z0a (gr1 _ _) hb2)).alloc _)).mono ?_;rintro e w' ⟨rfl,rfl⟩)
     |(go_at_call 79;refine (HCV.out _ (HF1.out.below (gr1 _ _))).mono ?_;rintro e w2 ⟨rfl,hb2⟩;obtain ⟨hc2,hf2⟩ := z5a hb2;have hz2 := bz hb2)
     |(go_at_call 78;refine (z2i A l c _ (HF.out.below (gr1 _ _)) hl hlc hcm2).mono ?_;rintro e w' ⟨rfl,rfl⟩))
    exact bodyPost_ret (v := .tuple #[.agg #[.string ⟨#[]⟩, .int .i64 0, .int .i64 0, .string ⟨#[]⟩, .int .i64 0], .int .i64 0, .int .i64 ue]) (by simp [results,Tryd.results74,go_sem,hc2,hz2]) rfl (by rw [HR.out];exact ⟨rfl,zxS (z0a (gr1 _ _) hb2) _ _ _ _ _ _⟩)
  ·have hv' : ((ve : Int) != 0) = true := by rw [bne_iff_ne];omega
   have HR := zCC (show zDM l = ⟨Item.zero,0,ve⟩ from by rw [HVV.out];simp [hv])
   clear hv
   go_enter Tryd.func74,Tryd.ntmps74
   go_wp2_with (first
    |(go_at_call 79;refine (HCV.out _ (HF1.out.below (gr1 _ _))).mono ?_;rintro e w2 ⟨rfl,hb2⟩;obtain ⟨hc2,hf2⟩ := z5a hb2;have hz2 := bz hb2)
    |(go_at_call 78;refine (z2i A l c _ (HF.out.below (gr1 _ _)) hl hlc hcm2).mono ?_;rintro e w' ⟨rfl,rfl⟩))
   exact bodyPost_ret (v := .tuple #[.agg #[.string ⟨#[]⟩, .int .i64 0, .int .i64 0, .string ⟨#[]⟩, .int .i64 0], .int .i64 0, .int .i64 ve]) (by simp [results,Tryd.results74,go_sem,hc2,hz2]) rfl (by rw [HR.out];exact ⟨rfl,zxS (z0a (gr1 _ _) hb2) _ _ _ _ _ _⟩)
 ·have he' : (((z07 l).2.2 : Int) != 0) = true := by rw [bne_iff_ne];omega
  have HR := zCC (show zDM l = ⟨Item.zero,0,(z07 l).2.2⟩ from by simp [zDM,he])
  clear he
  go_enter Tryd.func74,Tryd.ntmps74
  go_wp2_with (go_at_call 78;refine (z2i A l c _ (HF.out.below (gr1 _ _)) hl hlc hcm2).mono ?_;rintro e w' ⟨rfl,rfl⟩)
  exact bodyPost_ret (v := .tuple #[.agg #[.string ⟨#[]⟩, .int .i64 0, .int .i64 0, .string ⟨#[]⟩, .int .i64 0], .int .i64 0, .int .i64 (z07 l).2.2]) (by simp [results,Tryd.results74,go_sem]) rfl (by rw [HR.out];exact ⟨rfl,gr1 _ _⟩)
end Go.Proofs.YtaplemeamcgpkaaDoor

namespace Go.Proofs.YtaplemeamcgpkaaDoor
open Go.RowKit
def stQ (g : Item → Item) (l : z0f) : Nat → List Item × Nat × Nat
 |0=>([],1,0)
 |k + 1=>if (stQ g l k).2.2 ≠ 0 then stQ g l k else if (zDM (l.drop (stQ g l k).2.1)).e ≠ 0 then ((stQ g l k).1,(stQ g l k).2.1,(zDM (l.drop (stQ g l k).2.1)).e)
  else ((stQ g l k).1 ++ [g (zDM (l.drop (stQ g l k).2.1)).x],(stQ g l k).2.1 + (zDM (l.drop (stQ g l k).2.1)).n,0)
theorem zw2 {g : Item → Item} {l : z0f} {k : Nat} (h : (stQ g l k).2.2 = 0) (hc : (zDM (l.drop (stQ g l k).2.1)).e = 0) :
  stQ g l (k + 1) = ((stQ g l k).1 ++ [g (zDM (l.drop (stQ g l k).2.1)).x],(stQ g l k).2.1 + (zDM (l.drop (stQ g l k).2.1)).n,0) := by
 conv=>lhs;unfold stQ
 rw [if_neg (by omega),if_neg (by omega)]
theorem zuR {g : Item → Item} {l : z0f} {k : Nat} (h : (stQ g l k).2.2 = 0) (hc : (zDM (l.drop (stQ g l k).2.1)).e ≠ 0) :
  (stQ g l (k + 1)).2.2 = (zDM (l.drop (stQ g l k).2.1)).e := by
 conv=>lhs;unfold stQ
 rw [if_neg (by omega),if_pos hc]
theorem zkw {g : Item → Item} {l : z0f} {k : Nat} (h : (stQ g l k).2.2 ≠ 0) : ∀ j,stQ g l (k + j) = stQ g l k
 |0=>rfl
 |j + 1=>by
  have ih := zkw h j
  rw [← Nat.add_assoc]
  conv=>lhs;unfold stQ
  rw [ih,if_pos h]
theorem zuS (l : z0f) : (zDM l).n ≤ l.length := by
 have h1 := z8J l
 have h2 := zw6 (l.drop (z07 l).2.1)
 have h3 := (zrH (l.drop ((z07 l).2.1 + (zFW (l.drop (z07 l).2.1)).n))).2.1
 rw [List.length_drop] at h2 h3
 simp only [zDM]
 split
 ·simp
 ·split
  ·simp
  ·split
   ·simp
   ·simp only;omega
theorem ztw {g : Item → Item} {l : z0f} (hl : 0 < l.length) : ∀ k,(stQ g l k).2.1 ≤ l.length
 |0=>hl
 |k + 1=>by
  have ih := ztw (g := g) hl k
  have hn := zuS (l.drop (stQ g l k).2.1)
  rw [List.length_drop] at hn
  unfold stQ
  split
  ·exact ih
  ·split
   ·exact ih
   ·simp only;omega
end Go.Proofs.YtaplemeamcgpkaaDoor

namespace Go.Proofs.YtaplemeamcgpkaaDoor
open Go.RowKit
end Go.Proofs.YtaplemeamcgpkaaDoor

namespace Go.Proofs.YtaplemeamcgpkaaDoor
open Go.RowKit
attribute [local go_sem ↓] Go.wp_at_zero Go.wp_at_succ
end Go.Proofs.YtaplemeamcgpkaaDoor

namespace Go.Proofs.YtaplemeamcgpkaaDoor
open Go.RowKit
attribute [local go_sem ↓] Go.wp_at_zero Go.wp_at_succ
def znC (m : List Item) : Prop := ∀ j (h : j + 1 < m.length),less m[j].key m[j + 1].key = true
open Classical in
def zEr  (l : z0f  ) (s : List Item × Nat × Nat) : List Item × Nat :=
  if s.2.2 ≠ 0 then ([], s.2.2) else if ¬ (∀ x ∈ s.1, z2S   x = true) then ([], 1) else if ¬ znC    s.1 then ([], 3)
  else if s.1.length = 0 ∨ 8 < s.1.length then ([], 4) else if s.2.1 < l.length then ([], 7) else (s.1, 0)
def cutL : z0f → List Item × Nat
 |[]=>([],2)
 |t :: r=>zEr (t :: r) (stQ id (t :: r) t.toNat)
theorem zoC {l : z0f} {m : List Item} {p : Nat} (j : Nat) (hj : j < m.length) (h : z2S m[j] = false) : zEr l (m,p,0) = ([],1) := by
 unfold zEr
 rw [if_neg (by simp),if_pos]
 intro hall
 have := hall m[j] (List.getElem_mem hj)
 rw [h] at this;cases this
theorem zos {l : z0f} {m : List Item} {p : Nat} (hi : ∀ x ∈ m,z2S x = true) (j : Nat) (h0 : 0 < j) (hj : j < m.length) (h : less (m[j - 1]'(by omega)).key m[j].key = false) : zEr l (m,p,0) = ([],3) := by
 unfold zEr
 rw [if_neg (by simp),if_neg (by simpa using hi),if_pos]
 intro hall
 obtain ⟨i,rfl⟩ : ∃ i,j = i + 1 := ⟨j - 1,by omega⟩
 have := hall i hj
 simp only [Nat.add_sub_cancel] at h
 rw [h] at this;cases this
theorem zb9 {l : z0f} {m : List Item} {p : Nat} (hi : ∀ x ∈ m,z2S x = true) (hr : znC m) :
  (m.length = 0 ∨ 8 < m.length → zEr l (m,p,0) = ([],4)) ∧ (¬ (m.length = 0 ∨ 8 < m.length) → p < l.length → zEr l (m,p,0) = ([],7)) ∧ (¬ (m.length = 0 ∨ 8 < m.length) → ¬ p < l.length → zEr l (m,p,0) = (m,0)) := by
 unfold zEr
 rw [if_neg (by simp),if_neg (by simpa using hi),if_neg (by simpa using hr)]
 exact ⟨fun h=>by rw [if_pos h],fun h h2=>by rw [if_neg h,if_pos h2],fun h h2=>by rw [if_neg h,if_neg h2]⟩
theorem ztn {m : List Item} {j : Nat} (h0 : 0 < j) (hj : j < m.length) (h : less (m[j - 1]'(by omega)).key m[j].key = true) (ha : ∀ i (h : i + 1 < m.length),i + 1 < j → less m[i].key m[i + 1].key = true) :
  ∀ i (h : i + 1 < m.length),i + 1 < j + 1 → less m[i].key m[i + 1].key = true := by
 intro i hi hij
 by_cases h1 : i + 1 < j
 ·exact ha i hi h1
 ·obtain ⟨q,rfl⟩ : ∃ q,j = q + 1 := ⟨j - 1,by omega⟩
  simp only [Nat.add_sub_cancel] at h
  have : i = q := by omega
  subst this
  exact h
set_option maxHeartbeats 8000000 in
theorem zrP (A : Option Addr) (l : z0f) (c : Nat) (w : World) (hS : Sig w) (hF : Bs w A l) (hl : l.length ≤ 34359738368) (hlc : l.length ≤ c) (hcm : c ≤ maxLen) :
  Calls Tryd.prog 69 #[.slice A l.length c] w (zy2 w (cutL l)) := by
 have HF := zCC hF;have HSg := zCC hS
 clear hF hS
 by_cases hz : l.length = 0
 ·have hre : l = [] := List.length_eq_zero_iff.1 hz
  have HR := zCC (show cutL l = ([],2) from by rw [hre];rfl)
  have hzi : ((l.length : Int) == 0) = true := by rw [hz];rfl
  clear hre hz
  go_enter Tryd.func69,Tryd.ntmps69
  go_wp2_with fail
  go_ret2
  rw [HR.out];exact ⟨_,_,rfl,World.ownsRow_nil _ _ _ _,Below.refl _ _⟩
 ·have hpos : 0 < l.length := by omega
  have hzi : ((l.length : Int) == 0) = false := by rw [beq_eq_false_iff_ne];omega
  obtain ⟨t,ht⟩ : ∃ t,t = l[0] := ⟨_,rfl⟩
  have HR := zCC (show cutL l = zEr l (stQ id l t.toNat) from by subst ht;cases l with|nil=>simp at hpos|cons x y=>rfl)
  have ht8 : t.toNat < 256 := t.toNat_lt
  obtain ⟨b,off,rfl,hbl,hcell⟩ := HF.out.cell hpos
  have h0 : w.cell? ⟨b,off,none⟩ = some (.int .u8 t.toNat) := by have := hcell 0 hpos;rw [← ht] at this;simpa using this
  have hcut := fun w=>z2e Tryd.underlying89 zcD (some ⟨b,off,none⟩) l.length c 1 (by omega) 1 rfl w
  have hB1 : Bs w (cutA (some ⟨b,off,none⟩) c 1 1) (l.drop 1) := by
   have := HF.out.cutA (lo := 1) (n := l.length - 1) (c := c) (by omega) hlc
   rwa [List.take_of_length_le (by simp)] at this
  generalize cutA (some ⟨b,off,none⟩) c 1 1 = A5 at hcut hB1
  have HB1 := zCC hB1
  have HLE := zCC (fun k=>ztw (g := id) hpos k)
  have HT := zCC ht
  clear hcell hB1 ht hz
  go_enter Tryd.func69,Tryd.ntmps69
  go_wp2_with fail
  go_loopw [4,5,20] (fun o rs i wr=>∃ (k p : Nat) (m : List Item) (Ao : Option Addr) (co : Nat) (A5 : Option Addr) (c5 : Nat),i = .int .u8 k ∧ k ≤ t.toNat ∧ stQ id l k = (m,p,0) ∧ o = .slice Ao m.length co ∧ rs = .slice A5 (l.length - p) c5 ∧ Bs w A5 (l.drop p) ∧ l.length - p ≤ c5 ∧ c5 ≤ maxLen ∧ p ≤ l.length ∧ m.length ≤ k ∧ wr.ownsRow w.heap.size 79 5 (.slice Ao m.length co) m.length (m.flatMap Item.cells) ∧ Below w.heap.size w wr) (fun _ _ i _=>t.toNat - (intOf i).toNat)
  case atStart=>exact ⟨0,1,[],none,0,A5,c - 1,rfl,Nat.zero_le _,rfl,rfl,rfl,HB1.out,by omega,by omega,hpos,Nat.le_refl _,World.ownsRow_nil _ _ _ _,Below.refl _ _⟩
  case round =>
   obtain ⟨k,p,m,Ao,co,A6,c6,rfl,hk,hst,rfl,rfl,hB,hc6,hm6,hpl,hmk,hown,hbel⟩ := hrel
   have HO := zCC hown;have HBr := zCC hB;have HST := zCC hst
   clear hown hB hst
   have hci := zuS (l.drop p)
   have HCI := zCC (show ∀ w',Bs w' A6 (l.drop p) → Calls Tryd.prog 74 #[.slice A6 (l.length - p) c6] w' (zp2 w' (zDM (l.drop p))) from fun w' h=>by
    have := zrx _ _ c6 w' h (by simp;omega) (by simp;omega) hm6
    rwa [List.length_drop] at this)
   rw [List.length_drop] at hci
   by_cases hlt : k < t.toNat
   ·have hlt' : (k : Int) < t.toNat := by omega
    by_cases he : (zDM (l.drop p)).e = 0
    ·have HF2 := zCC (show stQ id l (k + 1) = (m ++ [(zDM (l.drop p)).x],p + (zDM (l.drop p)).n,0) from by
      have := zw2 (g := id) (l := l) (k := k) (by rw [HST.out]) (by rw [HST.out];exact he)
      rw [HST.out] at this;exact this)
     have hcut2 := fun w=>z2e Tryd.underlying89 zcD A6 (l.length - p) c6 (zDM (l.drop p)).n hci _ rfl w
     have HB2 := zCC (show ∀ w',Bs w' A6 (l.drop p) → Bs w' (cutA A6 c6 (zDM (l.drop p)).n 1) (l.drop (p + (zDM (l.drop p)).n)) from fun w' h=>by
      have := ztt h (lo := (zDM (l.drop p)).n) (c := c6) (by rw [List.length_drop];exact hci) (by rw [List.length_drop];exact hc6)
      rwa [List.drop_drop] at this)
     generalize zDM (l.drop p) = C at HCI hci he HF2 hcut2 HB2
     obtain ⟨⟨ck,cd,ci,cs,cv⟩,cn,ce⟩ := C
     simp only at hci he HF2 hcut2 HB2
     subst he
     generalize cutA A6 c6 cn 1 = A7 at hcut2 HB2
     go_wp2_with (first
      |(at_builtin;refine zcX (w2.alloc (.cells #[.string ⟨ck.toArray⟩, .int .i64 cd, .int .i64 ci, .string ⟨cs.toArray⟩, .int .i64 cv] 79)) rfl (.tmp 31) (.tmp 33) _ rfl w w.heap.size 79 79 _ 5 56 Tryd.underlying22 z3K rfl (by omega) (by omega) _ m.length _ #[.string ⟨ck.toArray⟩, .int .i64 cd, .int .i64 ci, .string ⟨cs.toArray⟩, .int .i64 cv] (by rfl) (w2.heap.size + 1) (by simp) (by rfl) rfl (zse _ _ _ _ _) ((z1c HO.out hb2).alloc _) ((hbel.trans (hb2.mono hbel.size)).alloc (Nat.le_trans hbel.size hb2.size) _) (by have := hbel.size;have := hb2.size;simp;omega) (by omega) ?_;intro g cap w4 hown4 hb4)
      |(go_at_call 74;refine (HCI.out _ (HBr.out.below hbel)).mono ?_;rintro e w2 ⟨rfl,hb2⟩;obtain ⟨hc2,hf2⟩ := z5a hb2))
     refine ⟨⟨k + 1,p + cn,m ++ [⟨ck,cd,ci,cs,cv⟩],some ⟨g,0,none⟩,cap,A7,c6 - cn,by go_num,by omega,HF2.out,by rw [List.length_append];rfl,by rw [Nat.sub_sub],HB2.out _ HBr.out,by omega,by omega,by omega,by simp;omega,?_,hb4⟩,by simp [intOf];omega⟩
     rw [List.length_append,zkS];exact hown4
    ·have he' : (((zDM (l.drop p)).e : Int) != 0) = true := by rw [bne_iff_ne];omega
     have HF2 := zCC (show cutL l = ([],(zDM (l.drop p)).e) from by
      have e1 : (stQ id l (k + 1)).2.2 = (zDM (l.drop p)).e := by
       have := zuR (g := id) (l := l) (k := k) (by rw [HST.out]) (by rw [HST.out];exact he)
       rw [HST.out] at this;exact this
      have e2 := zkw (g := id) (l := l) (k := k + 1) (by rw [e1];exact he) (t.toNat - (k + 1))
      rw [show k + 1 + (t.toNat - (k + 1)) = t.toNat from by omega] at e2
      rw [HR.out,e2];unfold zEr;rw [e1,if_pos he])
     clear he
     generalize zDM (l.drop p) = C at HCI hci he' HF2
     obtain ⟨⟨ck,cd,ci,cs,cv⟩,cn,ce⟩ := C
     simp only at hci he' HF2
     go_wp2_with (go_at_call 74;refine (HCI.out _ (HBr.out.below hbel)).mono ?_;rintro e w2 ⟨rfl,hb2⟩;obtain ⟨hc2,hf2⟩ := z5a hb2)
     go_ret2
     rw [HF2.out]
     exact ⟨none,0,rfl,World.ownsRow_nil _ _ _ _,(hbel.trans (hb2.mono hbel.size)).alloc (Nat.le_trans hbel.size hb2.size) _⟩
   ·have hkt : k = t.toNat := by omega
    rename World=>w3
    have HFin := zCC (show cutL l = zEr l (m,p,0) from by rw [HR.out,← hkt,HST.out])
    have hlt' : ¬ (k : Int) < t.toNat := by omega
    clear hkt HCI hci
    have hm255 : m.length ≤ 255 := by omega
    have HFs := zCC (show Fs Item.cells 5 w3 Ao m from Fs.of_own rfl HO.out)
    go_wp2_with fail
    go_loopw [41] (fun i w4=>∃ j : Nat,j ≤ m.length ∧ i = .int .i64 j ∧ (∀ x ∈ m.take j,z2S x = true) ∧ Below w3.heap.size w3 w4) (fun i _=>m.length - (intOf i).toNat)
    case atStart=>exact ⟨0,Nat.zero_le _,rfl,by simp,Below.refl _ _⟩
    case round =>
     rename World=>w4
     obtain ⟨j,hj,rfl,hall,hb4⟩ := hrel
     have HA := zCC hall;clear hall
     have hbW : Below w.heap.size w w4 := hbel.trans (hb4.mono hbel.size)
     by_cases hlt2 : j < m.length
     ·have hlt2' : (j : Int) < m.length := by omega
      obtain ⟨b2,off2,rfl,hbl2,hcell2⟩ := HFs.out.cell (fun _=>rfl) (by omega)
      obtain ⟨c0,c1,c2,c3,c4⟩ := zEz hcell2 hb4 hbl2 hlt2
      cases hi : z2S m[j] with
      |false =>
       have HE := zCC (zoC (l := l) (p := p) j hlt2 hi)
       generalize hx : m[j] = x at c0 c1 c2 c3 c4 hi
       obtain ⟨key,kind,i,s,ver⟩ := x
       have HX := zCC hx;clear hx hcell2
       go_wp2_with (go_at_call 60;refine (z7s key kind i s ver _ (HSg.out.below (hbW.trans ((gr1 _ _).mono hbW.size)))).mono ?_;rintro e w5 ⟨rfl,hb⟩;obtain ⟨hc,hf⟩ := z5a hb)
       go_ret2
       rw [HFin.out,HE.out]
       exact ⟨none,0,rfl,World.ownsRow_nil _ _ _ _,hbW.trans (((gr1 _ _).mono hbW.size).trans (hb.mono (by simp;have := hbW.size;omega)))⟩
      |true =>
       have HN := zCC (zfM (p := fun x=>z2S x = true) hlt2 HA.out hi)
       generalize hx : m[j] = x at c0 c1 c2 c3 c4 hi
       obtain ⟨key,kind,i,s,ver⟩ := x
       have HX := zCC hx;clear hx hcell2
       go_wp2_with (go_at_call 60;refine (z7s key kind i s ver _ (HSg.out.below (hbW.trans ((gr1 _ _).mono hbW.size)))).mono ?_;rintro e w5 ⟨rfl,hb⟩;obtain ⟨hc,hf⟩ := z5a hb)
       clear hc hf
       exact ⟨⟨j + 1,by omega,by go_num,HN.out,hb4.trans (((gr1 _ _).mono hb4.size).trans (hb.mono (by simp;have := hb4.size;omega)))⟩,by simp [intOf];omega⟩
     ·have hje : j = m.length := by omega
      have hlt2' : ¬ (j : Int) < m.length := by omega
      have HI := zCC (show ∀ x ∈ m,z2S x = true from by have := HA.out;rwa [hje,List.take_length] at this)
      clear hje
      have HFs4 := zCC (HFs.out.below hb4)
      go_wp2_with fail
      go_loopw [51] (fun i w5=>∃ q : Nat,q ≤ m.length ∧ i = .int .i64 q ∧ (∀ i (h : i + 1 < m.length),i + 1 < q → less m[i].key m[i + 1].key = true) ∧ Below w4.heap.size w4 w5) (fun i _=>m.length - (intOf i).toNat)
      case atStart=>exact ⟨0,Nat.zero_le _,rfl,fun _ _ h=>absurd h (by omega),Below.refl _ _⟩
      case round =>
       rename World=>w5
       obtain ⟨q,hq,rfl,hris,hb5⟩ := hrel
       have HRi := zCC hris;clear hris
       have hbV : Below w.heap.size w w5 := hbW.trans (hb5.mono hbW.size)
       by_cases hlt3 : q < m.length
       ·have hlt3' : (q : Int) < m.length := by omega
        by_cases hq0 : 0 < q
        ·have hq0' : (0 : Int) < q := by omega
         obtain ⟨b3,off3,rfl,hbl3,hcell3⟩ := HFs4.out.cell (fun _=>rfl) (by omega)
         obtain ⟨c0,c1,c2,c3,c4⟩ := zEz hcell3 hb5 hbl3 hlt3
         obtain ⟨d0,d1,d2,d3,d4⟩ := zEz hcell3 hb5 hbl3 (k := q - 1) (by omega)
         have kiy := fun w=>z5K Tryd.underlying22 z4D b3 off3 m.length co q hlt3 (q : Int) rfl w
         have kix := fun w=>z5K Tryd.underlying22 z4D b3 off3 m.length co (q - 1) (by omega) ((q : Int) - 1) (by omega) w
         clear c1 c2 c3 c4 d1 d2 d3 d4 hcell3
         cases hp : less (m[q - 1]'(by omega)).key m[q].key with
         |false =>
          have HE := zCC (zos (l := l) (p := p) HI.out q hq0 hlt3 hp)
          generalize m[q - 1].key = pkey at d0 hp
          generalize m[q].key = key at c0 hp
          have hle : (Op.bytesLess key pkey || key == pkey) = !less pkey key := z8B key pkey
          rw [hp] at hle
          go_wp2_with fail
          have ka : IntKind.i64.wrap ((q : Int) - 1) = (q : Int) - 1 := IntWalk.i64_in _ (by omega)
          go_quiet (fail)
          clear ka
          go_wp2_with fail
          go_ret2
          rw [HFin.out,HE.out]
          exact ⟨none,0,rfl,World.ownsRow_nil _ _ _ _,z0F hbV _⟩
         |true =>
          have HN := zCC (ztn hq0 hlt3 hp HRi.out)
          generalize m[q - 1].key = pkey at d0 hp
          generalize m[q].key = key at c0 hp
          have hle : (Op.bytesLess key pkey || key == pkey) = !less pkey key := z8B key pkey
          rw [hp] at hle
          go_wp2_with fail
          have ka : IntKind.i64.wrap ((q : Int) - 1) = (q : Int) - 1 := IntWalk.i64_in _ (by omega)
          go_quiet (fail)
          clear ka
          go_wp2_with fail
          exact ⟨⟨q + 1,by omega,by go_num,HN.out,z0F hb5 _⟩,by simp [intOf];omega⟩
        ·have hq0' : ¬ (0 : Int) < q := by omega
         have HN := zCC (show ∀ i (h : i + 1 < m.length),i + 1 < q + 1 → less m[i].key m[i + 1].key = true from fun _ _ h=>absurd h (by omega))
         go_wp2_with fail
         go_quiet (fail)
         go_wp2_with fail
         exact ⟨⟨q + 1,by omega,by go_num,HN.out,z0F hb5 _⟩,by simp [intOf];omega⟩
       ·have hqe : q = m.length := by omega
        have hlt3' : ¬ (q : Int) < m.length := by omega
        have HRs := zCC (show znC m from fun i h=>HRi.out i h (by omega))
        clear hqe
        by_cases hm0 : m.length = 0
        ·have HE := zCC ((zb9 (l := l) (p := p) HI.out HRs.out).1 (.inl hm0))
         have hm0' : ((m.length : Int) == 0) = true := by rw [hm0];rfl
         go_wp2_with fail
         go_ret2
         rw [HFin.out,HE.out]
         exact ⟨none,0,rfl,World.ownsRow_nil _ _ _ _,hbV⟩
        ·have hm0' : ((m.length : Int) == 0) = false := by rw [beq_eq_false_iff_ne];omega
         by_cases hm8 : 8 < m.length
         ·have HE := zCC ((zb9 (l := l) (p := p) HI.out HRs.out).1 (.inr hm8))
          have hm8' : (8 : Int) < m.length := by omega
          go_wp2_with fail
          go_ret2
          rw [HFin.out,HE.out]
          exact ⟨none,0,rfl,World.ownsRow_nil _ _ _ _,hbV⟩
         ·have hm8' : ¬ (8 : Int) < m.length := by omega
          have hno : ¬ (m.length = 0 ∨ 8 < m.length) := by omega
          by_cases hpe : p < l.length
          ·have HE := zCC ((zb9 (l := l) (p := p) HI.out HRs.out).2.1 hno hpe)
           have hpe' : (0 : Int) < ((l.length - p : Nat) : Int) := by omega
           clear hno
           go_wp2_with fail
           go_ret2
           rw [HFin.out,HE.out]
           exact ⟨none,0,rfl,World.ownsRow_nil _ _ _ _,hbV⟩
          ·have HE := zCC ((zb9 (l := l) (p := p) HI.out HRs.out).2.2 hno hpe)
           have hpe' : ¬ (0 : Int) < ((l.length - p : Nat) : Int) := by omega
           clear hno
           go_wp2_with fail
           go_ret2
           rw [HFin.out,HE.out]
           exact ⟨Ao,co,rfl,z1c HO.out (hb4.trans (hb5.mono hb4.size)),hbV⟩
end Go.Proofs.YtaplemeamcgpkaaDoor

namespace Go.Proofs.YtaplemeamcgpkaaDoor
open Go.RowKit
attribute [local go_sem ↓] Go.wp_at_zero Go.wp_at_succ
def Bss (w : World) (A : Option Addr) (cs : List z0f) : Prop :=
 ∃ vs,Rd w A 1 cs.length vs ∧ ∀ i (h : i < cs.length),∃ Ai ci,vs[i]? = some (.slice Ai cs[i].length ci) ∧ Bs w Ai cs[i] ∧ cs[i].length ≤ ci ∧ ci ≤ maxLen
theorem Bss.below {w w' : World} {A : Option Addr} {cs : List z0f} (h : Bss w A cs) (hb : Below w.heap.size w w') : Bss w' A cs := by
 obtain ⟨vs,hr,hv⟩ := h
 exact ⟨vs,hr.below hb,fun i hi=>by obtain ⟨Ai,ci,h1,h2,h3,h4⟩ := hv i hi;exact ⟨Ai,ci,h1,h2.below hb,h3,h4⟩⟩
theorem Bss.cell {w : World} {A : Option Addr} {cs : List z0f} (h : Bss w A cs) (hn : 0 < cs.length) :
  ∃ b off,A = some ⟨b,off,none⟩ ∧ b < w.heap.size ∧ ∀ i (hi : i < cs.length),∃ Ai ci,w.cell? ⟨b,off + i,none⟩ = some (.slice Ai cs[i].length ci) ∧ Bs w Ai cs[i] ∧ cs[i].length ≤ ci ∧ ci ≤ maxLen := by
 obtain ⟨vs,hr,hv⟩ := h
 obtain ⟨b,off,e,hb,hc⟩ := hr.2 hn
 exact ⟨b,off,e,hb,fun i hi=>by obtain ⟨Ai,ci,h1,h2,h3,h4⟩ := hv i hi;exact ⟨Ai,ci,hc i _ h1,h2,h3,h4⟩⟩
def zEi (cutF : z0f → List Item × Nat) (n : Nat) : Nat → List z0f → List Item → Int → List Item × Nat × Nat
 |_,[],out,short=>if 0 ≤ short then ([],3,short.toNat) else if (chk out).1 ≠ 0 then ([],(chk out).1,n) else (out,0,0)
 |k,c :: cs,out,short=>if (cutF c).2 ≠ 0 then ([],(cutF c).2,k) else zEi cutF n (k + 1) cs (out ++ (cutF c).1) (if (cutF c).1.length < 8 ∧ k + 1 < n ∧ short < 0 then (k : Int) else short)
def ofP (cutF : z0f → List Item × Nat) (cs : List z0f) : List Item × Nat × Nat := zEi cutF cs.length 0 cs [] (-1)
section
variable {cutF : z0f → List Item × Nat} {n k : Nat} {cs : List z0f} {out L : List Item} {short : Int} {e : Nat}
theorem zr0 (hk : k < cs.length) (hc : cutF cs[k] = (L,e)) (he : e ≠ 0) : zEi cutF n k (cs.drop k) out short = ([],e,k) := by
 rw [List.drop_eq_getElem_cons hk];unfold zEi;rw [hc];rw [if_pos he]
theorem zsx (hk : k < cs.length) (hc : cutF cs[k] = (L,0)) (h : L.length < 8 ∧ k + 1 < n ∧ short < 0) : zEi cutF n k (cs.drop k) out short = zEi cutF n (k + 1) (cs.drop (k + 1)) (out ++ L) k := by
 rw [List.drop_eq_getElem_cons hk];conv=>lhs;unfold zEi
 rw [hc];rw [if_neg (by simp),if_pos h]
theorem zgs (hk : k < cs.length) (hc : cutF cs[k] = (L,0)) (h : ¬ (L.length < 8 ∧ k + 1 < n ∧ short < 0)) : zEi cutF n k (cs.drop k) out short = zEi cutF n (k + 1) (cs.drop (k + 1)) (out ++ L) short := by
 rw [List.drop_eq_getElem_cons hk];conv=>lhs;unfold zEi
 rw [hc];rw [if_neg (by simp),if_neg h]
theorem zkq (h : 0 ≤ short) : zEi cutF n k [] out short = ([],3,short.toNat) := by unfold zEi;rw [if_pos h]
theorem zsd (h : ¬ 0 ≤ short) (he : (chk out).1 ≠ 0) : zEi cutF n k [] out short = ([],(chk out).1,n) := by unfold zEi;rw [if_neg h,if_pos he]
theorem zqe (h : ¬ 0 ≤ short) (he : (chk out).1 = 0) : zEi cutF n k [] out short = (out,0,0) := by unfold zEi;rw [if_neg h,if_neg (by simpa using he)]
end
theorem zqC (l : z0f) (s : List Item × Nat × Nat) : (zEr l s).1.length ≤ 8 := by
 unfold zEr
 repeat' split
 all_goals first|simp;done|(simp only;omega)
theorem zsl (l : z0f) : (cutL l).1.length ≤ 8 := by
 cases l with
 |nil=>simp [cutL]
 |cons t r=>exact zqC _ _
def zzx (w : World) (r : List Item × Nat × Nat) (e : Ending) (w' : World) : Prop :=
 ∃ A cap,e = .returned (.tuple #[.slice A r.1.length cap, .int .i64 r.2.1, .int .i64 r.2.2]) ∧ w'.ownsRow w.heap.size 79 5 (.slice A r.1.length cap) r.1.length (r.1.flatMap Item.cells) ∧ Below w.heap.size w w'
set_option maxHeartbeats 8000000 in
theorem ztl (A : Option Addr) (cs : List z0f) (c : Nat) (w : World) (hS : Sig w) (hF : Bss w A cs) (hn : cs.length ≤ 4294967295) (hl : ∀ x ∈ cs,x.length ≤ 34359738368) :
  Calls Tryd.prog 51 #[.slice A cs.length c] w (zzx w (ofP cutL cs)) := by
 have HF := zCC hF;have HSg := zCC hS;have HL := zCC hl
 clear hF hS hl
 go_enter Tryd.func51,Tryd.ntmps51
 go_wp2_with fail
 go_loopw [5,6,15] (fun o sh i wr=>∃ (k : Nat) (out : List Item) (Ao : Option Addr) (co : Nat) (short : Int),i = .int .i64 k ∧ k ≤ cs.length ∧ o = .slice Ao out.length co ∧ sh = .int .i64 short ∧ -1 ≤ short ∧ short ≤ 4294967295 ∧ out.length ≤ 8 * k ∧ zEi cutL cs.length k (cs.drop k) out short = ofP cutL cs ∧ wr.ownsRow w.heap.size 79 5 (.slice Ao out.length co) out.length (out.flatMap Item.cells) ∧ Below w.heap.size w wr) (fun _ _ i _=>cs.length - (intOf i).toNat)
 case atStart=>exact ⟨0,[],none,0,-1,rfl,Nat.zero_le _,rfl,rfl,by omega,by omega,Nat.zero_le _,rfl,World.ownsRow_nil _ _ _ _,Below.refl _ _⟩
 case round =>
  obtain ⟨k,out,Ao,co,short,rfl,hk,rfl,rfl,hs1,hs2,ho8,hof,hown,hbel⟩ := hrel
  have HO := zCC hown;have HOF := zCC hof
  clear hown hof
  by_cases hlt : k < cs.length
  ·have hlt' : (k : Int) < cs.length := by omega
   obtain ⟨b,off,rfl,hbl,hcell⟩ := HF.out.cell (by omega)
   obtain ⟨Ai,ci,h1,h2,h3,h4⟩ := hcell k hlt
   have c0 : wr.cell? ⟨b,off + k,none⟩ = some (.slice Ai cs[k].length ci) := (hbel.cell (p := ⟨b,off + k,none⟩) hbl).trans h1
   have HC := zCC (show ∀ w',Below w.heap.size w w' → Calls Tryd.prog 69 #[.slice Ai cs[k].length ci] w' (zy2 w' (cutL cs[k])) from fun w' h=>zrP Ai cs[k] ci w' (HSg.out.below h) (h2.below h) (HL.out _ (List.getElem_mem hlt)) h3 h4)
   have hL8 := zsl cs[k]
   clear h1 h2 h3 h4 hcell
   obtain ⟨L,hL⟩ : ∃ L,L = (cutL cs[k]).1 := ⟨_,rfl⟩
   obtain ⟨e,he⟩ : ∃ e,e = (cutL cs[k]).2 := ⟨_,rfl⟩
   have hLe : cutL cs[k] = (L,e) := by rw [hL,he]
   rw [hLe] at HC hL8
   have HLE := zCC hLe
   clear hL he hLe
   simp only at hL8
   generalize cs[k].length = clen at c0 HC
   by_cases he0 : e = 0
   ·subst he0
    by_cases h8 : L.length < 8
    ·have h8' : (L.length : Int) < 8 := by omega
     by_cases hkn : k + 1 < cs.length
     ·have hkn' : (k : Int) < (cs.length : Int) - 1 := by omega
      by_cases hsh : short < 0
      ·have _x : True := trivial
       have HN := zCC ((zsx hlt HLE.out ⟨h8,hkn,hsh⟩).symm.trans HOF.out)
       go_wp2_with (first
        |(at_builtin;refine z0Q _ rfl (.tmp 44) (.tmp 45) _ rfl w w.heap.size 79 _ 5 56 Tryd.underlying22 z3K rfl (by omega) (by omega) _ out.length _ (by rfl) HO2.out HB2.out _ L.length _ _ (by rfl) HX.out (z5G _) (by omega) HB2.out.size ?_;intro A4 c4 w4 hown4 hb4)
        |(go_at_call 69;refine (HC.out _ hbel).mono ?_;rintro e w2 ⟨A2,c2,rfl,hown2,hb2⟩;have HX := zCC (Fs.of_own rfl hown2);have HB2 := zCC (hbel.trans (hb2.mono hbel.size));have HO2 := zCC (z1c HO.out hb2);clear hown2 hb2))
       refine ⟨⟨k + 1,out ++ L,A4,c4,(k : Int),by go_num,by omega,by rw [List.length_append],rfl,by omega,by omega,by rw [List.length_append];omega,HN.out,?_,hb4⟩,by simp [intOf];omega⟩
       rw [List.length_append,List.flatMap_append];exact hown4
      ·have _x : True := trivial
       have HN := zCC ((zgs hlt HLE.out (fun h=>hsh h.2.2)).symm.trans HOF.out)
       go_wp2_with (first
        |(at_builtin;refine z0Q _ rfl (.tmp 44) (.tmp 45) _ rfl w w.heap.size 79 _ 5 56 Tryd.underlying22 z3K rfl (by omega) (by omega) _ out.length _ (by rfl) HO2.out HB2.out _ L.length _ _ (by rfl) HX.out (z5G _) (by omega) HB2.out.size ?_;intro A4 c4 w4 hown4 hb4)
        |(go_at_call 69;refine (HC.out _ hbel).mono ?_;rintro e w2 ⟨A2,c2,rfl,hown2,hb2⟩;have HX := zCC (Fs.of_own rfl hown2);have HB2 := zCC (hbel.trans (hb2.mono hbel.size));have HO2 := zCC (z1c HO.out hb2);clear hown2 hb2))
       refine ⟨⟨k + 1,out ++ L,A4,c4,short,by go_num,by omega,by rw [List.length_append],rfl,by omega,by omega,by rw [List.length_append];omega,HN.out,?_,hb4⟩,by simp [intOf];omega⟩
       rw [List.length_append,List.flatMap_append];exact hown4
     ·have hkn' : ¬ (k : Int) < (cs.length : Int) - 1 := by omega
      have HN := zCC ((zgs hlt HLE.out (fun h=>hkn h.2.1)).symm.trans HOF.out)
      go_wp2_with (first
       |(at_builtin;refine z0Q _ rfl (.tmp 44) (.tmp 45) _ rfl w w.heap.size 79 _ 5 56 Tryd.underlying22 z3K rfl (by omega) (by omega) _ out.length _ (by rfl) HO2.out HB2.out _ L.length _ _ (by rfl) HX.out (z5G _) (by omega) HB2.out.size ?_;intro A4 c4 w4 hown4 hb4)
       |(go_at_call 69;refine (HC.out _ hbel).mono ?_;rintro e w2 ⟨A2,c2,rfl,hown2,hb2⟩;have HX := zCC (Fs.of_own rfl hown2);have HB2 := zCC (hbel.trans (hb2.mono hbel.size));have HO2 := zCC (z1c HO.out hb2);clear hown2 hb2))
      refine ⟨⟨k + 1,out ++ L,A4,c4,short,by go_num,by omega,by rw [List.length_append],rfl,by omega,by omega,by rw [List.length_append];omega,HN.out,?_,hb4⟩,by simp [intOf];omega⟩
      rw [List.length_append,List.flatMap_append];exact hown4
    ·have h8' : ¬ (L.length : Int) < 8 := by omega
     have HN := zCC ((zgs hlt HLE.out (fun h=>h8 h.1)).symm.trans HOF.out)
     go_wp2_with (first
      |(at_builtin;refine z0Q _ rfl (.tmp 44) (.tmp 45) _ rfl w w.heap.size 79 _ 5 56 Tryd.underlying22 z3K rfl (by omega) (by omega) _ out.length _ (by rfl) HO2.out HB2.out _ L.length _ _ (by rfl) HX.out (z5G _) (by omega) HB2.out.size ?_;intro A4 c4 w4 hown4 hb4)
      |(go_at_call 69;refine (HC.out _ hbel).mono ?_;rintro e w2 ⟨A2,c2,rfl,hown2,hb2⟩;have HX := zCC (Fs.of_own rfl hown2);have HB2 := zCC (hbel.trans (hb2.mono hbel.size));have HO2 := zCC (z1c HO.out hb2);clear hown2 hb2))
     refine ⟨⟨k + 1,out ++ L,A4,c4,short,by go_num,by omega,by rw [List.length_append],rfl,by omega,by omega,by rw [List.length_append];omega,HN.out,?_,hb4⟩,by simp [intOf];omega⟩
     rw [List.length_append,List.flatMap_append];exact hown4
   ·have he' : ((e : Int) != 0) = true := by rw [bne_iff_ne];omega
    have HF2 := zCC (HOF.out.symm.trans (zr0 hlt HLE.out he0))
    go_wp2_with (go_at_call 69;refine (HC.out _ hbel).mono ?_;rintro e w2 ⟨A2,c2,rfl,hown2,hb2⟩;have HX := zCC (Fs.of_own rfl hown2);have HB2 := zCC (hbel.trans (hb2.mono hbel.size));have HO2 := zCC (z1c HO.out hb2);clear hown2 hb2)
    go_ret3
    rw [HF2.out]
    exact ⟨none,0,rfl,World.ownsRow_nil _ _ _ _,HB2.out⟩
  ·have hke : k = cs.length := by omega
   have hlt' : ¬ (k : Int) < cs.length := by omega
   have HOE := zCC (show zEi cutL cs.length k [] out short = ofP cutL cs from by have := HOF.out;rwa [List.drop_of_length_le (by omega)] at this)
   by_cases hsh : 0 ≤ short
   ·have HF2 := zCC (HOE.out.symm.trans (zkq hsh))
    have hsn : ((short.toNat : Nat) : Int) = short := by omega
    clear hke
    go_wp2_with fail
    go_ret3
    rw [HF2.out]
    exact ⟨none,0,by simp only [hsn];rfl,World.ownsRow_nil _ _ _ _,hbel⟩
   ·have HFo := zCC (show Fs Item.cells 5 wr Ao out from Fs.of_own rfl HO.out)
    have HCK := zCC (zdz Ao out co wr (HSg.out.below hbel) HFo.out (by omega))
    clear hke
    by_cases hce : (chk out).1 = 0
    ·have HF2 := zCC (HOE.out.symm.trans (zqe hsh hce))
     have hce' : (((chk out).1 : Int) != 0) = false := by rw [hce];rfl
     clear hce
     go_wp2_with (go_at_call 41;refine HCK.out.mono ?_;rintro e w2 ⟨rfl,hb2⟩)
     go_ret3
     rw [HF2.out]
     exact ⟨Ao,co,rfl,z1c HO.out hb2,hbel.trans (hb2.mono hbel.size)⟩
    ·have HF2 := zCC (HOE.out.symm.trans (zsd hsh hce))
     have hce' : (((chk out).1 : Int) != 0) = true := by rw [bne_iff_ne];omega
     clear hce
     go_wp2_with (go_at_call 41;refine HCK.out.mono ?_;rintro e w2 ⟨rfl,hb2⟩)
     go_ret3
     rw [HF2.out]
     exact ⟨none,0,rfl,World.ownsRow_nil _ _ _ _,hbel.trans (hb2.mono hbel.size)⟩
end Go.Proofs.YtaplemeamcgpkaaDoor

namespace Go.Proofs.YtaplemeamcgpkaaDoor
open Go.RowKit
def bbC (cs : List z0f) : List AV := cs.map fun c=>SL (bC c)
theorem ztb {a b : List z0f} (h : bbC a = bbC b) : a = b := (List.map_inj_right (fun x y e=>by injection e with e _;exact zyM e)).1 h
section
variable {P : Program} {G : Gl}
theorem acp_of2 {f : FuncId} {args : List AV} {X : AV} (hc : z5e    P f = true)
    (h : ∀ w S (vs : List Value), Rel w S [] [] → GOk G S → vs.length = args.length → (∀ (j : Nat) (d : AV) (v : Value), args[j]? = some d → vs[j]? = some v → rep S [] d v) →
      Calls P f vs.toArray w fun e w' => ∃ v, e = .returned v ∧ Below w.heap.size w w' ∧ ∃ N : SS, (∀ b j d, N b j d → w.heap.size ≤ b ∧ ∃ u, w'.cell? ⟨b, j, none⟩ = some u ∧ u.oneCell' = true ∧ rep1 (fun b j d => S b j d ∨ N b j d) [] d u) ∧ rep (fun b j d => S b j d ∨ N b j d) [] X v) : ACp P G f args X := by
  refine ⟨hc, fun w S μ vs hr hg hl hv => ?_⟩
  have hμ : μ = [] := List.eq_nil_of_length_eq_zero hr.len
  subst hμ
  refine (h w S vs hr hg hl hv).mono ?_
  rintro e w' ⟨v, rfl, hb, N, hN, hrep⟩
  obtain ⟨h1, h2⟩ := hr.grow (S' := fun b j d => S b j d ∨ N b j d) hb (fun _ _ _ q => .inl q) (fun b j d q => q.imp id fun k => (hN b j d k).1) (fun b j d q hb' => by
    rcases q with q | q
    · have := hr.still_lt q; omega
    · obtain ⟨_, u, h3, h4, h5⟩ := hN b j d q
      exact ⟨u, h3, h4, h5⟩)
  exact ⟨v, X, [], _, [], rfl, ⟨rfl, rfl⟩, h1, hrep, h2⟩
end
section
variable {w w' : World} {S : SS}
theorem zpt {base t n c : Nat} {A : Option Addr} {l : List Value} (h : w.ownsRow base t 1 (.slice A n c) n l) (hn : 0 < n) : ∃ b off,A = some ⟨b,off,none⟩ ∧ base ≤ b ∧ ∀ j u,l[j]? = some u → w.cell? ⟨b,off + j,none⟩ = some u := by
 obtain ⟨b,off,rfl,_,hc⟩ := (Rd.of_own h).2 hn
 refine ⟨b,off,rfl,?_,hc⟩
 rcases h.2 with ⟨q,_⟩|⟨g,cap',cur,q,q2,_⟩
 ·cases q
 ·injection q with q3;injection q3 with q3;injection q3 with q3;omega
theorem zz2 {base t c : Nat} {A : Option Addr} {l : z0f} (h : w.ownsRow base t 1 (.slice A l.length c) l.length (l.map cB)) (hS : ∀ b j u,base ≤ b → w.cell? ⟨b,j,none⟩ = some (cB u) → S b j (V (cB u))) : rep1 S [] (SL (bC l)) (.slice A l.length c) := by
 obtain ⟨A',c',e,h1,h2⟩ := ziN h
 injection e with e1 e2 e3
 subst e1 e3
 refine ⟨A,c,by rw [zhm],by rw [zhm];exact h1,h2,fun hn=>?_⟩
 have hn' : 0 < l.length := by
  rcases Nat.eq_zero_or_pos l.length with h0|h0
  ·exact absurd (by rw [List.eq_nil_of_length_eq_zero h0];rfl) hn
  ·exact h0
 obtain ⟨b,off,rfl,hb,hc⟩ := zpt h hn'
 refine ⟨b,off,1,rfl,fun i d hd=>?_⟩
 unfold bC at hd
 rw [List.getElem?_map] at hd
 obtain ⟨x,hx,rfl⟩ := Option.map_eq_some_iff.1 hd
 refine ⟨rfl,fun j y hy=>?_⟩
 match j,hy with
 |0,hy =>
  cases hy
  rw [Nat.mul_one,Nat.add_zero]
  exact hS _ _ _ hb (hc i (cB x) (by rw [List.getElem?_map,hx];rfl))
theorem zvd {base : Nat} {cs : List z0f} {A : Option Addr} {c : Nat} {vs : List Value} (h : w'.ownsRow base 89 1 (.slice A cs.length c) cs.length vs) (ha : OwnAll w' base vs cs) :
  ∃ N : SS,(∀ b j d,N b j d → base ≤ b ∧ ∃ u,w'.cell? ⟨b,j,none⟩ = some u ∧ u.oneCell' = true ∧ rep1 (fun b j d=>S b j d ∨ N b j d) [] d u) ∧ rep (fun b j d=>S b j d ∨ N b j d) [] (SL (bbC cs)) (.slice A cs.length c) := by
 obtain ⟨A',c',e,h1,h2⟩ := ziN h
 injection e with e1 e2 e3
 subst e1 e3
 let N : SS := fun b j d=>base ≤ b ∧ ∃ u,w'.cell? ⟨b,j,none⟩ = some u ∧ ((∃ x,u = cB x ∧ d = V (cB x)) ∨ ∃ i,∃ hi : i < cs.length,d = SL (bC cs[i]) ∧ vs[i]? = some u)
 refine ⟨N,fun b j d hN=>?_,?_⟩
 ·obtain ⟨hb,u,hc,hd⟩ := hN
  refine ⟨hb,u,hc,?_⟩
  rcases hd with ⟨x,rfl,rfl⟩|⟨i,hi,rfl,hv⟩
  ·exact ⟨rfl,rfl,rfl⟩
  ·obtain ⟨Ai,ci,hvi,hoi⟩ := ha.2 i hi
   rw [hv] at hvi
   cases hvi
   exact ⟨rfl,zz2 hoi fun b j x hb hc=>.inr ⟨hb,_,hc, .inl ⟨x,rfl,rfl⟩⟩⟩
 ·refine ⟨A,c,by simp [bbC],by simpa [bbC] using h1,h2,fun hn=>?_⟩
  have hn' : 0 < cs.length := by
   rcases Nat.eq_zero_or_pos cs.length with h0|h0
   ·exact absurd (by rw [List.eq_nil_of_length_eq_zero h0];rfl) hn
   ·exact h0
  obtain ⟨b,off,rfl,hb,hc⟩ := zpt h hn'
  refine ⟨b,off,1,rfl,fun i d hd=>?_⟩
  unfold bbC at hd
  rw [List.getElem?_map] at hd
  obtain ⟨x,hx,rfl⟩ := Option.map_eq_some_iff.1 hd
  obtain ⟨hi,rfl⟩ := List.getElem?_eq_some_iff.1 hx
  refine ⟨rfl,fun j y hy=>?_⟩
  match j,hy with
  |0,hy =>
   cases hy
   rw [Nat.mul_one,Nat.add_zero]
   obtain ⟨Ai,ci,hvi,_⟩ := ha.2 i hi
   exact .inr ⟨hb,_,hc i _ hvi, .inr ⟨i,hi,rfl,hvi⟩⟩
theorem zzt {cs : List z0f} (hr : Rel w S [] []) {v : Value} (h : rep S [] (SL (bbC cs)) v) : ∃ A c,v = .slice A cs.length c ∧ Bss w A cs := by
 obtain ⟨A,c,rfl,h1,h2,h3⟩ := h
 have hl : (bbC cs).length = cs.length := by simp [bbC]
 rw [hl] at h1 ⊢
 refine ⟨A,c,rfl,?_⟩
 rcases Nat.eq_zero_or_pos cs.length with h0|hn
 ·exact ⟨[],⟨by simp [h0],fun h=>by omega⟩,fun i hi=>by omega⟩
 obtain ⟨b,o,z,rfl,hin⟩ := h3 (by intro e;have := congrArg List.length e;rw [hl] at this;simp at this;simp [this] at hn)
 have hz : z = 1 := by
  have hh : (bbC cs)[0]? = some (SL (bC cs[0])) := by simp [bbC,List.getElem?_eq_getElem hn]
  exact ((hin 0 _ hh).1).symm
 subst hz
 have hcell : ∀ i (hi : i < cs.length),S b (o + i) (SL (bC cs[i])) := fun i hi=>by
  have := (hin i (SL (bC cs[i])) (by simp [bbC,List.getElem?_eq_getElem hi])).2 0 (SL (bC cs[i])) rfl
  simpa using this
 have hu : ∀ i (hi : i < cs.length),∃ u,w.cell? ⟨b,o + i,none⟩ = some u ∧ rep1 S [] (SL (bC cs[i])) u := fun i hi=>by
  obtain ⟨u',h4,_,h5⟩ := hr.still _ _ _ (hcell i hi)
  exact ⟨u',h4,h5⟩
 refine ⟨(List.range cs.length).map fun i=>(w.cell? ⟨b,o + i,none⟩).getD undef,⟨by simp,fun _=>⟨b,o,rfl,hr.still_lt (hcell 0 hn),fun j u hj=>?_⟩⟩,fun i hi=>?_⟩
 ·rw [List.getElem?_map] at hj
  obtain ⟨x,hx,rfl⟩ := Option.map_eq_some_iff.1 hj
  obtain ⟨hjl,rfl⟩ := List.getElem?_eq_some_iff.1 hx
  rw [List.getElem_range]
  rw [List.length_range] at hjl
  obtain ⟨u,h4,_⟩ := hu j hjl
  rw [h4];rfl
 ·obtain ⟨u,h4,h5⟩ := hu i hi
  obtain ⟨Ai,ci,rfl,h6,h7,h8⟩ := zBH hr (show rep S [] (SL (bC cs[i])) u from h5)
  refine ⟨Ai,ci,?_,h8,h6,h7⟩
  rw [List.getElem?_map,List.getElem?_range hi]
  simp [h4]
end
theorem zo2 (l : List Item) (hnum : ∀ x ∈ l,z3i x) (hl : l.length ≤ 1000000) : ACp Tryd.prog GG 31 [lA l] (SL (bbC (z1X l))) := by
 refine acp_of2 (by kernel_rfl) fun w S vs hr hg hlen hv=>?_
 rcases vs with _|⟨v1,_|⟨_,_⟩⟩ <;> simp at hlen
 obtain ⟨A1,c1,rfl,hc1,hm1,hF1⟩ := zpC z6y (by omega) hr (hv 0 _ v1 rfl rfl)
 refine (zkW A1 l c1 w (sigGG.at hr hg) hF1 hnum hc1 hm1 hl).mono ?_
 rintro e w' ⟨A,cap,vs,rfl,ho,ha,hb⟩
 obtain ⟨N,h1,h2⟩ := zvd (S := S) ho ha
 exact ⟨_,rfl,hb,N,h1,h2⟩
theorem zCk (cs : List z0f) (hn : cs.length ≤ 4294967295) (hl : ∀ x ∈ cs,x.length ≤ 34359738368) : ACp Tryd.prog GG 51 [SL (bbC cs)] (TU [lA (ofP cutL cs).1,nA (ofP cutL cs).2.1,nA (ofP cutL cs).2.2]) := by
 refine acp_of (by kernel_rfl) fun w S vs hr hg hlen hv=>?_
 rcases vs with _|⟨v1,_|⟨_,_⟩⟩ <;> simp at hlen
 obtain ⟨A1,c1,rfl,hF1⟩ := zzt hr (hv 0 _ v1 rfl rfl)
 refine (ztl A1 cs c1 w (sigGG.at hr hg) hF1 hn hl).mono ?_
 rintro e w' ⟨A,cap,rfl,ho,hb⟩
 obtain ⟨N,h1,h2⟩ := zli z6y zmB ho S
 refine ⟨_,rfl,hb,N,h1,[_,_,_],rfl,rfl,fun j d x hd hx=>?_⟩
 match j,hd,hx with
 |0,hd,hx=>simp at hd hx;subst hd hx;exact h2
 |1,hd,hx=>simp at hd hx;subst hd hx;exact ⟨rfl,rfl⟩
 |2,hd,hx=>simp at hd hx;subst hd hx;exact ⟨rfl,rfl⟩
def z2k (_ : Nat) : List AV → RO := zDW (ι := List Item) (fun l=>[lA l]) (fun l=>SL (bbC (z1X l))) (fun l=>(∀ x ∈ l,z3i x) ∧ l.length ≤ 1000000)
theorem z8z (m : Nat) : ∀ args X H',z2k m args = some (X,H') → ACp Tryd.prog GG 31 args X := z3B fun l h=>zo2 l h.1 h.2
theorem za1 (m : Nat) (l : List Item) (h1 : ∀ x ∈ l,z3i x) (h2 : l.length ≤ 1000000) : z2k m [lA l] = some (SL (bbC (z1X l)),[]) := z3A (fun a b e=>by
 injection e with e _
 rw [zgG e]) ⟨h1,h2⟩
def zaZ (_ : Nat) : List AV → RO := zDW (ι := List z0f) (fun cs=>[SL (bbC cs)]) (fun cs=>TU [lA (ofP cutL cs).1,nA (ofP cutL cs).2.1,nA (ofP cutL cs).2.2]) (fun cs=>cs.length ≤ 4294967295 ∧ ∀ x ∈ cs,x.length ≤ 34359738368)
theorem zk3 (m : Nat) : ∀ args X H',zaZ m args = some (X,H') → ACp Tryd.prog GG 51 args X := z3B fun cs h=>zCk cs h.1 h.2
theorem zmC (m : Nat) (cs : List z0f) (h1 : cs.length ≤ 4294967295) (h2 : ∀ x ∈ cs,x.length ≤ 34359738368) : zaZ m [SL (bbC cs)] = some (TU [lA (ofP cutL cs).1,nA (ofP cutL cs).2.1,nA (ofP cutL cs).2.2],[]) := z3A (fun a b e=>by
 injection e with e _
 injection e with e _
 rw [ztb e]) ⟨h1,h2⟩
end Go.Proofs.YtaplemeamcgpkaaDoor

namespace Go.Proofs.YtaplemeamcgpkaaDoor
open Go.RowKit
def z1b : TypeId := 9
def z13 : TypeId := 82
def zaa : List AV := [(V (.map none)),(V (.slice none 0 0))]
def z9R : List (Nat × Nat) := [(0,1),(1,1)]
def z8o : Code := (Tryd.f8.body).getD .skip
def term_New_h : Hint := (.two .n (.gh (0,1,z1b,1) [0] .n .n))
def z7W (m : Nat) : Env := []
abbrev zbB (n0 : Nat) : KO (AV × List AObj) := znX Tryd.prog n0 [.tmp 0]
def zcz (m : Nat) (n0k : Nat) (s : ASt) : RO := z3n Tryd.prog GG (z7W m) m ⟨4,[]⟩ (cdR (cdR z8o)) term_New_h.r.r s (zbB n0k)
def z7K (m : Nat) (H : List AObj) : RO := zF9 Tryd.prog GG (z7W m) m ⟨4,[]⟩ z8o term_New_h ⟨H,z2t 0 []⟩ (zbB H.length)
theorem zdY (m : Nat) (n0k : Nat) (H : List AObj) (t0 : AV) : zcz m n0k ⟨H,[(0,t0)]⟩ =
 zvK H (ro H t0) := by
 refine (z0o _ _ _ _ _ _ _ _ _).trans ?_
 kernel_rfl
theorem zjv (m : Nat) (H : List AObj) : z7K m H =
 zpo (zFr Tryd.prog 80) H fun t1 H2 =>
 z0X (some z9R) (some zaa) [(0,t1)] fun t2 =>
 zE6 z13 H2 t2 fun t3 H3 =>
 zcz m H.length (ghS 0 1 z1b 1 ⟨H3,[(0,t3)]⟩) := by
 refine (zCg Tryd.prog GG (z7W m) m ⟨4,[]⟩ H.length z8o term_New_h ⟨H,z2t 0 []⟩ [.tmp 0]).trans ?_
 kernel_rfl
def z8r (m : Nat) : List AV → List AObj → RO|[],H=>z7K m H|_,_=>none
theorem zcP (m : Nat) : ∀ args H X H',z8r m args H = some (X,H') → AC Tryd.prog GG 8 args H (Is X H') := by
 intro args H X H' h
 unfold z8r at h
 split at h
 ·exact ztZ (n := H.length) MIX (by intro f e h;cases h) (f := 8) (c := z8o) Tryd.func8 rfl (by kernel_rfl) _ rfl Tryd.ntmps8 (Nat.le_of_ble_eq_true rfl) term_New_h h
 ·cases h
def z4V : Code := (Tryd.f47.body).getD .skip
def z4P : Hint := (.two .n (.two (.two .n (.two .n (.two (.two .n .n) .n))) (.two (.two .n (.two (.two .n .n) .n)) (.two .n (.two .n (.two .n .n))))))
def z63 (m : Nat) : Env := []
abbrev zaH (n0 : Nat) : KO (AV × List AObj) := zbr Tryd.prog n0 [.tmp 4, .tmp 5]
def z3d (m : Nat) (t0 t1 : AV) (H : List AObj) : RO := zF9 Tryd.prog GG (z63 m) m ⟨50,[]⟩ z4V z4P ⟨H,z2t 0 [t0,t1]⟩ (zaH H.length)
theorem zc1 (m : Nat) (t0 t1 : AV) (H : List AObj) : z3d m t0 t1 H =
 zEC t0 fun t10 =>
 z0b (some (0,1)) t10 fun t11 =>
 z0l 1 H t11 fun t12 =>
 zqg Tryd.prog 80 H t12 t1 true fun t14 =>
 zEN t14 0 fun t15 =>
 zEN t14 1 fun t16 =>
 z0U t16 (
  z84 H.length H (ro H (TU [noT t15,noT (V (.int .i64 0))]))) (
  zEC t0 fun t20 =>
  z0b (some (1,1)) t20 fun t21 =>
  z0l 1 H t21 fun t22 =>
  zEU false true H t22 fun t23 =>
  zED none false false .geq t23 (V (.int .i64 65536)) fun t24 =>
  z0U t24 (
   z84 H.length H (ro H (TU [noT (V (.int .i64 0)),noT (V (.int .i64 5))]))) (
   zEC t0 fun t27 =>
   z0b (some (1,1)) t27 fun t28 =>
   z0l 1 H t28 fun t29 =>
   z3z (some (z1b,1)) 1 [(0,t1)] fun t31 =>
   zF4 (some (z1b,1)) H t29 t31 fun t32 H2 =>
   zEC t0 fun t33 =>
   z0b (some (1,1)) t33 fun t34 =>
   z0s 1 H2 t34 t32 fun H3 =>
   zEC t0 fun t36 =>
   z0b (some (0,1)) t36 fun t37 =>
   z0l 1 H3 t37 fun t38 =>
   zEC t0 fun t41 =>
   z0b (some (1,1)) t41 fun t42 =>
   z0l 1 H3 t42 fun t43 =>
   zEU false true H3 t43 fun t44 =>
   zpD Tryd.prog 80 H3 t38 t1 t44 fun H4 =>
   zEC t0 fun t46 =>
   z0b (some (1,1)) t46 fun t47 =>
   z0l 1 H4 t47 fun t48 =>
   zEU false true H4 t48 fun t49 =>
   z84 H.length H4 (ro H4 (TU [noT t49,noT (V (.int .i64 0))])))) := by
 refine (zsU Tryd.prog GG (z63 m) m ⟨50,[]⟩ H.length z4V z4P ⟨H,z2t 0 [t0,t1]⟩ [.tmp 4, .tmp 5]).trans ?_
 kernel_rfl
def z2X (m : Nat) : List AV → List AObj → RO|[t0,t1],H=>z3d m t0 t1 H|_,_=>none
theorem z73 (m : Nat) : ∀ args H X H',z2X m args H = some (X,H') → AC Tryd.prog GG 47 args H (Is X H') := by
 intro args H X H' h
 unfold z2X at h
 split at h
 ·exact z7O MIX (by intro f e h;cases h) (f := 47) (c := z4V) Tryd.func47 rfl (by kernel_rfl) _ rfl Tryd.ntmps47 (Nat.le_of_ble_eq_true rfl) z4P h
 ·cases h
def z3x : Code := (Tryd.f30.body).getD .skip
def z3v : Hint := (.two .n (.two .n .n))
def z2F (m : Nat) : Env := [(48, .tell (z4z m)),(47, .keep (z2X m))]
abbrev z8a (n0 : Nat) : KO (AV × List AObj) := zbr Tryd.prog n0 [.tmp 4, .tmp 5]
def z26 (m : Nat) (t0 t1 : AV) (H : List AObj) : RO := zF9 Tryd.prog GG (z2F m) m ⟨12,[]⟩ z3x z3v ⟨H,z2t 0 [t0,t1]⟩ (z8a H.length)
theorem z93 (m : Nat) (t0 t1 : AV) (H : List AObj) : z26 m t0 t1 H =
 z3o (z4z m [(ro H t1)]) [(ro H t1)] fun t8 =>
 zaG (z3d m (ro H t0) (ro H t8) H) fun t9 H2 =>
 zEN t9 0 fun t10 =>
 zEN t9 1 fun t11 =>
 z84 H.length H2 (ro H2 (TU [noT t10,noT t11])) := by
 refine (zsU Tryd.prog GG (z2F m) m ⟨12,[]⟩ H.length z3x z3v ⟨H,z2t 0 [t0,t1]⟩ [.tmp 4, .tmp 5]).trans ?_
 kernel_rfl
def z2c (m : Nat) : List AV → List AObj → RO|[t0,t1],H=>z26 m t0 t1 H|_,_=>none
theorem z4Z (m : Nat) : ∀ args H X H',z2c m args H = some (X,H') → AC Tryd.prog GG 30 args H (Is X H') := by
 intro args H X H' h
 unfold z2c at h
 split at h
 ·exact z7O MIX (by
  intro f e h
  simp only [z2F,Prod.mk.injEq,List.mem_cons,List.not_mem_nil,or_false] at h
  rcases h with ⟨rfl,rfl⟩|⟨rfl,rfl⟩
  ·exact ze8 m
  ·exact z73 m) (f := 30) (c := z3x) Tryd.func30 rfl (by kernel_rfl) _ rfl Tryd.ntmps30 (Nat.le_of_ble_eq_true rfl) z3v h
 ·cases h
end Go.Proofs.YtaplemeamcgpkaaDoor

namespace Go.Proofs.YtaplemeamcgpkaaDoor
open Go.RowKit
def z7J : Code := zFT 2 (zFO 0 ((Tryd.f29.body).getD .skip)) .skip
def root_LeafA_h : Hint := (.two .n (.join [0,1,2] (.two .n (.join [0,1,2,29] .n (.two (.two .n .n) .n))) .n))
def z2H (m : Nat) : Env := [(41, .tell (z5H m))]
abbrev z5u (n0 : Nat) : KO (AV × List AObj) := zoj [0,1,2]
def z6l (m : Nat) (D : List Deferred) (n0k : Nat) (s : ASt) : RO := z3n Tryd.prog GG (z2H m) m ⟨59,D⟩ (cdR (cdR z7J)) root_LeafA_h.r.r s (z5u n0k)
def z4C (m : Nat) (D : List Deferred) (n0k : Nat) (s : ASt) : RO := z3n Tryd.prog GG (z2H m) m ⟨59,D⟩ (cdR (cdR (cdL (cdR z7J)))) root_LeafA_h.r.l.r.r s (zCu (fun s=>z6l m D n0k ⟨s.H,[(0,gt s.T 0),(1,gt s.T 1),(2,gt s.T 2)]⟩) (z5u n0k))
def zfc (m : Nat) (D : List Deferred) (t0 t1 t2 : AV) (H : List AObj) : RO := zF9 Tryd.prog GG (z2H m) m ⟨59,D⟩ z7J root_LeafA_h ⟨H,[(0,t0),(1,t1),(2,t2)]⟩ (z5u H.length)
theorem zbM (m : Nat) (D : List Deferred) (n0k : Nat) (H : List AObj) (t0 t1 t2 : AV) : z6l m D n0k ⟨H,[(0,t0),(1,t1),(2,t2)]⟩ =
 some (TU [t0,t1,t2],H) := by
 refine (z0o _ _ _ _ _ _ _ _ _).trans ?_
 kernel_rfl
theorem zbT (m : Nat) (D : List Deferred) (n0k : Nat) (H : List AObj) (t0 t1 t2 t29 : AV) : z4C m D n0k ⟨H,[(0,t0),(1,t1),(2,t2),(29,t29)]⟩ =
 z0U t29 (
  none) (
  z6l m D n0k ⟨H,[(0,t0),(1,t1),(2,t2)]⟩) := by
 refine (z0o _ _ _ _ _ _ _ _ _).trans ?_
 kernel_rfl
theorem zeG (m : Nat) (D : List Deferred) (t0 t1 t2 : AV) (H : List AObj) : zfc m D t0 t1 t2 H =
 z3o (z5H m [(ro H t1)]) [(ro H t1)] fun t17 =>
 zEN t17 0 fun t18 =>
 zEN t17 1 fun t19 =>
 zED none false false .neq t18 (V (.int .i64 0)) fun t21 =>
 z0U t21 (
  z4C m D H.length ⟨H,[(0,t0),(1,t1),(2,t2),(29,(V (.bool true)))]⟩) (
  zED none false false .lss t2 (V (.int .i64 0)) fun t24 =>
  z0U t24 (
  z4C m D H.length ⟨H,[(0,t0),(1,t1),(2,t2),(29,(V (.bool true)))]⟩) (
  zED none false false .gtr t2 (V (.int .i64 2147483647)) fun t28 =>
  z4C m D H.length ⟨H,[(0,t0),(1,t1),(2,t2),(29,t28)]⟩)) := by
 refine (zCF _ _ _ _ _ _ _ _ _).trans ?_
 kernel_rfl
theorem zez (m : Nat) : z9t Tryd.prog GG (z2H m) := (by
 intro f e h
 simp only [z2H,Prod.mk.injEq,List.mem_cons,List.not_mem_nil,or_false] at h
 obtain ⟨rfl,rfl⟩ := h
 ·exact zfH m)
end Go.Proofs.YtaplemeamcgpkaaDoor

namespace Go.Proofs.YtaplemeamcgpkaaDoor
open Go.RowKit
def z5W : Code := (zFO 3 ((Tryd.f29.body).getD .skip))
def root_LeafB_h : Hint := (.join [0,10] (.two .n (.one (.lp [(10,z2J,1)] [0,10,33,34,35] [0,6,7,10] (.two .n (.two (.two .n .n) (.two (.one (.two .n (.two .n (.two (.two .n (.two (.two .n .n) .n)) .n)))) .n)))))) (.two .n .n))
def z1S (m : Nat) : Env := [(31, .tell (z2k m)),(47, .keep (z2X m)),(30, .keep (z2c m))]
abbrev z3L (n0 : Nat) : KO (AV × List AObj) := zt4 [6,7]
def z6I (m : Nat) (D : List Deferred) (n0k : Nat) (s : ASt) : RO := z3n Tryd.prog GG (z1S m) m ⟨59,D⟩ (cdR z5W) root_LeafB_h.r s (z3L n0k)
def z6X (m : Nat) (D : List Deferred) (s : ASt) (kc : ASt → RO) (kx : KO (AV × List AObj)) : RO := zdP Tryd.prog GG (z1S m) m ⟨59,D⟩ (cdL (cdL (cdR (cdL z5W)))) root_LeafB_h.l.r.c.c [0,10,33,34,35] [0,6,7,10] s kc kx
def zex (m : Nat) (D : List Deferred) (t0 t1 t10 : AV) (H : List AObj) : RO := zF9 Tryd.prog GG (z1S m) m ⟨59,D⟩ z5W root_LeafB_h ⟨H,[(0,t0),(1,t1),(10,t10)]⟩ (z3L H.length)
theorem zbq (m : Nat) (D : List Deferred) (n0k : Nat) (H : List AObj) (t0 t10 : AV) : z6I m D n0k ⟨H,[(0,t0),(10,t10)]⟩ =
 zaG (z26 m (ro H t0) (ro H t10) H) fun t56 H2 =>
 zEN t56 0 fun t57 =>
 zEN t56 1 fun t58 =>
 some (TU [t57,t58],H2) := by
 refine (z0o _ _ _ _ _ _ _ _ _).trans ?_
 kernel_rfl
theorem zc2 (m : Nat) (D : List Deferred) (H : List AObj) (t0 t10 t33 t34 t35 : AV) (kc : ASt → RO) (kx : KO (AV × List AObj)) : z6X m D ⟨H,[(0,t0),(10,t10),(33,t33),(34,t34),(35,t35)]⟩ kc kx =
 zED none false false .lss t35 t34 fun t36 =>
 z0U t36 (
  zcV 1 H t33 t35 fun t37 =>
  z0l 1 H t37 fun t38 =>
  zkv false none true true false (ro H t38) fun t42 =>
  zaG (z3d m (ro H t0) (ro H t42) H) fun t43 H2 =>
  zEN t43 0 fun t44 =>
  zEN t43 1 fun t45 =>
  zED none false false .neq t45 (V (.int .i64 0)) fun t47 =>
  z0U t47 (
   kx .ret ⟨H2,[(0,t0),(6,(V (.int .i64 0))),(7,t45),(10,t10)]⟩) (
   z3z (some (z2J,1)) 1 [(0,t44)] fun t51 =>
   zF4 (some (z2J,1)) H2 t10 t51 fun t52 H3 =>
   zED none false false .add t35 (V (.int .i64 1)) fun t53 =>
   zd5 H.length H3 [(0,t0),(10,t52),(33,t33),(34,t34),(35,t53)] kc)) (
  kx (.exit 0) ⟨H,[(0,t0),(6, .nil),(7, .nil),(10,t10)]⟩) := by
 refine (z2v _ _ _ _ _ _ _ _ _ _ _ _).trans ?_
 kernel_rfl
theorem zfJ (m : Nat) (D : List Deferred) (t0 t1 t10 : AV) (H : List AObj) : zex m D t0 t1 t10 H =
 z3o (z2k m [(ro H t1)]) [(ro H t1)] fun t33 =>
 zEU false true H t33 fun t34 =>
 zFn t10 z2J 1 H fun t10_1 H2 =>
 zc7 m (z6X m D) ⟨H2,[(0,t0),(10,t10_1),(33,t33),(34,t34),(35,(V (.int .i64 0)))]⟩ (z4k 0 (zCu (fun s=>z6I m D H.length ⟨s.H,[(0,gt s.T 0),(10,gt s.T 10)]⟩) (z3L H.length))) := by
 refine (zDa Tryd.prog GG (z1S m) m ⟨59,D⟩ z5W root_LeafB_h ⟨H,[(0,t0),(1,t1),(10,t10)]⟩ [6,7]).trans ?_
 kernel_rfl
theorem zfC (m : Nat) : z9t Tryd.prog GG (z1S m) := (by
 intro f e h
 simp only [z1S,Prod.mk.injEq,List.mem_cons,List.not_mem_nil,or_false] at h
 rcases h with ⟨rfl,rfl⟩|⟨rfl,rfl⟩|⟨rfl,rfl⟩
 ·exact z8z m
 ·exact z73 m
 ·exact z4Z m)
end Go.Proofs.YtaplemeamcgpkaaDoor

section
namespace Go.Proofs.YtaplemeamcgpkaaDoor
attribute [local go_sem] Nat.zero_add Nat.add_zero Nat.mul_one Int.toNat_natCast Int.natCast_zero Int.cast_ofNat_Int or_false false_or or_true true_or Nat.sub_zero Int.natCast_nonneg Int.toNat_zero Bool.true_and Bool.and_true Bool.false_and Bool.and_false Bool.true_or Bool.or_true Bool.false_or Bool.or_false Bool.not_true Bool.not_false Bool.not_not true_and and_true false_and and_false not_true_eq_false not_false_eq_true eq_self decide_true decide_false ne_eq implies_true forall_const true_implies false_implies Bool.true_eq_false Bool.false_eq_true List.map_cons List.map_nil List.all_cons List.all_nil List.length_cons List.length_nil List.length_map List.length_append List.nil_append List.cons_append List.set_cons_zero List.set_cons_succ List.set_nil List.drop_zero List.drop_succ_cons List.drop_nil List.take_zero List.take_succ_cons List.take_nil Option.map_some Option.map_none Option.isSome_some List.all_append List.all_map Function.comp_def decide_eq_true_eq Bool.and_eq_true beq_self_eq_true or_self and_self ite_true ite_false Nat.le_refl Bool.not_eq_true decide_not Bool.not_eq_true' decide_eq_false_iff_not Bool.not_eq_false Bool.or_eq_true if_true if_false ite_self zx9 ztP zv9 zuP ztK zjS List.append_assoc
attribute [local go_sem_proc] Nat.reduceAdd Nat.reduceSub Nat.reduceMul Nat.reduceLeDiff Nat.reduceLT Int.reduceEq Int.reduceNe Int.reduceLT Int.reduceLE Int.reduceAdd Int.reduceSub Int.reduceMul Int.reduceNeg Int.reduceToNat reduceCtorEq Nat.reduceEqDiff Nat.reduceBEq Nat.reduceGT
attribute [local go_sem_proc ↓] reduceIte
section
open Go.RowKit
open Go.Maps (Keyed)
def zEY {α : Type} [DecidableEq α] (L : List α) (s : α) : Nat := if s ∈ L then L.idxOf s + 1 else 0
def mpF {α : Type} (kb : α → List UInt8) : Nat → List α → List AV
 |_,[]=>[]
 |k,s :: r=>zDc (kb s) .i64 ((k + 1 : Nat) : Int) :: mpF kb (k + 1) r
section
variable {α : Type} {kb : α → List UInt8}
theorem zoW : ∀ (L : List α) (k : Nat),(mpF kb k L).length = L.length
 |[],k=>rfl
 |s :: r,k=>by simp [mpF,zoW r]
theorem zl0 (s : α) : ∀ (L : List α) (k : Nat),mpF kb k (L ++ [s]) = mpF kb k L ++ [zDc (kb s) .i64 ((k + L.length + 1 : Nat) : Int)]
 |[],k=>rfl
 |x :: r,k=>by
  show zDc (kb x) .i64 ((k + 1 : Nat) : Int) :: mpF kb (k + 1) (r ++ [s]) = zDc (kb x) .i64 ((k + 1 : Nat) : Int) :: (mpF kb (k + 1) r ++ _)
  rw [zl0 s r (k + 1),show k + 1 + r.length + 1 = k + (x :: r).length + 1 by simp;omega]
theorem zu2 (n : Nat) : ∀ (L : List α) (k : Nat),(mpF kb k L).all (ltA n) = true
 |[],k=>rfl
 |s :: r,k=>by
  show (ltA n (zDc (kb s) .i64 ((k + 1 : Nat) : Int)) && (mpF kb (k + 1) r).all (ltA n)) = true
  rw [zu2 n r];rfl
def zFK (D : DataW Unit) (e : AV) : DataW Unit := D.put (.string (zEx e)) (zDL e)
theorem zv0 (k : List UInt8) (q : IntKind) (c : Int) : zEx (zDc k q c) = k := by simp [zEx,zDc]
theorem zpY [DecidableEq α] {s : α} : ∀ (L : List α) (k : Nat) (D : DataW Unit),Maps.IsMap D → L.Nodup → (∀ x ∈ L,kb x = kb s → x = s) →
  ((mpF kb k L).foldl zFK D).atKey (.string (kb s)) (.lit (.int .i64 0)) = (if s ∈ L then .lit (.int .i64 ((k + L.idxOf s + 1 : Nat) : Int)) else D.atKey (.string (kb s)) (.lit (.int .i64 0))) ∧
  Maps.has ((mpF kb k L).foldl zFK D) (.string (kb s)) = (decide (s ∈ L) || Maps.has D (.string (kb s)))
 |[],k,D,hD,_,_=>by simp [mpF]
 |x :: r,k,D,hD,hn,hi=>by
  have hn' := List.nodup_cons.1 hn
  obtain ⟨h1,h2⟩ := zpY r (k + 1) (zFK D (zDc (kb x) .i64 ((k + 1 : Nat) : Int))) (hD.put _ _) hn'.2 (fun y hy=>hi y (List.mem_cons_of_mem _ hy))
  show ((mpF kb (k + 1) r).foldl zFK (zFK D _)).atKey _ _ = _ ∧ Maps.has ((mpF kb (k + 1) r).foldl zFK (zFK D _)) _ = _
  rw [h1,h2]
  by_cases e : x = s
  ·subst e
   rw [if_neg hn'.1,if_pos (List.mem_cons_self ..)]
   have hk : (Lit.string (kb x)) = .string (zEx (zDc (kb x) .i64 ((k + 1 : Nat) : Int))) := by rw [zv0]
   constructor
   ·unfold zFK
    rw [hk,Maps.atKey_put_same hD (show WideAt.IsKeyLit (.string (zEx (zDc (kb x) .i64 ((k + 1 : Nat) : Int)))) from trivial)]
    simp [zDL,zDc]
   ·unfold zFK
    rw [hk,Maps.has_put_same hD (show WideAt.IsKeyLit (.string (zEx (zDc (kb x) .i64 ((k + 1 : Nat) : Int)))) from trivial)]
    simp
  ·have hne : (Lit.string (kb s)) ≠ .string (zEx (zDc (kb x) .i64 ((k + 1 : Nat) : Int))) := fun q=>by
    rw [zv0] at q
    injection q with q
    exact e (hi x (List.mem_cons_self ..) q.symm)
   have hm : (s ∈ x :: r) = (s ∈ r) := by simp [show s ≠ x from fun q=>e q.symm]
   simp only [hm]
   unfold zFK
   rw [Maps.atKey_put_other hne,Maps.has_put_other hne]
   refine ⟨?_,rfl⟩
   by_cases hs : s ∈ r
   ·rw [if_pos hs,if_pos hs,List.idxOf_cons,show (x == s) = false by simpa using e,cond_false,show k + 1 + r.idxOf s + 1 = k + (r.idxOf s + 1) + 1 by omega]
   ·rw [if_neg hs,if_neg hs]
theorem zo4 (c : List AV) : zDd c = c.foldl zFK (.map []) := rfl
theorem zCs [DecidableEq α] {L : List α} {s : α} (hn : L.Nodup) (hi : ∀ x ∈ L,kb x = kb s → x = s) :
  (zDd (mpF kb 0 L)).atKey (.string (kb s)) (.lit (.int .i64 0)) = .lit (.int .i64 (zEY L s)) ∧ Maps.has (zDd (mpF kb 0 L)) (.string (kb s)) = decide (s ∈ L) := by
 obtain ⟨h1,h2⟩ := zpY (kb := kb) (s := s) L 0 (.map []) ⟨[],rfl⟩ hn hi
 rw [zo4,h1,h2]
 constructor
 ·unfold zEY
  split
  ·rw [Nat.zero_add]
  ·rfl
 ·rw [Maps.has_eq];simp
end
theorem ztk : Keyed Tryd.prog 9 := Maps.string_keyed Tryd.underlying9
theorem zD9 {s : List UInt8} (h : s.length ≤ 9223372036854775807) : keyOf Tryd.prog 9 (.string ⟨s.toArray⟩) = some (.string s) := by
 unfold keyOf mapKey
 simp only [Tryd.underlying9]
 rw [if_pos (show ByteArray.size ⟨s.toArray⟩ ≤ maxLen by simp only [ByteArray.size,List.size_toArray];unfold maxLen;omega)]
theorem ztv (w : World) : (zeroValue 3).run Tryd.prog w = .ok (.int .i64 0) w := by kernel_rfl
def I64 (i : Int) : Prop := -9223372036854775808 ≤ i ∧ i ≤ 9223372036854775807
theorem wf64 {i : Int} (h : I64 i) : (Lit.int .i64 i).wf = true := by
 have := h
 simp [I64,Lit.wf,IntKind.min,IntKind.max,IntKind.signed,IntKind.bits] at this ⊢
 omega
def tmO (L : List (List UInt8)) : AObj := ⟨5,9,3,mpF _root_.id 0 L⟩
theorem ztz {R : Type} {H : List AObj} {i : Nat} {L : List (List UInt8)} {s : List UInt8} {K : AV → Option R} (hH : H[i]? = some (tmO L)) (hn : L.Nodup) (hs : s.length ≤ 9223372036854775807) :
  zqg Tryd.prog 80 H (MP i) (sA s) true K = K (TU [nA (zEY L s),bA (decide (s ∈ L))]) := by
 obtain ⟨h1,h2⟩ := zCs (kb := _root_.id) (L := L) (s := s) hn (fun x _ e=>e)
 refine zvs ⟨rfl,i,tmO L, .i64, .string ⟨s.toArray⟩, .string s,zEY L s,rfl,hH,rfl,ztk,Tryd.underlying80,Tryd.underlying3,ztv,rfl,zD9 hs,h1,?_⟩
 rw [if_pos rfl]
 exact congrArg (fun b=>TU [nA (zEY L s),bA b]) ((decide_eq_decide.2 Iff.rfl).trans h2.symm)
theorem zAh {R : Type} {H : List AObj} {i : Nat} {L : List (List UInt8)} {s : List UInt8} {K : List AObj → Option R} (hH : H[i]? = some (tmO L)) (hs : s.length ≤ 9223372036854775807) (hl : L.length < 100000) :
  zpD Tryd.prog 80 H (MP i) (sA s) (nA ((L.length + 1 : Nat) : Int)) K = K (H.set i (tmO (L ++ [s]))) := by
 refine zvp ⟨rfl,i,tmO L, .i64, .string ⟨s.toArray⟩,s,_,rfl,hH,rfl,ztk,Tryd.underlying80,Tryd.underlying3,rfl,zD9 hs,rfl,wf64 ⟨by omega,by omega⟩,?_,?_⟩
 ·rw [show (tmO L).c = mpF _root_.id 0 L from rfl,zoW];unfold maxLen;omega
 ·unfold tmO;rw [zl0,Nat.zero_add];rfl
theorem zvy {R : Type} : ∀ (A : List AObj) {Z : List AObj} {k : Nat} {K : AObj → Option R},z68 (A ++ Z) (A.length + k) K = z68 Z k K
 |[],Z,k,K=>by simp
 |a :: A,Z,k,K=>by
  show z68 (a :: (A ++ Z)) ((A.length + 1) + k) K = _
  rw [show A.length + 1 + k = (A.length + k) + 1 by omega]
  exact zvy A
theorem zES : ∀ (A : List AObj) {Z : List AObj} {k : Nat} {o : AObj},(A ++ Z).set (A.length + k) o = A ++ Z.set k o
 |[],Z,k,o=>by simp
 |a :: A,Z,k,o=>by
  show (a :: (A ++ Z)).set ((A.length + 1) + k) o = _
  rw [show A.length + 1 + k = (A.length + k) + 1 by omega,List.set_cons_succ,zES A]
  rfl
theorem zE5 : ∀ (A : List AObj) {Z : List AObj} {k : Nat},(A ++ Z)[A.length + k]? = Z[k]? := fun A {Z k}=>by
 rw [List.getElem?_append_right (by omega)];congr 1;omega
def tbM (A B : List AObj) (o0 o1 o2 : AObj) : List AObj := A ++ (o0 :: o1 :: o2 :: B)
def nT (A B : List AObj) : Nat := A.length + (B.length + 3)
section
variable {R : Type} {A B Y : List AObj} {o0 o1 o2 o : AObj} {K : AObj → Option R} {k : Nat}
theorem zjT : (tbM A B o0 o1 o2).length = nT A B := by simp [tbM,nT]
theorem zto : tbM A (B ++ Y) o0 o1 o2 = tbM A B o0 o1 o2 ++ Y := by simp [tbM]
theorem zzw : nT A (B ++ Y) = nT A B + Y.length := by simp [nT];omega
theorem tb_0 : z68 (tbM A B o0 o1 o2) A.length K = K o0 := (zvy A (k := 0))
theorem tb_1 : z68 (tbM A B o0 o1 o2) (A.length + 1) K = K o1 := (zvy A (k := 1))
theorem tb_2 : z68 (tbM A B o0 o1 o2) (A.length + 2) K = K o2 := (zvy A (k := 2))
theorem zC1 : (tbM A B o0 o1 o2).set A.length o = tbM A B o o1 o2 := (zES A (k := 0))
theorem zBL : (tbM A B o0 o1 o2).set (A.length + 1) o = tbM A B o0 o o2 := (zES A (k := 1))
theorem zC4 : (tbM A B o0 o1 o2).set (A.length + 2) o = tbM A B o0 o1 o := (zES A (k := 2))
theorem zw7 : (tbM A B o0 o1 o2).take (nT A B) = tbM A B o0 o1 o2 := by
 rw [← zjT (o0 := o0) (o1 := o1) (o2 := o2)];exact List.take_length
theorem zpv : (tbM A B o0 o1 o2)[A.length]? = some o0 := (zE5 A (k := 0))
end
def GB (A B : List AObj) : Prop := ∀ n,nT A B ≤ n → A.all (ltO n) = true ∧ B.all (ltO n) = true
theorem GB.app {A B Y : List AObj} (h : GB A B) (hY : ∀ n,nT A B ≤ n → Y.all (ltO (n + Y.length)) = true) : GB A (B ++ Y) := fun n hn=>by
 rw [zzw] at hn
 obtain ⟨h1,h2⟩ := h n (by omega)
 have h3 := hY (n - Y.length) (by omega)
 rw [show n - Y.length + Y.length = n by omega] at h3
 exact ⟨h1,by rw [List.all_append,h2,h3];rfl⟩
def ttO (a : Nat) (L : List (List UInt8)) : AObj := ⟨1,z13,0,[MP a,OW (a + 2) L.length]⟩
def trO (L : List (List UInt8)) : AObj := ⟨2,z1b,1,L.map sA⟩
def tb (A B : List AObj) (T : List (List UInt8)) : List AObj := tbM A B (tmO T) (ttO A.length T) (trO T)
theorem zvt {n : Nat} {L : List (List UInt8)} : ltO n (tmO L) = true := zu2 n L 0
theorem zwY {n a : Nat} {L : List (List UInt8)} (h : a + 2 < n) : ltO n (ttO a L) = true := by
 simp [ltO,ttO,ltA,lt1];omega
theorem zsu {n : Nat} {L : List (List UInt8)} : ltO n (trO L) = true := by
 simp [ltO,trO,ltA,lt1]
theorem zx4 {A B : List AObj} (h : GB A B) {T : List (List UInt8)} {n : Nat} (hn : nT A B ≤ n) : (tbM A B (tmO T) (ttO A.length T) (trO T)).all (ltO n) = true := by
 obtain ⟨h1,h2⟩ := h n hn
 have h3 : A.length + 3 ≤ n := by unfold nT at hn;omega
 unfold tbM
 rw [List.all_append,h1]
 simp only [List.all_cons,zvt,zwY (show A.length + 2 < n by omega),zsu,h2,Bool.and_self]
theorem zjt {A B : List AObj} (h : GB A B) {T : List (List UInt8)} {n : Nat} (hn : nT A B ≤ n) : (tb A B T).all (ltO n) = true := zx4 h hn
theorem z6o {A B : List AObj} {T : List (List UInt8)} : (tb A B T).length = nT A B := zjT
theorem z8M {A B Y : List AObj} {T : List (List UInt8)} : tb A (B ++ Y) T = tb A B T ++ Y := zto
section
variable {R : Type} {A B Y : List AObj} {T : List (List UInt8)} {K : AObj → Option R} {k : Nat} {o : AObj} {X : AV}
theorem zFz : z68 (tb A B T ++ Y) (nT A B + k) K = z68 Y k K := by rw [← z6o (T := T)];exact zvy _
theorem zEf : z68 (tb A B T ++ Y) (nT A B) K = z68 Y 0 K := zFz (k := 0)
theorem zt0 : (tb A B T ++ Y).set (nT A B + k) o = tb A B T ++ Y.set k o := by rw [← z6o (T := T)];exact zES _
theorem zzX : (tb A B T ++ Y).set (nT A B) o = tb A B T ++ Y.set 0 o := zt0 (k := 0)
theorem zkk : (tb A B T ++ Y).take (nT A B + k) = tb A B T ++ Y.take k := by rw [← z6o (T := T)];exact List.take_length_add_append ..
theorem zf6 : (tb A B T ++ Y).take (nT A B) = tb A B T := by rw [← z6o (T := T)];exact List.take_left
theorem zhp : (tb A B T).take (nT A B) = tb A B T := by
 have := zf6 (A := A) (B := B) (T := T) (Y := [])
 rwa [List.append_nil] at this
theorem zwF : (tb A B T ++ Y)[nT A B + k]? = Y[k]? := by rw [← z6o (T := T)];exact zE5 _
end
theorem zrb {α : Type} [DecidableEq α] {L : List α} {s : α} (h : s ∉ L) : zEY (L ++ [s]) s = L.length + 1 := by
 unfold zEY
 rw [if_pos (by simp),List.idxOf_append,if_neg h]
 simp
def adT (T : List (List UInt8)) (s : List UInt8) : List (List UInt8) := if s ∈ T then T else T ++ [s]
theorem ziC {T : List (List UInt8)} {s : List UInt8} : s ∈ adT T s := by unfold adT;split <;> simp [*]
theorem zjX {T : List (List UInt8)} {s : List UInt8} : T <+: adT T s := by
 unfold adT;split
 ·exact List.prefix_refl _
 ·exact List.prefix_append ..
theorem znm {T : List (List UInt8)} {s : List UInt8} (h : T.Nodup) : (adT T s).Nodup := by
 unfold adT;split
 ·exact h
 ·rename_i hs
  rw [List.nodup_append]
  exact ⟨h,by simp,fun a ha b hb e=>by simp at hb;subst hb e;exact hs ha⟩
theorem ztU {T : List (List UInt8)} {s : List UInt8} : T.length ≤ (adT T s).length ∧ (adT T s).length ≤ T.length + 1 := by
 unfold adT;split
 ·exact ⟨Nat.le_refl _,Nat.le_succ _⟩
 ·simp
section
variable {R : Type} {a : Nat} {L : List (List UInt8)} {K : List AV → Option R} {K2 : AObj → Option R}
theorem zkL : zcc (ttO a L) K = K [MP a,OW (a + 2) L.length] := by unfold ttO;exact zxu
theorem zAj {n : Nat} : zFq (ttO a L) 1 1 (OW (a + 2) n) K2 = K2 ⟨1,z13,0,[MP a,OW (a + 2) n]⟩ := by unfold ttO;rw [zzn];rfl
theorem zDC : (trO L).k = 2 := _root_.id rfl
theorem zEZ : (trO L).e = z1b := _root_.id rfl
theorem zF3 : (trO L).z = 1 := _root_.id rfl
theorem zFo : (trO L).c = L.map sA := _root_.id rfl
theorem zxa {s : List UInt8} : (⟨2,z1b,1,L.map sA ++ [sA s]⟩ : AObj) = trO (L ++ [s]) := by unfold trO;rw [List.map_append];rfl
end
attribute [local go_sem] zjT tb_0 tb_1 tb_2 zC1 zBL zC4 zw7
theorem zBC (m : Nat) (A B : List AObj) (T : List (List UInt8)) (s : List UInt8) (hG : GB A B) (hn : T.Nodup) (hl : T.length < 65536) (hs : s.length ≤ 9223372036854775807) :
  z3d m (OP (A.length + 1) 0) (sA s) (tb A B T) = some (TU [nA (zEY (adT T s) s),nA 0],tb A B (adT T s)) := by
 rw [zc1]
 have hk := fun (K : AV → RO)=>ztz (K := K) (zpv (A := A) (B := B) (o0 := tmO T) (o1 := ttO A.length T) (o2 := trO T)) hn hs
 have hlt := fun {L : List (List UInt8)}=>zx4 hG (T := L) (Nat.le_refl _)
 clear hG
 unfold tb
 by_cases h1 : s ∈ T
 ·have ha : adT T s = T := if_pos h1
  rw [ha]
  simp (config := {maxSteps := 4000000,implicitDefEqProofs := false}) (disch := omega) only [go_sem,zkL,hk,hlt,h1]
 ·have h2 : ¬ (65536 : Int) ≤ (T.length : Int) := by omega
  have ha : adT T s = T ++ [s] := if_neg h1
  have hp0 : zEY (T ++ [s]) s = T.length + 1 := zrb h1
  rw [ha,hp0]
  have ht : (⟨1,z13,0,[MP A.length,OW (A.length + 2) (T.length + 1)]⟩ : AObj) = ttO A.length (T ++ [s]) := by unfold ttO;rw [List.length_append];rfl
  have hp := fun (K : List AObj → RO)=>zAh (K := K) (s := s) (zpv (A := A) (B := B) (o0 := tmO T) (o1 := ttO A.length (T ++ [s])) (o2 := trO (T ++ [s]))) hs (by omega)
  have hb : T.length + 1 ≤ 34359738368 := by omega
  have hx : (T ++ [s]).length = T.length + 1 := by simp
  simp (config := {maxSteps := 4000000,implicitDefEqProofs := false}) (disch := omega) only [go_sem,zkL,zAj,zDC,zEZ,zF3,zFo,zxa,ht,hk,hp,hx,hlt,h1,h2,hb]
theorem zoQ (m : Nat) (A B : List AObj) (T : List (List UInt8)) (l : List Nat) (hG : GB A B) (hn : T.Nodup) (hl : T.length < 65536) (hx : ∀ n ∈ l,n ≤ 9223372036854775807) (hll : l.length ≤ 1000000)
  (Y : List AObj) (hY : ∀ n,nT A B ≤ n → Y.all (ltO (n + Y.length)) = true) :
  z26 m (OP (A.length + 1) 0) (SL (l.map fun n : Nat=>nA (n : Int))) (tb A B T ++ Y) = some (TU [nA (zEY (adT T (zFR l)) (zFR l)),nA 0],tb A B (adT T (zFR l)) ++ Y) := by
 rw [z93]
 have hr : ∀ H,ro H (SL (l.map fun n : Nat=>nA (n : Int))) = SL (l.map fun n : Nat=>nA (n : Int)) := fun H=>_root_.id rfl
 rw [hr]
 have hd := zfE m l hx hll
 have hs : (zFR l).length ≤ 9223372036854775807 := by have := zke l hx;omega
 have hG2 := hG.app hY
 have ht := zBC m A (B ++ Y) T (zFR l) hG2 hn hl hs
 rw [← z8M,← z8M]
 have hk := fun {T : List (List UInt8)}=>zjt (T := T) hG2 (Nat.le_refl _)
 simp (config := {maxSteps := 4000000,implicitDefEqProofs := false}) (disch := omega) only [go_sem,hd,ht,z6o,zhp,hk]
end

section
open Go.RowKit
abbrev Tbl := List (List UInt8)
structure TbOk (T : Tbl) (n : Nat) : Prop where
 nd : T.Nodup
 ln : T.length + n ≤ 65536
theorem TbOk.ad {T : Tbl} {s : List UInt8} {n : Nat} (h : TbOk T (n + 1)) : TbOk (adT T s) n := ⟨znm h.nd,by have := ztU (T := T) (s := s);have := h.ln;omega⟩
theorem TbOk.less {T : Tbl} {n k : Nat} (h : TbOk T n) (hk : k ≤ n) : TbOk T k := ⟨h.nd,by have := h.ln;omega⟩
def chS (p : List Nat × Tbl) (c : z0f) : List Nat × Tbl := (p.1 ++ [zEY (adT p.2 c) c],adT p.2 c)
def chP (T : Tbl) (cs : List z0f) : List Nat × Tbl := cs.foldl chS ([],T)
theorem zgJ (T : Tbl) (cs : List z0f) (k : Nat) (h : k < cs.length) : chP T (cs.take (k + 1)) = chS (chP T (cs.take k)) cs[k] := by
 unfold chP
 rw [← List.take_append_getElem h,List.foldl_append];rfl
theorem zlD {α : Type} [DecidableEq α] {T : List α} {s : α} : zEY T s ≤ T.length := by
 unfold zEY
 split
 ·rename_i h;have := List.idxOf_lt_length_of_mem h;omega
 ·exact Nat.zero_le _
theorem zrm (cs : List z0f) : ∀ (k : Nat) {T : Tbl} {n : Nat},TbOk T (cs.length + n) → k ≤ cs.length → TbOk (chP T (cs.take k)).2 (cs.length - k + n) ∧ (chP T (cs.take k)).1.length = k ∧ ∀ x ∈ (chP T (cs.take k)).1,x ≤ 65536
 |0,T,n,h,_=>by
  rw [List.take_zero]
  exact ⟨h,rfl,fun x hx=>by cases hx⟩
 |k + 1,T,n,h,hk=>by
  obtain ⟨h1,h2,h3⟩ := zrm cs k h (by omega)
  rw [zgJ T cs k hk]
  have h4 : TbOk (chP T (cs.take k)).2 (cs.length - (k + 1) + n + 1) := h1.less (by omega)
  have h5 := h4.ad (s := cs[k])
  refine ⟨h5,by unfold chS;simp [h2],fun x hx=>?_⟩
  unfold chS at hx
  simp only [List.mem_append,List.mem_singleton] at hx
  rcases hx with hx|rfl
  ·exact h3 x hx
  ·exact Nat.le_trans zlD (by have := h5.ln;omega)
def zEo (l : List Nat) : AObj := ⟨2,z2J,1,l.map fun n : Nat=>nA (n : Int)⟩
theorem z7E {n : Nat} {l : List Nat} : ltO n (zEo l) = true := by simp [ltO,zEo,ltA,lt1]
theorem znB {l : List Nat} : (zEo l).k = 2 := _root_.id rfl
theorem zo5 {l : List Nat} : (zEo l).e = z2J := _root_.id rfl
theorem zny {l : List Nat} : (zEo l).z = 1 := _root_.id rfl
theorem zgR {l : List Nat} : (zEo l).c = l.map fun n : Nat=>nA (n : Int) := _root_.id rfl
theorem zdj {l : List Nat} {n : Nat} : (⟨2,z2J,1,(l.map fun n : Nat=>nA (n : Int)) ++ [nA (n : Int)]⟩ : AObj) = zEo (l ++ [n]) := by unfold zEo;rw [List.map_append];rfl
theorem zyW {A B Y : List AObj} {T : Tbl} {l : List Nat} : ro (tb A B T ++ zEo l :: Y) (OW (nT A B) l.length) = SL (l.map fun n : Nat=>nA (n : Int)) := by
 show (match (tb A B T ++ zEo l :: Y)[nT A B]? with|some o=>if o.k = 2 ∧ l.length = o.c.length then SL o.c else OW (nT A B) l.length|none=>OW (nT A B) l.length) = _
 have h := zwF (A := A) (B := B) (T := T) (Y := zEo l :: Y) (k := 0)
 rw [Nat.add_zero] at h
 rw [h]
 exact if_pos ⟨rfl,by rw [zgR,List.length_map]⟩
theorem zwi (cs : List z0f) {k : Nat} (h : k < cs.length) {R : Type} {K : AV → Option R} : zCG (bbC cs) k K = K (SL (bC cs[k])) := by
 unfold zCG bbC
 rw [List.getElem?_map,List.getElem?_eq_getElem h];rfl
theorem zlI (cs : List z0f) : (bbC cs).length = cs.length := by simp [bbC]
theorem zDN (l : z0f) {R : Type} {K : AV → Option R} : zkv false none true true false (SL (bC l)) K = K (sA l) := by
 show (match z6b (bC l) with|some l=>K (V (.string ⟨l.toArray⟩))|none=>none) = _
 rw [z8P]
attribute [local go_sem] zFz zEf zt0 zzX zkk zf6 zhp z6o
theorem zl2 (m : Nat) (D : List Deferred) (A B : List AObj) (T : Tbl) (v : Nat) (cs : List z0f) (hG : GB A B) (hT : TbOk T (cs.length + 1)) (hm : cs.length < m) (hl : cs.length ≤ 100000) (hv : v ≤ 2147483647) (hc : ∀ c ∈ cs,c.length ≤ 9223372036854775807) :
  zc7 m (z6X m D) ⟨tb A B T ++ [zEo [v]],[(0,OP (A.length + 1) 0),(10,OW (nT A B) 1),(33,SL (bbC cs)),(34,nA cs.length),(35,nA 0)]⟩ (z4k 0 (zCu (fun s=>z6I m D (nT A B + 1) ⟨s.H,[(0,gt s.T 0),(10,gt s.T 10)]⟩) (z3L (nT A B + 1)))) =
   some (TU [nA (zEY (adT (chP T cs).2 (zFR (v :: (chP T cs).1))) (zFR (v :: (chP T cs).1))),nA 0],tb A B (adT (chP T cs).2 (zFR (v :: (chP T cs).1))) ++ [zEo (v :: (chP T cs).1)]) := by
 refine z65 (m := m) (ι := {k : Nat // k ≤ cs.length}) (fun k=>⟨tb A B (chP T (cs.take k.1)).2 ++ [zEo (v :: (chP T (cs.take k.1)).1)],[(0,OP (A.length + 1) 0),(10,OW (nT A B) (k.1 + 1)),(33,SL (bbC cs)),(34,nA cs.length),(35,nA k.1)]⟩) (fun k=>cs.length - k.1) (fun _=>some (TU [nA (zEY (adT (chP T cs).2 (zFR (v :: (chP T cs).1))) (zFR (v :: (chP T cs).1))),nA 0],tb A B (adT (chP T cs).2 (zFR (v :: (chP T cs).1))) ++ [zEo (v :: (chP T cs).1)])) ?_ ⟨0,Nat.zero_le _⟩ (by dsimp only;omega)
 rintro kx hkx ⟨k,hk⟩ kc hkc
 dsimp only at hkc ⊢
 rw [zc2]
 obtain ⟨h1,h2,h3⟩ := zrm cs k (n := 1) hT hk
 by_cases h : k < cs.length
 ·have h' : (k : Int) < (cs.length : Int) := by omega
  have step := hkc ⟨k + 1,by omega⟩ (by dsimp only;omega)
  dsimp only at step
  rw [zgJ T cs k h] at step
  generalize hp : chP T (cs.take k) = p at *
  obtain ⟨acc,U⟩ := p
  dsimp only at h1 h2 h3 step ⊢
  have hcl := hc cs[k] (List.getElem_mem h)
  have ht := zBC m A (B ++ [zEo (v :: acc)]) U cs[k] (hG.app fun n _=>by simp [z7E]) h1.nd (by have := h1.ln;omega) hcl
  rw [z8M,z8M] at ht
  have hb := z8P cs[k]
  have hn := fun {K : AV → RO}=>zwi cs h (K := K)
  have hw1 : IntKind.i64.wrap ((k : Int) + 1) = (k : Int) + 1 := z0C (by omega) (by omega)
  have hlt := zjt (T := adT U cs[k]) hG (n := nT A B + 1) (by omega)
  have hlen : acc.length + 1 = k + 1 := by omega
  have hlb : k + 1 + 1 ≤ 34359738368 := by omega
  unfold chS at step
  dsimp only at step
  rw [show zEo (v :: (acc ++ [zEY (adT U cs[k]) cs[k]])) = ⟨2,z2J,1,nA (v : Int) :: ((acc.map fun n : Nat=>nA (n : Int)) ++ [nA (zEY (adT U cs[k]) cs[k] : Int)])⟩ by simp [zEo]] at step
  have h4 : A.length + 1 < nT A B + 1 := by unfold nT;omega
  have h5 : nT A B < nT A B + 1 := Nat.lt_succ_self _
  simp (config := {maxSteps := 4000000,implicitDefEqProofs := false}) (disch := omega) only [go_sem,h,h',hn,zDN,ht,hw1,hlt,z7E,znB,zo5,zny,zgR,zdj,zlI,hlen,hlb,h4,h5]
  exact step
 ·obtain rfl : k = cs.length := by omega
  have h' : ¬ (cs.length : Int) < (cs.length : Int) := Int.lt_irrefl _
  rw [List.take_length] at *
  have hq : ∀ n ∈ v :: (chP T cs).1,n ≤ 9223372036854775807 := fun n hn=>by
   rcases List.mem_cons.1 hn with rfl|hn
   ·omega
   ·have := h3 n hn;omega
  have hrow := zyW (A := A) (B := B) (Y := []) (T := (chP T cs).2) (l := v :: (chP T cs).1)
  rw [List.length_cons,h2] at hrow
  have hl1 := zoQ m A B (chP T cs).2 (v :: (chP T cs).1) hG h1.nd (by have := h1.ln;omega) hq (by rw [List.length_cons,h2];omega) [zEo (v :: (chP T cs).1)] (fun n _=>by simp [z7E])
  have hrow' : ro1 (tb A B (chP T cs).2 ++ [zEo (v :: (chP T cs).1)]) (OW (nT A B) (cs.length + 1)) = SL ((v :: (chP T cs).1).map fun n : Nat=>nA (n : Int)) := hrow
  rw [List.map_cons] at hl1
  simp (config := {maxSteps := 4000000,implicitDefEqProofs := false}) (disch := omega) only [go_sem,h',hkx,zbq,hrow',hl1]
theorem zuo (m : Nat) (D : List Deferred) (A B : List AObj) (T : Tbl) (l : List Item) (v : Nat) (hG : GB A B) (hT : TbOk T ((z1X l).length + 1)) (hm : (z1X l).length < m) (hl : (z1X l).length ≤ 100000) (hv : v ≤ 2147483647) (hc : ∀ c ∈ z1X l,c.length ≤ 9223372036854775807) (h1 : ∀ x ∈ l,z3i x) (h2 : l.length ≤ 1000000) :
  zex m D (OP (A.length + 1) 0) (lA l) (OW (nT A B) 1) (tb A B T ++ [zEo [v]]) = some (TU [nA (zEY (adT (chP T (z1X l)).2 (zFR (v :: (chP T (z1X l)).1))) (zFR (v :: (chP T (z1X l)).1))),nA 0],tb A B (adT (chP T (z1X l)).2 (zFR (v :: (chP T (z1X l)).1))) ++ [zEo (v :: (chP T (z1X l)).1)]) := by
 rw [zfJ]
 have hK := za1 m l h1 h2
 have hL := zl2 m D A B T v (z1X l) hG hT hm hl hv hc
 rw [show (lA l : AV) = SL (l.map (flA Item.cells)) from rfl] at hK ⊢
 simp (config := {maxSteps := 4000000,implicitDefEqProofs := false}) (disch := omega) only [go_sem,hK,zlI]
 simp only [zxv] at hL
 exact hL
end

section
open Go.RowKit
section
variable {P : Program}
theorem zqx {w : World} {g : Nat} {cur : Array Value} {t : TypeId} {fr : Nat × Nat} {m : Nat} {us : List Value} (hg : w.heap[g]? = some (.cells cur t fr)) (htk : cur.toList.take m = us) {j : Nat} {u : Value} (h : us[j]? = some u) : w.cell? ⟨g,j,none⟩ = some u := by
 rw [cell_of_row w g j cur t fr hg,← Array.getElem?_toList]
 rw [← htk,List.getElem?_take] at h
 split at h
 ·exact h
 ·cases h
theorem add_plain (b o j : Nat) : (⟨b,o,none⟩ : Addr).add j = ⟨b,o + j,none⟩ := by unfold Addr.add;split <;> simp_all
end
end

section
open Go.RowKit
theorem zs4 {w : World} {base base' : Nat} {e : TypeId} {z : Nat} {v : Value} {n : Nat} {xs : List Value} (h : w.ownsRow base e z v n xs) (hb : base' ≤ base) : w.ownsRow base' e z v n xs := by
 refine ⟨h.1,?_⟩
 rcases h.2 with q|⟨g,cap,cur,q1,q2,r⟩
 ·exact .inl q
 ·exact .inr ⟨g,cap,cur,q1,Nat.le_trans hb q2,r⟩
theorem zmM {w : World} {S : SS} {μ : List Value} {H : List AObj} (hr : Rel w S μ H) {w' : World} (hb : Below w.heap.size w w') {e : TypeId} {z : Nat} {es : List AV} (hall : allC z es) {us : List Value} (hus : reps S [] (zE2 es) us) {A : Option Addr} {cap : Nat}
  (hown : w'.ownsRow w.heap.size e z (.slice A es.length cap) es.length us) : zns w S μ H (Is (OW H.length es.length) (H ++ [⟨2,e,z,es⟩])) (.returned (.slice A es.length cap)) w' := by
 obtain ⟨A',c',e1,hc1,hc2⟩ := ziN hown
 injection e1 with e1 e2 e3
 subst e1 e3
 have hown0 := zs4 hown (Nat.zero_le _)
 let S' : SS := fun b j d=>S b j d ∨ (w.heap.size ≤ b ∧ (∃ q,A = some ⟨b,q,none⟩) ∧ cap ≠ 0 ∧ (zE2 es)[j]? = some d)
 have hcell : ∀ b j d,w.heap.size ≤ b → (∃ q,A = some ⟨b,q,none⟩) → (zE2 es)[j]? = some d → ∃ u,w'.cell? ⟨b,j,none⟩ = some u ∧ u.oneCell' = true ∧ rep1 S [] d u := by
  rintro b j d hbb ⟨q,rfl⟩ hd
  rcases hown.2 with ⟨q1,_⟩|⟨g,cp,cur,q1,_,hg,h1,h2,h3,h4⟩
  ·cases q1
  ·injection q1 with q1 q2 q3
   injection q1 with q1
   injection q1 with q1 _ _
   subst q1 q3
   have hj : j < us.length := by rw [hus.1];exact (List.getElem?_eq_some_iff.1 hd).1
   obtain ⟨k1,k2⟩ := hus.2 j d _ hd (List.getElem?_eq_getElem hj)
   exact ⟨_,zqx hg h4 (List.getElem?_eq_getElem hj),k1,k2⟩
 obtain ⟨q1,q2⟩ := hr.grow (S' := S') hb (fun _ _ _ q=>.inl q) (fun b j d q=>q.imp id fun k=>k.1) (fun b j d q hb'=>by
  rcases q with q|⟨k1,k2,_,k3⟩
  ·have := hr.still_lt q;omega
  ·obtain ⟨u,h1,h2,h3⟩ := hcell b j d k1 k2 k3
   exact ⟨u,h1,h2,h3.ext ⟨fun _ _ _ q=>.inl q,fun i x hx=>by simp at hx⟩⟩)
 have hbl : ∀ b,z2I (.slice A es.length cap) = some b → w.heap.size ≤ b ∧ cap ≠ 0 := by
  intro b hbk
  cases A with
  |none=>simp [z2I] at hbk
  |some a =>
   simp only [z2I] at hbk
   split at hbk
   ·cases hbk
   ·rename_i hc
    injection hbk with hbk
    subst hbk
    rcases hown.2 with ⟨q1,_⟩|⟨g,cp,cur,q1,hbg,_⟩
    ·cases q1
    ·injection q1 with q1;injection q1 with q1;subst q1
     exact ⟨hbg,hc⟩
 have q3 : Rel w' S' (μ ++ [.slice A es.length cap]) (H ++ [⟨2,e,z,es⟩]) := by
  refine q1.add (.inr (.inr (.inl rfl))) ⟨fun h=>by simp at h,fun _=>⟨us,A,cap,rfl,hc1,hc2,fun _=>hown0,fun hne=>?_⟩,fun h=>(by simp at h),fun h=>by simp at h⟩ fun b hbk=>?_
  ·have hpos : 0 < es.length := List.length_pos_iff.2 hne
   rcases hown.2 with ⟨q1,_⟩|⟨g,cp,cur,q1,hbg,_⟩
   ·injection q1 with _ q1;omega
   ·injection q1 with q1
    refine ⟨g,q1,zbD hall fun j y hy=>.inr ⟨hbg,⟨0,q1⟩,by have : es.length ≤ cap := hc1;omega,by simpa using hy⟩⟩
  ·obtain ⟨k1,k2⟩ := hbl b hbk
   refine ⟨?_,fun j d hs=>⟨rfl,?_⟩⟩
   ·rintro ⟨k,y,o,hy,ho,hk,hb'⟩
    have := hr.own_lt hy ho hk hb';omega
   ·rcases hs with hs|⟨_,_,_,hd⟩
    ·have := hr.still_lt hs;omega
    ·have := (List.getElem?_eq_some_iff.1 hd).1
     rw [z1p hall] at this
     exact this
 refine ⟨_,_,_,S',_,rfl,⟨rfl,rfl⟩,q3,⟨A,es.length,cap,A,cap,by rw [← hr.len];simp,Nat.le_refl _,rfl,fun _=>⟨rfl,rfl⟩⟩,q2.add hr.len fun b hbk=>?_⟩
 exact (hbl b hbk).1
end

end Go.Proofs.YtaplemeamcgpkaaDoor
end

namespace Go.Proofs.YtaplemeamcgpkaaDoor
open Go.RowKit
def zwP (T : Tbl) (l : List Item) (v : Nat) : List UInt8 := zFR (v :: (chP T (z0t l)).1)
def z7H (T : Tbl) (l : List Item) (v : Nat) : Nat × Tbl := (zEY (adT (chP T (z0t l)).2 (zwP T l v)) (zwP T l v),adT (chP T (z0t l)).2 (zwP T l v))
abbrev lfC : Code := (Tryd.f29.body).getD .skip
theorem get_someL {T : Tm} : ∀ (l : Tm), (∀ p ∈ l, get T p.1 = p.2) → ∀ i, get l i = get T i ∨ get l i = .nil
  | [], _, i => .inr rfl
  | (j, d) :: r, h, i => by
    simp only [get]
    split
    · rename_i e
      subst e
      exact .inl (h (j, d) (List.mem_cons_self ..)).symm
    · exact get_someL r (fun p hp => h p (List.mem_cons_of_mem _ hp)) i
theorem zrU {n : Nat} {H : List AObj} {T : Tm} {v : Nat} {Q : Exit → ASt → Prop} (h2 : get T 2 = nA (v : Int)) (hn : n ≤ H.length) (hQ : ∀ T',get T' 10 = OW H.length 1 → get T' 0 = get T 0 → get T' 1 = get T 1 → Q .normal ⟨H ++ [zEo [v]],T'⟩) : AWp Tryd.prog GG (F0 59) n (cdL (zFO 2 lfC)) Q ⟨H,T⟩ := by
 intro w S μ a hr hf hg
 have e2 : a.tmps.getD 2 undef = .int .i64 v := by have := hf.slot 2;rw [h2] at this;exact this.1
 have hs : a.tmps.size = 59 := hf.size
 have e2' : a.tmps[2]?.getD undef = .int .i64 v := by rw [← e2];simp
 have g2 : a.tmps[2]'(by omega) = .int .i64 v := by rw [← e2];simp [hs]
 show (Code.region _ _ false).wp Tryd.prog _ a w
 refine wp_region_list ?_
 simp [wpList,go_sem,Oper.wp,Oper.upon,execOp,g2,hs,Region.wanted,newObj,Sem.run]
 refine .inl (.inl (.inl ?_))
 have hown := zbY w w.heap.size 3 1 1 #[.int .i64 (v : Int)] (Nat.le_refl _) rfl (by unfold maxLen;omega)
 obtain ⟨x,r,H',S',μ',e,⟨rfl,rfl⟩,hr',hrep,hst⟩ := zmM hr ((Below.refl _ w).alloc (Nat.le_refl _) _) (e := 3) (z := 1) (es := [nA (v : Int)]) (fun d hd=>by rw [List.mem_singleton.1 hd];rfl) (us := [.int .i64 (v : Int)]) ⟨rfl,fun j d u hd hu=>by
  match j,hd,hu with
  |0,hd,hu=>cases hd;cases hu;exact ⟨rfl,rfl,rfl⟩⟩ hown
 injection e with e
 subst e
 have f1 := (hf.ext (hst.toExt hr)).put (some 30) (fun i e=>by cases e;decide) (v := nA (v : Int)) (u := .int .i64 (v : Int)) ⟨rfl,rfl⟩
 have f2 := f1.put (some 31) (fun i e=>by cases e;decide) hrep
 have f3 := f2.put (some 10) (fun i e=>by cases e;decide) hrep
 exact ⟨⟨H ++ [zEo [v]],zDl (zDl (zDl T 30 (nA (v : Int))) 31 (OW H.length 1)) 10 (OW H.length 1)⟩,S',μ',hQ _ rfl rfl rfl,hr',f3,hst.less hn⟩
theorem zvx (m : Nat) (D : List Deferred) (t : AV) (l : List Item) (v : Nat) (H : List AObj) (hl : z3u l = true) (hv : v ≤ 2147483647) : zfc m D t (lA l) (nA (v : Int)) H = some (TU [t,lA l,nA (v : Int)],H) := by
 rw [zeG]
 have h64 := ((z0D l).1 hl).1
 have hC := zg7 m l (by omega)
 rw [zjC l hl] at hC
 rw [show (lA l : AV) = SL (l.map (flA Item.cells)) from rfl] at hC ⊢
 have h1 : ¬ ((v : Int) < 0) := by omega
 have h2 : ¬ (2147483647 : Int) < (v : Int) := by omega
 simp (config := {maxSteps := 4000000,implicitDefEqProofs := false}) (disch := omega) only [go_sem,↓reduceIte,Nat.reduceAdd,Nat.reduceSub,Nat.reduceMul,Nat.reduceLeDiff,Nat.reduceLT,Int.reduceEq,Int.reduceNe,Int.reduceLT,Int.reduceLE,Int.reduceAdd,Int.reduceSub,Int.reduceMul,Int.reduceNeg,Nat.zero_add,Nat.add_zero,Nat.mul_one,Int.toNat_natCast,Int.natCast_zero,Int.cast_ofNat_Int,or_false,false_or,or_true,true_or,Int.reduceToNat,Nat.sub_zero,Int.natCast_nonneg,Int.toNat_zero,Bool.true_and,Bool.and_true,Bool.false_and,Bool.and_false,Bool.true_or,Bool.or_true,Bool.false_or,Bool.or_false,Bool.not_true,Bool.not_false,Bool.not_not,true_and,and_true,false_and,and_false,not_true_eq_false,not_false_eq_true,eq_self,decide_true,decide_false,ne_eq,implies_true,forall_const,true_implies,false_implies,Bool.true_eq_false,Bool.false_eq_true,reduceCtorEq,List.map_cons,List.map_nil,List.all_cons,List.all_nil,List.length_cons,List.length_nil,List.length_map,List.length_append,List.nil_append,List.cons_append,List.set_cons_zero,List.set_cons_succ,List.set_nil,List.drop_zero,List.drop_succ_cons,List.drop_nil,List.take_zero,List.take_succ_cons,List.take_nil,Option.map_some,Option.map_none,Option.isSome_some,Nat.reduceEqDiff,Nat.reduceBEq,Nat.reduceGT,List.all_append,List.all_map,Function.comp_def,decide_eq_true_eq,Bool.and_eq_true,beq_self_eq_true,or_self,and_self,ite_true,ite_false,Nat.le_refl,Bool.not_eq_true,decide_not,Bool.not_eq_true',decide_eq_false_iff_not,Bool.not_eq_false,Bool.or_eq_true,if_true,if_false,ite_self,zx9,ztP,zv9,zuP,ztK,zjS,hC,h1,h2,zbT,zbM]
theorem zbO : ∀ (f : Nat) (l : List Item),l.length ≤ f → (∀ x ∈ l,z2S x = true ∧ z3i x) → (z0t l).length * 8 ≤ l.length + 7 ∧ ∀ c ∈ z0t l,c.length ≤ 2000
 |0,l,h,_=>by
  rw [List.eq_nil_of_length_eq_zero (Nat.le_zero.1 h)]
  exact ⟨by simp [z2V],fun c hc=>by rw [z2V] at hc;cases hc⟩
 |f + 1,l,h,hi=>by
  rcases Nat.eq_zero_or_pos l.length with h0|h0
  ·rw [List.eq_nil_of_length_eq_zero h0]
   exact ⟨by simp [z2V],fun c hc=>by rw [z2V] at hc;cases hc⟩
  ·rw [z82 l h0]
   obtain ⟨h1,h2⟩ := zbO f (l.drop 8) (by rw [List.length_drop];omega) fun x hx=>hi x (List.mem_of_mem_drop hx)
   rw [List.length_drop] at h1
   have h3 := zh0 (l.take 8).length (l.take 8) (fun x hx=>hi x (List.mem_of_mem_take hx)) (l.take 8).length (Nat.le_refl _)
   rw [zk0] at h3
   have h4 : (l.take 8).length ≤ 8 := by rw [List.length_take];omega
   refine ⟨by rw [List.length_cons];omega,fun c hc=>?_⟩
   rcases List.mem_cons.1 hc with rfl|hc
   ·omega
   ·exact h2 c hc
theorem z6k {l : List Item} (hl : z3u l = true) (hn : ∀ x ∈ l,z3i x) : l.length ≤ 64 ∧ (z0t l).length ≤ 8 ∧ ∀ c ∈ z0t l,c.length ≤ 2000 := by
 obtain ⟨h1,h2,_⟩ := (z0D l).1 hl
 obtain ⟨h3,h4⟩ := zbO l.length l (Nat.le_refl _) fun x hx=>⟨h2 x hx,hn x hx⟩
 exact ⟨h1,by omega,h4⟩
theorem ztq (A B : List AObj) (T : Tbl) (l : List Item) (v : Nat) (hG : GB A B) (hT : TbOk T 9) (hl : z3u l = true) (hn : ∀ x ∈ l,z3i x) (hv : v ≤ 2147483647) :
  AC Tryd.prog GG 29 [OP (A.length + 1) 0,lA l,nA (v : Int)] (tb A B T) (Is (TU [nA ((z7H T l v).1 : Int),nA 0]) (tb A B (z7H T l v).2)) := by
 have hP : z1X l = z0t l := if_pos hl
 obtain ⟨h64,h8,hc⟩ := z6k hl hn
 have h4 : A.length + 1 < nT A B := by unfold nT;omega
 refine z5p Tryd.func29 (c := lfC) rfl (by kernel_rfl) [.tmp 6, .tmp 7] rfl 59 Tryd.ntmps29 (Nat.le_of_ble_eq_true rfl) (by rw [z6o];exact zjt hG (Nat.le_refl _)) (by rw [z6o,z6o];exact Nat.le_refl _) rfl ?_
 rw [z6o]
 refine zg6 (n := nT A B) MIX (zez 100) 2 _ root_LeafA_h _ (by kernel_rfl) (by rw [z6o];exact Nat.le_refl _) (zvx 100 [] (OP (A.length + 1) 0) l v (tb A B T) hl hv) ?_ (fun e s' hne q=>?_)
 rotate_left
 ·cases e with
  |normal=>exact (hne rfl).elim
  |_=>cases q
 intro s' _ hk0
 have hk2 : (some (TU [zcO s'.T 0,zcO s'.T 1,zcO s'.T 2],s'.H) : RO) = some (TU [OP (A.length + 1) 0,lA l,nA (v : Int)],tb A B T) := hk0
 injection hk2 with hk2
 injection hk2 with hk2 hH
 injection hk2 with _ hk2
 injection hk2 with hk2
 injection hk2 with k1 hk2
 injection hk2 with k2 hk2
 injection hk2 with k3 _
 rw [slotK_eq] at k1 k2 k3
 obtain ⟨H1,T1⟩ := s'
 dsimp only at hH k1 k2 k3
 have hH1 : H1 = tb A B T := hH
 subst hH1
 have ec : zFO 2 lfC = .seq (cdL (zFO 2 lfC)) (zFO 3 lfC) := by kernel_rfl
 rw [ec]
 refine zcL (zrU k3 (by rw [z6o];exact Nat.le_refl _) fun T' q10 q0 q1=>?_)
 rw [z6o] at q10
 have hR := zuo 100 [] A B T l v hG (by rw [hP];exact hT.less (by omega)) (by rw [hP];omega) (by rw [hP];omega) hv (fun c h=>by rw [hP] at h;have := hc c h;omega) hn (by omega)
 rw [hP] at hR
 show AWp _ _ _ _ _ _ _
 refine AWp.forget (get_someL [(0,OP (A.length + 1) 0),(1,lA l),(10,OW (nT A B) 1)] (by
  intro p hp
  simp only [List.mem_cons,List.not_mem_nil,or_false] at hp
  rcases hp with rfl|rfl|rfl
  ·exact q0.trans k1
  ·exact q1.trans k2
  ·exact q10)) ?_
 refine AWp.mono (z3e (n := nT A B) MIX (zfC 100) _ root_LeafB_h _ _ (by rw [List.length_append,z6o];omega) hR) fun e s2 q=>?_
 have fin : (TU [nA ((z7H T l v).1 : Int),nA 0] : AV) = TU (zCN s2.T [6,7]) → s2.H = tb A B (z7H T l v).2 ++ [zEo (v :: (chP T (z0t l)).1)] → zCE Tryd.prog s2.H s2.T [.tmp 6, .tmp 7] fun ds=>ro s2.H (z2s ds) = TU [nA ((z7H T l v).1 : Int),nA 0] ∧ HLe s2.H (tb A B (z7H T l v).2) := by
  intro h1 h2
  have h3 := zj6 h1
  rw [zah] at h3
  injection h3 with a1 h3
  injection h3 with a2 _
  refine ⟨?_,?_⟩
  ·show ro s2.H (TU [noT (get s2.T 6),noT (get s2.T 7)]) = _
   rw [← a1,← a2]
   rfl
  ·rw [h2]
   have := HLe.take (tb A B (z7H T l v).2 ++ [zEo (v :: (chP T (z0t l)).1)]) (nT A B)
   rwa [zf6] at this
 rcases zh2 q with ⟨he,h1,h2⟩|⟨u,he,h1,h2⟩
 ·rcases he with rfl|rfl
  ·exact fin h1 h2
  ·exact fin h1 h2
 ·have h3 := congrArg List.length (zj6 h1)
  rw [List.length_cons,zah] at h3
  simp at h3
structure LeafQ where
 A : List AObj
 B : List AObj
 T : Tbl
 l : List Item
 v : Nat
def LeafQ.Is (q : LeafQ) (args : List AV) (H : List AObj) : Prop := args = [OP (q.A.length + 1) 0,lA q.l,nA (q.v : Int)] ∧ H = tb q.A q.B q.T ∧ GB q.A q.B ∧ TbOk q.T 9 ∧ z3u q.l = true ∧ (∀ x ∈ q.l,z3i x) ∧ q.v ≤ 2147483647
def z11 (_ : Nat) (args : List AV) (H : List AObj) : RO :=
 open Classical in if h : ∃ q : LeafQ,q.Is args H then some (TU [nA ((z7H h.choose.T h.choose.l h.choose.v).1 : Int),nA 0],tb h.choose.A h.choose.B (z7H h.choose.T h.choose.l h.choose.v).2) else none
theorem z5v (m : Nat) : ∀ args H X H',z11 m args H = some (X,H') → AC Tryd.prog GG 29 args H (Is X H') := by
 intro args H X H' h
 unfold z11 at h
 split at h
 ·rename_i hq
  obtain ⟨h1,h2,h3,h4,h5,h6,h7⟩ := hq.choose_spec
  injection h with h
  injection h with a b
  subst a b
  have := ztq hq.choose.A hq.choose.B hq.choose.T hq.choose.l hq.choose.v h3 h4 h5 h6 h7
  rwa [← h1,← h2] at this
 ·cases h
theorem zzR {A A' B B' : List AObj} {T T' : Tbl} (hA : A.length = A'.length) (h : tb A B T = tb A' B' T') : A = A' ∧ B = B' ∧ T = T' := by
 unfold tb tbM at h
 obtain ⟨h1,h2⟩ := List.append_inj h hA
 injection h2 with _ h2
 injection h2 with _ h2
 injection h2 with h3 h2
 refine ⟨h1,h2,?_⟩
 injection h3 with _ _ _ h3
 exact (List.map_inj_right (fun x y e=>zmp e)).1 h3
theorem z7a (m : Nat) (A B : List AObj) (T : Tbl) (l : List Item) (v : Nat) (hG : GB A B) (hT : TbOk T 9) (hl : z3u l = true) (hn : ∀ x ∈ l,z3i x) (hv : v ≤ 2147483647) :
  z11 m [OP (A.length + 1) 0,lA l,nA (v : Int)] (tb A B T) = some (TU [nA ((z7H T l v).1 : Int),nA 0],tb A B (z7H T l v).2) := by
 have hq : ∃ q : LeafQ,q.Is [OP (A.length + 1) 0,lA l,nA (v : Int)] (tb A B T) := ⟨⟨A,B,T,l,v⟩,rfl,rfl,hG,hT,hl,hn,hv⟩
 unfold z11
 rw [dif_pos hq]
 obtain ⟨h1,h2,_⟩ := hq.choose_spec
 generalize hq.choose = q at h1 h2 ⊢
 obtain ⟨A',B',T',l',v'⟩ := q
 dsimp only at h1 h2 ⊢
 injection h1 with a1 h1
 injection h1 with a2 h1
 injection h1 with a3 _
 have e1 : A.length = A'.length := by
  injection a1 with a1;injection a1 with a1;injection a1 with a1;injection a1 with a1;omega
 obtain ⟨rfl,rfl,rfl⟩ := zzR e1 h2
 have e2 := zgG a2
 have e3 := zcd a3
 have e4 : v = v' := by omega
 subst e2 e4
 rfl
end Go.Proofs.YtaplemeamcgpkaaDoor

namespace Go.Proofs.YtaplemeamcgpkaaDoor
open Go.RowKit
def z8f : Code := (Tryd.f9.body).getD .skip
def root_Of_h : Hint := (.two .n (.two (.two .n (.two (.two .n .n) .n)) (.two .n (.join [0,7] (.two .n (.one (.lp [(7,z2J,1)] [0,3,7,18,19] [0,4,5,6,7] (.two .n (.two (.two .n .n) (.two (.one (.two .n (.two .n (.two (.two .n (.two (.two .n .n) .n)) .n)))) .n)))))) (.two .n (.two (.two .n (.two (.two .n .n) .n)) (.two .n .n)))))))
def z5c (m : Nat) : Env := [(28, .tell (z2p m)),(29, .keep (z11 m)),(30, .keep (z2c m))]
abbrev z9z (n0 : Nat) : KO (AV × List AObj) := zbr Tryd.prog n0 [.tmp 4, .tmp 5, .tmp 6]
def zeR (m : Nat) (n0k : Nat) (s : ASt) : RO := z3n Tryd.prog GG (z5c m) m ⟨52,[]⟩ (cdR (cdR (cdR (cdR z8f)))) root_Of_h.r.r.r.r s (z9z n0k)
def zev (m : Nat) (s : ASt) (kc : ASt → RO) (kx : KO (AV × List AObj)) : RO := zdP Tryd.prog GG (z5c m) m ⟨52,[]⟩ (cdL (cdL (cdR (cdL (cdR (cdR (cdR z8f))))))) root_Of_h.r.r.r.l.r.c.c [0,3,7,18,19] [0,4,5,6,7] s kc kx
def zbc (m : Nat) (t0 t1 : AV) (H : List AObj) : RO := zF9 Tryd.prog GG (z5c m) m ⟨52,[]⟩ z8f root_Of_h ⟨H,z2t 0 [t0,t1]⟩ (z9z H.length)
theorem zey (m : Nat) (n0k : Nat) (H : List AObj) (t0 t7 : AV) : zeR m n0k ⟨H,[(0,t0),(7,t7)]⟩ =
 zaG (z26 m (ro H t0) (ro H t7) H) fun t44 H2 =>
 zEN t44 0 fun t45 =>
 zEN t44 1 fun t46 =>
 zED none false false .neq t46 (V (.int .i64 0)) fun t48 =>
 z0U t48 (
  z84 n0k H2 (ro H2 (TU [noT (V (.int .i64 0)),noT (V (.slice none 0 0)),noT t46]))) (
  z84 n0k H2 (ro H2 (TU [noT t45,noT t7,noT (V (.int .i64 0))]))) := by
 refine (z0o _ _ _ _ _ _ _ _ _).trans ?_
 kernel_rfl
theorem zfe (m : Nat) (H : List AObj) (t0 t3 t7 t18 t19 : AV) (kc : ASt → RO) (kx : KO (AV × List AObj)) : zev m ⟨H,[(0,t0),(3,t3),(7,t7),(18,t18),(19,t19)]⟩ kc kx =
 zED none false false .lss t19 (V (.int .i64 16)) fun t20 =>
 z0U t20 (
  zla false (some (16,1)) t18 t19 fun t22 =>
  z0b (some (16,18)) t3 fun t27 =>
  zbF 16 1 t27 t19 fun t28 =>
  z0l 1 H t28 fun t29 =>
  zaG (z11 m [(ro H t0),(ro H t22),(ro H t29)] H) fun t30 H2 =>
  zEN t30 0 fun t31 =>
  zEN t30 1 fun t32 =>
  zED none false false .neq t32 (V (.int .i64 0)) fun t34 =>
  z0U t34 (
   kx .ret ⟨H2,[(0,t0),(4,(V (.int .i64 0))),(5,(V (.slice none 0 0))),(6,t32),(7,t7)]⟩) (
   z3z (some (z2J,1)) 1 [(0,t31)] fun t38 =>
   zF4 (some (z2J,1)) H2 t7 t38 fun t39 H3 =>
   zED none false false .add t19 (V (.int .i64 1)) fun t40 =>
   zd5 H.length H3 [(0,t0),(3,t3),(7,t39),(18,t18),(19,t40)] kc)) (
  kx (.exit 0) ⟨H,[(0,t0),(4, .nil),(5, .nil),(6, .nil),(7,t7)]⟩) := by
 refine (z2v _ _ _ _ _ _ _ _ _ _ _ _).trans ?_
 kernel_rfl
theorem zl3 (m : Nat) (t0 t1 : AV) (H : List AObj) : zbc m t0 t1 H =
 zE6 z0A H t1 fun t3 H2 =>
 z0l 34 H2 t3 fun t14 =>
 z3o (z2p m [(ro H2 t14)]) [(ro H2 t14)] fun t15 =>
 unE .not t15 fun t16 =>
 z0U t16 (
  z84 H.length H2 (ro H2 (TU [noT (V (.int .i64 0)),noT (V (.slice none 0 0)),noT (V (.int .i64 1))]))) (
  z0b (some (0,18)) t3 fun t17 =>
  z0l 18 H2 t17 fun t18 =>
  zFn (V (.slice none 0 0)) z2J 1 H2 fun t7 H3 =>
  zc7 m (zev m) ⟨H3,[(0,t0),(3,t3),(7,t7),(18,t18),(19,(V (.int .i64 0)))]⟩ (z4k 0 (zCu (fun s=>zeR m H.length ⟨s.H,[(0,gt s.T 0),(7,gt s.T 7)]⟩) (z9z H.length)))) := by
 refine (zsU Tryd.prog GG (z5c m) m ⟨52,[]⟩ H.length z8f root_Of_h ⟨H,z2t 0 [t0,t1]⟩ [.tmp 4, .tmp 5, .tmp 6]).trans ?_
 kernel_rfl
def zaS (m : Nat) : List AV → List AObj → RO|[t0,t1],H=>zbc m t0 t1 H|_,_=>none
theorem zeM (m : Nat) : ∀ args H X H',zaS m args H = some (X,H') → AC Tryd.prog GG 9 args H (Is X H') := by
 intro args H X H' h
 unfold zaS at h
 split at h
 ·exact z7O MIX (by
  intro f e h
  simp only [z5c,Prod.mk.injEq,List.mem_cons,List.not_mem_nil,or_false] at h
  rcases h with ⟨rfl,rfl⟩|⟨rfl,rfl⟩|⟨rfl,rfl⟩
  ·exact z7L m
  ·exact z5v m
  ·exact z4Z m) (f := 9) (c := z8f) Tryd.func9 rfl (by kernel_rfl) _ rfl Tryd.ntmps9 (Nat.le_of_ble_eq_true rfl) root_Of_h h
 ·cases h
def z1i : Code := (Tryd.f12.body).getD .skip
def root_Unlike_h : Hint := (.two .n (.join [1,2] (.join [1,2,17] .n (.two (.two .n .n) .n)) (.two .n (.join [8] (.two .n (.one (.lp [(8,z2J,1)] [1,2,8,19,20] [8] (.two .n (.two (.two .n .n) (.join [1,2,8,19,20] (.one (.two .n (.two .n (.two .n .n)))) .n)))))) (.two .n .n)))))
def z17 (m : Nat) : Env := []
abbrev z25 (n0 : Nat) : KO (AV × List AObj) := zbr Tryd.prog n0 [.tmp 6, .tmp 7]
def z5y (m : Nat) (n0 : Nat) (kc : ASt → RO) (kx : KO (AV × List AObj)) (s : ASt) : RO := z3n Tryd.prog GG (z17 m) m ⟨38,[]⟩ (cdR (cdR (cdR (cdL (cdL (cdR (cdL (cdR (cdR (cdR z1i)))))))))) root_Unlike_h.r.r.r.l.r.c.c.r.r.r s (zfV n0 [1,2,8,19,20] [8] kc kx)
def z8u (m : Nat) (n0k : Nat) (s : ASt) : RO := z3n Tryd.prog GG (z17 m) m ⟨38,[]⟩ (cdR (cdR (cdR (cdR z1i)))) root_Unlike_h.r.r.r.r s (z25 n0k)
def z8X (m : Nat) (s : ASt) (kc : ASt → RO) (kx : KO (AV × List AObj)) : RO := zdP Tryd.prog GG (z17 m) m ⟨38,[]⟩ (cdL (cdL (cdR (cdL (cdR (cdR (cdR z1i))))))) root_Unlike_h.r.r.r.l.r.c.c [1,2,8,19,20] [8] s kc kx
def z5q (m : Nat) (n0k : Nat) (s : ASt) : RO := z3n Tryd.prog GG (z17 m) m ⟨38,[]⟩ (cdR (cdR z1i)) root_Unlike_h.r.r s (z25 n0k)
def z5L (m : Nat) (n0k : Nat) (s : ASt) : RO := z3n Tryd.prog GG (z17 m) m ⟨38,[]⟩ (cdR (cdL (cdR z1i))) root_Unlike_h.r.l.r s (zCu (fun s=>z5q m n0k ⟨s.H,[(1,gt s.T 1),(2,gt s.T 2)]⟩) (z25 n0k))
def z7l (m : Nat) (t0 t1 t2 : AV) (H : List AObj) : RO := zF9 Tryd.prog GG (z17 m) m ⟨38,[]⟩ z1i root_Unlike_h ⟨H,z2t 0 [t0,t1,t2]⟩ (z25 H.length)
theorem z61 (m : Nat) (n0 : Nat) (kc : ASt → RO) (kx : KO (AV × List AObj)) (H : List AObj) (t1 t2 t8 t19 t20 : AV) : z5y m n0 kc kx ⟨H,[(1,t1),(2,t2),(8,t8),(19,t19),(20,t20)]⟩ =
 zED none false false .add t20 (V (.int .i64 1)) fun t36 =>
 zd5 n0 H [(1,t1),(2,t2),(8,t8),(19,t19),(20,t36)] kc := by
 refine (z0o _ _ _ _ _ _ _ _ _).trans ?_
 kernel_rfl
theorem zaz (m : Nat) (n0k : Nat) (H : List AObj) (t8 : AV) : z8u m n0k ⟨H,[(8,t8)]⟩ =
 z84 n0k H (ro H (TU [noT t8,noT (V (.int .i64 0))])) := by
 refine (z0o _ _ _ _ _ _ _ _ _).trans ?_
 kernel_rfl
theorem zaE (m : Nat) (H : List AObj) (t1 t2 t8 t19 t20 : AV) (kc : ASt → RO) (kx : KO (AV × List AObj)) : z8X m ⟨H,[(1,t1),(2,t2),(8,t8),(19,t19),(20,t20)]⟩ kc kx =
 zED none false false .lss t20 t19 fun t21 =>
 z0U t21 (
  zcV 1 H t1 t20 fun t25 =>
  z0l 1 H t25 fun t26 =>
  zcV 1 H t2 t20 fun t29 =>
  z0l 1 H t29 fun t30 =>
  zED none false false .neq t26 t30 fun t31 =>
  z0U t31 (
   z3z (some (z2J,1)) 1 [(0,t20)] fun t34 =>
   zF4 (some (z2J,1)) H t8 t34 fun t35 H2 =>
   z5y m H.length kc kx ⟨H2,[(1,t1),(2,t2),(8,t35),(19,t19),(20,t20)]⟩) (
   z5y m H.length kc kx ⟨H,[(1,t1),(2,t2),(8,t8),(19,t19),(20,t20)]⟩)) (
  kx (.exit 0) ⟨H,[(8,t8)]⟩) := by
 refine (z2v _ _ _ _ _ _ _ _ _ _ _ _).trans ?_
 kernel_rfl
theorem zau (m : Nat) (n0k : Nat) (H : List AObj) (t1 t2 : AV) : z5q m n0k ⟨H,[(1,t1),(2,t2)]⟩ =
 zEU false true H t1 fun t19 =>
 zFn (V (.slice none 0 0)) z2J 1 H fun t8 H2 =>
 zc7 m (z8X m) ⟨H2,[(1,t1),(2,t2),(8,t8),(19,t19),(20,(V (.int .i64 0)))]⟩ (z4k 0 (zCu (fun s=>z8u m n0k ⟨s.H,[(8,gt s.T 8)]⟩) (z25 n0k))) := by
 refine (z0o _ _ _ _ _ _ _ _ _).trans ?_
 kernel_rfl
theorem zaB (m : Nat) (n0k : Nat) (H : List AObj) (t1 t2 t17 : AV) : z5L m n0k ⟨H,[(1,t1),(2,t2),(17,t17)]⟩ =
 z0U t17 (
  z84 n0k H (ro H (TU [noT (V (.slice none 0 0)),noT (V (.int .i64 1))]))) (
  z5q m n0k ⟨H,[(1,t1),(2,t2)]⟩) := by
 refine (z0o _ _ _ _ _ _ _ _ _).trans ?_
 kernel_rfl
theorem zdo (m : Nat) (t0 t1 t2 : AV) (H : List AObj) : z7l m t0 t1 t2 H =
 zEU false true H t1 fun t11 =>
 zED none false false .neq t11 (V (.int .i64 16)) fun t12 =>
 z0U t12 (
  z5L m H.length ⟨H,[(1,t1),(2,t2),(17,(V (.bool true)))]⟩) (
  zEU false true H t2 fun t15 =>
  zED none false false .neq t15 (V (.int .i64 16)) fun t16 =>
  z5L m H.length ⟨H,[(1,t1),(2,t2),(17,t16)]⟩) := by
 refine (zsU Tryd.prog GG (z17 m) m ⟨38,[]⟩ H.length z1i root_Unlike_h ⟨H,z2t 0 [t0,t1,t2]⟩ [.tmp 6, .tmp 7]).trans ?_
 kernel_rfl
def z6S (m : Nat) : List AV → List AObj → RO|[t0,t1,t2],H=>z7l m t0 t1 t2 H|_,_=>none
theorem zdO (m : Nat) : ∀ args H X H',z6S m args H = some (X,H') → AC Tryd.prog GG 12 args H (Is X H') := by
 intro args H X H' h
 unfold z6S at h
 split at h
 ·exact z7O MIX (by intro f e h;cases h) (f := 12) (c := z1i) Tryd.func12 rfl (by kernel_rfl) _ rfl Tryd.ntmps12 (Nat.le_of_ble_eq_true rfl) root_Unlike_h h
 ·cases h
end Go.Proofs.YtaplemeamcgpkaaDoor

namespace Go.Proofs.YtaplemeamcgpkaaDoor
open Go.RowKit
theorem zl8 {T : Tbl} {l : List Item} {v n : Nat} (hT : TbOk T (9 + n)) (hl : z3u l = true) (hn : ∀ x ∈ l,z3i x) : TbOk (z7H T l v).2 n ∧ (z7H T l v).1 ≤ 65536 := by
 obtain ⟨h1,h2,h3⟩ := z6k hl hn
 obtain ⟨h4,_,_⟩ := zrm (z0t l) (z0t l).length (n := n + 1) (hT.less (by omega)) (Nat.le_refl _)
 rw [List.take_length] at h4
 have h5 : TbOk (chP T (z0t l)).2 (n + 1) := h4.less (by omega)
 have h6 := h5.ad (s := zwP T l v)
 exact ⟨h6,Nat.le_trans zlD (by have := h6.ln;omega)⟩
def lvS (t : Tr) (p : List Nat × Tbl) (b : Nat) : List Nat × Tbl := (p.1 ++ [(z7H p.2 (t.leaf b) (t.ver b).toNat).1],(z7H p.2 (t.leaf b) (t.ver b).toNat).2)
def lvP (T : Tbl) (t : Tr) (k : Nat) : List Nat × Tbl := (List.range k).foldl (lvS t) ([],T)
theorem z7Y (T : Tbl) (t : Tr) (k : Nat) : lvP T t (k + 1) = lvS t (lvP T t k) k := by
 unfold lvP
 rw [List.range_succ,List.foldl_append];rfl
structure TFit (t : Tr) (i : Nat) : Prop where
 lf : z3u (t.leaf i) = true
 nm : ∀ x ∈ t.leaf i,z3i x
 v0 : t.ver i = ((t.ver i).toNat : Int)
 v1 : (t.ver i).toNat ≤ 2147483647
theorem TInv.fit {t : Tr} (h : TInv t) {i : Nat} (hi : i < 16) : TFit t i := by
 have hm := List.all_eq_true.1 h.may i (List.mem_range.2 hi)
 unfold zcw at hm
 simp only [Bool.and_eq_true,decide_eq_true_eq] at hm
 refine ⟨zhw h.may hi,h.num i,by omega,by omega⟩
theorem zdC {t : Tr} (h : TInv t) {T : Tbl} {n : Nat} : ∀ (k : Nat),k ≤ 16 → TbOk T (16 * 9 + n) → TbOk (lvP T t k).2 ((16 - k) * 9 + n) ∧ (lvP T t k).1.length = k ∧ ∀ x ∈ (lvP T t k).1,x ≤ 65536
 |0,_,hT=>⟨hT,rfl,fun x hx=>by cases hx⟩
 |k + 1,hk,hT=>by
  obtain ⟨h1,h2,h3⟩ := zdC h k (by omega) hT
  have hf := h.fit (i := k) (by omega)
  obtain ⟨h4,h5⟩ := zl8 (v := (t.ver k).toNat) (n := (16 - (k + 1)) * 9 + n) (h1.less (by omega)) hf.lf hf.nm
  rw [z7Y]
  refine ⟨h4,by unfold lvS;simp [h2],fun x hx=>?_⟩
  unfold lvS at hx
  simp only [List.mem_append,List.mem_singleton] at hx
  rcases hx with hx|rfl
  ·exact h3 x hx
  ·exact h5
def zcQ (T : Tbl) (t : Tr) : Nat × Tbl := (zEY (adT (lvP T t 16).2 (zFR (lvP T t 16).1)) (zFR (lvP T t 16).1),adT (lvP T t 16).2 (zFR (lvP T t 16).1))
theorem zfW {t : Tr} (h : TInv t) {T : Tbl} {n : Nat} (hT : TbOk T (145 + n)) : TbOk (zcQ T t).2 n ∧ (zcQ T t).1 ≤ 65536 := by
 obtain ⟨h1,_,_⟩ := zdC h (n := n + 1) 16 (Nat.le_refl _) (hT.less (by omega))
 have h2 : TbOk (lvP T t 16).2 (n + 1) := h1.less (by omega)
 have h3 := h2.ad (s := zFR (lvP T t 16).1)
 exact ⟨h3,Nat.le_trans zlD (by have := h3.ln;omega)⟩
section
variable {R : Type} {K1 : AV → Option R} {t : Tr} {i : Nat}
theorem zEg (h : i < 16) : zCG (leC t) i K1 = K1 (lA (t.leaf i)) := by
 unfold zCG leC
 simp [List.getElem?_map,List.getElem?_range h]
theorem zjF {n : Nat} : (leC t).all (lt1 n) = true := List.all_eq_true.2 fun d hd=>by
 unfold leC at hd
 obtain ⟨j,_,rfl⟩ := List.mem_map.1 hd
 rfl
end
theorem zqm {A B Y : List AObj} {T : Tbl} {l : List Nat} {k : Nat} (h : Y[k]? = some (zEo l)) : ro1 (tb A B T ++ Y) (OW (nT A B + k) l.length) = SL (l.map fun n : Nat=>nA (n : Int)) := by
 show (match (tb A B T ++ Y)[nT A B + k]? with|some o=>if o.k = 2 ∧ l.length = o.c.length then SL o.c else OW (nT A B + k) l.length|none=>OW (nT A B + k) l.length) = _
 rw [zwF,h]
 exact if_pos ⟨rfl,by rw [zgR,List.length_map]⟩
def zDG (t : Tr) : AObj := ⟨1,z0A,0,tC t⟩
theorem zcY {t : Tr} {n : Nat} : ltO n (zDG t) = true := by unfold ltO zDG;rw [z7R];rfl
attribute [local go_sem] Nat.zero_add Nat.add_zero Nat.mul_one Int.toNat_natCast Int.natCast_zero Int.cast_ofNat_Int or_false false_or or_true true_or Nat.sub_zero Int.natCast_nonneg Int.toNat_zero Bool.true_and Bool.and_true Bool.false_and Bool.and_false Bool.true_or Bool.or_true Bool.false_or Bool.or_false Bool.not_true Bool.not_false Bool.not_not true_and and_true false_and and_false not_true_eq_false not_false_eq_true eq_self decide_true decide_false ne_eq implies_true forall_const true_implies false_implies Bool.true_eq_false Bool.false_eq_true List.map_cons List.map_nil List.all_cons List.all_nil List.length_cons List.length_nil List.length_map List.length_append List.nil_append List.cons_append List.set_cons_zero List.set_cons_succ List.set_nil List.drop_zero List.drop_succ_cons List.drop_nil List.take_zero List.take_succ_cons List.take_nil Option.map_some Option.map_none Option.isSome_some List.all_append List.all_map Function.comp_def decide_eq_true_eq Bool.and_eq_true beq_self_eq_true or_self and_self ite_true ite_false Nat.le_refl Bool.not_eq_true decide_not Bool.not_eq_true' decide_eq_false_iff_not Bool.not_eq_false Bool.or_eq_true if_true if_false ite_self zx9 ztP zv9 zuP ztK zjS z0E z47 z7R z8E zgo z4K z6a z7q z8e z99 z4y zhO z56 z0d z0c zjo zjA zjy zje ziV z2a z5m zcg zDv zF7 zFz zEf zt0 zzX zkk zf6 zhp z6o List.append_assoc
attribute [local go_sem_proc] Nat.reduceAdd Nat.reduceSub Nat.reduceMul Nat.reduceLeDiff Nat.reduceLT Int.reduceEq Int.reduceNe Int.reduceLT Int.reduceLE Int.reduceAdd Int.reduceSub Int.reduceMul Int.reduceNeg Int.reduceToNat reduceCtorEq Nat.reduceEqDiff Nat.reduceBEq Nat.reduceGT
attribute [local go_sem_proc ↓] reduceIte
theorem zxR (m : Nat) (A B : List AObj) (T : Tbl) (t : Tr) (hG : GB A B) (hT : TbOk T 145) (h : TInv t) (hm : 100 < m) :
  zbc m (OP (A.length + 1) 0) (tA t) (tb A B T) = some (TU [nA ((zcQ T t).1 : Int),SL ((lvP T t 16).1.map fun n : Nat=>nA (n : Int)),nA 0],tb A B (zcQ T t).2) := by
 rw [zl3]
 have hM := z9d m t h.ok
 rw [h.may] at hM
 rw [z2a] at hM ⊢
 simp (config := {maxSteps := 4000000,implicitDefEqProofs := false}) (disch := omega) only [go_sem,hM,z8H]
 refine z65 (m := m) (ι := {k : Nat // k ≤ 16}) (fun k=>⟨tb A B (lvP T t k.1).2 ++ [⟨1,z0A,0,tC t⟩,zEo (lvP T t k.1).1],[(0,OP (A.length + 1) 0),(3,OP (nT A B) 0),(7,OW (nT A B + 1) k.1),(18, .agg (leC t)),(19,nA k.1)]⟩) (fun k=>16 - k.1) (fun _=>some (TU [nA ((zcQ T t).1 : Int),SL ((lvP T t 16).1.map fun n : Nat=>nA (n : Int)),nA 0],tb A B (zcQ T t).2)) ?_ ⟨0,Nat.zero_le _⟩ (by dsimp only;omega)
 rintro kx hkx ⟨k,hk⟩ kc hkc
 dsimp only at hkc ⊢
 rw [zfe]
 obtain ⟨h1,h2,h3⟩ := zdC h (n := 1) k hk hT
 by_cases hlt : k < 16
 ·have hlt' : (k : Int) < 16 := by omega
  have step := hkc ⟨k + 1,by omega⟩ (by dsimp only;omega)
  dsimp only at step
  rw [z7Y] at step
  have hf := h.fit hlt
  generalize hp : lvP T t k = p at *
  obtain ⟨acc,U⟩ := p
  dsimp only at h1 h2 h3 step ⊢
  have hL := z7a m A (B ++ [zDG t,zEo acc]) U (t.leaf k) (t.ver k).toNat (hG.app fun n _=>by simp [z7E,zcY]) (h1.less (by omega)) hf.lf hf.nm hf.v1
  rw [z8M,z8M,← hf.v0] at hL
  unfold zDG at hL
  have hw1 : IntKind.i64.wrap ((k : Int) + 1) = (k : Int) + 1 := z0C (by omega) (by omega)
  have hT2 := fun n=>zcY (t := t) (n := n)
  unfold zDG at hT2
  unfold lvS at step
  dsimp only at step
  generalize hq : z7H U (t.leaf k) (t.ver k).toNat = q at *
  have hlt2 := zjt (T := q.2) hG (n := nT A B + 2) (by omega)
  have hlb : k + 1 ≤ 34359738368 := by omega
  have h4 : A.length + 1 < nT A B + 2 := by unfold nT;omega
  have h5 : nT A B < nT A B + 2 := by omega
  have h6 : nT A B + 1 < nT A B + 2 := by omega
  rw [z5m] at hL
  simp (config := {maxSteps := 4000000,implicitDefEqProofs := false}) (disch := omega) only [go_sem,hlt,hlt',zEg,zjF,hL,hw1,hlt2,hT2,z7E,znB,zo5,zny,zgR,zdj,h2,hlb,h4,h5,h6]
  exact step
 ·have hlt' : ¬ (k : Int) < 16 := by omega
  obtain rfl : k = 16 := by omega
  have hq : ∀ n ∈ (lvP T t 16).1,n ≤ 9223372036854775807 := fun n hn=>by have := h3 n hn;omega
  have hrow := fun (T' : Tbl)=>zqm (A := A) (B := B) (Y := [zDG t,zEo (lvP T t 16).1]) (T := T') (l := (lvP T t 16).1) (k := 1) rfl
  rw [h2] at hrow
  have hl1 := zoQ m A B (lvP T t 16).2 (lvP T t 16).1 hG h1.nd (by have := h1.ln;omega) hq (by rw [h2];omega) [zDG t,zEo (lvP T t 16).1] (fun n _=>by simp [z7E,zcY])
  have hlt2 := fun (T' : Tbl)=>zjt (T := T') hG (Nat.le_refl _)
  unfold zDG at hrow hl1
  unfold zcQ
  have h7 : nT A B ≤ nT A B + 2 := by omega
  simp (config := {maxSteps := 4000000,implicitDefEqProofs := false}) (disch := omega) only [go_sem,hlt',hkx,zey,hrow,hl1,hlt2,h7]
def zCX (a b : List Nat) (k : Nat) : List Nat := (List.range k).filter fun i=>decide (a.getD i 0 ≠ b.getD i 0)
theorem zmP (a b : List Nat) (k : Nat) : zCX a b (k + 1) = if a.getD k 0 = b.getD k 0 then zCX a b k else zCX a b k ++ [k] := by
 unfold zCX
 rw [List.range_succ,List.filter_append]
 split
 ·rename_i h
  rw [List.filter_cons_of_neg (by simpa using h),List.filter_nil,List.append_nil]
 ·rename_i h
  rw [List.filter_cons_of_pos (by simpa using h),List.filter_nil]
theorem zkl (a b : List Nat) (k : Nat) : (zCX a b k).length ≤ k := by
 unfold zCX
 have := List.length_filter_le (fun i=>decide (a.getD i 0 ≠ b.getD i 0)) (List.range k)
 rwa [List.length_range] at this
theorem zoE (l : List Nat) {k : Nat} (h : k < l.length) {R : Type} {K : AV → Option R} : zCG (l.map fun n : Nat=>nA (n : Int)) k K = K (nA ((l.getD k 0 : Nat) : Int)) := by
 unfold zCG
 rw [List.getElem?_map,List.getElem?_eq_getElem h,List.getD_eq_getElem?_getD,List.getElem?_eq_getElem h];rfl
theorem zyR (m : Nat) (x : AV) (A B : List AObj) (T : Tbl) (a b : List Nat) (hG : GB A B) (ha : a.length = 16) (hb : b.length = 16) (hm : 100 < m) :
  z7l m x (SL (a.map fun n : Nat=>nA (n : Int))) (SL (b.map fun n : Nat=>nA (n : Int))) (tb A B T) = some (TU [SL ((zCX a b 16).map fun n : Nat=>nA (n : Int)),nA 0],tb A B T) := by
 rw [zdo]
 simp (config := {maxSteps := 4000000,implicitDefEqProofs := false}) (disch := omega) only [go_sem,ha,hb,zaB,zau]
 refine z65 (m := m) (ι := {k : Nat // k ≤ 16}) (fun k=>⟨tb A B T ++ [zEo (zCX a b k.1)],[(1,SL (a.map fun n : Nat=>nA (n : Int))),(2,SL (b.map fun n : Nat=>nA (n : Int))),(8,OW (nT A B) (zCX a b k.1).length),(19,nA 16),(20,nA k.1)]⟩) (fun k=>16 - k.1) (fun _=>some (TU [SL ((zCX a b 16).map fun n : Nat=>nA (n : Int)),nA 0],tb A B T)) ?_ ⟨0,Nat.zero_le _⟩ (by dsimp only;omega)
 rintro kx hkx ⟨k,hk⟩ kc hkc
 dsimp only at hkc ⊢
 rw [zaE]
 by_cases hlt : k < 16
 ·have hlt' : (k : Int) < 16 := by omega
  have step := hkc ⟨k + 1,by omega⟩ (by dsimp only;omega)
  dsimp only at step
  rw [zmP] at step
  have hka := fun {K : AV → RO}=>zoE a (k := k) (by omega) (K := K)
  have hkb := fun {K : AV → RO}=>zoE b (k := k) (by omega) (K := K)
  have hw1 : IntKind.i64.wrap ((k : Int) + 1) = (k : Int) + 1 := z0C (by omega) (by omega)
  have hlt2 := zjt (T := T) hG (n := nT A B + 1) (by omega)
  have h5 : nT A B < nT A B + 1 := Nat.lt_succ_self _
  have hul := zkl a b k
  generalize hu : zCX a b k = u at *
  have hlb : u.length + 1 ≤ 34359738368 := by omega
  by_cases he : a.getD k 0 = b.getD k 0
  ·rw [if_pos he] at step
   have he' : ((a.getD k 0 : Nat) : Int) = ((b.getD k 0 : Nat) : Int) := by rw [he]
   simp (config := {maxSteps := 4000000,implicitDefEqProofs := false}) (disch := omega) only [go_sem,hlt,hlt',ha,hb,hka,hkb,he',hw1,hlt2,h5,z7E,z61]
   exact step
  ·rw [if_neg he,List.length_append] at step
   have he' : ¬ ((a.getD k 0 : Nat) : Int) = ((b.getD k 0 : Nat) : Int) := by omega
   simp (config := {maxSteps := 4000000,implicitDefEqProofs := false}) (disch := omega) only [go_sem,hlt,hlt',ha,hb,hka,hkb,he',hw1,hlt2,h5,z7E,znB,zo5,zny,zgR,zdj,hlb,z61]
   exact step
 ·have hlt' : ¬ (k : Int) < 16 := by omega
  obtain rfl : k = 16 := by omega
  have hrow := zqm (A := A) (B := B) (Y := [zEo (zCX a b 16)]) (T := T) (l := zCX a b 16) (k := 0) rfl
  rw [Nat.add_zero] at hrow
  have hlt2 := fun (T' : Tbl)=>zjt (T := T') hG (Nat.le_refl _)
  have h7 : nT A B ≤ nT A B + 1 := by omega
  simp (config := {maxSteps := 4000000,implicitDefEqProofs := false}) (disch := omega) only [go_sem,hlt',hkx,zaz,hrow,hlt2,h7]
end Go.Proofs.YtaplemeamcgpkaaDoor

namespace Go.Proofs.YtaplemeamcgpkaaDoor
open Go.RowKit
theorem zd1 (k r : z0f) (h : k.length ≤ 255) : z07 ((put k.length ++ k) ++ r) = (k,(put k.length ++ k).length,0) := by
 have hc : cut (put k.length ++ k ++ r) = (k.length,(put k.length).length,0) := by rw [List.append_assoc];exact zkH _ (by omega) _
 unfold z07
 rw [hc]
 simp only [ne_eq,not_true_eq_false,if_false]
 rw [if_neg (by omega),if_neg (by simp <;> omega)]
 simp
theorem zsy {kind i : Int} {s : z0f} (hv : zEn kind i s = true) (hk : kind ≠ 0) (h0 : -9223372036854775808 ≤ i) (h1 : i < 9223372036854775808) (r : z0f) :
  zFW (zFS kind i s ++ r) = ⟨kind,i,s,(zFS kind i s).length,0⟩ := by
 rcases zbE hv with ⟨rfl,_⟩|⟨rfl,hi,rfl⟩|⟨rfl,rfl⟩|⟨rfl,rfl,hs⟩
 ·exact absurd rfl hk
 ·rcases hi with rfl|rfl <;> rfl
 ·have hz := zof i h0 h1
  have e : zFS 2 i [] = 2 :: put (zig i) := by simp [zFS]
  rw [e]
  simp only [List.cons_append,zFW]
  rw [zkH _ hz]
  simp [zwG]
 ·have e : zFS 3 0 s = 3 :: (put s.length ++ s) := by simp [zFS]
  rw [e]
  simp only [List.cons_append,zFW]
  rw [zd1 s r (by omega)]
  simp
  omega
theorem zqw {x : Item} (hi : z2S x = true) (hn : z3i x) (r : z0f) : zDM (zEd x ++ r) = ⟨x,(zEd x).length,0⟩ := by
 obtain ⟨key,kind,i,s,ver⟩ := x
 obtain ⟨hk1,hv,hk0,hv0,hv1⟩ := z78 hi
 have hkl := zde hk1
 have e : zEd ⟨key,kind,i,s,ver⟩ ++ r = (put key.length ++ key) ++ (zFS kind i s ++ (put ver.toNat ++ r)) := by simp [zEd]
 have a := zd1 key (zFS kind i s ++ (put ver.toNat ++ r)) (by omega)
 have d1 : (zEd ⟨key,kind,i,s,ver⟩ ++ r).drop (put key.length ++ key).length = zFS kind i s ++ (put ver.toNat ++ r) := by rw [e];exact List.drop_left' rfl
 have d2 : (zEd ⟨key,kind,i,s,ver⟩ ++ r).drop ((put key.length ++ key).length + (zFS kind i s).length) = put ver.toNat ++ r := by rw [← List.drop_drop,d1];exact List.drop_left' rfl
 have v := zsy hv hk0 hn.1 hn.2 (put ver.toNat ++ r)
 have u := zkH ver.toNat (by omega) r
 have hver : ((ziW ver.toNat : Nat) : Int) = ver := by unfold ziW;rw [if_neg (by omega)];omega
 rw [← e] at a
 simp only [zDM,a,d1,v,d2,u]
 simp [hver,zEd]
 omega
theorem zpf {g : List Item} (hg : ∀ x ∈ g,z2S x = true ∧ z3i x) (t : UInt8) (r : z0f) : ∀ k,k ≤ g.length → stQ id (t :: ((g.map zEd).flatten ++ r)) k = (g.take k,1 + ((g.take k).map zEd).flatten.length,0)
 |0,_=>by simp [stQ]
 |k + 1,h=>by
  have ih := zpf hg t r k (by omega)
  have hx := hg g[k] (List.getElem_mem (by omega))
  have hsplit : (g.map zEd).flatten = ((g.take k).map zEd).flatten ++ (zEd g[k] ++ ((g.drop (k + 1)).map zEd).flatten) := by
   have hg2 : g = g.take k ++ (g[k] :: g.drop (k + 1)) := by rw [← List.drop_eq_getElem_cons (show k < g.length by omega),List.take_append_drop]
   conv=>lhs;rw [hg2]
   rw [List.map_append,List.flatten_append,List.map_cons,List.flatten_cons]
  have hd : (t :: ((g.map zEd).flatten ++ r)).drop (1 + ((g.take k).map zEd).flatten.length) = zEd g[k] ++ (((g.drop (k + 1)).map zEd).flatten ++ r) := by
   rw [Nat.add_comm,List.drop_succ_cons,hsplit,List.append_assoc,List.append_assoc];exact List.drop_left' rfl
  have hc := zqw hx.1 hx.2 (((g.drop (k + 1)).map zEd).flatten ++ r)
  rw [← hd] at hc
  have := zw2 (g := id) (l := t :: ((g.map zEd).flatten ++ r)) (k := k) (by rw [ih]) (by rw [ih];simp only;rw [hc])
  rw [this,ih]
  simp only
  rw [hc]
  rw [List.take_succ_eq_append_getElem (show k < g.length by omega)]
  simp only [List.map_append,List.flatten_append,List.length_append,List.map_cons,List.map_nil,List.flatten_cons,List.flatten_nil,List.append_nil,id,Nat.add_assoc]
theorem zra {g : List Item} (hg : ∀ x ∈ g,z2S x = true ∧ z3i x) (hs : z2G g) (h1 : 1 ≤ g.length) (h8 : g.length ≤ 8) : cutL (zFp g) = (g,0) := by
 have ht : (UInt8.ofNat g.length).toNat = g.length := by simp;omega
 have hst := zpf hg (UInt8.ofNat g.length) [] g.length (Nat.le_refl _)
 rw [List.append_nil,List.take_length] at hst
 show zEr (UInt8.ofNat g.length :: (g.map zEd).flatten) (stQ id (UInt8.ofNat g.length :: (g.map zEd).flatten) (UInt8.ofNat g.length).toNat) = _
 rw [ht,hst]
 have hr : znC g := fun j h=>by
  have := List.pairwise_iff_getElem.1 hs j (j + 1) (by omega) h (by omega)
  exact this
 exact (zb9 (fun x hx=>(hg x hx).1) hr).2.2 (by omega) (by simp;omega)
theorem zgF (n : Nat) : ∀ (f : Nat) (m out : List Item) (k : Nat),m.length ≤ f → (∀ x ∈ out ++ m,z2S x = true ∧ z3i x) → z2G (out ++ m) → (out ++ m).length ≤ 64 → n = k + (z0t m).length →
  zEi cutL n k (z0t m) out (-1) = (out ++ m,0,0)
 |0,m,out,k,hf,hi,hs,hl,hn=>by
  have : m = [] := List.eq_nil_of_length_eq_zero (by omega)
  subst this
  rw [z2V]
  rw [List.append_nil] at hi hs hl ⊢
  exact zqe (by omega) (by
   have := (z0D out).2 ⟨hl,fun x hx=>(hi x hx).1,hs⟩
   unfold z3u at this
   simpa using this)
 |f + 1,m,out,k,hf,hi,hs,hl,hn=>by
  by_cases hm : m.length = 0
  ·exact zgF n 0 m out k (by omega) hi hs hl hn
  ·have hc := z82 m (by omega)
   rw [hc] at hn ⊢
   have hg : ∀ x ∈ m.take 8,z2S x = true ∧ z3i x := fun x hx=>hi x (List.mem_append_right _ (List.mem_of_mem_take hx))
   have hsm : z2G m := (List.pairwise_append.1 hs).2.1
   have hcut := zra hg (hsm.sublist (List.take_sublist 8 m)) (by simp;omega) (by simp;omega)
   have hL : (m.take 8).length < 8 → (z0t (m.drop 8)).length = 0 := by
    intro h
    rw [List.drop_of_length_le (by simp at h;omega),z2V];rfl
   unfold zEi
   rw [hcut]
   simp only [ne_eq,not_true_eq_false,if_false]
   rw [if_neg (by rintro ⟨h1,h2,_⟩;have := hL h1;simp only [List.length_cons] at hn;omega)]
   have ih := zgF n f (m.drop 8) (out ++ m.take 8) (k + 1) (by simp;omega) (by rw [List.append_assoc,List.take_append_drop];exact hi) (by rw [List.append_assoc,List.take_append_drop];exact hs) (by rw [List.append_assoc,List.take_append_drop];exact hl) (by simp only [List.length_cons] at hn;omega)
   rw [List.append_assoc,List.take_append_drop] at ih
   exact ih
theorem zdt {m : List Item} (hm : z3u m = true) (hn : ∀ x ∈ m,z3i x) : ofP cutL (z0t m) = (m,0,0) := by
 obtain ⟨hl,hi,hs⟩ := (z0D m).1 hm
 have := zgF (z0t m).length m.length m [] 0 (Nat.le_refl _) (by simpa using fun x hx=>⟨hi x hx,hn x hx⟩) (by simpa using hs) (by simpa using hl) (by omega)
 simpa [ofP] using this
end Go.Proofs.YtaplemeamcgpkaaDoor

namespace Go.Proofs.YtaplemeamcgpkaaDoor
open Go.RowKit
section
variable {α : Type} [DecidableEq α]
theorem z6n {T T' : List α} {s : α} (h : T <+: T') (hs : s ∈ T) : zEY T' s = zEY T s := by
 obtain ⟨r,rfl⟩ := h
 unfold zEY
 rw [if_pos (List.mem_append_left _ hs),if_pos hs,List.idxOf_append,if_pos hs]
theorem zgm {T : List α} {s s' : α} (hs : s ∈ T) (hs' : s' ∈ T) (h : zEY T s = zEY T s') : s = s' := by
 unfold zEY at h
 rw [if_pos hs,if_pos hs'] at h
 have h1 := List.getElem_idxOf (List.idxOf_lt_length_of_mem hs)
 have h2 := List.getElem_idxOf (List.idxOf_lt_length_of_mem hs')
 rw [← h1,← h2]
 congr 1
 omega
end
theorem zls {d : Nat} (h : d < 10) : (UInt8.ofNat (48 + d)).toNat = 48 + d := by
 rw [UInt8.toNat_ofNat'];omega
theorem zqc (n : Nat) : ∀ b ∈ Lib.decDigits n,b ≠ 44 := by
 have one : ∀ d,d < 10 → UInt8.ofNat (48 + d) ≠ 44 := fun d hd e=>by
  have := congrArg UInt8.toNat e
  rw [zls hd] at this
  have h44 : (44 : UInt8).toNat = 44 := rfl
  omega
 induction n using Nat.strongRecOn with
 |_ n ih =>
  intro b hb
  rw [Lib.decDigits] at hb
  split at hb
  ·rename_i h
   rw [List.mem_singleton.1 hb];exact one n h
  ·rename_i h
   rcases List.mem_append.1 hb with hb|hb
   ·exact ih (n / 10) (by omega) b hb
   ·rw [List.mem_singleton.1 hb];exact one (n % 10) (by omega)
theorem zoZ (n : Nat) : (Lib.decDigits n).foldl (fun a d=>a * 10 + (d.toNat - 48)) 0 = n := by
 induction n using Nat.strongRecOn with
 |_ n ih =>
  rw [Lib.decDigits]
  split
  ·rename_i h
   show 0 * 10 + ((UInt8.ofNat (48 + n)).toNat - 48) = n
   rw [zls h];omega
  ·rename_i h
   rw [List.foldl_append,ih (n / 10) (by omega)]
   show n / 10 * 10 + ((UInt8.ofNat (48 + n % 10)).toNat - 48) = n
   rw [zls (by omega)];omega
theorem zuX {a b : Nat} (h : Lib.decDigits a = Lib.decDigits b) : a = b := by
 rw [← zoZ a,← zoZ b,h]
theorem zq6 : ∀ {p p' r r' : z0f},(∀ b ∈ p,b ≠ 44) → (∀ b ∈ p',b ≠ 44) → p ++ 44 :: r = p' ++ 44 :: r' → p = p' ∧ r = r'
 |[],[],r,r',_,_,h=>⟨rfl,by injection h⟩
 |[],x :: p',r,r',_,h2,h=>by
  injection h with h _
  exact absurd h.symm (h2 x (List.mem_cons_self ..))
 |x :: p,[],r,r',h1,_,h=>by
  injection h with h _
  exact absurd h (h1 x (List.mem_cons_self ..))
 |x :: p,y :: p',r,r',h1,h2,h=>by
  injection h with h h'
  obtain ⟨e1,e2⟩ := zq6 (fun b hb=>h1 b (List.mem_cons_of_mem _ hb)) (fun b hb=>h2 b (List.mem_cons_of_mem _ hb)) h'
  exact ⟨by rw [h,e1],e2⟩
theorem zaQ (n : Nat) (l : List Nat) : zFR (n :: l) = Lib.decDigits n ++ 44 :: zFR l := by
 unfold zFR
 rw [List.flatMap_cons,List.append_assoc];rfl
theorem zfZ : ∀ {l l' : List Nat},zFR l = zFR l' → l = l'
 |[],[],_=>rfl
 |[],n :: l',h=>by
  rw [zaQ] at h
  have := congrArg List.length h
  simp [zFR] at this
 |n :: l,[],h=>by
  rw [zaQ] at h
  have := congrArg List.length h
  simp [zFR] at this
 |n :: l,n' :: l',h=>by
  rw [zaQ,zaQ] at h
  obtain ⟨h1,h2⟩ := zq6 (zqc n) (zqc n') h
  rw [zuX h1,zfZ h2]
structure LT (T : Tbl) (l : List Item) (v n : Nat) : Prop where
 ch : ∀ c ∈ z0t l,c ∈ T
 mem : zFR (v :: (z0t l).map (zEY T)) ∈ T
 pos : n = zEY T (zFR (v :: (z0t l).map (zEY T)))
theorem LT.pre {T T' : Tbl} {l : List Item} {v n : Nat} (h : LT T l v n) (hp : T <+: T') : LT T' l v n := by
 have e : (z0t l).map (zEY T') = (z0t l).map (zEY T) := List.map_congr_left fun c hc=>z6n hp (h.ch c hc)
 refine ⟨fun c hc=>hp.subset (h.ch c hc),by rw [e];exact hp.subset h.mem,?_⟩
 rw [e,z6n hp h.mem]
 exact h.pos
theorem LT.same {T : Tbl} {l : List Item} {v n n' : Nat} (h : LT T l v n) (h' : LT T l v n') : n = n' := h.pos.trans h'.pos.symm
theorem LT.inj {T : Tbl} {l l' : List Item} {v v' n : Nat} (h : LT T l v n) (h' : LT T l' v' n) (hl : z3u l = true) (hl' : z3u l' = true) (hn : ∀ x ∈ l,z3i x) (hn' : ∀ x ∈ l',z3i x) : l = l' ∧ v = v' := by
 have h1 := zgm h.mem h'.mem (h.pos.symm.trans h'.pos)
 have h2 := zfZ h1
 injection h2 with h2 h3
 have key : ∀ {cs cs' : List z0f},(∀ c ∈ cs,c ∈ T) → (∀ c ∈ cs',c ∈ T) → cs.map (zEY T) = cs'.map (zEY T) → cs = cs' := by
  intro cs
  induction cs with
  |nil=>intro cs' _ _ q;exact (List.map_eq_nil_iff.1 q.symm).symm
  |cons c cs ih =>
   intro cs' q1 q2 q
   cases cs' with
   |nil=>cases q
   |cons c' cs' =>
    rw [List.map_cons,List.map_cons] at q
    injection q with q3 q4
    rw [zgm (q1 c (List.mem_cons_self ..)) (q2 c' (List.mem_cons_self ..)) q3,ih (fun x hx=>q1 x (List.mem_cons_of_mem _ hx)) (fun x hx=>q2 x (List.mem_cons_of_mem _ hx)) q4]
 have h4 := key h.ch h'.ch h3
 have h5 := zdt hl hn
 rw [h4,zdt hl' hn'] at h5
 injection h5 with h5
 exact ⟨h5.symm,h2⟩
theorem zwy (cs : List z0f) (T : Tbl) : ∀ k,k ≤ cs.length → T <+: (chP T (cs.take k)).2 ∧ (∀ c ∈ cs.take k,c ∈ (chP T (cs.take k)).2) ∧ (chP T (cs.take k)).1 = (cs.take k).map (zEY (chP T (cs.take k)).2)
 |0,_=>by
  rw [List.take_zero]
  exact ⟨List.prefix_refl _,(fun c hc=>nomatch hc),rfl⟩
 |k + 1,hk=>by
  obtain ⟨h1,h2,h3⟩ := zwy cs T k (by omega)
  rw [zgJ T cs k hk,← List.take_append_getElem hk]
  generalize chP T (cs.take k) = p at *
  obtain ⟨a,U⟩ := p
  dsimp only at h1 h2 h3
  unfold chS
  dsimp only
  have hp := zjX (T := U) (s := cs[k])
  refine ⟨h1.trans hp,fun c hc=>?_,?_⟩
  ·rcases List.mem_append.1 hc with hc|hc
   ·exact hp.subset (h2 c hc)
   ·rw [List.mem_singleton.1 hc];exact ziC
  ·rw [List.map_append,h3]
   congr 1
   exact List.map_congr_left fun c hc=>(z6n hp (h2 c hc)).symm
theorem zdA (T : Tbl) (l : List Item) (v : Nat) : T <+: (z7H T l v).2 ∧ LT (z7H T l v).2 l v (z7H T l v).1 := by
 obtain ⟨h1,h2,h3⟩ := zwy (z0t l) T (z0t l).length (Nat.le_refl _)
 rw [List.take_length] at h1 h2 h3
 unfold z7H zwP
 dsimp only
 rw [h3]
 generalize (chP T (z0t l)).2 = U at *
 have hp := zjX (T := U) (s := zFR (v :: (z0t l).map (zEY U)))
 have e : (z0t l).map (zEY (adT U (zFR (v :: (z0t l).map (zEY U))))) = (z0t l).map (zEY U) := List.map_congr_left fun c hc=>z6n hp (h2 c hc)
 exact ⟨h1.trans hp,fun c hc=>hp.subset (h2 c hc),by rw [e];exact ziC,by rw [e]⟩
structure LTt (T : Tbl) (t : Tr) (a : List Nat) : Prop where
 len : a.length = 16
 lt : ∀ i,i < 16 → LT T (t.leaf i) (t.ver i).toNat (a.getD i 0)
theorem LTt.pre {T T' : Tbl} {t : Tr} {a : List Nat} (h : LTt T t a) (hp : T <+: T') : LTt T' t a := ⟨h.len,fun i hi=>(h.lt i hi).pre hp⟩
theorem ztu {a b : List Nat} (ha : a.length = 16) (hb : b.length = 16) (h : ∀ i,i < 16 → a.getD i 0 = b.getD i 0) : a = b := by
 refine List.ext_getElem (by omega) fun i h1 h2=>?_
 have := h i (by omega)
 rwa [List.getD_eq_getElem?_getD,List.getD_eq_getElem?_getD,List.getElem?_eq_getElem h1,List.getElem?_eq_getElem h2] at this
theorem LTt.same {T : Tbl} {t : Tr} {a b : List Nat} (h : LTt T t a) (h' : LTt T t b) : a = b := ztu h.len h'.len fun i hi=>(h.lt i hi).same (h'.lt i hi)
theorem zvf {t : Tr} {T : Tbl} : ∀ k,k ≤ 16 → T <+: (lvP T t k).2 ∧ (lvP T t k).1.length = k ∧ ∀ i,i < k → LT (lvP T t k).2 (t.leaf i) (t.ver i).toNat ((lvP T t k).1.getD i 0)
 |0,_=>⟨List.prefix_refl _,rfl,fun i hi=>by omega⟩
 |k + 1,hk=>by
  obtain ⟨h1,h2,h3⟩ := zvf k (by omega)
  rw [z7Y]
  generalize lvP T t k = p at *
  obtain ⟨a,U⟩ := p
  dsimp only at h1 h2 h3
  unfold lvS
  dsimp only
  obtain ⟨h4,h5⟩ := zdA U (t.leaf k) (t.ver k).toNat
  refine ⟨h1.trans h4,by simp [h2],fun i hi=>?_⟩
  by_cases e : i < k
  ·rw [List.getD_eq_getElem?_getD,List.getElem?_append_left (by omega),← List.getD_eq_getElem?_getD]
   exact (h3 i e).pre h4
  ·have : i = k := by omega
   subst this
   rw [List.getD_eq_getElem?_getD,List.getElem?_append_right (by omega),h2,Nat.sub_self]
   exact h5
theorem zf1 (T : Tbl) (t : Tr) : T <+: (lvP T t 16).2 ∧ LTt (lvP T t 16).2 t (lvP T t 16).1 := by
 obtain ⟨h1,h2,h3⟩ := zvf (t := t) (T := T) 16 (Nat.le_refl _)
 exact ⟨h1,h2,h3⟩
theorem zgb (T : Tbl) (t : Tr) : (lvP T t 16).2 <+: (zcQ T t).2 ∧ zFR (lvP T t 16).1 ∈ (zcQ T t).2 ∧ (zcQ T t).1 = zEY (zcQ T t).2 (zFR (lvP T t 16).1) := ⟨zjX,ziC,rfl⟩
end Go.Proofs.YtaplemeamcgpkaaDoor

