/-
  Texts laid together, part 5 of 7: laws of a walk over data, contracts of functions, each whole by itself.
-/
import Derived.Test.YtaplemeamcgpkaaDoorMgd
import Derived.RangeFuncLeaves
import Derived.RangeFuncRecord
import Derived.RangeFuncCalls
import Derived.RangeFuncSeq
import Derived.TacticsIn
import Derived.Defers
import Derived.Recover
import Derived.Tactics2
set_option maxRecDepth 100000
noncomputable section
set_option linter.unusedVariables false
set_option linter.unusedSimpArgs false
section
namespace Go.Proofs.YtaplemeamcgpkaaDoor
attribute [local go_sem] zcW z95 zoB zoh ze7 znr zxN zyr zxF zyp zsb zg4 zl6 zm7 zz8 zyT zwW z2K zz1 zop zix zdZ zAc zzs zA4 zea zdR zkx zgU zrn zg8 zkV zkc zk1 zgk zdg ze6 zgK zlt zg2 zei zgh zlL zdx ziE zdn zis znp zyU zAb zyu zzL zAv zAr zyF lt1 zgW zfY z7S zsL zgg zlj zdW ze1 zqV zkQ zrA zhd zsp zqZ zmw zge zmj zdc zk5 zzP zzr zzW zzl zA0 zzE zDV zzz zga zyt zAm zyz zAw zz5 zze zyI zAt zzN zyV zyY zAu zzf zF8 zEc zEW zFc zmJ zi8 zyK zgr zg5 ze5 zdp zz3 zsO zqz zD2 zrO zrM zqO zrX zzj zyS zFg zr9 zmU zFJ zdB zxU zyl zn4 zou z8k zhj zhF zed zdI zmW zic ixS zDU zEv zin zds zh9 zrF zrZ zki zdr zmg zk4 zgT zh3 zr8 zkZ znz zib zoy ziJ ze0 zoF zxx zsb znV zy4 zhN zxT zaW zg4 zmN zhT zol zhZ znG ziH zdN zmy zyi zgL zgf zbf zxi zhM zaU znQ zoI zhB zi3 zdH zbN zh7 zdq z9r zcW z95 zr6 zkB zE0 zyd znI zye zxp zow zxI zFE zyk znE zxH zxh zmL zEj zy8 zn7 zxt zxG zxQ z7S beq_self_eq_true Nat.zero_lt_succ Nat.lt_add_one true_or or_true Bool.or_self Nat.zero_add Nat.add_zero Nat.mul_one Int.toNat_natCast Int.natCast_zero Int.natCast_add Int.cast_ofNat_Int or_false false_or or_true true_or Nat.sub_zero Int.natCast_nonneg Int.toNat_zero Bool.true_and Bool.and_true Bool.false_and Bool.and_false Bool.true_or Bool.or_true Bool.false_or Bool.or_false Bool.not_true Bool.not_false Bool.not_not true_and and_true false_and and_false not_true_eq_false not_false_eq_true eq_self decide_true decide_false ne_eq implies_true forall_const true_implies false_implies Bool.true_eq_false Bool.false_eq_true List.map_cons List.map_nil List.all_cons List.all_nil List.length_cons List.length_nil List.length_map List.length_append List.nil_append List.cons_append List.set_cons_zero List.set_cons_succ List.set_nil List.drop_zero List.drop_succ_cons List.drop_nil List.take_zero List.take_succ_cons List.take_nil Option.map_some Option.map_none Option.isSome_some zF2 zD5 zCy zxM zy1 zxr zxz zyg zy9 zyq zyj zyf zxA zy3 zox ziu zhJ zif zhE zhR ziF zhe zi6 zhx zir ziz zhu zi1 zhh zih zEV zya zxy zyh zxD zxj zxY zna zFL zyn zym zxw zy6 zxq zxJ zn9 zy0 zxZ zy7 zxB zxs zxm zxV zDO zDz zoD zDP zxK zxo zxk zxC zxE zxO zCM zCx zET zFV zxX zo3 zcs zxW zeq zaO zw4 zio z5m zjK z0E z7q z47 z8E z7R z8e z99 zgo z4y zhO z4K z56 z8H zjo zjA zjy zje ziV zEH z2a
attribute [local go_sem_proc] Nat.reduceEqDiff Nat.reduceAdd Nat.reduceSub Nat.reduceMul Nat.reduceLeDiff Nat.reduceLT Int.reduceEq Int.reduceNe Int.reduceLT Int.reduceLE Int.reduceAdd Int.reduceSub Int.reduceMul Int.reduceNeg Int.reduceToNat reduceCtorEq
attribute [local go_sem_proc ↓] reduceIte
section
open Go.RowKit
def z2L (k : z0f) : Int := if zDF k then ((k.getD 0 0).toNat : Int) % 16 else -1
def zD7 (b ver : Int) (x : Item) : Bool := decide (z2L x.key = b) && decide (x.ver ≤ ver)
def zcw (b : Int) (l : List Item) (ver : Int) : Bool := z3u l && decide (0 ≤ ver) && decide (ver ≤ 2147483647) && l.all (zD7 b ver)
def zEb (t : Tr) : Bool := (List.range 16).all fun i=>zcw i (t.leaf i) (t.ver i)
theorem zpV {b : Int} {l : List Item} {ver : Int} {k : Nat} {h : k < l.length} (h1 : zD7 b ver l[k] = false) : zcw b l ver = false := by
 have : l.all (zD7 b ver) = false := List.all_eq_false.2 ⟨l[k],List.getElem_mem h,by simp [h1]⟩
 simp [zcw,this]
theorem zte {k : z0f} (h : zDF k = true) : 0 < k.length := by
 cases k with
 |nil=>simp [zDF] at h
 |cons a r=>simp
theorem zhr (l : List Item) : z3u l = ((chk l).1 == 0) := _root_.id rfl
theorem zCa {α : Type} {p : α → Bool} {l : List α} {k : Nat} (h : k < l.length) (h1 : (l.take k).all p = true) (h2 : p l[k] = true) : (l.take (k + 1)).all p = true := by
 rw [List.take_succ_eq_append_getElem h,List.all_append,h1];simp [h2]
theorem zAk {t : Tr} {k : Nat} (hk : k < 16) (h : zcw k (t.leaf k) (t.ver k) = false) : zEb t = false := List.all_eq_false.2 ⟨k,List.mem_range.2 hk,by simp [h]⟩
attribute [local go_sem ↓] z74 zpB zpp z75 z6B z9O zq9 zp9 zpb zpE zao z6f zDb zDH zDA zEa zE1 zD4 zer zfx z9S zfk z9T zae z6x z4o z9N z4J zal zfh zpk z6w z1k z9X z2m zaj z3a z1A z6i z1B z6h z6Y zeJ z6O zew z6d z9V z4I z2l z6j zet z6A z6H z9P za0 z4q z4x za8 zam zfA zfQ zpK zpm z6r z6P z1j z1h za2 z9I z2o z2h za9 za3 z35 z38 z1L z1y z6E z6Q z1C z1E z6J z6U z6M z6m zen zfm z9Z za5 zfy zp0 zfq zfn zqh zpd zpP zqt z9K z9M z9U z9F zp1 zpR zpO zeo zeV z33 z3g zfp zf3
set_option maxHeartbeats 400000 in
theorem ze4 {G : Gl} (hG : SigG G) (k : z0f) : ACp Tryd.prog G 42 [sA k] (nA (z2L k)) := by
 have hb := UInt8.toNat_lt (k.getD 0 0)
 have hp := @zte k
 refine z0x (c := _) Tryd.func42 rfl (by kernel_rfl) [.tmp 2] rfl _ Tryd.ntmps42 (Nat.le_of_ble_eq_true rfl) rfl ?_
 repeat' (first|(refine z0h (zbs _ hG) rfl ?_)|(with_reducible first|refine aq ?_|refine yr (by kernel_rfl) (Nat.le_of_ble_eq_true rfl) ?_|refine yx MIX (by kernel_rfl) (by kernel_rfl) (by kernel_rfl) (Nat.le_of_ble_eq_true rfl) ?_|refine yc ?_|refine zCI ?_|refine z0p ?_|refine z0H ?_|refine z0u ?_|refine z0v ?_|refine yr1 (by kernel_rfl) (Nat.le_of_ble_eq_true rfl) ?_|refine yx1 MIX (by kernel_rfl) (by kernel_rfl) (by kernel_rfl) (Nat.le_of_ble_eq_true rfl) ?_)|(simp only [go_sem])|((with_reducible first|refine zE8 (by first|assumption|(simp only [decide_eq_true_eq,decide_eq_false_iff_not];first|assumption|omega)) (fun h=>?_)|refine zFf (by first|assumption|(simp only [decide_eq_true_eq,decide_eq_false_iff_not];first|assumption|omega)) (fun h=>?_)|refine zF6 (by first|assumption|(simp only [decide_eq_true_eq,decide_eq_false_iff_not];first|assumption|omega)) (fun h=>?_)|refine zCY (by first|assumption|(simp only [decide_eq_true_eq,decide_eq_false_iff_not];first|assumption|omega)) (fun h=>?_)|refine zER (by first|assumption|(simp only [decide_eq_true_eq,decide_eq_false_iff_not];first|assumption|omega)) (fun h=>?_)|refine zDm (by first|assumption|(simp only [decide_eq_true_eq,decide_eq_false_iff_not];first|assumption|omega)) (fun h=>?_)) <;> (try rewrite [h]) <;> clear h)|(with_reducible refine z6G ?_)|((with_reducible first|refine z0w (fun h=>?_) (fun h=>?_)|refine z0y (fun h=>?_) (fun h=>?_)) <;> (try rewrite [h]) <;> (try simp (disch := omega) only [z0C,z0I,z02,z01,z05,z00,z0i,z0k,z0j,z0d,z0c] at h) <;> (try simp only [decide_eq_true_eq,decide_eq_false_iff_not,Bool.not_eq_true,Bool.not_eq_false,Bool.not_eq_true',Bool.not_eq_false',not_true_eq_false,not_false_eq_true] at h) <;> (try (exfalso;omega)))|(simp (disch := omega) only [z0C,z0I,z02,z01,z05,z00,z0i,z0k,z0j,z0d,z0c])|(with_reducible first|refine And.intro (by first|assumption|rfl|omega) ?_|refine And.intro ?_ ?_))
 ·rw [z2L,h];rfl
 ·have := hp h;omega
 ·rw [z2L,h];rfl
set_option maxHeartbeats 400000 in
theorem ze3 {G : Gl} (hG : SigG G) (b : Int) (l : List Item) (ver : Int) (hl : l.length ≤ 34359738368) : ACp Tryd.prog G 46 [nA b,lA l,nA ver] (bA (zcw b l ver)) := by
 refine z0x (c := _) Tryd.func46 rfl (by kernel_rfl) [.tmp 6] rfl _ Tryd.ntmps46 (Nat.le_of_ble_eq_true rfl) rfl ?_
 repeat' (first|(refine z0h (zb2 _ hG hl) rfl ?_)|(with_reducible first|refine aq ?_|refine yr (by kernel_rfl) (Nat.le_of_ble_eq_true rfl) ?_|refine yx MIX (by kernel_rfl) (by kernel_rfl) (by kernel_rfl) (Nat.le_of_ble_eq_true rfl) ?_|refine yc ?_|refine zCI ?_|refine z0p ?_|refine z0H ?_|refine z0u ?_|refine z0v ?_|refine yr1 (by kernel_rfl) (Nat.le_of_ble_eq_true rfl) ?_|refine yx1 MIX (by kernel_rfl) (by kernel_rfl) (by kernel_rfl) (Nat.le_of_ble_eq_true rfl) ?_)|(simp only [go_sem])|((with_reducible first|refine zE8 (by first|assumption|(simp only [decide_eq_true_eq,decide_eq_false_iff_not];first|assumption|omega)) (fun h=>?_)|refine zFf (by first|assumption|(simp only [decide_eq_true_eq,decide_eq_false_iff_not];first|assumption|omega)) (fun h=>?_)|refine zF6 (by first|assumption|(simp only [decide_eq_true_eq,decide_eq_false_iff_not];first|assumption|omega)) (fun h=>?_)|refine zCY (by first|assumption|(simp only [decide_eq_true_eq,decide_eq_false_iff_not];first|assumption|omega)) (fun h=>?_)|refine zER (by first|assumption|(simp only [decide_eq_true_eq,decide_eq_false_iff_not];first|assumption|omega)) (fun h=>?_)|refine zDm (by first|assumption|(simp only [decide_eq_true_eq,decide_eq_false_iff_not];first|assumption|omega)) (fun h=>?_)) <;> (try rewrite [h]) <;> clear h)|(with_reducible refine z6G ?_)|((with_reducible first|refine z0w (fun h=>?_) (fun h=>?_)|refine z0y (fun h=>?_) (fun h=>?_)) <;> (try rewrite [h]) <;> (try simp (disch := omega) only [z0C,z0I,z02,z01,z05,z00,z0i,z0k,z0j,z0d,z0c] at h) <;> (try simp only [decide_eq_true_eq,decide_eq_false_iff_not,Bool.not_eq_true,Bool.not_eq_false,Bool.not_eq_true',Bool.not_eq_false',not_true_eq_false,not_false_eq_true] at h) <;> (try (exfalso;omega)))|(simp (disch := omega) only [z0C,z0I,z02,z01,z05,z00,z0i,z0k,z0j,z0d,z0c])|(with_reducible first|refine And.intro (by first|assumption|rfl|omega) ?_|refine And.intro ?_ ?_))
 ·rw [zcw,zhr,show ((chk l).1 == 0) = false by simpa using fun e=>h (by omega)];rfl
 ·rw [zcw,show decide (0 ≤ ver) = false by simp;omega];simp
 ·rw [zcw,show decide (ver ≤ 2147483647) = false by simp;omega];simp
 rename_i h1 h2
 have hc : (chk l).1 = 0 := by omega
 refine z9e (ι := {k : Nat // k ≤ l.length ∧ (l.take k).all (zD7 b ver) = true}) (fun k=>⟨[],[(28,V (.int .i64 k.1)),(27,V (.int .i64 l.length)),(26,SL (l.map (flA Item.cells))),(2,V (.int .i64 ver)),(0,V (.int .i64 b))]⟩) (fun k=>l.length - k.1) ⟨0,Nat.zero_le _,rfl⟩ ?_ (Nat.zero_le _) ?_
 ·(refine zjH ?_ ?_ ?_ <;> (try simp (disch := omega) only [go_sem,z0C,z0I,z02,z01,z05,z00,z0i,z0k,z0j,z0d,z0c]))
 rintro ⟨k,hk,hall⟩
 dsimp only
 repeat' (first|(refine z0h (ze4 hG _) rfl ?_)|(refine ziS ⟨k + 1,by omega,?_⟩ ?_ (Nat.zero_le _) (by dsimp only;omega))|(refine zjH ?_ ?_ ?_ <;> (try simp (disch := omega) only [go_sem,z0C,z0I,z02,z01,z05,z00,z0i,z0k,z0j,z0d,z0c]))|(with_reducible first|refine aq ?_|refine yr (by kernel_rfl) (Nat.le_of_ble_eq_true rfl) ?_|refine yx MIX (by kernel_rfl) (by kernel_rfl) (by kernel_rfl) (Nat.le_of_ble_eq_true rfl) ?_|refine yc ?_|refine zCI ?_|refine z0p ?_|refine z0H ?_|refine z0u ?_|refine z0v ?_|refine yr1 (by kernel_rfl) (Nat.le_of_ble_eq_true rfl) ?_|refine yx1 MIX (by kernel_rfl) (by kernel_rfl) (by kernel_rfl) (Nat.le_of_ble_eq_true rfl) ?_)|(simp only [go_sem])|((with_reducible first|refine zE8 (by first|assumption|(simp only [decide_eq_true_eq,decide_eq_false_iff_not];first|assumption|omega)) (fun h=>?_)|refine zFf (by first|assumption|(simp only [decide_eq_true_eq,decide_eq_false_iff_not];first|assumption|omega)) (fun h=>?_)|refine zF6 (by first|assumption|(simp only [decide_eq_true_eq,decide_eq_false_iff_not];first|assumption|omega)) (fun h=>?_)|refine zCY (by first|assumption|(simp only [decide_eq_true_eq,decide_eq_false_iff_not];first|assumption|omega)) (fun h=>?_)|refine zER (by first|assumption|(simp only [decide_eq_true_eq,decide_eq_false_iff_not];first|assumption|omega)) (fun h=>?_)|refine zDm (by first|assumption|(simp only [decide_eq_true_eq,decide_eq_false_iff_not];first|assumption|omega)) (fun h=>?_)) <;> (try rewrite [h]) <;> clear h)|(with_reducible refine z6G ?_)|((with_reducible first|refine z0w (fun h=>?_) (fun h=>?_)|refine z0y (fun h=>?_) (fun h=>?_)) <;> (try rewrite [h]) <;> (try simp (disch := omega) only [z0C,z0I,z02,z01,z05,z00,z0i,z0k,z0j,z0d,z0c] at h) <;> (try simp only [decide_eq_true_eq,decide_eq_false_iff_not,Bool.not_eq_true,Bool.not_eq_false,Bool.not_eq_true',Bool.not_eq_false',not_true_eq_false,not_false_eq_true] at h) <;> (try (exfalso;omega)))|(simp (disch := omega) only [z0C,z0I,z02,z01,z05,z00,z0i,z0k,z0j,z0d,z0c])|(with_reducible first|refine And.intro (by first|assumption|rfl|omega) ?_|refine And.intro ?_ ?_))
 ·rw [zpV (k := k) (h := by omega) (by simp [zD7,h])]
 ·rw [zpV (k := k) (h := by omega) (by simp [zD7];omega)]
 ·refine zCa (by omega) hall ?_
  rw [zD7,Bool.and_eq_true,decide_eq_true_eq,decide_eq_true_eq]
  constructor <;> omega
 ·rw [List.take_of_length_le (by omega)] at hall
  rw [zcw,zhr,hc,hall,show decide (0 ≤ ver) = true by simp;omega,show decide (ver ≤ 2147483647) = true by simp;omega]
  rfl
set_option maxHeartbeats 400000 in
theorem zgl {G : Gl} (hG : SigG G) (t : Tr) (hl : ∀ i,(t.leaf i).length ≤ 34359738368) : ACp Tryd.prog G 28 [tA t] (bA (zEb t)) := by
 refine z0x (c := _) Tryd.func28 rfl (by kernel_rfl) [.tmp 2] rfl _ Tryd.ntmps28 (Nat.le_of_ble_eq_true rfl) rfl ?_
 repeat' (first|(with_reducible first|refine aq ?_|refine yr (by kernel_rfl) (Nat.le_of_ble_eq_true rfl) ?_|refine yx MIX (by kernel_rfl) (by kernel_rfl) (by kernel_rfl) (Nat.le_of_ble_eq_true rfl) ?_|refine yc ?_|refine zCI ?_|refine z0p ?_|refine z0H ?_|refine z0u ?_|refine z0v ?_|refine yr1 (by kernel_rfl) (Nat.le_of_ble_eq_true rfl) ?_|refine yx1 MIX (by kernel_rfl) (by kernel_rfl) (by kernel_rfl) (Nat.le_of_ble_eq_true rfl) ?_)|(simp only [go_sem])|((with_reducible first|refine zE8 (by first|assumption|(simp only [decide_eq_true_eq,decide_eq_false_iff_not];first|assumption|omega)) (fun h=>?_)|refine zFf (by first|assumption|(simp only [decide_eq_true_eq,decide_eq_false_iff_not];first|assumption|omega)) (fun h=>?_)|refine zF6 (by first|assumption|(simp only [decide_eq_true_eq,decide_eq_false_iff_not];first|assumption|omega)) (fun h=>?_)|refine zCY (by first|assumption|(simp only [decide_eq_true_eq,decide_eq_false_iff_not];first|assumption|omega)) (fun h=>?_)|refine zER (by first|assumption|(simp only [decide_eq_true_eq,decide_eq_false_iff_not];first|assumption|omega)) (fun h=>?_)|refine zDm (by first|assumption|(simp only [decide_eq_true_eq,decide_eq_false_iff_not];first|assumption|omega)) (fun h=>?_)) <;> (try rewrite [h]) <;> clear h)|(with_reducible refine z6G ?_)|((with_reducible first|refine z0w (fun h=>?_) (fun h=>?_)|refine z0y (fun h=>?_) (fun h=>?_)) <;> (try rewrite [h]) <;> (try simp (disch := omega) only [z0C,z0I,z02,z01,z05,z00,z0i,z0k,z0j,z0d,z0c] at h) <;> (try simp only [decide_eq_true_eq,decide_eq_false_iff_not,Bool.not_eq_true,Bool.not_eq_false,Bool.not_eq_true',Bool.not_eq_false',not_true_eq_false,not_false_eq_true] at h) <;> (try (exfalso;omega)))|(simp (disch := omega) only [z0C,z0I,z02,z01,z05,z00,z0i,z0k,z0j,z0d,z0c])|(with_reducible first|refine And.intro (by first|assumption|rfl|omega) ?_|refine And.intro ?_ ?_))
 refine z9e (ι := {k : Nat // k ≤ 16 ∧ (List.range k).all (fun i=>zcw i (t.leaf i) (t.ver i)) = true}) (fun k=>⟨[⟨1,26,0,tC t⟩],[(7,V (.int .i64 k.1)),(6, .agg (leC t)),(1,OP 0 0)]⟩) (fun k=>16 - k.1) ⟨0,Nat.zero_le _,rfl⟩ ?_ (Nat.zero_le _) ?_
 ·(refine zjH ?_ ?_ ?_ <;> (try simp (disch := omega) only [go_sem,z0C,z0I,z02,z01,z05,z00,z0i,z0k,z0j,z0d,z0c]))
 rintro ⟨k,hk,hall⟩
 dsimp only
 repeat' (first|(refine z0h (ze3 hG _ _ _ (hl k)) rfl ?_)|(refine ziS ⟨k + 1,by omega,?_⟩ ?_ (Nat.zero_le _) (by dsimp only;omega))|(refine zjH ?_ ?_ ?_ <;> (try simp (disch := omega) only [go_sem,z0C,z0I,z02,z01,z05,z00,z0i,z0k,z0j,z0d,z0c]))|(with_reducible first|refine aq ?_|refine yr (by kernel_rfl) (Nat.le_of_ble_eq_true rfl) ?_|refine yx MIX (by kernel_rfl) (by kernel_rfl) (by kernel_rfl) (Nat.le_of_ble_eq_true rfl) ?_|refine yc ?_|refine zCI ?_|refine z0p ?_|refine z0H ?_|refine z0u ?_|refine z0v ?_|refine yr1 (by kernel_rfl) (Nat.le_of_ble_eq_true rfl) ?_|refine yx1 MIX (by kernel_rfl) (by kernel_rfl) (by kernel_rfl) (Nat.le_of_ble_eq_true rfl) ?_)|(simp only [go_sem])|((with_reducible first|refine zE8 (by first|assumption|(simp only [decide_eq_true_eq,decide_eq_false_iff_not];first|assumption|omega)) (fun h=>?_)|refine zFf (by first|assumption|(simp only [decide_eq_true_eq,decide_eq_false_iff_not];first|assumption|omega)) (fun h=>?_)|refine zF6 (by first|assumption|(simp only [decide_eq_true_eq,decide_eq_false_iff_not];first|assumption|omega)) (fun h=>?_)|refine zCY (by first|assumption|(simp only [decide_eq_true_eq,decide_eq_false_iff_not];first|assumption|omega)) (fun h=>?_)|refine zER (by first|assumption|(simp only [decide_eq_true_eq,decide_eq_false_iff_not];first|assumption|omega)) (fun h=>?_)|refine zDm (by first|assumption|(simp only [decide_eq_true_eq,decide_eq_false_iff_not];first|assumption|omega)) (fun h=>?_)) <;> (try rewrite [h]) <;> clear h)|(with_reducible refine z6G ?_)|((with_reducible first|refine z0w (fun h=>?_) (fun h=>?_)|refine z0y (fun h=>?_) (fun h=>?_)) <;> (try rewrite [h]) <;> (try simp (disch := omega) only [z0C,z0I,z02,z01,z05,z00,z0i,z0k,z0j,z0d,z0c] at h) <;> (try simp only [decide_eq_true_eq,decide_eq_false_iff_not,Bool.not_eq_true,Bool.not_eq_false,Bool.not_eq_true',Bool.not_eq_false',not_true_eq_false,not_false_eq_true] at h) <;> (try (exfalso;omega)))|(simp (disch := omega) only [z0C,z0I,z02,z01,z05,z00,z0i,z0k,z0j,z0d,z0c])|(with_reducible first|refine And.intro (by first|assumption|rfl|omega) ?_|refine And.intro ?_ ?_))
 ·rw [zAk (by omega) h]
 ·rw [List.all_append,hall]
  simp [h]
 ·obtain rfl : k = 16 := by omega
  rw [zEb,hall]
end

section
open Go.RowKit
theorem z6T {k : z0f} (h : zDF k = true) : 0 ≤ z2L k ∧ z2L k < 16 := by
 rw [z2L,h];simp only [if_true];omega
def bk (k : z0f) : Nat := (z2L k).toNat
theorem zsK {k : z0f} (h : zDF k = true) : bk k < 16 := by have := z6T h;unfold bk;omega
def zEl (t : Tr) (k : z0f) : Option Item := if zDF k && zEb t then zDY (t.leaf (bk k)) k else none
def zCW (t : Tr) (b : Nat) (ver : Int) (r : List Item × Nat) : Tr × Nat := if r.2 = 0 then ((t.setL b r.1).setV b ver,0) else (Tr.zero,r.2)
def zEt (t : Tr) (x : Item) : Tr × Nat := if !z2S x || !zEb t then (Tr.zero,1) else if x.ver < t.ver (bk x.key) then (Tr.zero,18) else zCW t (bk x.key) x.ver (zEp (t.leaf (bk x.key)) x)
def zE4 (t : Tr) (k : z0f) (ver : Int) : Tr × Nat := if !zEb t || decide (ver < 0) || decide (2147483647 < ver) then (Tr.zero,1) else if (zEl t k).isSome = false then (Tr.zero,6) else if ver < t.ver (bk k) then (Tr.zero,18) else zCW t (bk k) ver (zEL (t.leaf (bk k)) k)
theorem zqd (x : Item) : (chk [x]).1 = if z2S x then 0 else 1 := by
 unfold chk
 simp only [List.length_cons,List.length_nil,z3m]
 by_cases h : z2S x = true <;> simp [h]
def xC (x : Item) : List AV := x.cells.map fun u=>V u
theorem zeQ (x : Item) : xC x = [V (.string ⟨x.key.toArray⟩),V (.int .i64 x.kind),V (.int .i64 x.i),V (.string ⟨x.s.toArray⟩),V (.int .i64 x.ver)] := _root_.id rfl
attribute [local go_sem ↓] z74 zpB zpp z75 z6B z9O zq9 zp9 zpb zpE zao z6f zDb zDH zDA zEa zE1 zD4 zer zfx z9S zfk z9T zae z6x z4o z9N z4J zal zfh zpk z6w z1k z9X z2m zaj z3a z1A z6i z1B z6h z6Y zeJ z6O zew z6d z9V z4I z2l z6j zet z6A z6H z9P za0 z4q z4x za8 zam zfA zfQ zpK zpm z6r z6P z1j z1h za2 z9I z2o z2h za9 za3 z35 z38 z1L z1y z6E z6Q z1C z1E z6J z6U z6M z6m zen zfm z9Z za5 zfy zp0 zfq zfn zqh zpd zpP zqt z9K z9M z9U z9F zp1 zpR zpO zeo zeV z33 z3g zfp zf3
set_option maxHeartbeats 400000 in
theorem zAs {G : Gl} (hG : SigG G) (t : Tr) (k : z0f) (hl : ∀ i,(t.leaf i).length ≤ 1000000) : ACp Tryd.prog G 37 [tA t,sA k] (TU [iA ((zEl t k).getD Item.zero),bA (zEl t k).isSome]) := by
 have hl' : ∀ i,(t.leaf i).length ≤ 34359738368 := fun i=>Nat.le_trans (hl i) (by decide)
 cases hk : zDF k with
 |false =>
  have e : zEl t k = none := by rw [zEl,hk];rfl
  refine z0x (c := _) Tryd.func37 rfl (by kernel_rfl) [.cell 4 79, .tmp 5] rfl _ Tryd.ntmps37 (Nat.le_of_ble_eq_true rfl) rfl ?_
  repeat' (first|(refine z0h (zbs _ hG) rfl ?_)|(with_reducible first|refine aq ?_|refine yr (by kernel_rfl) (Nat.le_of_ble_eq_true rfl) ?_|refine yx MIX (by kernel_rfl) (by kernel_rfl) (by kernel_rfl) (Nat.le_of_ble_eq_true rfl) ?_|refine yc ?_|refine zCI ?_|refine z0p ?_|refine z0H ?_|refine z0u ?_|refine z0v ?_|refine yr1 (by kernel_rfl) (Nat.le_of_ble_eq_true rfl) ?_|refine yx1 MIX (by kernel_rfl) (by kernel_rfl) (by kernel_rfl) (Nat.le_of_ble_eq_true rfl) ?_)|(simp only [go_sem,hk])|((with_reducible first|refine zE8 (by first|assumption|(simp only [decide_eq_true_eq,decide_eq_false_iff_not];first|assumption|omega)) (fun h=>?_)|refine zFf (by first|assumption|(simp only [decide_eq_true_eq,decide_eq_false_iff_not];first|assumption|omega)) (fun h=>?_)|refine zF6 (by first|assumption|(simp only [decide_eq_true_eq,decide_eq_false_iff_not];first|assumption|omega)) (fun h=>?_)|refine zCY (by first|assumption|(simp only [decide_eq_true_eq,decide_eq_false_iff_not];first|assumption|omega)) (fun h=>?_)|refine zER (by first|assumption|(simp only [decide_eq_true_eq,decide_eq_false_iff_not];first|assumption|omega)) (fun h=>?_)|refine zDm (by first|assumption|(simp only [decide_eq_true_eq,decide_eq_false_iff_not];first|assumption|omega)) (fun h=>?_)) <;> (try rewrite [h]) <;> clear h)|(with_reducible refine z6G ?_)|((with_reducible first|refine z0w (fun h=>?_) (fun h=>?_)|refine z0y (fun h=>?_) (fun h=>?_)) <;> (try rewrite [h]) <;> (try simp (disch := omega) only [z0C,z0I,z02,z01,z05,z00,z0i,z0k,z0j,z0d,z0c] at h) <;> (try simp only [decide_eq_true_eq,decide_eq_false_iff_not,Bool.not_eq_true,Bool.not_eq_false,Bool.not_eq_true',Bool.not_eq_false',not_true_eq_false,not_false_eq_true] at h) <;> (try (exfalso;omega)))|(simp (disch := omega) only [z0C,z0I,z02,z01,z05,z00,z0i,z0k,z0j,z0d,z0c])|(with_reducible first|refine And.intro (by first|assumption|rfl|omega) ?_|refine And.intro ?_ ?_))
  rw [e];rfl
 |true =>
  have hb := z6T hk
  cases hm : zEb t with
  |false =>
   have e : zEl t k = none := by rw [zEl,hm,Bool.and_false];rfl
   refine z0x (c := _) Tryd.func37 rfl (by kernel_rfl) [.cell 4 79, .tmp 5] rfl _ Tryd.ntmps37 (Nat.le_of_ble_eq_true rfl) rfl ?_
   repeat' (first|(refine z0h (zbs _ hG) rfl ?_)|(refine z0h (zgl hG _ hl') (by (simp (disch := omega) only [go_sem,z0C,z0I,z02,z01,z05,z00,z0i,z0k,z0j,z0d,z0c])) ?_)|(with_reducible first|refine aq ?_|refine yr (by kernel_rfl) (Nat.le_of_ble_eq_true rfl) ?_|refine yx MIX (by kernel_rfl) (by kernel_rfl) (by kernel_rfl) (Nat.le_of_ble_eq_true rfl) ?_|refine yc ?_|refine zCI ?_|refine z0p ?_|refine z0H ?_|refine z0u ?_|refine z0v ?_|refine yr1 (by kernel_rfl) (Nat.le_of_ble_eq_true rfl) ?_|refine yx1 MIX (by kernel_rfl) (by kernel_rfl) (by kernel_rfl) (Nat.le_of_ble_eq_true rfl) ?_)|(simp only [go_sem,hk,hm])|((with_reducible first|refine zE8 (by first|assumption|(simp only [decide_eq_true_eq,decide_eq_false_iff_not];first|assumption|omega)) (fun h=>?_)|refine zFf (by first|assumption|(simp only [decide_eq_true_eq,decide_eq_false_iff_not];first|assumption|omega)) (fun h=>?_)|refine zF6 (by first|assumption|(simp only [decide_eq_true_eq,decide_eq_false_iff_not];first|assumption|omega)) (fun h=>?_)|refine zCY (by first|assumption|(simp only [decide_eq_true_eq,decide_eq_false_iff_not];first|assumption|omega)) (fun h=>?_)|refine zER (by first|assumption|(simp only [decide_eq_true_eq,decide_eq_false_iff_not];first|assumption|omega)) (fun h=>?_)|refine zDm (by first|assumption|(simp only [decide_eq_true_eq,decide_eq_false_iff_not];first|assumption|omega)) (fun h=>?_)) <;> (try rewrite [h]) <;> clear h)|(with_reducible refine z6G ?_)|((with_reducible first|refine z0w (fun h=>?_) (fun h=>?_)|refine z0y (fun h=>?_) (fun h=>?_)) <;> (try rewrite [h]) <;> (try simp (disch := omega) only [z0C,z0I,z02,z01,z05,z00,z0i,z0k,z0j,z0d,z0c] at h) <;> (try simp only [decide_eq_true_eq,decide_eq_false_iff_not,Bool.not_eq_true,Bool.not_eq_false,Bool.not_eq_true',Bool.not_eq_false',not_true_eq_false,not_false_eq_true] at h) <;> (try (exfalso;omega)))|(simp (disch := omega) only [z0C,z0I,z02,z01,z05,z00,z0i,z0k,z0j,z0d,z0c])|(with_reducible first|refine And.intro (by first|assumption|rfl|omega) ?_|refine And.intro ?_ ?_))
   rw [e];rfl
  |true =>
   have e : zEl t k = zDY (t.leaf (z2L k).toNat) k := by rw [zEl,hk,hm];rfl
   refine z0x (c := _) Tryd.func37 rfl (by kernel_rfl) [.cell 4 79, .tmp 5] rfl _ Tryd.ntmps37 (Nat.le_of_ble_eq_true rfl) rfl ?_
   repeat' (first|(refine z0h (zbs _ hG) rfl ?_)|(refine z0h (zgl hG _ hl') (by (simp (disch := omega) only [go_sem,z0C,z0I,z02,z01,z05,z00,z0i,z0k,z0j,z0d,z0c])) ?_)|(refine z0h (ze4 hG _) rfl ?_)|(refine z0h (zyy _ _ hG (hl' _)) rfl ?_)|(with_reducible first|refine aq ?_|refine yr (by kernel_rfl) (Nat.le_of_ble_eq_true rfl) ?_|refine yx MIX (by kernel_rfl) (by kernel_rfl) (by kernel_rfl) (Nat.le_of_ble_eq_true rfl) ?_|refine yc ?_|refine zCI ?_|refine z0p ?_|refine z0H ?_|refine z0u ?_|refine z0v ?_|refine yr1 (by kernel_rfl) (Nat.le_of_ble_eq_true rfl) ?_|refine yx1 MIX (by kernel_rfl) (by kernel_rfl) (by kernel_rfl) (Nat.le_of_ble_eq_true rfl) ?_)|(simp only [go_sem,hk,hm])|((with_reducible first|refine zE8 (by first|assumption|(simp only [decide_eq_true_eq,decide_eq_false_iff_not];first|assumption|omega)) (fun h=>?_)|refine zFf (by first|assumption|(simp only [decide_eq_true_eq,decide_eq_false_iff_not];first|assumption|omega)) (fun h=>?_)|refine zF6 (by first|assumption|(simp only [decide_eq_true_eq,decide_eq_false_iff_not];first|assumption|omega)) (fun h=>?_)|refine zCY (by first|assumption|(simp only [decide_eq_true_eq,decide_eq_false_iff_not];first|assumption|omega)) (fun h=>?_)|refine zER (by first|assumption|(simp only [decide_eq_true_eq,decide_eq_false_iff_not];first|assumption|omega)) (fun h=>?_)|refine zDm (by first|assumption|(simp only [decide_eq_true_eq,decide_eq_false_iff_not];first|assumption|omega)) (fun h=>?_)) <;> (try rewrite [h]) <;> clear h)|(with_reducible refine z6G ?_)|((with_reducible first|refine z0w (fun h=>?_) (fun h=>?_)|refine z0y (fun h=>?_) (fun h=>?_)) <;> (try rewrite [h]) <;> (try simp (disch := omega) only [z0C,z0I,z02,z01,z05,z00,z0i,z0k,z0j,z0d,z0c] at h) <;> (try simp only [decide_eq_true_eq,decide_eq_false_iff_not,Bool.not_eq_true,Bool.not_eq_false,Bool.not_eq_true',Bool.not_eq_false',not_true_eq_false,not_false_eq_true] at h) <;> (try (exfalso;omega)))|(simp (disch := omega) only [z0C,z0I,z02,z01,z05,z00,z0i,z0k,z0j,z0d,z0c])|(with_reducible first|refine And.intro (by first|assumption|rfl|omega) ?_|refine And.intro ?_ ?_))
   rw [e]
set_option maxHeartbeats 400000 in
theorem zA3 {G : Gl} (hG : SigG G) (t : Tr) (l : List Item) (x : Item) (ver : Int) (hl : l.length ≤ 1000000) : AC Tryd.prog G 44 [lA l,OP 1 0] [⟨1,26,0,tC t⟩,⟨1,79,0,xC x⟩,⟨1,26,0,zC⟩,⟨1,26,0,tC t⟩,⟨1,26,0,zC⟩] (Is (TU [lA (zEp l x).1,nA (zEp l x).2]) [⟨1,26,0,tC t⟩,⟨1,79,0,xC x⟩,⟨1,26,0,zC⟩,⟨1,26,0,tC t⟩,⟨1,26,0,zC⟩]) := by
 refine z5p (c := _) Tryd.func44 rfl (by kernel_rfl) [.tmp 3, .tmp 4] rfl _ Tryd.ntmps44 (Nat.le_of_ble_eq_true rfl) ?_ (Nat.le_of_ble_eq_true rfl) ?_ ?_
 ·(simp (disch := omega) only [go_sem,z0C,z0I,z02,z01,z05,z00,z0i,z0k,z0j,z0d,z0c,zeQ])
 ·(simp (disch := omega) only [go_sem,z0C,z0I,z02,z01,z05,z00,z0i,z0k,z0j,z0d,z0c])
 repeat' (first|(refine z0h (zyw _ x hG hl) rfl ?_)|(with_reducible first|refine aq ?_|refine yr (by kernel_rfl) (Nat.le_of_ble_eq_true rfl) ?_|refine yx MIX (by kernel_rfl) (by kernel_rfl) (by kernel_rfl) (Nat.le_of_ble_eq_true rfl) ?_|refine yc ?_|refine zCI ?_|refine z0p ?_|refine z0H ?_|refine z0u ?_|refine z0v ?_|refine yr1 (by kernel_rfl) (Nat.le_of_ble_eq_true rfl) ?_|refine yx1 MIX (by kernel_rfl) (by kernel_rfl) (by kernel_rfl) (Nat.le_of_ble_eq_true rfl) ?_)|(simp only [go_sem,zeQ])|((with_reducible first|refine zE8 (by first|assumption|(simp only [decide_eq_true_eq,decide_eq_false_iff_not];first|assumption|omega)) (fun h=>?_)|refine zFf (by first|assumption|(simp only [decide_eq_true_eq,decide_eq_false_iff_not];first|assumption|omega)) (fun h=>?_)|refine zF6 (by first|assumption|(simp only [decide_eq_true_eq,decide_eq_false_iff_not];first|assumption|omega)) (fun h=>?_)|refine zCY (by first|assumption|(simp only [decide_eq_true_eq,decide_eq_false_iff_not];first|assumption|omega)) (fun h=>?_)|refine zER (by first|assumption|(simp only [decide_eq_true_eq,decide_eq_false_iff_not];first|assumption|omega)) (fun h=>?_)|refine zDm (by first|assumption|(simp only [decide_eq_true_eq,decide_eq_false_iff_not];first|assumption|omega)) (fun h=>?_)) <;> (try rewrite [h]) <;> clear h)|(with_reducible refine z6G ?_)|((with_reducible first|refine z0w (fun h=>?_) (fun h=>?_)|refine z0y (fun h=>?_) (fun h=>?_)) <;> (try rewrite [h]) <;> (try simp (disch := omega) only [z0C,z0I,z02,z01,z05,z00,z0i,z0k,z0j,z0d,z0c] at h) <;> (try simp only [decide_eq_true_eq,decide_eq_false_iff_not,Bool.not_eq_true,Bool.not_eq_false,Bool.not_eq_true',Bool.not_eq_false',not_true_eq_false,not_false_eq_true] at h) <;> (try (exfalso;omega)))|(simp (disch := omega) only [z0C,z0I,z02,z01,z05,z00,z0i,z0k,z0j,z0d,z0c])|(with_reducible first|refine And.intro (by first|assumption|rfl|omega) ?_|refine And.intro ?_ ?_))
set_option maxHeartbeats 400000 in
theorem zzQ {G : Gl} (hG : SigG G) (t : Tr) (x : Item) (B ver : Int) (h0 : 0 ≤ B) (h1 : B < 16) (hl : ∀ i,(t.leaf i).length ≤ 1000000) : AC Tryd.prog G 43 [tA t,nA B,nA ver,CL (.func 44) 0 [OP 1 0]] [⟨1,26,0,tC t⟩,⟨1,79,0,xC x⟩,⟨1,26,0,zC⟩]
  (Is (TU [tA (zCW t B.toNat ver (zEp (t.leaf B.toNat) x)).1,nA (zCW t B.toNat ver (zEp (t.leaf B.toNat) x)).2]) [⟨1,26,0,tC t⟩,⟨1,79,0,xC x⟩,⟨1,26,0,zC⟩]) := by
 refine z5p (c := _) Tryd.func43 rfl (by kernel_rfl) [.cell 8 26, .tmp 9] rfl _ Tryd.ntmps43 (Nat.le_of_ble_eq_true rfl) ?_ (Nat.le_of_ble_eq_true rfl) ?_ ?_
 ·(simp (disch := omega) only [go_sem,z0C,z0I,z02,z01,z05,z00,z0i,z0k,z0j,z0d,z0c,zeQ])
 ·(simp (disch := omega) only [go_sem,z0C,z0I,z02,z01,z05,z00,z0i,z0k,z0j,z0d,z0c])
 repeat' (first|(refine z3T (zA3 hG _ _ x ver (hl _)) ?_)|(with_reducible first|refine aq ?_|refine yr (by kernel_rfl) (Nat.le_of_ble_eq_true rfl) ?_|refine yx MIX (by kernel_rfl) (by kernel_rfl) (by kernel_rfl) (Nat.le_of_ble_eq_true rfl) ?_|refine yc ?_|refine zCI ?_|refine z0p ?_|refine z0H ?_|refine z0u ?_|refine z0v ?_|refine yr1 (by kernel_rfl) (Nat.le_of_ble_eq_true rfl) ?_|refine yx1 MIX (by kernel_rfl) (by kernel_rfl) (by kernel_rfl) (Nat.le_of_ble_eq_true rfl) ?_)|(simp only [go_sem])|((with_reducible first|refine zE8 (by first|assumption|(simp only [decide_eq_true_eq,decide_eq_false_iff_not];first|assumption|omega)) (fun h=>?_)|refine zFf (by first|assumption|(simp only [decide_eq_true_eq,decide_eq_false_iff_not];first|assumption|omega)) (fun h=>?_)|refine zF6 (by first|assumption|(simp only [decide_eq_true_eq,decide_eq_false_iff_not];first|assumption|omega)) (fun h=>?_)|refine zCY (by first|assumption|(simp only [decide_eq_true_eq,decide_eq_false_iff_not];first|assumption|omega)) (fun h=>?_)|refine zER (by first|assumption|(simp only [decide_eq_true_eq,decide_eq_false_iff_not];first|assumption|omega)) (fun h=>?_)|refine zDm (by first|assumption|(simp only [decide_eq_true_eq,decide_eq_false_iff_not];first|assumption|omega)) (fun h=>?_)) <;> (try rewrite [h]) <;> clear h)|(with_reducible refine z6G ?_)|((with_reducible first|refine z0w (fun h=>?_) (fun h=>?_)|refine z0y (fun h=>?_) (fun h=>?_)) <;> (try rewrite [h]) <;> (try simp (disch := omega) only [z0C,z0I,z02,z01,z05,z00,z0i,z0k,z0j,z0d,z0c] at h) <;> (try simp only [decide_eq_true_eq,decide_eq_false_iff_not,Bool.not_eq_true,Bool.not_eq_false,Bool.not_eq_true',Bool.not_eq_false',not_true_eq_false,not_false_eq_true] at h) <;> (try (exfalso;omega)))|(simp (disch := omega) only [z0C,z0I,z02,z01,z05,z00,z0i,z0k,z0j,z0d,z0c])|(with_reducible first|refine And.intro (by first|assumption|rfl|omega) ?_|refine And.intro ?_ ?_))
 ·rw [zCW,if_neg (by omega)]
 ·rw [zCW,if_pos (by omega)];rfl
theorem zmn {x : Item} (h : z2S x = true) : zDF x.key = true := by
 simp only [z2S,Bool.and_eq_true] at h
 exact h.1.1.1.1
set_option maxHeartbeats 400000 in
theorem zCt {G : Gl} (hG : SigG G) (t : Tr) (x : Item) (hl : ∀ i,(t.leaf i).length ≤ 1000000) : ACp Tryd.prog G 26 [tA t,iA x] (TU [tA (zEt t x).1,nA (zEt t x).2]) := by
 have hl' : ∀ i,(t.leaf i).length ≤ 34359738368 := fun i=>Nat.le_trans (hl i) (by decide)
 cases hi : z2S x with
 |false =>
  have e : zEt t x = (Tr.zero,1) := by rw [zEt,hi];rfl
  have ec : (chk [x]).1 = 1 := by rw [zqd,hi];rfl
  refine z0x (c := _) Tryd.func26 rfl (by kernel_rfl) [.cell 4 26, .tmp 5] rfl _ Tryd.ntmps26 (Nat.le_of_ble_eq_true rfl) rfl ?_
  repeat' (first|(refine z0h (zb2 [x] hG (Nat.le_of_ble_eq_true rfl)) rfl ?_)|(with_reducible first|refine aq ?_|refine yr (by kernel_rfl) (Nat.le_of_ble_eq_true rfl) ?_|refine yx MIX (by kernel_rfl) (by kernel_rfl) (by kernel_rfl) (Nat.le_of_ble_eq_true rfl) ?_|refine yc ?_|refine zCI ?_|refine z0p ?_|refine z0H ?_|refine z0u ?_|refine z0v ?_|refine yr1 (by kernel_rfl) (Nat.le_of_ble_eq_true rfl) ?_|refine yx1 MIX (by kernel_rfl) (by kernel_rfl) (by kernel_rfl) (Nat.le_of_ble_eq_true rfl) ?_)|(simp only [go_sem,ec,e])|((with_reducible first|refine zE8 (by first|assumption|(simp only [decide_eq_true_eq,decide_eq_false_iff_not];first|assumption|omega)) (fun h=>?_)|refine zFf (by first|assumption|(simp only [decide_eq_true_eq,decide_eq_false_iff_not];first|assumption|omega)) (fun h=>?_)|refine zF6 (by first|assumption|(simp only [decide_eq_true_eq,decide_eq_false_iff_not];first|assumption|omega)) (fun h=>?_)|refine zCY (by first|assumption|(simp only [decide_eq_true_eq,decide_eq_false_iff_not];first|assumption|omega)) (fun h=>?_)|refine zER (by first|assumption|(simp only [decide_eq_true_eq,decide_eq_false_iff_not];first|assumption|omega)) (fun h=>?_)|refine zDm (by first|assumption|(simp only [decide_eq_true_eq,decide_eq_false_iff_not];first|assumption|omega)) (fun h=>?_)) <;> (try rewrite [h]) <;> clear h)|(with_reducible refine z6G ?_)|((with_reducible first|refine z0w (fun h=>?_) (fun h=>?_)|refine z0y (fun h=>?_) (fun h=>?_)) <;> (try rewrite [h]) <;> (try simp (disch := omega) only [z0C,z0I,z02,z01,z05,z00,z0i,z0k,z0j,z0d,z0c] at h) <;> (try simp only [decide_eq_true_eq,decide_eq_false_iff_not,Bool.not_eq_true,Bool.not_eq_false,Bool.not_eq_true',Bool.not_eq_false',not_true_eq_false,not_false_eq_true] at h) <;> (try (exfalso;omega)))|(simp (disch := omega) only [z0C,z0I,z02,z01,z05,z00,z0i,z0k,z0j,z0d,z0c])|(with_reducible first|refine And.intro (by first|assumption|rfl|omega) ?_|refine And.intro ?_ ?_))
 |true =>
  have hb := z6T (zmn hi)
  have ec : (chk [x]).1 = 0 := by rw [zqd,hi];rfl
  cases hm : zEb t with
  |false =>
   have e : zEt t x = (Tr.zero,1) := by rw [zEt,hm,Bool.not_false,Bool.or_true];rfl
   refine z0x (c := _) Tryd.func26 rfl (by kernel_rfl) [.cell 4 26, .tmp 5] rfl _ Tryd.ntmps26 (Nat.le_of_ble_eq_true rfl) rfl ?_
   repeat' (first|(refine z0h (zb2 [x] hG (Nat.le_of_ble_eq_true rfl)) rfl ?_)|(refine z0h (zgl hG _ hl') (by (simp (disch := omega) only [go_sem,z0C,z0I,z02,z01,z05,z00,z0i,z0k,z0j,z0d,z0c])) ?_)|(with_reducible first|refine aq ?_|refine yr (by kernel_rfl) (Nat.le_of_ble_eq_true rfl) ?_|refine yx MIX (by kernel_rfl) (by kernel_rfl) (by kernel_rfl) (Nat.le_of_ble_eq_true rfl) ?_|refine yc ?_|refine zCI ?_|refine z0p ?_|refine z0H ?_|refine z0u ?_|refine z0v ?_|refine yr1 (by kernel_rfl) (Nat.le_of_ble_eq_true rfl) ?_|refine yx1 MIX (by kernel_rfl) (by kernel_rfl) (by kernel_rfl) (Nat.le_of_ble_eq_true rfl) ?_)|(simp only [go_sem,ec,e,hm])|((with_reducible first|refine zE8 (by first|assumption|(simp only [decide_eq_true_eq,decide_eq_false_iff_not];first|assumption|omega)) (fun h=>?_)|refine zFf (by first|assumption|(simp only [decide_eq_true_eq,decide_eq_false_iff_not];first|assumption|omega)) (fun h=>?_)|refine zF6 (by first|assumption|(simp only [decide_eq_true_eq,decide_eq_false_iff_not];first|assumption|omega)) (fun h=>?_)|refine zCY (by first|assumption|(simp only [decide_eq_true_eq,decide_eq_false_iff_not];first|assumption|omega)) (fun h=>?_)|refine zER (by first|assumption|(simp only [decide_eq_true_eq,decide_eq_false_iff_not];first|assumption|omega)) (fun h=>?_)|refine zDm (by first|assumption|(simp only [decide_eq_true_eq,decide_eq_false_iff_not];first|assumption|omega)) (fun h=>?_)) <;> (try rewrite [h]) <;> clear h)|(with_reducible refine z6G ?_)|((with_reducible first|refine z0w (fun h=>?_) (fun h=>?_)|refine z0y (fun h=>?_) (fun h=>?_)) <;> (try rewrite [h]) <;> (try simp (disch := omega) only [z0C,z0I,z02,z01,z05,z00,z0i,z0k,z0j,z0d,z0c] at h) <;> (try simp only [decide_eq_true_eq,decide_eq_false_iff_not,Bool.not_eq_true,Bool.not_eq_false,Bool.not_eq_true',Bool.not_eq_false',not_true_eq_false,not_false_eq_true] at h) <;> (try (exfalso;omega)))|(simp (disch := omega) only [z0C,z0I,z02,z01,z05,z00,z0i,z0k,z0j,z0d,z0c])|(with_reducible first|refine And.intro (by first|assumption|rfl|omega) ?_|refine And.intro ?_ ?_))
  |true =>
   have e : zEt t x = if x.ver < t.ver (z2L x.key).toNat then (Tr.zero,18) else zCW t (z2L x.key).toNat x.ver (zEp (t.leaf (z2L x.key).toNat) x) := by rw [zEt,hi,hm];rfl
   refine z0x (c := _) Tryd.func26 rfl (by kernel_rfl) [.cell 4 26, .tmp 5] rfl _ Tryd.ntmps26 (Nat.le_of_ble_eq_true rfl) rfl ?_
   repeat' (first|(refine z0h (zb2 [x] hG (Nat.le_of_ble_eq_true rfl)) rfl ?_)|(refine z0h (zgl hG _ hl') (by (simp (disch := omega) only [go_sem,z0C,z0I,z02,z01,z05,z00,z0i,z0k,z0j,z0d,z0c])) ?_)|(refine z0h (ze4 hG _) rfl ?_)|(refine z3T (zzQ hG t x _ _ (by omega) (by omega) hl) ?_)|(with_reducible first|refine aq ?_|refine yr (by kernel_rfl) (Nat.le_of_ble_eq_true rfl) ?_|refine yx MIX (by kernel_rfl) (by kernel_rfl) (by kernel_rfl) (Nat.le_of_ble_eq_true rfl) ?_|refine yc ?_|refine zCI ?_|refine z0p ?_|refine z0H ?_|refine z0u ?_|refine z0v ?_|refine yr1 (by kernel_rfl) (Nat.le_of_ble_eq_true rfl) ?_|refine yx1 MIX (by kernel_rfl) (by kernel_rfl) (by kernel_rfl) (Nat.le_of_ble_eq_true rfl) ?_)|(simp only [go_sem,ec,hm])|((with_reducible first|refine zE8 (by first|assumption|(simp only [decide_eq_true_eq,decide_eq_false_iff_not];first|assumption|omega)) (fun h=>?_)|refine zFf (by first|assumption|(simp only [decide_eq_true_eq,decide_eq_false_iff_not];first|assumption|omega)) (fun h=>?_)|refine zF6 (by first|assumption|(simp only [decide_eq_true_eq,decide_eq_false_iff_not];first|assumption|omega)) (fun h=>?_)|refine zCY (by first|assumption|(simp only [decide_eq_true_eq,decide_eq_false_iff_not];first|assumption|omega)) (fun h=>?_)|refine zER (by first|assumption|(simp only [decide_eq_true_eq,decide_eq_false_iff_not];first|assumption|omega)) (fun h=>?_)|refine zDm (by first|assumption|(simp only [decide_eq_true_eq,decide_eq_false_iff_not];first|assumption|omega)) (fun h=>?_)) <;> (try rewrite [h]) <;> clear h)|(with_reducible refine z6G ?_)|((with_reducible first|refine z0w (fun h=>?_) (fun h=>?_)|refine z0y (fun h=>?_) (fun h=>?_)) <;> (try rewrite [h]) <;> (try simp (disch := omega) only [z0C,z0I,z02,z01,z05,z00,z0i,z0k,z0j,z0d,z0c] at h) <;> (try simp only [decide_eq_true_eq,decide_eq_false_iff_not,Bool.not_eq_true,Bool.not_eq_false,Bool.not_eq_true',Bool.not_eq_false',not_true_eq_false,not_false_eq_true] at h) <;> (try (exfalso;omega)))|(simp (disch := omega) only [z0C,z0I,z02,z01,z05,z00,z0i,z0k,z0j,z0d,z0c])|(with_reducible first|refine And.intro (by first|assumption|rfl|omega) ?_|refine And.intro ?_ ?_))
   ·rw [e,if_pos (by omega)];try rfl
   ·rw [e,if_neg (by omega)];try rfl
end

section
open Go.RowKit
theorem zlA {t : Tr} {k : z0f} (h : (zEl t k).isSome = true) : zDF k = true := by
 cases hk : zDF k with
 |true=>rfl
 |false=>rw [zEl,hk] at h;cases h
attribute [local go_sem ↓] z74 zpB zpp z75 z6B z9O zq9 zp9 zpb zpE zao z6f zDb zDH zDA zEa zE1 zD4 zer zfx z9S zfk z9T zae z6x z4o z9N z4J zal zfh zpk z6w z1k z9X z2m zaj z3a z1A z6i z1B z6h z6Y zeJ z6O zew z6d z9V z4I z2l z6j zet z6A z6H z9P za0 z4q z4x za8 zam zfA zfQ zpK zpm z6r z6P z1j z1h za2 z9I z2o z2h za9 za3 z35 z38 z1L z1y z6E z6Q z1C z1E z6J z6U z6M z6m zen zfm z9Z za5 zfy zp0 zfq zfn zqh zpd zpP zqt z9K z9M z9U z9F zp1 zpR zpO zeo zeV z33 z3g zfp zf3
set_option maxHeartbeats 400000 in
theorem zyZ {G : Gl} (hG : SigG G) (t : Tr) (l : List Item) (k : z0f) (y : Item) (hl : l.length ≤ 1000000) : AC Tryd.prog G 57 [lA l,OP 1 0] [⟨1,26,0,tC t⟩,⟨1,9,0,[sA k]⟩,⟨1,26,0,zC⟩,⟨1,79,0,xC y⟩,⟨1,26,0,tC t⟩,⟨1,26,0,zC⟩] (Is (TU [lA (zEL l k).1,nA (zEL l k).2]) [⟨1,26,0,tC t⟩,⟨1,9,0,[sA k]⟩,⟨1,26,0,zC⟩,⟨1,79,0,xC y⟩,⟨1,26,0,tC t⟩,⟨1,26,0,zC⟩]) := by
 refine z5p (c := _) Tryd.func57 rfl (by kernel_rfl) [.tmp 3, .tmp 4] rfl _ Tryd.ntmps57 (Nat.le_of_ble_eq_true rfl) ?_ (Nat.le_of_ble_eq_true rfl) ?_ ?_
 ·(simp (disch := omega) only [go_sem,z0C,z0I,z02,z01,z05,z00,z0i,z0k,z0j,z0d,z0c,zeQ])
 ·(simp (disch := omega) only [go_sem,z0C,z0I,z02,z01,z05,z00,z0i,z0k,z0j,z0d,z0c])
 repeat' (first|(refine z0h (zAd _ k hG hl) rfl ?_)|(with_reducible first|refine aq ?_|refine yr (by kernel_rfl) (Nat.le_of_ble_eq_true rfl) ?_|refine yx MIX (by kernel_rfl) (by kernel_rfl) (by kernel_rfl) (Nat.le_of_ble_eq_true rfl) ?_|refine yc ?_|refine zCI ?_|refine z0p ?_|refine z0H ?_|refine z0u ?_|refine z0v ?_|refine yr1 (by kernel_rfl) (Nat.le_of_ble_eq_true rfl) ?_|refine yx1 MIX (by kernel_rfl) (by kernel_rfl) (by kernel_rfl) (Nat.le_of_ble_eq_true rfl) ?_)|(simp only [go_sem])|((with_reducible first|refine zE8 (by first|assumption|(simp only [decide_eq_true_eq,decide_eq_false_iff_not];first|assumption|omega)) (fun h=>?_)|refine zFf (by first|assumption|(simp only [decide_eq_true_eq,decide_eq_false_iff_not];first|assumption|omega)) (fun h=>?_)|refine zF6 (by first|assumption|(simp only [decide_eq_true_eq,decide_eq_false_iff_not];first|assumption|omega)) (fun h=>?_)|refine zCY (by first|assumption|(simp only [decide_eq_true_eq,decide_eq_false_iff_not];first|assumption|omega)) (fun h=>?_)|refine zER (by first|assumption|(simp only [decide_eq_true_eq,decide_eq_false_iff_not];first|assumption|omega)) (fun h=>?_)|refine zDm (by first|assumption|(simp only [decide_eq_true_eq,decide_eq_false_iff_not];first|assumption|omega)) (fun h=>?_)) <;> (try rewrite [h]) <;> clear h)|(with_reducible refine z6G ?_)|((with_reducible first|refine z0w (fun h=>?_) (fun h=>?_)|refine z0y (fun h=>?_) (fun h=>?_)) <;> (try rewrite [h]) <;> (try simp (disch := omega) only [z0C,z0I,z02,z01,z05,z00,z0i,z0k,z0j,z0d,z0c] at h) <;> (try simp only [decide_eq_true_eq,decide_eq_false_iff_not,Bool.not_eq_true,Bool.not_eq_false,Bool.not_eq_true',Bool.not_eq_false',not_true_eq_false,not_false_eq_true] at h) <;> (try (exfalso;omega)))|(simp (disch := omega) only [z0C,z0I,z02,z01,z05,z00,z0i,z0k,z0j,z0d,z0c])|(with_reducible first|refine And.intro (by first|assumption|rfl|omega) ?_|refine And.intro ?_ ?_))
set_option maxHeartbeats 400000 in
theorem zyx {G : Gl} (hG : SigG G) (t : Tr) (k : z0f) (y : Item) (B ver : Int) (h0 : 0 ≤ B) (h1 : B < 16) (hl : ∀ i,(t.leaf i).length ≤ 1000000) : AC Tryd.prog G 43 [tA t,nA B,nA ver,CL (.func 57) 0 [OP 1 0]] [⟨1,26,0,tC t⟩,⟨1,9,0,[sA k]⟩,⟨1,26,0,zC⟩,⟨1,79,0,xC y⟩]
  (Is (TU [tA (zCW t B.toNat ver (zEL (t.leaf B.toNat) k)).1,nA (zCW t B.toNat ver (zEL (t.leaf B.toNat) k)).2]) [⟨1,26,0,tC t⟩,⟨1,9,0,[sA k]⟩,⟨1,26,0,zC⟩,⟨1,79,0,xC y⟩]) := by
 refine z5p (c := _) Tryd.func43 rfl (by kernel_rfl) [.cell 8 26, .tmp 9] rfl _ Tryd.ntmps43 (Nat.le_of_ble_eq_true rfl) ?_ (Nat.le_of_ble_eq_true rfl) ?_ ?_
 ·(simp (disch := omega) only [go_sem,z0C,z0I,z02,z01,z05,z00,z0i,z0k,z0j,z0d,z0c,zeQ])
 ·(simp (disch := omega) only [go_sem,z0C,z0I,z02,z01,z05,z00,z0i,z0k,z0j,z0d,z0c])
 repeat' (first|(refine z3T (zyZ hG _ _ k y (hl _)) ?_)|(with_reducible first|refine aq ?_|refine yr (by kernel_rfl) (Nat.le_of_ble_eq_true rfl) ?_|refine yx MIX (by kernel_rfl) (by kernel_rfl) (by kernel_rfl) (Nat.le_of_ble_eq_true rfl) ?_|refine yc ?_|refine zCI ?_|refine z0p ?_|refine z0H ?_|refine z0u ?_|refine z0v ?_|refine yr1 (by kernel_rfl) (Nat.le_of_ble_eq_true rfl) ?_|refine yx1 MIX (by kernel_rfl) (by kernel_rfl) (by kernel_rfl) (Nat.le_of_ble_eq_true rfl) ?_)|(simp only [go_sem])|((with_reducible first|refine zE8 (by first|assumption|(simp only [decide_eq_true_eq,decide_eq_false_iff_not];first|assumption|omega)) (fun h=>?_)|refine zFf (by first|assumption|(simp only [decide_eq_true_eq,decide_eq_false_iff_not];first|assumption|omega)) (fun h=>?_)|refine zF6 (by first|assumption|(simp only [decide_eq_true_eq,decide_eq_false_iff_not];first|assumption|omega)) (fun h=>?_)|refine zCY (by first|assumption|(simp only [decide_eq_true_eq,decide_eq_false_iff_not];first|assumption|omega)) (fun h=>?_)|refine zER (by first|assumption|(simp only [decide_eq_true_eq,decide_eq_false_iff_not];first|assumption|omega)) (fun h=>?_)|refine zDm (by first|assumption|(simp only [decide_eq_true_eq,decide_eq_false_iff_not];first|assumption|omega)) (fun h=>?_)) <;> (try rewrite [h]) <;> clear h)|(with_reducible refine z6G ?_)|((with_reducible first|refine z0w (fun h=>?_) (fun h=>?_)|refine z0y (fun h=>?_) (fun h=>?_)) <;> (try rewrite [h]) <;> (try simp (disch := omega) only [z0C,z0I,z02,z01,z05,z00,z0i,z0k,z0j,z0d,z0c] at h) <;> (try simp only [decide_eq_true_eq,decide_eq_false_iff_not,Bool.not_eq_true,Bool.not_eq_false,Bool.not_eq_true',Bool.not_eq_false',not_true_eq_false,not_false_eq_true] at h) <;> (try (exfalso;omega)))|(simp (disch := omega) only [z0C,z0I,z02,z01,z05,z00,z0i,z0k,z0j,z0d,z0c])|(with_reducible first|refine And.intro (by first|assumption|rfl|omega) ?_|refine And.intro ?_ ?_))
 ·rw [zCW,if_neg (by omega)]
 ·rw [zCW,if_pos (by omega)];rfl
set_option maxHeartbeats 400000 in
theorem zBY {G : Gl} (hG : SigG G) (t : Tr) (k : z0f) (ver : Int) (hl : ∀ i,(t.leaf i).length ≤ 1000000) : ACp Tryd.prog G 38 [tA t,sA k,nA ver] (TU [tA (zE4 t k ver).1,nA (zE4 t k ver).2]) := by
 have hl' : ∀ i,(t.leaf i).length ≤ 34359738368 := fun i=>Nat.le_trans (hl i) (by decide)
 by_cases hm : zEb t = true ∧ 0 ≤ ver ∧ ver ≤ 2147483647
 ·obtain ⟨hm,hv0,hv1⟩ := hm
  cases hk : (zEl t k).isSome with
  |false =>
   have e : zE4 t k ver = (Tr.zero,6) := by rw [zE4,hm,hk,show decide (ver < 0) = false by simp;omega,show decide (2147483647 < ver) = false by simp;omega];rfl
   refine z0x (c := _) Tryd.func38 rfl (by kernel_rfl) [.cell 6 26, .tmp 7] rfl _ Tryd.ntmps38 (Nat.le_of_ble_eq_true rfl) rfl ?_
   repeat' (first|(refine z0h (zgl hG _ hl') (by (simp (disch := omega) only [go_sem,z0C,z0I,z02,z01,z05,z00,z0i,z0k,z0j,z0d,z0c])) ?_)|(refine z0h (zAs hG _ _ hl) (by (simp (disch := omega) only [go_sem,z0C,z0I,z02,z01,z05,z00,z0i,z0k,z0j,z0d,z0c])) ?_)|(with_reducible first|refine aq ?_|refine yr (by kernel_rfl) (Nat.le_of_ble_eq_true rfl) ?_|refine yx MIX (by kernel_rfl) (by kernel_rfl) (by kernel_rfl) (Nat.le_of_ble_eq_true rfl) ?_|refine yc ?_|refine zCI ?_|refine z0p ?_|refine z0H ?_|refine z0u ?_|refine z0v ?_|refine yr1 (by kernel_rfl) (Nat.le_of_ble_eq_true rfl) ?_|refine yx1 MIX (by kernel_rfl) (by kernel_rfl) (by kernel_rfl) (Nat.le_of_ble_eq_true rfl) ?_)|(simp only [go_sem,hm,hk,e])|((with_reducible first|refine zE8 (by first|assumption|(simp only [decide_eq_true_eq,decide_eq_false_iff_not];first|assumption|omega)) (fun h=>?_)|refine zFf (by first|assumption|(simp only [decide_eq_true_eq,decide_eq_false_iff_not];first|assumption|omega)) (fun h=>?_)|refine zF6 (by first|assumption|(simp only [decide_eq_true_eq,decide_eq_false_iff_not];first|assumption|omega)) (fun h=>?_)|refine zCY (by first|assumption|(simp only [decide_eq_true_eq,decide_eq_false_iff_not];first|assumption|omega)) (fun h=>?_)|refine zER (by first|assumption|(simp only [decide_eq_true_eq,decide_eq_false_iff_not];first|assumption|omega)) (fun h=>?_)|refine zDm (by first|assumption|(simp only [decide_eq_true_eq,decide_eq_false_iff_not];first|assumption|omega)) (fun h=>?_)) <;> (try rewrite [h]) <;> clear h)|(with_reducible refine z6G ?_)|((with_reducible first|refine z0w (fun h=>?_) (fun h=>?_)|refine z0y (fun h=>?_) (fun h=>?_)) <;> (try rewrite [h]) <;> (try simp (disch := omega) only [z0C,z0I,z02,z01,z05,z00,z0i,z0k,z0j,z0d,z0c] at h) <;> (try simp only [decide_eq_true_eq,decide_eq_false_iff_not,Bool.not_eq_true,Bool.not_eq_false,Bool.not_eq_true',Bool.not_eq_false',not_true_eq_false,not_false_eq_true] at h) <;> (try (exfalso;omega)))|(simp (disch := omega) only [z0C,z0I,z02,z01,z05,z00,z0i,z0k,z0j,z0d,z0c])|(with_reducible first|refine And.intro (by first|assumption|rfl|omega) ?_|refine And.intro ?_ ?_))
  |true =>
   have hb := z6T (zlA hk)
   have e : zE4 t k ver = if ver < t.ver (z2L k).toNat then (Tr.zero,18) else zCW t (z2L k).toNat ver (zEL (t.leaf (z2L k).toNat) k) := by rw [zE4,hm,hk,show decide (ver < 0) = false by simp;omega,show decide (2147483647 < ver) = false by simp;omega];rfl
   refine z0x (c := _) Tryd.func38 rfl (by kernel_rfl) [.cell 6 26, .tmp 7] rfl _ Tryd.ntmps38 (Nat.le_of_ble_eq_true rfl) rfl ?_
   repeat' (first|(refine z0h (zgl hG _ hl') (by (simp (disch := omega) only [go_sem,z0C,z0I,z02,z01,z05,z00,z0i,z0k,z0j,z0d,z0c])) ?_)|(refine z0h (zAs hG _ _ hl) (by (simp (disch := omega) only [go_sem,z0C,z0I,z02,z01,z05,z00,z0i,z0k,z0j,z0d,z0c])) ?_)|(refine z0h (ze4 hG _) rfl ?_)|(refine z3T (zyx hG t k ((zEl t k).getD Item.zero) _ _ (by omega) (by omega) hl) ?_)|(with_reducible first|refine aq ?_|refine yr (by kernel_rfl) (Nat.le_of_ble_eq_true rfl) ?_|refine yx MIX (by kernel_rfl) (by kernel_rfl) (by kernel_rfl) (Nat.le_of_ble_eq_true rfl) ?_|refine yc ?_|refine zCI ?_|refine z0p ?_|refine z0H ?_|refine z0u ?_|refine z0v ?_|refine yr1 (by kernel_rfl) (Nat.le_of_ble_eq_true rfl) ?_|refine yx1 MIX (by kernel_rfl) (by kernel_rfl) (by kernel_rfl) (Nat.le_of_ble_eq_true rfl) ?_)|(simp only [go_sem,hm,hk])|((with_reducible first|refine zE8 (by first|assumption|(simp only [decide_eq_true_eq,decide_eq_false_iff_not];first|assumption|omega)) (fun h=>?_)|refine zFf (by first|assumption|(simp only [decide_eq_true_eq,decide_eq_false_iff_not];first|assumption|omega)) (fun h=>?_)|refine zF6 (by first|assumption|(simp only [decide_eq_true_eq,decide_eq_false_iff_not];first|assumption|omega)) (fun h=>?_)|refine zCY (by first|assumption|(simp only [decide_eq_true_eq,decide_eq_false_iff_not];first|assumption|omega)) (fun h=>?_)|refine zER (by first|assumption|(simp only [decide_eq_true_eq,decide_eq_false_iff_not];first|assumption|omega)) (fun h=>?_)|refine zDm (by first|assumption|(simp only [decide_eq_true_eq,decide_eq_false_iff_not];first|assumption|omega)) (fun h=>?_)) <;> (try rewrite [h]) <;> clear h)|(with_reducible refine z6G ?_)|((with_reducible first|refine z0w (fun h=>?_) (fun h=>?_)|refine z0y (fun h=>?_) (fun h=>?_)) <;> (try rewrite [h]) <;> (try simp (disch := omega) only [z0C,z0I,z02,z01,z05,z00,z0i,z0k,z0j,z0d,z0c] at h) <;> (try simp only [decide_eq_true_eq,decide_eq_false_iff_not,Bool.not_eq_true,Bool.not_eq_false,Bool.not_eq_true',Bool.not_eq_false',not_true_eq_false,not_false_eq_true] at h) <;> (try (exfalso;omega)))|(simp (disch := omega) only [z0C,z0I,z02,z01,z05,z00,z0i,z0k,z0j,z0d,z0c])|(with_reducible first|refine And.intro (by first|assumption|rfl|omega) ?_|refine And.intro ?_ ?_))
   ·rw [e,if_pos (by omega)]
    try rfl
   ·rw [e,if_neg (by omega)]
    try rfl
 ·have e : zE4 t k ver = (Tr.zero,1) := by
   rw [zE4,if_pos]
   cases h : zEb t with
   |false=>rfl
   |true =>
    rw [h] at hm
    simp only [true_and] at hm
    have : ver < 0 ∨ 2147483647 < ver := by omega
    rcases this with h|h <;> simp [h]
  cases h0 : zEb t with
  |false =>
   refine z0x (c := _) Tryd.func38 rfl (by kernel_rfl) [.cell 6 26, .tmp 7] rfl _ Tryd.ntmps38 (Nat.le_of_ble_eq_true rfl) rfl ?_
   repeat' (first|(refine z0h (zgl hG _ hl') (by (simp (disch := omega) only [go_sem,z0C,z0I,z02,z01,z05,z00,z0i,z0k,z0j,z0d,z0c])) ?_)|(with_reducible first|refine aq ?_|refine yr (by kernel_rfl) (Nat.le_of_ble_eq_true rfl) ?_|refine yx MIX (by kernel_rfl) (by kernel_rfl) (by kernel_rfl) (Nat.le_of_ble_eq_true rfl) ?_|refine yc ?_|refine zCI ?_|refine z0p ?_|refine z0H ?_|refine z0u ?_|refine z0v ?_|refine yr1 (by kernel_rfl) (Nat.le_of_ble_eq_true rfl) ?_|refine yx1 MIX (by kernel_rfl) (by kernel_rfl) (by kernel_rfl) (Nat.le_of_ble_eq_true rfl) ?_)|(simp only [go_sem,h0,e])|((with_reducible first|refine zE8 (by first|assumption|(simp only [decide_eq_true_eq,decide_eq_false_iff_not];first|assumption|omega)) (fun h=>?_)|refine zFf (by first|assumption|(simp only [decide_eq_true_eq,decide_eq_false_iff_not];first|assumption|omega)) (fun h=>?_)|refine zF6 (by first|assumption|(simp only [decide_eq_true_eq,decide_eq_false_iff_not];first|assumption|omega)) (fun h=>?_)|refine zCY (by first|assumption|(simp only [decide_eq_true_eq,decide_eq_false_iff_not];first|assumption|omega)) (fun h=>?_)|refine zER (by first|assumption|(simp only [decide_eq_true_eq,decide_eq_false_iff_not];first|assumption|omega)) (fun h=>?_)|refine zDm (by first|assumption|(simp only [decide_eq_true_eq,decide_eq_false_iff_not];first|assumption|omega)) (fun h=>?_)) <;> (try rewrite [h]) <;> clear h)|(with_reducible refine z6G ?_)|((with_reducible first|refine z0w (fun h=>?_) (fun h=>?_)|refine z0y (fun h=>?_) (fun h=>?_)) <;> (try rewrite [h]) <;> (try simp (disch := omega) only [z0C,z0I,z02,z01,z05,z00,z0i,z0k,z0j,z0d,z0c] at h) <;> (try simp only [decide_eq_true_eq,decide_eq_false_iff_not,Bool.not_eq_true,Bool.not_eq_false,Bool.not_eq_true',Bool.not_eq_false',not_true_eq_false,not_false_eq_true] at h) <;> (try (exfalso;omega)))|(simp (disch := omega) only [z0C,z0I,z02,z01,z05,z00,z0i,z0k,z0j,z0d,z0c])|(with_reducible first|refine And.intro (by first|assumption|rfl|omega) ?_|refine And.intro ?_ ?_))
  |true =>
   simp only [h0,true_and] at hm
   refine z0x (c := _) Tryd.func38 rfl (by kernel_rfl) [.cell 6 26, .tmp 7] rfl _ Tryd.ntmps38 (Nat.le_of_ble_eq_true rfl) rfl ?_
   repeat' (first|(refine z0h (zgl hG _ hl') (by (simp (disch := omega) only [go_sem,z0C,z0I,z02,z01,z05,z00,z0i,z0k,z0j,z0d,z0c])) ?_)|(with_reducible first|refine aq ?_|refine yr (by kernel_rfl) (Nat.le_of_ble_eq_true rfl) ?_|refine yx MIX (by kernel_rfl) (by kernel_rfl) (by kernel_rfl) (Nat.le_of_ble_eq_true rfl) ?_|refine yc ?_|refine zCI ?_|refine z0p ?_|refine z0H ?_|refine z0u ?_|refine z0v ?_|refine yr1 (by kernel_rfl) (Nat.le_of_ble_eq_true rfl) ?_|refine yx1 MIX (by kernel_rfl) (by kernel_rfl) (by kernel_rfl) (Nat.le_of_ble_eq_true rfl) ?_)|(simp only [go_sem,h0,e])|((with_reducible first|refine zE8 (by first|assumption|(simp only [decide_eq_true_eq,decide_eq_false_iff_not];first|assumption|omega)) (fun h=>?_)|refine zFf (by first|assumption|(simp only [decide_eq_true_eq,decide_eq_false_iff_not];first|assumption|omega)) (fun h=>?_)|refine zF6 (by first|assumption|(simp only [decide_eq_true_eq,decide_eq_false_iff_not];first|assumption|omega)) (fun h=>?_)|refine zCY (by first|assumption|(simp only [decide_eq_true_eq,decide_eq_false_iff_not];first|assumption|omega)) (fun h=>?_)|refine zER (by first|assumption|(simp only [decide_eq_true_eq,decide_eq_false_iff_not];first|assumption|omega)) (fun h=>?_)|refine zDm (by first|assumption|(simp only [decide_eq_true_eq,decide_eq_false_iff_not];first|assumption|omega)) (fun h=>?_)) <;> (try rewrite [h]) <;> clear h)|(with_reducible refine z6G ?_)|((with_reducible first|refine z0w (fun h=>?_) (fun h=>?_)|refine z0y (fun h=>?_) (fun h=>?_)) <;> (try rewrite [h]) <;> (try simp (disch := omega) only [z0C,z0I,z02,z01,z05,z00,z0i,z0k,z0j,z0d,z0c] at h) <;> (try simp only [decide_eq_true_eq,decide_eq_false_iff_not,Bool.not_eq_true,Bool.not_eq_false,Bool.not_eq_true',Bool.not_eq_false',not_true_eq_false,not_false_eq_true] at h) <;> (try (exfalso;omega)))|(simp (disch := omega) only [z0C,z0I,z02,z01,z05,z00,z0i,z0k,z0j,z0d,z0c])|(with_reducible first|refine And.intro (by first|assumption|rfl|omega) ?_|refine And.intro ?_ ?_))
end

section
open Go.RowKit
def zgB (f : Nat → Nat) : Nat → Nat
 |0=>0
 |k + 1=>zgB f k + f k
theorem zgV {f : Nat → Nat} {m : Nat} (h : ∀ i,f i ≤ m) : ∀ k,zgB f k ≤ k * m
 |0=>by simp [zgB]
 |k + 1=>by have := zgV h k;have := h k;rw [zgB,Nat.succ_mul];omega
def zaC (t : Tr) : Nat := if zEb t then zgB (fun i=>(t.leaf i).length) 16 else 0
def z5n (t : Tr) : Nat := if zEb t then zgB (fun i=>z58 (t.leaf i)) 16 else 0
def zjN (a b : Tr) (i : Nat) : Bool := decide (¬ a.ver i = b.ver i) || !decide (a.leaf i = b.leaf i)
def zl7 (a b : Tr) (k : Nat) : List Nat := (List.range k).filter (zjN a b)
attribute [local go_sem ↓] z74 zpB zpp z75 z6B z9O zq9 zp9 zpb zpE zao z6f zDb zDH zDA zEa zE1 zD4 zer zfx z9S zfk z9T zae z6x z4o z9N z4J zal zfh zpk z6w z1k z9X z2m zaj z3a z1A z6i z1B z6h z6Y zeJ z6O zew z6d z9V z4I z2l z6j zet z6A z6H z9P za0 z4q z4x za8 zam zfA zfQ zpK zpm z6r z6P z1j z1h za2 z9I z2o z2h za9 za3 z35 z38 z1L z1y z6E z6Q z1C z1E z6J z6U z6M z6m zen zfm z9Z za5 zfy zp0 zfq zfn zqh zpd zpP zqt z9K z9M z9U z9F zp1 zpR zpO zeo zeV z33 z3g zfp zf3
set_option maxHeartbeats 400000 in
theorem zwC {G : Gl} (hG : SigG G) (t : Tr) (hl : ∀ i,(t.leaf i).length ≤ 1000000) : ACp Tryd.prog G 24 [tA t] (nA (zaC t)) := by
 have hl' : ∀ i,(t.leaf i).length ≤ 34359738368 := fun i=>Nat.le_trans (hl i) (by decide)
 refine z0x (c := _) Tryd.func24 rfl (by kernel_rfl) [.tmp 2] rfl _ Tryd.ntmps24 (Nat.le_of_ble_eq_true rfl) rfl ?_
 repeat' (first|(refine z0h (zgl hG _ hl') (by (simp (disch := omega) only [go_sem,z0C,z0I,z02,z01,z05,z00,z0i,z0k,z0j,z0d,z0c])) ?_)|(with_reducible first|refine aq ?_|refine yr (by kernel_rfl) (Nat.le_of_ble_eq_true rfl) ?_|refine yx MIX (by kernel_rfl) (by kernel_rfl) (by kernel_rfl) (Nat.le_of_ble_eq_true rfl) ?_|refine yc ?_|refine zCI ?_|refine z0p ?_|refine z0H ?_|refine z0u ?_|refine z0v ?_|refine yr1 (by kernel_rfl) (Nat.le_of_ble_eq_true rfl) ?_|refine yx1 MIX (by kernel_rfl) (by kernel_rfl) (by kernel_rfl) (Nat.le_of_ble_eq_true rfl) ?_)|(simp only [go_sem])|((with_reducible first|refine zE8 (by first|assumption|(simp only [decide_eq_true_eq,decide_eq_false_iff_not];first|assumption|omega)) (fun h=>?_)|refine zFf (by first|assumption|(simp only [decide_eq_true_eq,decide_eq_false_iff_not];first|assumption|omega)) (fun h=>?_)|refine zF6 (by first|assumption|(simp only [decide_eq_true_eq,decide_eq_false_iff_not];first|assumption|omega)) (fun h=>?_)|refine zCY (by first|assumption|(simp only [decide_eq_true_eq,decide_eq_false_iff_not];first|assumption|omega)) (fun h=>?_)|refine zER (by first|assumption|(simp only [decide_eq_true_eq,decide_eq_false_iff_not];first|assumption|omega)) (fun h=>?_)|refine zDm (by first|assumption|(simp only [decide_eq_true_eq,decide_eq_false_iff_not];first|assumption|omega)) (fun h=>?_)) <;> (try rewrite [h]) <;> clear h)|(with_reducible refine z6G ?_)|((with_reducible first|refine z0w (fun h=>?_) (fun h=>?_)|refine z0y (fun h=>?_) (fun h=>?_)) <;> (try rewrite [h]) <;> (try simp (disch := omega) only [z0C,z0I,z02,z01,z05,z00,z0i,z0k,z0j,z0d,z0c] at h) <;> (try simp only [decide_eq_true_eq,decide_eq_false_iff_not,Bool.not_eq_true,Bool.not_eq_false,Bool.not_eq_true',Bool.not_eq_false',not_true_eq_false,not_false_eq_true] at h) <;> (try (exfalso;omega)))|(simp (disch := omega) only [z0C,z0I,z02,z01,z05,z00,z0i,z0k,z0j,z0d,z0c])|(with_reducible first|refine And.intro (by first|assumption|rfl|omega) ?_|refine And.intro ?_ ?_))
 ·rw [zaC,h];rfl
 have hm := h
 clear h
 refine z9e (ι := {k : Nat // k ≤ 16}) (fun k=>⟨[⟨1,26,0,tC t⟩],[(11,V (.int .i64 k.1)),(10, .agg (leC t)),(3,V (.int .i64 (zgB (fun i=>(t.leaf i).length) k.1))),(1,OP 0 0)]⟩) (fun k=>16 - k.1) ⟨0,Nat.zero_le _⟩ ?_ (Nat.zero_le _) ?_
 ·(refine zjH ?_ ?_ ?_ <;> (try simp (disch := omega) only [go_sem,z0C,z0I,z02,z01,z05,z00,z0i,z0k,z0j,z0d,z0c,zgB]))
 rintro ⟨k,hk⟩
 have hs := zgV hl k
 have hlk := hl k
 dsimp only
 repeat' (first|(refine ziS ⟨k + 1,by omega⟩ ?_ (Nat.zero_le _) (by dsimp only;omega))|(refine zjH ?_ ?_ ?_ <;> (try simp (disch := omega) only [go_sem,z0C,z0I,z02,z01,z05,z00,z0i,z0k,z0j,z0d,z0c]))|(with_reducible first|refine aq ?_|refine yr (by kernel_rfl) (Nat.le_of_ble_eq_true rfl) ?_|refine yx MIX (by kernel_rfl) (by kernel_rfl) (by kernel_rfl) (Nat.le_of_ble_eq_true rfl) ?_|refine yc ?_|refine zCI ?_|refine z0p ?_|refine z0H ?_|refine z0u ?_|refine z0v ?_|refine yr1 (by kernel_rfl) (Nat.le_of_ble_eq_true rfl) ?_|refine yx1 MIX (by kernel_rfl) (by kernel_rfl) (by kernel_rfl) (Nat.le_of_ble_eq_true rfl) ?_)|(simp only [go_sem])|((with_reducible first|refine zE8 (by first|assumption|(simp only [decide_eq_true_eq,decide_eq_false_iff_not];first|assumption|omega)) (fun h=>?_)|refine zFf (by first|assumption|(simp only [decide_eq_true_eq,decide_eq_false_iff_not];first|assumption|omega)) (fun h=>?_)|refine zF6 (by first|assumption|(simp only [decide_eq_true_eq,decide_eq_false_iff_not];first|assumption|omega)) (fun h=>?_)|refine zCY (by first|assumption|(simp only [decide_eq_true_eq,decide_eq_false_iff_not];first|assumption|omega)) (fun h=>?_)|refine zER (by first|assumption|(simp only [decide_eq_true_eq,decide_eq_false_iff_not];first|assumption|omega)) (fun h=>?_)|refine zDm (by first|assumption|(simp only [decide_eq_true_eq,decide_eq_false_iff_not];first|assumption|omega)) (fun h=>?_)) <;> (try rewrite [h]) <;> clear h)|(with_reducible refine z6G ?_)|((with_reducible first|refine z0w (fun h=>?_) (fun h=>?_)|refine z0y (fun h=>?_) (fun h=>?_)) <;> (try rewrite [h]) <;> (try simp (disch := omega) only [z0C,z0I,z02,z01,z05,z00,z0i,z0k,z0j,z0d,z0c] at h) <;> (try simp only [decide_eq_true_eq,decide_eq_false_iff_not,Bool.not_eq_true,Bool.not_eq_false,Bool.not_eq_true',Bool.not_eq_false',not_true_eq_false,not_false_eq_true] at h) <;> (try (exfalso;omega)))|(simp (disch := omega) only [z0C,z0I,z02,z01,z05,z00,z0i,z0k,z0j,z0d,z0c])|(with_reducible first|refine And.intro (by first|assumption|rfl|omega) ?_|refine And.intro ?_ ?_))
 ·rw [zgB,Int.natCast_add]
 ·obtain rfl : k = 16 := by omega
  rw [zaC,hm];rfl
set_option maxHeartbeats 400000 in
theorem zrG {G : Gl} (hG : SigG G) (t : Tr) (hl : ∀ i,(t.leaf i).length ≤ 1000000) (hw : ∀ i,z58 (t.leaf i) ≤ 1000000000) (hn : ∀ i,∀ x ∈ t.leaf i,z3i x) : ACp Tryd.prog G 23 [tA t] (nA (z5n t)) := by
 have hl' : ∀ i,(t.leaf i).length ≤ 34359738368 := fun i=>Nat.le_trans (hl i) (by decide)
 refine z0x (c := _) Tryd.func23 rfl (by kernel_rfl) [.tmp 2] rfl _ Tryd.ntmps23 (Nat.le_of_ble_eq_true rfl) rfl ?_
 repeat' (first|(refine z0h (zgl hG _ hl') (by (simp (disch := omega) only [go_sem,z0C,z0I,z02,z01,z05,z00,z0i,z0k,z0j,z0d,z0c])) ?_)|(with_reducible first|refine aq ?_|refine yr (by kernel_rfl) (Nat.le_of_ble_eq_true rfl) ?_|refine yx MIX (by kernel_rfl) (by kernel_rfl) (by kernel_rfl) (Nat.le_of_ble_eq_true rfl) ?_|refine yc ?_|refine zCI ?_|refine z0p ?_|refine z0H ?_|refine z0u ?_|refine z0v ?_|refine yr1 (by kernel_rfl) (Nat.le_of_ble_eq_true rfl) ?_|refine yx1 MIX (by kernel_rfl) (by kernel_rfl) (by kernel_rfl) (Nat.le_of_ble_eq_true rfl) ?_)|(simp only [go_sem])|((with_reducible first|refine zE8 (by first|assumption|(simp only [decide_eq_true_eq,decide_eq_false_iff_not];first|assumption|omega)) (fun h=>?_)|refine zFf (by first|assumption|(simp only [decide_eq_true_eq,decide_eq_false_iff_not];first|assumption|omega)) (fun h=>?_)|refine zF6 (by first|assumption|(simp only [decide_eq_true_eq,decide_eq_false_iff_not];first|assumption|omega)) (fun h=>?_)|refine zCY (by first|assumption|(simp only [decide_eq_true_eq,decide_eq_false_iff_not];first|assumption|omega)) (fun h=>?_)|refine zER (by first|assumption|(simp only [decide_eq_true_eq,decide_eq_false_iff_not];first|assumption|omega)) (fun h=>?_)|refine zDm (by first|assumption|(simp only [decide_eq_true_eq,decide_eq_false_iff_not];first|assumption|omega)) (fun h=>?_)) <;> (try rewrite [h]) <;> clear h)|(with_reducible refine z6G ?_)|((with_reducible first|refine z0w (fun h=>?_) (fun h=>?_)|refine z0y (fun h=>?_) (fun h=>?_)) <;> (try rewrite [h]) <;> (try simp (disch := omega) only [z0C,z0I,z02,z01,z05,z00,z0i,z0k,z0j,z0d,z0c] at h) <;> (try simp only [decide_eq_true_eq,decide_eq_false_iff_not,Bool.not_eq_true,Bool.not_eq_false,Bool.not_eq_true',Bool.not_eq_false',not_true_eq_false,not_false_eq_true] at h) <;> (try (exfalso;omega)))|(simp (disch := omega) only [z0C,z0I,z02,z01,z05,z00,z0i,z0k,z0j,z0d,z0c])|(with_reducible first|refine And.intro (by first|assumption|rfl|omega) ?_|refine And.intro ?_ ?_))
 ·rw [z5n,h];rfl
 have hm := h
 clear h
 refine z9e (ι := {k : Nat // k ≤ 16}) (fun k=>⟨[⟨1,26,0,tC t⟩],[(11,V (.int .i64 k.1)),(10, .agg (leC t)),(3,V (.int .i64 (zgB (fun i=>z58 (t.leaf i)) k.1))),(1,OP 0 0)]⟩) (fun k=>16 - k.1) ⟨0,Nat.zero_le _⟩ ?_ (Nat.zero_le _) ?_
 ·(refine zjH ?_ ?_ ?_ <;> (try simp (disch := omega) only [go_sem,z0C,z0I,z02,z01,z05,z00,z0i,z0k,z0j,z0d,z0c,zgB]))
 rintro ⟨k,hk⟩
 have hs := zgV hw k
 have hlk := hw k
 dsimp only
 repeat' (first|(refine z0h (znu _ hG (hn _) (hl _)) rfl ?_)|(refine ziS ⟨k + 1,by omega⟩ ?_ (Nat.zero_le _) (by dsimp only;omega))|(refine zjH ?_ ?_ ?_ <;> (try simp (disch := omega) only [go_sem,z0C,z0I,z02,z01,z05,z00,z0i,z0k,z0j,z0d,z0c]))|(with_reducible first|refine aq ?_|refine yr (by kernel_rfl) (Nat.le_of_ble_eq_true rfl) ?_|refine yx MIX (by kernel_rfl) (by kernel_rfl) (by kernel_rfl) (Nat.le_of_ble_eq_true rfl) ?_|refine yc ?_|refine zCI ?_|refine z0p ?_|refine z0H ?_|refine z0u ?_|refine z0v ?_|refine yr1 (by kernel_rfl) (Nat.le_of_ble_eq_true rfl) ?_|refine yx1 MIX (by kernel_rfl) (by kernel_rfl) (by kernel_rfl) (Nat.le_of_ble_eq_true rfl) ?_)|(simp only [go_sem])|((with_reducible first|refine zE8 (by first|assumption|(simp only [decide_eq_true_eq,decide_eq_false_iff_not];first|assumption|omega)) (fun h=>?_)|refine zFf (by first|assumption|(simp only [decide_eq_true_eq,decide_eq_false_iff_not];first|assumption|omega)) (fun h=>?_)|refine zF6 (by first|assumption|(simp only [decide_eq_true_eq,decide_eq_false_iff_not];first|assumption|omega)) (fun h=>?_)|refine zCY (by first|assumption|(simp only [decide_eq_true_eq,decide_eq_false_iff_not];first|assumption|omega)) (fun h=>?_)|refine zER (by first|assumption|(simp only [decide_eq_true_eq,decide_eq_false_iff_not];first|assumption|omega)) (fun h=>?_)|refine zDm (by first|assumption|(simp only [decide_eq_true_eq,decide_eq_false_iff_not];first|assumption|omega)) (fun h=>?_)) <;> (try rewrite [h]) <;> clear h)|(with_reducible refine z6G ?_)|((with_reducible first|refine z0w (fun h=>?_) (fun h=>?_)|refine z0y (fun h=>?_) (fun h=>?_)) <;> (try rewrite [h]) <;> (try simp (disch := omega) only [z0C,z0I,z02,z01,z05,z00,z0i,z0k,z0j,z0d,z0c] at h) <;> (try simp only [decide_eq_true_eq,decide_eq_false_iff_not,Bool.not_eq_true,Bool.not_eq_false,Bool.not_eq_true',Bool.not_eq_false',not_true_eq_false,not_false_eq_true] at h) <;> (try (exfalso;omega)))|(simp (disch := omega) only [z0C,z0I,z02,z01,z05,z00,z0i,z0k,z0j,z0d,z0c])|(with_reducible first|refine And.intro (by first|assumption|rfl|omega) ?_|refine And.intro ?_ ?_))
 ·rw [zgB,Int.natCast_add]
 ·obtain rfl : k = 16 := by omega
  rw [z5n,hm];rfl
end

section
open Go.RowKit
attribute [local go_sem ↓] z74 zpB zpp z75 z6B z9O zq9 zp9 zpb zpE zao z6f zDb zDH zDA zEa zE1 zD4 zer zfx z9S zfk z9T zae z6x z4o z9N z4J zal zfh zpk z6w z1k z9X z2m zaj z3a z1A z6i z1B z6h z6Y zeJ z6O zew z6d z9V z4I z2l z6j zet z6A z6H z9P za0 z4q z4x za8 zam zfA zfQ zpK zpm z6r z6P z1j z1h za2 z9I z2o z2h za9 za3 z35 z38 z1L z1y z6E z6Q z1C z1E z6J z6U z6M z6m zen zfm z9Z za5 zfy zp0 zfq zfn zqh zpd zpP zqt z9K z9M z9U z9F zp1 zpR zpO zeo zeV z33 z3g zfp zf3
end

section
open Go.RowKit
def Tr.Eq16 (t u : Tr) : Prop := ∀ i,i < 16 → t.leaf i = u.leaf i ∧ t.ver i = u.ver i
theorem zac {α β : Type} {f g : Nat → β} {n : Nat} (h : (List.range n).map f = (List.range n).map g) : ∀ i,i < n → f i = g i := fun i hi=>by
 have := congrArg (fun l=>l[i]?) h
 simpa [List.getElem?_map,List.getElem?_range hi] using this
theorem z8O {t u : Tr} (h : tA t = tA u) : t.Eq16 u := by
 unfold tA tC at h
 injection h with h
 obtain ⟨h1,h2⟩ := List.append_inj h (by rw [z3C,z3C])
 intro i hi
 exact ⟨zgG (zac (α := Nat) h1 i hi),zcd (zac (α := Nat) h2 i hi)⟩
theorem zt2 {t u : Tr} (h : t.Eq16 u) : tA t = tA u := by
 unfold tA tC leC veC
 congr 2
 ·exact List.map_congr_left fun i hi=>by rw [(h i (List.mem_range.1 hi)).1]
 ·exact List.map_congr_left fun i hi=>by rw [(h i (List.mem_range.1 hi)).2]
theorem z7t {f g : Nat → Bool} {n : Nat} (h : ∀ i,i < n → f i = g i) : (List.range n).all f = (List.range n).all g := by
 rw [Bool.eq_iff_iff,List.all_eq_true,List.all_eq_true]
 exact ⟨fun q i hi=>by rw [← h i (List.mem_range.1 hi)];exact q i hi,fun q i hi=>by rw [h i (List.mem_range.1 hi)];exact q i hi⟩
theorem zab {t u : Tr} (h : t.Eq16 u) : zEb t = zEb u := z7t fun i hi=>by rw [(h i hi).1,(h i hi).2]
theorem zmc {t u : Tr} (h : t.Eq16 u) (k : z0f) : zEl t k = zEl u k := by
 unfold zEl
 rw [zab h]
 cases hk : zDF k with
 |false=>rfl
 |true=>rw [(h _ (zsK hk)).1]
theorem zlS {t u : Tr} (h : t.Eq16 u) (b : Nat) (v : Int) (r : List Item × Nat) : tA (zCW t b v r).1 = tA (zCW u b v r).1 ∧ (zCW t b v r).2 = (zCW u b v r).2 := by
 unfold zCW
 split
 ·refine ⟨zt2 fun i hi=>?_,rfl⟩
  simp only [Tr.setL,Tr.setV]
  rw [(h i hi).1,(h i hi).2]
  exact ⟨rfl,rfl⟩
 ·exact ⟨rfl,rfl⟩
theorem zb1 {x : Item} (h : z2S x = true) : zDF x.key = true := by
 unfold z2S at h
 simp only [Bool.and_eq_true] at h
 exact h.1.1.1.1
theorem zme {t u : Tr} (h : t.Eq16 u) (x : Item) : tA (zEt t x).1 = tA (zEt u x).1 ∧ (zEt t x).2 = (zEt u x).2 := by
 unfold zEt
 rw [zab h]
 split
 ·exact ⟨rfl,rfl⟩
 ·rename_i hx
  have hi : z2S x = true := by
   cases e : z2S x with
   |true=>rfl
   |false=>rw [e] at hx;exact absurd rfl hx
  rw [(h _ (zsK (zb1 hi))).1,(h _ (zsK (zb1 hi))).2]
  split
  ·exact ⟨rfl,rfl⟩
  ·exact zlS h ..
theorem zlm {t u : Tr} (h : t.Eq16 u) (k : z0f) (v : Int) : tA (zE4 t k v).1 = tA (zE4 u k v).1 ∧ (zE4 t k v).2 = (zE4 u k v).2 := by
 unfold zE4
 rw [zab h,zmc h]
 split
 ·exact ⟨rfl,rfl⟩
 ·split
  ·exact ⟨rfl,rfl⟩
  ·rename_i hg
   have hk : zDF k = true := by
    cases e : zDF k with
    |true=>rfl
    |false=>rw [zEl,e] at hg;exact absurd rfl hg
   rw [(h _ (zsK hk)).1,(h _ (zsK hk)).2]
   split
   ·exact ⟨rfl,rfl⟩
   ·exact zlS h ..
theorem zgM {f g : Nat → Nat} : ∀ {n : Nat},(∀ i,i < n → f i = g i) → zgB f n = zgB g n
 |0,_=>rfl
 |n + 1,h=>by
  unfold zgB
  rw [zgM fun i hi=>h i (Nat.lt_succ_of_lt hi),h n (Nat.lt_succ_self n)]
theorem ze9 {t u : Tr} (h : t.Eq16 u) : zaC t = zaC u := by
 unfold zaC
 rw [zab h,zgM fun i hi=>by rw [(h i hi).1]]
theorem zbi {t u : Tr} (h : t.Eq16 u) : z5n t = z5n u := by
 unfold z5n
 rw [zab h,zgM fun i hi=>by rw [(h i hi).1]]
def Tr.Ok (t : Tr) : Prop := ∀ i,(t.leaf i).length ≤ 1000000 ∧ (∀ x ∈ t.leaf i,x.key.length ≤ maxLen ∧ z3i x) ∧ z58 (t.leaf i) ≤ 1000000000
theorem Tr.Ok.len {t : Tr} (h : t.Ok) : ∀ i,(t.leaf i).length ≤ 1000000 := fun i=>(h i).1
theorem Tr.Ok.len2 {t : Tr} (h : t.Ok) : ∀ i,(t.leaf i).length ≤ 34359738368 := fun i=>Nat.le_trans (h i).1 (by decide)
def z2p (m : Nat) : List AV → RO := zDW (ι := Tr) (fun t=>[tA t]) (fun t=>bA (zEb t)) Tr.Ok
theorem z7L (m : Nat) : ∀ args X H',z2p m args = some (X,H') → ACp Tryd.prog GG 28 args X := z3B fun t h=>zgl sigGG t h.len2
theorem z9d (m : Nat) (t : Tr) (h : t.Ok) : z2p m [tA t] = some (bA (zEb t),[]) := z3A (ι := Tr) (by
 intro t u e
 rw [zab (z8O (List.cons.inj e).1)]) (i := t) h
def z7f (m : Nat) : List AV → RO := zDW (ι := Tr × z0f) (fun p=>[tA p.1,sA p.2]) (fun p=>TU [iA ((zEl p.1 p.2).getD Item.zero),bA (zEl p.1 p.2).isSome]) (fun p=>p.1.Ok)
theorem zfT (m : Nat) : ∀ args X H',z7f m args = some (X,H') → ACp Tryd.prog GG 37 args X := z3B fun p h=>zAs sigGG p.1 p.2 h.len
theorem ziM (m : Nat) (t : Tr) (k : z0f) (h : t.Ok) : z7f m [tA t,sA k] = some (TU [iA ((zEl t k).getD Item.zero),bA (zEl t k).isSome],[]) := z3A (ι := Tr × z0f) (by
 rintro ⟨t,k⟩ ⟨u,k'⟩ e
 dsimp only at e ⊢
 simp only [List.cons.injEq,and_true] at e
 rw [zmc (z8O e.1),zmp e.2]) (i := (t,k)) h
def z3W (m : Nat) : List AV → RO := zDW (ι := Tr × Item) (fun p=>[tA p.1,iA p.2]) (fun p=>TU [tA (zEt p.1 p.2).1,nA (zEt p.1 p.2).2]) (fun p=>p.1.Ok)
theorem zc3 (m : Nat) : ∀ args X H',z3W m args = some (X,H') → ACp Tryd.prog GG 26 args X := z3B fun p h=>zCt sigGG p.1 p.2 h.len
theorem zd2 (m : Nat) (t : Tr) (x : Item) (h : t.Ok) : z3W m [tA t,iA x] = some (TU [tA (zEt t x).1,nA (zEt t x).2],[]) := z3A (ι := Tr × Item) (by
 rintro ⟨t,k⟩ ⟨u,k'⟩ e
 dsimp only at e ⊢
 simp only [List.cons.injEq,and_true] at e
 rw [zul e.2,(zme (z8O e.1) k').1,(zme (z8O e.1) k').2]) (i := (t,x)) h
def z3M (m : Nat) : List AV → RO := zDW (ι := Tr × z0f × Int) (fun p=>[tA p.1,sA p.2.1,nA p.2.2]) (fun p=>TU [tA (zE4 p.1 p.2.1 p.2.2).1,nA (zE4 p.1 p.2.1 p.2.2).2]) (fun p=>p.1.Ok)
theorem zcf (m : Nat) : ∀ args X H',z3M m args = some (X,H') → ACp Tryd.prog GG 38 args X := z3B fun p h=>zBY sigGG p.1 p.2.1 p.2.2 h.len
theorem zdu (m : Nat) (t : Tr) (k : z0f) (v : Int) (h : t.Ok) : z3M m [tA t,sA k,nA v] = some (TU [tA (zE4 t k v).1,nA (zE4 t k v).2],[]) := z3A (ι := Tr × z0f × Int) (by
 rintro ⟨t,k,v⟩ ⟨u,k',v'⟩ e
 dsimp only at e ⊢
 simp only [List.cons.injEq,and_true] at e
 rw [zmp e.2.1,zcd e.2.2,(zlm (z8O e.1) k' v').1,(zlm (z8O e.1) k' v').2]) (i := (t,k,v)) h
def z2n (m : Nat) : List AV → RO := zDW (ι := Tr) (fun t=>[tA t]) (fun t=>nA (zaC t)) Tr.Ok
theorem z8L (m : Nat) : ∀ args X H',z2n m args = some (X,H') → ACp Tryd.prog GG 24 args X := z3B fun t h=>zwC sigGG t h.len
theorem zan (m : Nat) (t : Tr) (h : t.Ok) : z2n m [tA t] = some (nA (zaC t),[]) := z3A (ι := Tr) (by
 intro t u e
 rw [ze9 (z8O (List.cons.inj e).1)]) (i := t) h
def z1U (m : Nat) : List AV → RO := zDW (ι := Tr) (fun t=>[tA t]) (fun t=>nA (z5n t)) Tr.Ok
theorem z7G (m : Nat) : ∀ args X H',z1U m args = some (X,H') → ACp Tryd.prog GG 23 args X := z3B fun t h=>zrG sigGG t h.len (fun i=>(h i).2.2) fun i x hx=>((h i).2.1 x hx).2
theorem z8D (m : Nat) (t : Tr) (h : t.Ok) : z1U m [tA t] = some (nA (z5n t),[]) := z3A (ι := Tr) (by
 intro t u e
 rw [zbi (z8O (List.cons.inj e).1)]) (i := t) h
theorem zzy {t u : Tr} (h : t.Eq16 u) : tA (zE3 t 16) = tA (zE3 u 16) := zt2 fun i hi=>by
 simp only [zE3,hi,if_true]
 rw [(h i hi).1,(h i hi).2]
 exact ⟨rfl,rfl⟩
def z2b (m : Nat) : List AV → RO := zDW (ι := Tr) (fun t=>[tA t]) (fun t=>tA (zE3 t 16)) (fun t=>∀ i,(t.leaf i).length ≤ maxLen)
theorem z9c (m : Nat) : ∀ args X H',z2b m args = some (X,H') → ACp Tryd.prog GG 17 args X := z3B fun t h=>zBX t h
theorem zaJ (m : Nat) (t : Tr) (h : ∀ i,(t.leaf i).length ≤ maxLen) : z2b m [tA t] = some (tA (zE3 t 16),[]) := z3A (ι := Tr) (by
 intro t u e
 exact zzy (z8O (List.cons.inj e).1)) (i := t) h
end

section
open Go.RowKit
theorem zh6 (k i : Int) (s : z0f) : ACp Tryd.prog GG 20 [.agg [nA k,nA i,sA s]] (bA (zEn k i s)) := by
 refine acp_of_tells (by kernel_rfl) fun w S vs hr hg hlen hv'=>?_
 rcases vs with _|⟨v1,_|⟨_,_⟩⟩ <;> simp at hlen
 obtain ⟨us,rfl,hx⟩ := hv' 0 _ v1 rfl rfl
 have := z6L (us := [.int .i64 k, .int .i64 i, .string ⟨s.toArray⟩]) hx
 subst this
 refine (z4d k i s w).mono ?_
 rintro e w' ⟨rfl,hb⟩
 exact ⟨_,rfl,hb,zmY⟩
def z42 (m : Nat) : List AV → RO := zDW (ι := Int × Int × z0f) (fun ⟨k,i,s⟩=>[.agg [nA k,nA i,sA s]]) (fun ⟨k,i,s⟩=>bA (zEn k i s)) (fun _=>True)
theorem zbQ (m : Nat) : ∀ args X H',z42 m args = some (X,H') → ACp Tryd.prog GG 20 args X := z3B (by
 rintro ⟨k,i,s⟩ _
 exact zh6 k i s)
theorem zcS (m : Nat) (k : Int) (i : Int) (s : z0f) : z42 m [.agg [nA k,nA i,sA s]] = some (bA (zEn k i s),[]) := z3A (ι := Int × Int × z0f) (by
 rintro ⟨k1,i1,s1⟩ ⟨k2,i2,s2⟩ h
 try dsimp only at h ⊢
 simp only [List.cons.injEq,DataW.agg.injEq,and_true] at h
 obtain ⟨h1,h2,h3⟩ := h
 rw [zcd h1,zcd h2,zmp h3]) (i := (k,i,s)) trivial
end

section
open Go.RowKit
def z0A : TypeId := 26
def zgO : TypeId := 65
def zbl : List AV := [(V (.int .i64 0)),(V (.int .i64 0)),(V (.string ⟨#[]⟩))]
def zgC : List (Nat × Nat) := [(0,1),(1,1),(2,1)]
def z1P : Code := (Tryd.f25.body).getD .skip
def plenumref10_Same_h : Hint := (.two .n (.join [] (.two .n (.one (.lp [] [2,3,5] [4] (.two (.two .n (.two .n .n)) (.two (.one (.two .n (.two (.two .n .n) .n))) .n))))) (.two .n .n)))
def z1l (m : Nat) : Env := [(40, .tell (z1R m))]
abbrev z2d : KO (AV × List AObj) := z69 Tryd.prog [.tmp 4]
def z8b (m : Nat) (s : ASt) : RO := z3n Tryd.prog GG (z1l m) m ⟨31,[]⟩ (cdR (cdR z1P)) plenumref10_Same_h.r.r s (z2d)
def z4s (m : Nat) (s : ASt) (kc : ASt → RO) (kx : KO (AV × List AObj)) : RO := zdP Tryd.prog GG (z1l m) m ⟨31,[]⟩ (cdL (cdL (cdR (cdL (cdR z1P))))) plenumref10_Same_h.r.l.r.c.c [2,3,5] [4] s kc kx
def z2x (m : Nat) (t0 t1 : AV) : RO := zF9 Tryd.prog GG (z1l m) m ⟨31,[]⟩ z1P plenumref10_Same_h ⟨[],z2t 0 [t0,t1]⟩ (z2d)
theorem z6c (m : Nat) (H : List AObj) (t2 t3 t5 : AV) (kc : ASt → RO) (kx : KO (AV × List AObj)) : z4s m ⟨H,[(2,t2),(3,t3),(5,t5)]⟩ kc kx =
 zED none false false .lss t5 (V (.int .i64 16)) fun t7 =>
 z0U t7 (
  z0b (some (16,18)) t2 fun t11 =>
  zbF 16 1 t11 t5 fun t12 =>
  z0l 1 H t12 fun t13 =>
  z0b (some (16,18)) t3 fun t15 =>
  zbF 16 1 t15 t5 fun t16 =>
  z0l 1 H t16 fun t17 =>
  zED none false false .neq t13 t17 fun t18 =>
  z0U t18 (
   kx .ret ⟨H,[(4,(V (.bool false)))]⟩) (
   z0b (some (0,18)) t2 fun t21 =>
   zbF 16 1 t21 t5 fun t22 =>
   z0l 1 H t22 fun t23 =>
   z0b (some (0,18)) t3 fun t25 =>
   zbF 16 1 t25 t5 fun t26 =>
   z0l 1 H t26 fun t27 =>
   z3o (z1R m [(ro H t23),(ro H t27)]) [(ro H t23),(ro H t27)] fun t28 =>
   unE .not t28 fun t29 =>
   z0U t29 (
   kx .ret ⟨H,[(4,(V (.bool false)))]⟩) (
   zED none false false .add t5 (V (.int .i64 1)) fun t9 =>
   zd5 H.length H [(2,t2),(3,t3),(5,t9)] kc))) (
  kx (.exit 0) ⟨H,[(4, .nil)]⟩) := by
 refine (z2v _ _ _ _ _ _ _ _ _ _ _ _).trans ?_
 kernel_rfl
theorem z8V (m : Nat) (t0 t1 : AV) : z2x m t0 t1 =
 zE6 z0A [] t0 fun t2 H1 =>
 zE6 z0A H1 t1 fun t3 H2 =>
 zc7 m (z4s m) ⟨H2,[(2,t2),(3,t3),(5,(V (.int .i64 0)))]⟩ (z4k 0 (zCu (fun s=>z8b m ⟨s.H,[]⟩) (z2d))) := by
 refine (zhg _ _ _ _ _ _ _ _ _).trans ?_
 kernel_rfl
def z2U (m : Nat) : List AV → RO|[t0,t1]=>z2x m t0 t1|_=>none
theorem z8g (m : Nat) : ∀ args X H',z2U m args = some (X,H') → ACp Tryd.prog GG 25 args X := by
 intro args X H' h
 unfold z2U at h
 split at h
 ·exact z2A MIX (by
  intro f e h
  simp only [z1l,Prod.mk.injEq,List.mem_cons,List.not_mem_nil,or_false] at h
  obtain ⟨rfl,rfl⟩ := h
  ·exact z8y m) (f := 25) (c := z1P) Tryd.func25 rfl (by kernel_rfl) _ rfl Tryd.ntmps25 (Nat.le_of_ble_eq_true rfl) plenumref10_Same_h h
 ·cases h
def z5X : Code := (Tryd.f27.body).getD .skip
def z60 : Hint := (.two .n (.two .n .n))
def z8Y (m : Nat) : Env := []
abbrev z8I : KO (AV × List AObj) := z69 Tryd.prog [.cell 2 65]
def z32 (m : Nat) (t0 : AV) : RO := zF9 Tryd.prog GG (z8Y m) m ⟨5,[]⟩ z5X z60 ⟨[],z2t 0 [t0]⟩ (z8I)
theorem z9v (m : Nat) (t0 : AV) : z32 m t0 =
 z1G (some zbl) zgO [] fun t2 H1 =>
 z0X (some zgC) (some zbl) [(0,(V (.int .i64 2))),(1,t0)] fun t4 =>
 z0s 5 H1 t2 t4 fun H2 =>
 z0l 5 H2 t2 fun t9000 =>
 z4l H2 (ro H2 t9000) := by
 refine (zhg _ _ _ _ _ _ _ _ _).trans ?_
 kernel_rfl
def z3w (m : Nat) : List AV → RO|[t0]=>z32 m t0|_=>none
theorem z9o (m : Nat) : ∀ args X H',z3w m args = some (X,H') → ACp Tryd.prog GG 27 args X := by
 intro args X H' h
 unfold z3w at h
 split at h
 ·exact z2A MIX (by intro f e h;cases h) (f := 27) (c := z5X) Tryd.func27 rfl (by kernel_rfl) _ rfl Tryd.ntmps27 (Nat.le_of_ble_eq_true rfl) z60 h
 ·cases h
end

end Go.Proofs.YtaplemeamcgpkaaDoor
end

namespace Go.Proofs.YtaplemeamcgpkaaDoor
attribute [go_sem] Nat.zero_add Nat.add_zero Nat.mul_one Int.toNat_natCast Int.natCast_zero Int.cast_ofNat_Int or_false false_or or_true true_or Nat.sub_zero Int.natCast_nonneg Int.toNat_zero Bool.true_and Bool.and_true Bool.false_and Bool.and_false Bool.true_or Bool.or_true Bool.false_or Bool.or_false Bool.not_true Bool.not_false Bool.not_not true_and and_true false_and and_false not_true_eq_false not_false_eq_true eq_self decide_true decide_false ne_eq implies_true forall_const true_implies false_implies Bool.true_eq_false Bool.false_eq_true List.map_cons List.map_nil List.all_cons List.all_nil List.length_cons List.length_nil List.length_map List.length_append List.nil_append List.cons_append List.set_cons_zero List.set_cons_succ List.set_nil List.drop_zero List.drop_succ_cons List.drop_nil List.take_zero List.take_succ_cons List.take_nil Option.map_some Option.map_none Option.isSome_some List.all_append List.all_map Function.comp_def decide_eq_true_eq Bool.and_eq_true beq_self_eq_true or_self and_self ite_true ite_false Nat.le_refl Bool.not_eq_true decide_not Bool.not_eq_true' decide_eq_false_iff_not Bool.not_eq_false Bool.or_eq_true if_true if_false ite_self zx9 ztP zv9 zuP ztK zjS
attribute [go_sem_proc] Nat.reduceAdd Nat.reduceSub Nat.reduceMul Nat.reduceLeDiff Nat.reduceLT Int.reduceEq Int.reduceNe Int.reduceLT Int.reduceLE Int.reduceAdd Int.reduceSub Int.reduceMul Int.reduceNeg Int.reduceToNat reduceCtorEq Nat.reduceEqDiff Nat.reduceBEq Nat.reduceGT
attribute [go_sem_proc ↓] reduceIte
end Go.Proofs.YtaplemeamcgpkaaDoor

namespace Go.Proofs.YtaplemeamcgpkaaDoor
open Go.RowKit
theorem zro {l : List Item} (h : z2G l) {y z : Item} (hy : y ∈ l) (hz : z ∈ l) (e : y.key = z.key) : y = z := by
 obtain ⟨i,hi,rfl⟩ := List.mem_iff_getElem.1 hy
 obtain ⟨j,hj,rfl⟩ := List.mem_iff_getElem.1 hz
 rcases Nat.lt_trichotomy i j with h1|h1|h1
 ·have := z8A h h1 hj;rw [e,z1f] at this;cases this
 ·subst h1;rfl
 ·have := z8A h h1 hi;rw [e,z1f] at this;cases this
theorem zef {l : List Item} (hlf : z3u l = true) (k : z0f) (y : Item) : zDY l k = some y ↔ y ∈ l ∧ y.key = k := by
 have hs := ((z0D l).1 hlf).2.2
 constructor
 ·intro h
  cases ht : z1M l k with
  |false=>rw [ziI ht] at h;cases h
  |true =>
   rw [zdT hlf ht] at h
   obtain rfl := Option.some.inj h
   rw [zgq (z5o ht)] at ht
   exact ⟨List.getElem_mem _,by simpa using ht⟩
 ·rintro ⟨hy,rfl⟩
  have ht : z1M l y.key = true := by
   cases ht : z1M l y.key with
   |true=>rfl
   |false =>
    have := zlT hs y.key
    rw [ht,if_neg (by simp)] at this
    unfold atK at this
    rw [List.findIdx?_eq_none_iff] at this
    have := this y hy
    simp at this
  rw [zdT hlf ht]
  congr 1
  refine zro hs (List.getElem_mem _) hy ?_
  have h2 := ht
  rw [zgq (z5o ht)] at h2
  simpa using h2
theorem mem_withK {l : List Item} {x y : Item} : y ∈ zfR l x ↔ (y ∈ l ∧ less y.key x.key = true) ∨ y = x ∨ (y ∈ l ∧ less x.key y.key = true) := by
 simp [zfR]
theorem zog {l : List Item} (h : z2G l) (x : Item) : (zfR l x).length = if z1M l x.key then l.length else l.length + 1 := by
 rw [z7U h]
 have := zmi l x.key
 cases ht : z1M l x.key with
 |false=>simp;omega
 |true=>have := z5o ht;simp;omega
theorem zhc {l : List Item} (h : z2G l) (k : z0f) (ht : z1M l k = true) : (z2u l k).length + 1 = l.length := by
 rw [z7B h k ht]
 have := z5o ht
 simp;omega
theorem zm9 {l : List Item} {x : Item} (hlf : z3u l = true) (hx : z2S x = true) (hl : (zfR l x).length ≤ 64) : z3u (zfR l x) = true := by
 obtain ⟨_,hit,hs⟩ := (z0D l).1 hlf
 refine (z0D _).2 ⟨hl,?_,?_⟩
 ·intro y hy
  rcases mem_withK.1 hy with ⟨h,_⟩|rfl|⟨h,_⟩
  ·exact hit y h
  ·exact hx
  ·exact hit y h
 ·unfold z2G zfR
  rw [List.pairwise_append,List.pairwise_append]
  refine ⟨⟨List.Pairwise.filter _ hs,List.pairwise_singleton _ _,?_⟩,List.Pairwise.filter _ hs,?_⟩
  ·intro a ha b hb
   simp at ha hb
   subst hb;exact ha.2
  ·intro a ha b hb
   simp at ha hb
   rcases ha with ha|rfl
   ·exact z5k _ _ _ ha.2 hb.2
   ·exact hb.2
theorem zfD {l : List Item} (k : z0f) (hlf : z3u l = true) : z3u (z2u l k) = true := by
 obtain ⟨hl,hit,hs⟩ := (z0D l).1 hlf
 refine (z0D _).2 ⟨Nat.le_trans (List.length_filter_le _ _) hl,fun x hx=>hit x (List.mem_filter.1 hx).1,List.Pairwise.filter _ hs⟩
theorem zp5 {l r : List Item} {k : z0f} (hl : z3u l = true) (hr : z3u r = true) (h : ∀ y,y.key = k → (y ∈ l ↔ y ∈ r)) : zDY l k = zDY r k := by
 apply Option.ext
 intro y
 rw [zef hl,zef hr]
 constructor
 ·rintro ⟨h1,h2⟩;exact ⟨(h y h2).1 h1,h2⟩
 ·rintro ⟨h1,h2⟩;exact ⟨(h y h2).2 h1,h2⟩
theorem zqv {l : List Item} {x : Item} (h : (zEp l x).2 = 0) : (zEp l x).1 = zfR l x ∧ z3u l = true ∧ z2S x = true ∧ z3u (zfR l x) = true ∧ (zfR l x).length ≤ 64 ∧ zDY (zfR l x) x.key = some x ∧ ∀ k,k ≠ x.key → zDY (zfR l x) k = zDY l k := by
 unfold zEp at h ⊢
 cases hlf : z3u l with
 |false=>rw [hlf] at h;simp at h
 |true =>
  cases hx : z2S x with
  |false=>rw [hlf,hx] at h;simp at h
  |true =>
   rw [hlf,hx] at h
   have hl64 := ((z0D l).1 hlf).1
   have hs := ((z0D l).1 hlf).2.2
   cases hc : (!z1M l x.key && l.length == 64) with
   |true=>rw [hc] at h;simp at h
   |false =>
    have hlen : (zfR l x).length ≤ 64 := by
     rw [zog hs]
     cases ht : z1M l x.key with
     |true=>simpa using hl64
     |false=>rw [ht] at hc;simp at hc;simp;omega
    have hwl := zm9 hlf hx hlen
    refine ⟨by simp,rfl,rfl,hwl,hlen,(zef hwl _ _).2 ⟨mem_withK.2 (.inr (.inl rfl)),rfl⟩,fun k hk=>zp5 hwl hlf fun y hy=>?_⟩
    rw [mem_withK]
    constructor
    ·rintro (⟨h,_⟩|rfl|⟨h,_⟩)
     ·exact h
     ·exact absurd hy.symm hk
     ·exact h
    ·intro hyl
     cases h1 : less y.key x.key with
     |true=>exact .inl ⟨hyl,rfl⟩
     |false =>
      cases h2 : less x.key y.key with
      |true=>exact .inr (.inr ⟨hyl,rfl⟩)
      |false=>exact absurd ((zbR _ _ h1 h2).symm.trans hy) (fun h=>hk h.symm)
theorem zrT {l : List Item} {q : z0f} (h : (zEL l q).2 = 0) : (zEL l q).1 = z2u l q ∧ z3u l = true ∧ z3u (z2u l q) = true ∧ (z2u l q).length + 1 = l.length ∧ zDY (z2u l q) q = none ∧ ∀ k,k ≠ q → zDY (z2u l q) k = zDY l k := by
 unfold zEL at h ⊢
 cases hlf : z3u l with
 |false=>rw [hlf] at h;simp at h
 |true =>
  rw [hlf] at h
  have hs := ((z0D l).1 hlf).2.2
  cases ht : z1M l q with
  |false=>rw [ht] at h;simp at h
  |true =>
   have hwl := zfD q hlf
   refine ⟨by simp,rfl,hwl,zhc hs q ht,?_,fun k hk=>zp5 hwl hlf fun y hy=>?_⟩
   ·cases hg : zDY (z2u l q) q with
    |none=>rfl
    |some y =>
     obtain ⟨h1,h2⟩ := (zef hwl _ _).1 hg
     have := (List.mem_filter.1 h1).2
     simp [h2] at this
   ·unfold z2u
    rw [List.mem_filter]
    constructor
    ·exact fun h=>h.1
    ·intro h1;refine ⟨h1,?_⟩;rw [hy];simpa using hk
end Go.Proofs.YtaplemeamcgpkaaDoor

namespace Go.Proofs.YtaplemeamcgpkaaDoor
open Go.RowKit
def zy5 (b ver : Int) (x : Item) : Bool := zDF x.key && zD7 b ver x
theorem ztO (b : Int) (l : List Item) (ver : Int) : zcw b l ver = (l.all (zy5 b ver) && z3u l && decide (0 ≤ ver) && decide (ver ≤ 2147483647)) := by
 cases hl : z3u l with
 |false=>simp [zcw,hl]
 |true =>
  have hk : ∀ x ∈ l,zDF x.key = true := fun x hx=>zmn (((z0D l).1 hl).2.1 x hx)
  have : l.all (zy5 b ver) = l.all (zD7 b ver) := by
   rw [Bool.eq_iff_iff]
   simp only [List.all_eq_true,zy5,Bool.and_eq_true]
   exact ⟨fun h x hx=>(h x hx).2,fun h x hx=>⟨hk x hx,h x hx⟩⟩
  rw [zcw,hl,this]
  cases l.all (zD7 b ver) <;> simp
theorem zcg (k : Nat) : ((k : Int)).toNat = k := Int.toNat_natCast k
section
variable {R : Type} {t : Tr} {i : Nat} {K1 : AV → Option R}
theorem zDv (h : i < 16) : zCG (tC t) i K1 = K1 (lA (t.leaf i)) := by
 unfold zCG tC
 rw [List.getElem?_append_left (by rw [z3C];exact h)]
 simp [leC,List.getElem?_map,List.getElem?_range h]
theorem zF7 (h : 16 ≤ i) (h2 : i < 32) : zCG (tC t) i K1 = K1 (nA (t.ver (i - 16))) := by
 unfold zCG tC
 rw [List.getElem?_append_right (by rw [z3C];exact h),z3C]
 simp [veC,List.getElem?_map,List.getElem?_range (show i - 16 < 16 by omega)]
end
theorem Tr.Ok.key {t : Tr} (h : t.Ok) (i : Nat) : ∀ x ∈ t.leaf i,x.key.length ≤ maxLen := fun x hx=>((h i).2.1 x hx).1
theorem zh5 {t : Tr} (h : zEb t = true) {b : Nat} (hb : b < 16) {y : Item} (hy : y ∈ t.leaf b) : z2S y = true ∧ z2L y.key = b ∧ y.ver ≤ t.ver b := by
 have h1 := List.all_eq_true.1 h b (List.mem_range.2 hb)
 rw [ztO] at h1
 simp only [Bool.and_eq_true] at h1
 have h2 := List.all_eq_true.1 h1.1.1.1 y hy
 have h3 := ((z0D _).1 h1.1.1.2).2.1 y hy
 simp only [zy5,zD7,Bool.and_eq_true,decide_eq_true_eq] at h2
 exact ⟨h3,h2.2.1,h2.2.2⟩
theorem zhw {t : Tr} (h : zEb t = true) {b : Nat} (hb : b < 16) : z3u (t.leaf b) = true := by
 have h1 := List.all_eq_true.1 h b (List.mem_range.2 hb)
 rw [ztO] at h1
 simp only [Bool.and_eq_true] at h1
 exact h1.1.1.2
theorem z6a {t : Tr} {n : Nat} {H : List AObj} : ((tC t).all fun x=>lt1 n (ro1 H x)) = true := zlg (fun _=>rfl) fun _=>rfl
theorem zwO {l : List Item} : (l.all fun x=>decide ((cellsOf (flA Item.cells x)).length = 5)) = true := List.all_eq_true.2 fun _ _=>rfl
theorem zj5 {k : z0f} (h : zDF k = true) : z2L k = (bk k : Nat) := by have := z6T h;unfold bk;omega
def zq7 (a b : Tr) : Bool := (List.range 16).all fun i=>decide (a.ver i = b.ver i) && decide (a.leaf i = b.leaf i)
theorem sameT_iff {a b : Tr} : zq7 a b = true ↔ a.Eq16 b := by
 unfold zq7
 rw [List.all_eq_true]
 constructor
 ·intro h i hi
  have := h i (List.mem_range.2 hi)
  simp only [Bool.and_eq_true,decide_eq_true_eq] at this
  exact ⟨this.2,this.1⟩
 ·intro h i hi
  have := h i (List.mem_range.1 hi)
  simp only [Bool.and_eq_true,decide_eq_true_eq]
  exact ⟨this.2,this.1⟩
theorem zjP {a b : Tr} {i : Nat} (hi : i < 16) (h : ¬ (a.ver i = b.ver i ∧ a.leaf i = b.leaf i)) : zq7 a b = false := by
 cases e : zq7 a b with
 |false=>rfl
 |true =>
  have := sameT_iff.1 e i hi
  exact absurd ⟨this.2,this.1⟩ h
theorem ztf (m : Nat) (a b : Tr) (hm : 16 < m) (ha : ∀ i,(a.leaf i).length ≤ 34359738368) (hb : ∀ i,(b.leaf i).length ≤ 34359738368) : z2x m (tA a) (tA b) = some (bA (zq7 a b),[]) := by
 rw [z8V]
 simp (config := {maxSteps := 4000000,implicitDefEqProofs := false}) (disch := omega) only [go_sem,z0E,z47,z7R,z8E,zgo,z4K,z6a,z7q,z8e,z99,z4y,zhO,z56,z0d,z0c,zjo,zjA,zjy,zje,ziV,z2a,z5m,zcg,zDv,zF7]
 refine zgi (ι := {k : Nat // k ≤ 16 ∧ (List.range k).all (fun i=>decide (a.ver i = b.ver i) && decide (a.leaf i = b.leaf i)) = true}) (fun k=>⟨[⟨1,z0A,0,tC a⟩,⟨1,z0A,0,tC b⟩],[(2,OP 0 0),(3,OP 1 0),(5,nA k.1)]⟩) (fun k=>16 - k.1) (fun _=>some (bA (zq7 a b),[])) ?_ ⟨0,Nat.zero_le _,rfl⟩ (by dsimp only;omega)
 rintro ⟨k,hk,hall⟩ kc hkc
 dsimp only at hkc ⊢
 rw [z6c]
 by_cases hlt : k < 16
 ·have hlt' : (k : Int) < 16 := by omega
  have hS := z9a m (a.leaf k) (b.leaf k) ⟨ha k,hb k⟩
  rw [z5m,z5m] at hS
  by_cases hv : a.ver k = b.ver k
  ·by_cases hl : a.leaf k = b.leaf k
   ·have step := hkc ⟨k + 1,by omega,by rw [List.range_succ,List.all_append,hall];simp [hv,hl]⟩ (by dsimp only;omega)
    simp only [hl] at hS
    simp (config := {maxSteps := 4000000,implicitDefEqProofs := false}) (disch := omega) only [go_sem,z0E,z47,z7R,z8E,zgo,z4K,z6a,z7q,z8e,z99,z4y,zhO,z56,z0d,z0c,zjo,zjA,zjy,zje,ziV,z2a,z5m,zcg,zDv,zF7,hlt',hS,hv,hl,z0C]
    exact step
   ·simp only [hl] at hS
    simp (config := {maxSteps := 4000000,implicitDefEqProofs := false}) (disch := omega) only [go_sem,z0E,z47,z7R,z8E,zgo,z4K,z6a,z7q,z8e,z99,z4y,zhO,z56,z0d,z0c,zjo,zjA,zjy,zje,ziV,z2a,z5m,zcg,zDv,zF7,hlt',hS,hv,hl,z0C]
    rw [zjP hlt fun q=>hl q.2]
    try rfl
  ·simp (config := {maxSteps := 4000000,implicitDefEqProofs := false}) (disch := omega) only [go_sem,z0E,z47,z7R,z8E,zgo,z4K,z6a,z7q,z8e,z99,z4y,zhO,z56,z0d,z0c,zjo,zjA,zjy,zje,ziV,z2a,z5m,zcg,zDv,zF7,hlt',hv]
   rw [zjP hlt fun q=>hv q.1]
   try rfl
 ·have hlt' : ¬ (k : Int) < 16 := by omega
  have : k = 16 := by omega
  subst this
  simp (config := {maxSteps := 4000000,implicitDefEqProofs := false}) (disch := omega) only [go_sem,hlt']
  rw [show zq7 a b = true from hall]
  rfl
end Go.Proofs.YtaplemeamcgpkaaDoor

namespace Go.Proofs.YtaplemeamcgpkaaDoor
open Go.RowKit
def xa : Item := ⟨[97],2,1,[],5⟩
def T1 : Tr := (Tr.zero.setL 1 [xa]).setV 1 5
def T2 : Tr := (T1.setL 1 []).setV 1 9
theorem zzM : ([] : List Item).length ≤ 1000000 ∧ (∀ x ∈ ([] : List Item),x.key.length ≤ maxLen ∧ z3i x) ∧ z58 [] ≤ 1000000000 := ⟨Nat.zero_le _,(by intro x hx;cases hx),Nat.le_of_ble_eq_true (by kernel_rfl)⟩
theorem zth : Tr.zero.Ok := fun i=>zzM
theorem zzF (m : Nat) (i : Int) : z32 m (nA i) = some (.agg [nA 2,nA i,sA []],[]) := by
 rw [z9v]
 rfl
theorem zry {k : z0f} (h : k.length ≤ 60) : k.length ≤ maxLen := Nat.le_trans h (by decide)
theorem zhG {l : List Item} (hl : z3u l = true) (hn : ∀ x ∈ l,z3i x) (hk : ∀ x ∈ l,x.key.length ≤ 60) : zb7 l ≤ l.length * 160 := by
 have hv := ((z0D l).1 hl).2.1
 clear hl
 unfold zb7
 induction l with
 |nil=>exact Nat.zero_le _
 |cons x r ih =>
  have h1 := ih (fun y hy=>hn y (List.mem_cons_of_mem _ hy)) (fun y hy=>hk y (List.mem_cons_of_mem _ hy)) (fun y hy=>hv y (List.mem_cons_of_mem _ hy))
  have h2 := hk x (List.mem_cons_self ..)
  have h3 := hn x (List.mem_cons_self ..)
  have h4 := hv x (List.mem_cons_self ..)
  have h5 : zEn x.kind x.i x.s = true := by
   unfold z2S at h4
   simp only [Bool.and_eq_true] at h4
   exact h4.1.1.1.2
  have h6 := zdm h3.1 h3.2 h5
  simp only [List.map_cons,List.sum_cons,List.length_cons]
  omega
def Tr.In (t : Tr) : Prop := ∀ i,(t.leaf i).length ≤ maxLen ∧ (∀ x ∈ t.leaf i,z3i x) ∧ (16 ≤ i → t.leaf i = [])
theorem zur {t : Tr} (h : t.In) : (zE3 t 16).Ok := by
 intro i
 by_cases hi : i < 16
 ·have e : (zE3 t 16).leaf i = zCv (t.leaf i) := by simp [zE3,hi]
  have hlen : (zCv (t.leaf i)).length ≤ 66 := by simp [zCv];omega
  have hx : ∀ x ∈ zCv (t.leaf i),x.key.length ≤ 60 ∧ z3i x := by
   intro x hx
   simp only [zCv,List.mem_map] at hx
   obtain ⟨y,hy,rfl⟩ := hx
   exact ⟨by simp [Item.one];omega,(h i).2.1 y (List.mem_of_mem_take hy)⟩
  rw [e]
  refine ⟨by omega,fun x hq=>⟨zry (hx x hq).1,(hx x hq).2⟩,?_⟩
  unfold z58
  split
  ·rename_i hl
   have := zhG hl (fun x hq=>(hx x hq).2) (fun x hq=>(hx x hq).1)
   omega
  ·omega
 ·have e : (zE3 t 16).leaf i = [] := by simp only [zE3,hi,if_false];exact (h i).2.2 (by omega)
  rw [e];exact zzM
theorem Tr.In.len {t : Tr} (h : t.In) : ∀ i,(t.leaf i).length ≤ maxLen := fun i=>(h i).1
end Go.Proofs.YtaplemeamcgpkaaDoor

namespace Go.Proofs.YtaplemeamcgpkaaDoor
open Go.RowKit
structure TInv (t : Tr) : Prop where
 may : zEb t = true
 num : ∀ i,∀ x ∈ t.leaf i,z3i x
 out : ∀ i,16 ≤ i → t.leaf i = []
theorem zC7 {k : z0f} (h : zDF k = true) : k.length ≤ 24 := by
 unfold zDF zEF at h
 simp only [Bool.and_eq_true,decide_eq_true_eq] at h
 exact h.2.1
theorem TInv.ok {t : Tr} (h : TInv t) : t.Ok := by
 intro i
 by_cases hi : i < 16
 ·have hl := zhw h.may hi
  have hk : ∀ x ∈ t.leaf i,x.key.length ≤ 24 := fun x hx=>zC7 (zb1 (zh5 h.may hi hx).1)
  have h64 := ((z0D _).1 hl).1
  refine ⟨by omega,fun x hx=>⟨Nat.le_trans (hk x hx) (by decide),h.num i x hx⟩,?_⟩
  have := zhG hl (h.num i) fun x hx=>Nat.le_trans (hk x hx) (by decide)
  unfold z58
  rw [if_pos hl];omega
 ·rw [h.out i (by omega)];exact zzM
theorem zwp {t : Tr} (h : t.In) (hm : zEb (zE3 t 16) = true) : TInv (zE3 t 16) := by
 refine ⟨hm,fun i x hx=>((zur h i).2.1 x hx).2,fun i hi=>?_⟩
 have : ¬ i < 16 := by omega
 simp only [zE3,this,if_false]
 exact (h i).2.2 hi
theorem zeS {p : Nat → Bool} {b : Nat} (h : ∀ i,p i = true → i = b) : ∀ n,((List.range n).filter p).length ≤ 1 ∧ (b ≥ n → (List.range n).filter p = [])
 |0=>⟨Nat.zero_le _,fun _=>rfl⟩
 |n + 1=>by
  obtain ⟨h1,h2⟩ := zeS h n
  rw [List.range_succ,List.filter_append]
  by_cases hp : p n = true
  ·have hb := h n hp
   rw [h2 (by omega)]
   simp [hp]
   omega
  ·simp [hp]
   refine ⟨h1,fun hb a ha=>?_⟩
   cases hpa : p a with
   |false=>rfl
   |true=>have := h a hpa;omega
theorem zpq {t : Tr} (h : TInv t) {b : Nat} (hb : b < 16) {l : List Item} {v : Int} (hl : z3u l = true) (hv0 : 0 ≤ v) (hv1 : v ≤ 2147483647) (hf : ∀ x ∈ l,z2L x.key = b ∧ x.ver ≤ v) (hn : ∀ x ∈ l,z3i x) :
  TInv ((t.setL b l).setV b v) ∧ (zl7 t ((t.setL b l).setV b v) 16).length ≤ 1 ∧ ∀ k,(bk k = b → zDY l k = zDY (t.leaf b) k) → zEl ((t.setL b l).setV b v) k = zEl t k := by
 have hleaf : ∀ i,((t.setL b l).setV b v).leaf i = if i = b then l else t.leaf i := fun i=>rfl
 have hver : ∀ i,((t.setL b l).setV b v).ver i = if i = b then v else t.ver i := fun i=>rfl
 have hm : zEb ((t.setL b l).setV b v) = true := by
  unfold zEb
  rw [List.all_eq_true]
  intro i hi
  have hi := List.mem_range.1 hi
  rw [hleaf,hver]
  by_cases e : i = b
  ·subst e
   rw [if_pos rfl,if_pos rfl]
   unfold zcw
   rw [hl,decide_eq_true hv0,decide_eq_true hv1]
   simp only [Bool.true_and,List.all_eq_true]
   intro x hx
   have := hf x hx
   unfold zD7
   rw [decide_eq_true this.1,decide_eq_true this.2];rfl
  ·rw [if_neg e,if_neg e]
   exact List.all_eq_true.1 h.may i (List.mem_range.2 hi)
 refine ⟨⟨hm,fun i x hx=>?_,fun i hi=>?_⟩,(zeS (b := b) (fun i hi=>?_) 16).1,fun k hk=>?_⟩
 ·rw [hleaf] at hx
  split at hx
  ·exact hn x hx
  ·exact h.num i x hx
 ·rw [hleaf,if_neg (by omega)];exact h.out i hi
 ·rcases Decidable.em (i = b) with e|e
  ·exact e
  ·unfold zjN at hi
   rw [hleaf,hver,if_neg e,if_neg e] at hi
   simp at hi
 ·unfold zEl
  rw [hm,h.may]
  cases hkb : zDF k with
  |false=>rfl
  |true =>
   simp only [Bool.and_self,if_true]
   rw [hleaf]
   split
   ·rename_i e;rw [e,hk e]
   ·rfl
theorem zoY {t : Tr} {x : Item} (h : TInv t) (hx : z3i x) (he : (zEt t x).2 = 0) : TInv (zEt t x).1 ∧ (zl7 t (zEt t x).1 16).length ≤ 1 ∧ ∀ k,k ≠ x.key → zEl (zEt t x).1 k = zEl t k := by
 unfold zEt at he ⊢
 split at he
 ·cases he
 rename_i hi
 rw [if_neg hi]
 split at he
 ·cases he
 rename_i hv
 rw [if_neg hv]
 have hib : z2S x = true := by
  cases e : z2S x with
  |true=>rfl
  |false=>rw [e] at hi;exact absurd rfl hi
 have hk := zb1 hib
 have hb := zsK hk
 have hbe := zj5 hk
 unfold zCW at he ⊢
 split at he
 ·rename_i hp
  rw [if_pos hp]
  obtain ⟨e1,e2,_,e4,e5,e6,e7⟩ := zqv hp
  rw [e1]
  have hv3 : 0 ≤ x.ver ∧ x.ver ≤ 2147483647 := by
   unfold z2S at hib
   simp only [Bool.and_eq_true,decide_eq_true_eq] at hib
   exact ⟨hib.1.2,hib.2⟩
  have hmem : ∀ y ∈ zfR (t.leaf (bk x.key)) x,y ∈ t.leaf (bk x.key) ∨ y = x := by
   intro y hy
   rcases mem_withK.1 hy with q|q|q
   ·exact .inl q.1
   ·exact .inr q
   ·exact .inl q.1
  obtain ⟨a1,a2,a3⟩ := zpq h hb e4 hv3.1 hv3.2 (fun y hy=>by
   rcases hmem y hy with q|q
   ·have := zh5 h.may hb q
    exact ⟨this.2.1,by omega⟩
   ·subst q;exact ⟨hbe,Int.le_refl _⟩) (fun y hy=>by
   rcases hmem y hy with q|q
   ·exact h.num _ y q
   ·subst q;exact hx)
  exact ⟨a1,a2,fun k hk2=>a3 k fun e=>e7 k hk2⟩
 ·rename_i hp
  exact absurd he hp
theorem zti {t : Tr} {q : z0f} {v : Int} (h : TInv t) (he : (zE4 t q v).2 = 0) : TInv (zE4 t q v).1 ∧ (zl7 t (zE4 t q v).1 16).length ≤ 1 ∧ ∀ k,k ≠ q → zEl (zE4 t q v).1 k = zEl t k := by
 unfold zE4 at he ⊢
 split at he
 ·cases he
 rename_i hi
 rw [if_neg hi]
 split at he
 ·cases he
 rename_i hs
 rw [if_neg hs]
 split at he
 ·cases he
 rename_i hv
 rw [if_neg hv]
 simp only [h.may,Bool.not_true,Bool.false_or,Bool.or_eq_true,decide_eq_true_eq,not_or] at hi
 have hk : zDF q = true := zlA (by cases e : (zEl t q).isSome with|true=>rfl|false=>exact absurd e hs)
 have hb := zsK hk
 unfold zCW at he ⊢
 split at he
 ·rename_i hp
  rw [if_pos hp]
  obtain ⟨e1,e2,e3,_,_,e7⟩ := zrT hp
  rw [e1]
  have hmem : ∀ y ∈ z2u (t.leaf (bk q)) q,y ∈ t.leaf (bk q) := fun y hy=>(List.mem_filter.1 hy).1
  obtain ⟨a1,a2,a3⟩ := zpq (v := v) h hb e3 (by omega) (by omega) (fun y hy=>by
   have := zh5 h.may hb (hmem y hy)
   exact ⟨this.2.1,by omega⟩) (fun y hy=>h.num _ y (hmem y hy))
  exact ⟨a1,a2,fun k hk2=>a3 k fun e=>e7 k hk2⟩
 ·rename_i hp
  exact absurd he hp
theorem TInv.ver {t : Tr} (h : TInv t) {i : Nat} (hi : i < 16) : 0 ≤ t.ver i ∧ t.ver i ≤ 2147483647 := by
 have := List.all_eq_true.1 h.may i (List.mem_range.2 hi)
 unfold zcw at this
 simp only [Bool.and_eq_true,decide_eq_true_eq] at this
 exact ⟨this.1.1.2,this.1.2⟩
end Go.Proofs.YtaplemeamcgpkaaDoor

namespace Go.Proofs.YtaplemeamcgpkaaDoor
open Go.RowKit
abbrev zCN (T : Tm) (l : List Tmp) : List AV := List.rec (motive := fun _=>List AV) [] (fun t _ ih=>zcO T t :: ih) l
theorem zah (T : Tm) : ∀ l,zCN T l = l.map (get T)
 |[]=>rfl
 |t :: r=>by
  have ih := zah T r
  show zcO T t :: zCN T r = get T t :: r.map (get T)
  rw [ih,slotK_eq]
abbrev zt4 (rs : List Tmp) : KO (AV × List AObj) := fun e s=>match e with
 |.normal=>some (TU (zCN s.T rs),s.H)
 |.ret=>some (TU (zCN s.T rs),s.H)
 |.panic ch=>chE ch fun u=>some (TU (PN u :: zCN s.T rs),s.H)
 |_=>none
abbrev zoj (rs : List Tmp) : KO (AV × List AObj) := fun e s=>match e with
 |.normal=>some (TU (zCN s.T rs),s.H)
 |_=>none
theorem zCF (P : Program) (G : Gl) (E : Env) (M : Nat) (N : FS) (c : Code) (h : Hint) (s : ASt) (rs : List Tmp) : zF9 P G E M N c h s (zoj rs) = execK P G E M N c h s (zoj rs) := (z2O c h s _).symm
theorem zDa (P : Program) (G : Gl) (E : Env) (M : Nat) (N : FS) (c : Code) (h : Hint) (s : ASt) (rs : List Tmp) : zF9 P G E M N c h s (zt4 rs) = execK P G E M N c h s (zt4 rs) := (z2O c h s _).symm
section
variable {P : Program} {G : Gl} {E : Env} {M n : Nat} {H : List AObj}
end
end Go.Proofs.YtaplemeamcgpkaaDoor

namespace Go.Proofs.YtaplemeamcgpkaaDoor
open Go.RowKit
abbrev FL (lo : Option Nat) : Fence := { Fence.wide with round := lo }
section
variable {P : Program} {G : Gl} {n d : Nat} {N : FS} {w w' w0 : World} {S S' S0 : SS} {μ μ' μ0 : List Value} {H H' H0 : List AObj} {E : Env} {M : Nat}
theorem zrs {T2 : Tm} : ∀ {rs : List Tmp} {ds : List AV},(TU ds : AV) = TU (zCN T2 rs) → ∀ i,get (rs.zip ds) i = get T2 i ∨ get (rs.zip ds) i = .nil := by
 intro rs ds h
 rw [zah] at h
 simp only [DataW.iface.injEq,DataW.agg.injEq,true_and] at h
 subst h
 induction rs with
 |nil=>exact fun i=>.inr rfl
 |cons t r ih =>
  intro i
  simp only [List.map_cons,List.zip_cons_cons,_root_.Go.Proofs.YtaplemeamcgpkaaDoor.get]
  split
  ·rename_i e;subst e;exact .inl rfl
  ·exact ih i
theorem Fr.less {T T' : Tm} {a : Act} (hf : Fr S μ N T a) (h : ∀ i,get T' i = get T i ∨ get T' i = .nil) : Fr S μ N T' a :=
 ⟨hf.size,hf.nodef,fun i=>by
  rcases h i with e|e
  ·rw [e];exact hf.slot i
  ·rw [e];exact zeD _ _ _⟩
theorem Fr.some {T T' : Tm} {a : Act} (hf : Fr S μ N T a) (h : ∀ p ∈ T',get T p.1 = p.2) : Fr S μ N T' a := hf.less (by
 intro i
 induction T' with
 |nil=>exact .inr rfl
 |cons p r ih =>
  obtain ⟨j,x⟩ := p
  simp only [_root_.Go.Proofs.YtaplemeamcgpkaaDoor.get]
  split
  ·rename_i e
   subst e
   exact .inl (h (j,x) (List.mem_cons_self ..)).symm
  ·exact ih fun p hp=>h p (List.mem_cons_of_mem _ hp))
theorem zri {rs : List Tmp} {e : Exit} {s : ASt} {X : AV} (h : zoj rs e s = some (X,H')) : e = .normal ∧ X = TU (zCN s.T rs) ∧ s.H = H' := by
 cases e with
 |normal=>cases h;exact ⟨rfl,rfl,rfl⟩
 |exit id=>cases h
 |goto l=>cases h
 |ret=>cases h
 |panic ch=>cases h
 |outgrown=>cases h
theorem zii (hm : P.follows .mixedOrders = true) (hE : z9t P G E) {rs : List Tmp} {ds : List AV} {Q : Exit → Act → World → Prop} : ∀ (m : Nat) (c : Code) (h : Hint) (s : ASt) {w : World} {S : SS} {μ : List Value} {a : Act},zzK m c = true → zF9 P G E M N (zFT m c .skip) h s (zoj rs) = some (TU ds,H') →
  Rel w S μ s.H → Fr S μ N s.T a → GOk G S →
  (∀ a' w',(∃ S' μ',n ≤ H'.length ∧ Rel w' S' μ' H' ∧ Fr S' μ' N (rs.zip ds) a' ∧ GOk G S' ∧ Step n w S μ s.H w' S' μ' H') → (zFO m c).wpIn (FL none) d P Q a' w') → n ≤ s.H.length → c.wpIn (FL none) d P Q a w
 |0,c,h,s,w,S,μ,a,hd,hx,hr,hf,hg,hK,hn=>by
  have hx : zoj rs .normal s = some (TU ds,H') := hx
  obtain ⟨_,e2,e3⟩ := zri hx
  subst e3
  exact hK a w ⟨S,μ,hn,hr,hf.less (zrs e2),hg,Step.refl _ _ _ _ _⟩
 |m + 1, .seq x y,h,s,w,S,μ,a,hd,hx,hr,hf,hg,hK,hn=>by
  refine wpIn_seq (wpIn_mono (wpIn_wide.2 (AWp.len (z3e (n := n) hm hE x h.l s _ hn hx) hn w S μ a hr hf hg)) ?_)
  rintro e a' w' ⟨s',S',μ',⟨hq,hl⟩,hr',hf',hst⟩
  cases e with
  |normal =>
   have q : zF9 P G E M N (zFT m y .skip) h.r (ghJ h.gho (zxL h.J s')) (zoj rs) = some (TU ds,H') := hq
   have key : ∀ (T3 : Tm),(∀ i,get T3 i = get s'.T i ∨ get T3 i = .nil) → zF9 P G E M N (zFT m y .skip) h.r (ghJ h.gho ⟨s'.H,T3⟩) (zoj rs) = some (TU ds,H') → y.wpIn (FL none) d P Q a' w' := by
    intro T3 h3 q
    have gh : ∀ g,∃ μ2,Rel w' S' μ2 (ghJ g ⟨s'.H,T3⟩).H ∧ Fr S' μ2 N (ghJ g ⟨s'.H,T3⟩).T a' ∧ Step n w' S' μ' s'.H w' S' μ2 (ghJ g ⟨s'.H,T3⟩).H := by
     intro g
     obtain ⟨μ2,k1,k2,k3⟩ := zqu g (s := ⟨s'.H,T3⟩) hr' (hf'.less h3)
     exact ⟨μ2,k1,k2,k3.less hl⟩
    obtain ⟨μ2,g1,g2,g3⟩ := gh h.gho
    have hl2 : n ≤ (ghJ h.gho ⟨s'.H,T3⟩).H.length := Nat.le_trans hl (zfL h.gho ⟨s'.H,T3⟩)
    refine zii hm hE m y h.r (ghJ h.gho ⟨s'.H,T3⟩) hd q g1 g2 (hg.ext hst.still) ?_ hl2
    rintro a2 w2 ⟨S2,μ3,b1,b2,b3,b4,b5⟩
    exact hK a2 w2 ⟨S2,μ3,b1,b2,b3,b4,(hst.trans g3).trans b5⟩
   cases hj : h.J with
   |none=>rw [hj] at q;exact key s'.T (fun i=>.inl rfl) q
   |some L=>rw [hj] at q;exact key (z4S L s'.T) (z79 L s'.T) q
  |exit id=>cases hq
  |goto l=>cases hq
  |ret=>cases hq
  |panic ch=>cases hq
  |outgrown=>cases hq
end
end Go.Proofs.YtaplemeamcgpkaaDoor

namespace Go.Proofs.YtaplemeamcgpkaaDoor
open Go.RowKit
def z40 : TypeId := 67
def z2j : TypeId := 79
def z03 : TypeId := 28
def z3Z : List AV := [(V (.string ⟨#[]⟩)),(V (.int .i64 0)),(V (.int .i64 0)),(V (.string ⟨#[]⟩)),(V (.int .i64 0))]
def z2W : List AV := [(V (.slice none 0 0)),(V (.slice none 0 0)),(V (.slice none 0 0)),(V (.slice none 0 0)),(V (.slice none 0 0)),(V (.slice none 0 0)),(V (.slice none 0 0)),(V (.slice none 0 0)),(V (.slice none 0 0)),(V (.slice none 0 0)),(V (.slice none 0 0)),(V (.slice none 0 0)),(V (.slice none 0 0)),(V (.slice none 0 0)),(V (.slice none 0 0)),(V (.slice none 0 0)),(V (.int .i64 0)),(V (.int .i64 0)),(V (.int .i64 0)),(V (.int .i64 0)),(V (.int .i64 0)),(V (.int .i64 0)),(V (.int .i64 0)),(V (.int .i64 0)),(V (.int .i64 0)),(V (.int .i64 0)),(V (.int .i64 0)),(V (.int .i64 0)),(V (.int .i64 0)),(V (.int .i64 0)),(V (.int .i64 0)),(V (.int .i64 0))]
def z9b : List AV := [(V (.int .i64 0)),(V (.int .i64 0))]
def z7d : List (Nat × Nat) := [(0,1),(1,3),(4,1)]
def z91 : List (Nat × Nat) := [(0,1),(1,1)]
def z8n : Code := (Tryd.f35.body).getD .skip
def z8v : Hint := (.two .n (.two .n .n))
def zbz (m : Nat) : Env := []
abbrev zbk : KO (AV × List AObj) := z69 Tryd.prog [.tmp 4]
def z2P (m : Nat) (t0 t1 : AV) : RO := zF9 Tryd.prog GG (zbz m) m ⟨12,[]⟩ z8n z8v ⟨[],z2t 0 [t0,t1]⟩ (zbk)
theorem zcv (m : Nat) (t0 t1 : AV) : z2P m t0 t1 =
 zED none false false .geq t0 (V (.int .i64 0)) fun t6 =>
 z0U t6 (
  zED none false false .leq t0 t1 fun t10 =>
  z4l [] (ro [] t10)) (
  z4l [] (ro [] (V (.bool false)))) := by
 refine (zhg _ _ _ _ _ _ _ _ _).trans ?_
 kernel_rfl
def z5J (m : Nat) : List AV → RO|[t0,t1]=>z2P m t0 t1|_=>none
theorem zc8 (m : Nat) : ∀ args X H',z5J m args = some (X,H') → ACp Tryd.prog GG 35 args X := by
 intro args X H' h
 unfold z5J at h
 split at h
 ·exact z2A MIX (by intro f e h;cases h) (f := 35) (c := z8n) Tryd.func35 rfl (by kernel_rfl) _ rfl Tryd.ntmps35 (Nat.le_of_ble_eq_true rfl) z8v h
 ·cases h
def z3X : Code := (Tryd.f18.body).getD .skip
def store_May_h : Hint := (.two .n (.join [1] (.join [1,26] .n (.two (.two .n .n) .n)) (.join [1] (.two .n (.one (.lp [] [1,29,30] [1,2] (.two .n (.two (.two .n .n) (.two (.one (.two .n (.two .n (.two (.two .n .n) .n)))) .n)))))) (.two .n .n))))
def z2q (m : Nat) : Env := [(28, .tell (z2p m)),(35, .tell (z5J m)),(23, .tell (z1U m)),(24, .tell (z2n m))]
abbrev z3k : KO (AV × List AObj) := z69 Tryd.prog [.tmp 2]
def zbp (m : Nat) (s : ASt) : RO := z3n Tryd.prog GG (z2q m) m ⟨52,[]⟩ (cdR (cdR (cdR z3X))) store_May_h.r.r.r s (z3k)
def zb4 (m : Nat) (s : ASt) (kc : ASt → RO) (kx : KO (AV × List AObj)) : RO := zdP Tryd.prog GG (z2q m) m ⟨52,[]⟩ (cdL (cdL (cdR (cdL (cdR (cdR z3X)))))) store_May_h.r.r.l.r.c.c [1,29,30] [1,2] s kc kx
def z7X (m : Nat) (s : ASt) : RO := z3n Tryd.prog GG (z2q m) m ⟨52,[]⟩ (cdR (cdR z3X)) store_May_h.r.r s (z3k)
def z45 (m : Nat) (s : ASt) : RO := z3n Tryd.prog GG (z2q m) m ⟨52,[]⟩ (cdR (cdL (cdR z3X))) store_May_h.r.l.r s (zCu (fun s=>z7X m ⟨s.H,[(1,gt s.T 1)]⟩) (z3k))
def z4n (m : Nat) (t0 : AV) : RO := zF9 Tryd.prog GG (z2q m) m ⟨52,[]⟩ z3X store_May_h ⟨[],z2t 0 [t0]⟩ (z3k)
theorem zca (m : Nat) (H : List AObj) (t1 : AV) : zbp m ⟨H,[(1,t1)]⟩ =
 z0b (some (0,34)) t1 fun t38 =>
 z0l 34 H t38 fun t39 =>
 z3o (z1U m [(ro H t39)]) [(ro H t39)] fun t40 =>
 z0b (some (33,1)) t1 fun t41 =>
 z0l 1 H t41 fun t42 =>
 zED none false false .leq t40 t42 fun t43 =>
 z0U t43 (
  z0b (some (0,34)) t1 fun t45 =>
  z0l 34 H t45 fun t46 =>
  z3o (z2n m [(ro H t46)]) [(ro H t46)] fun t47 =>
  z0b (some (34,1)) t1 fun t48 =>
  z0l 1 H t48 fun t49 =>
  zED none false false .leq t47 t49 fun t50 =>
  z4l H (ro H t50)) (
  z4l H (ro H (V (.bool false)))) := by
 refine (z0o _ _ _ _ _ _ _ _ _).trans ?_
 kernel_rfl
theorem zcq (m : Nat) (H : List AObj) (t1 t29 t30 : AV) (kc : ASt → RO) (kx : KO (AV × List AObj)) : zb4 m ⟨H,[(1,t1),(29,t29),(30,t30)]⟩ kc kx =
 zED none false false .lss t30 (V (.int .i64 16)) fun t31 =>
 z0U t31 (
  zla false (some (16,1)) t29 t30 fun t32 =>
  z0b (some (32,1)) t1 fun t34 =>
  z0l 1 H t34 fun t35 =>
  zED none false false .gtr t32 t35 fun t36 =>
  z0U t36 (
   kx .ret ⟨H,[(1,t1),(2,(V (.bool false)))]⟩) (
   zED none false false .add t30 (V (.int .i64 1)) fun t37 =>
   zd5 H.length H [(1,t1),(29,t29),(30,t37)] kc)) (
  kx (.exit 0) ⟨H,[(1,t1),(2, .nil)]⟩) := by
 refine (z2v _ _ _ _ _ _ _ _ _ _ _ _).trans ?_
 kernel_rfl
theorem z7F (m : Nat) (H : List AObj) (t1 : AV) : z7X m ⟨H,[(1,t1)]⟩ =
 z0b (some (0,34)) t1 fun t27 =>
 z0b (some (16,18)) t27 fun t28 =>
 z0l 18 H t28 fun t29 =>
 zc7 m (zb4 m) ⟨H,[(1,t1),(29,t29),(30,(V (.int .i64 0)))]⟩ (z4k 0 (zCu (fun s=>zbp m ⟨s.H,[(1,gt s.T 1)]⟩) (z3k))) := by
 refine (z0o _ _ _ _ _ _ _ _ _).trans ?_
 kernel_rfl
theorem z7A (m : Nat) (H : List AObj) (t1 t26 : AV) : z45 m ⟨H,[(1,t1),(26,t26)]⟩ =
 z0U t26 (
  z4l H (ro H (V (.bool false)))) (
  z7X m ⟨H,[(1,t1)]⟩) := by
 refine (z0o _ _ _ _ _ _ _ _ _).trans ?_
 kernel_rfl
theorem zh8 (m : Nat) (t0 : AV) : z4n m t0 =
 zE6 z03 [] t0 fun t1 H1 =>
 z0b (some (0,34)) t1 fun t5 =>
 z0l 34 H1 t5 fun t6 =>
 z3o (z2p m [(ro H1 t6)]) [(ro H1 t6)] fun t7 =>
 unE .not t7 fun t8 =>
 z0U t8 (
  z45 m ⟨H1,[(1,t1),(26,(V (.bool true)))]⟩) (
  z0b (some (32,1)) t1 fun t10 =>
  z0l 1 H1 t10 fun t11 =>
  z3o (z2P m (ro H1 t11) (V (.int .i64 2147483647))) [(ro H1 t11),(V (.int .i64 2147483647))] fun t12 =>
  unE .not t12 fun t13 =>
  z0U t13 (
  z45 m ⟨H1,[(1,t1),(26,(V (.bool true)))]⟩) (
  z0b (some (33,1)) t1 fun t16 =>
  z0l 1 H1 t16 fun t17 =>
  z3o (z2P m (ro H1 t17) (V (.int .i64 65536))) [(ro H1 t17),(V (.int .i64 65536))] fun t18 =>
  unE .not t18 fun t19 =>
  z0U t19 (
  z45 m ⟨H1,[(1,t1),(26,(V (.bool true)))]⟩) (
  z0b (some (34,1)) t1 fun t22 =>
  z0l 1 H1 t22 fun t23 =>
  z3o (z2P m (ro H1 t23) (V (.int .i64 1024))) [(ro H1 t23),(V (.int .i64 1024))] fun t24 =>
  unE .not t24 fun t25 =>
  z45 m ⟨H1,[(1,t1),(26,t25)]⟩))) := by
 refine (zhg _ _ _ _ _ _ _ _ _).trans ?_
 kernel_rfl
def z2R (m : Nat) : List AV → RO|[t0]=>z4n m t0|_=>none
theorem z4b (m : Nat) : ∀ args X H',z2R m args = some (X,H') → ACp Tryd.prog GG 18 args X := by
 intro args X H' h
 unfold z2R at h
 split at h
 ·exact z2A MIX (by
  intro f e h
  simp only [z2q,Prod.mk.injEq,List.mem_cons,List.not_mem_nil,or_false] at h
  rcases h with ⟨rfl,rfl⟩|⟨rfl,rfl⟩|⟨rfl,rfl⟩|⟨rfl,rfl⟩
  ·exact z7L m
  ·exact zc8 m
  ·exact z7G m
  ·exact z8L m) (f := 18) (c := z3X) Tryd.func18 rfl (by kernel_rfl) _ rfl Tryd.ntmps18 (Nat.le_of_ble_eq_true rfl) store_May_h h
 ·cases h
def z5d : Code := (Tryd.f22.body).getD .skip
def store_one_h : Hint := (.two .n (.two .n (.join [3,8,9,10] (.two .n (.two .n (.two .n (.two .n (.two .n .n))))) (.join [8,9] (.two .n (.two .n .n)) (.two .n .n)))))
def z36 (m : Nat) : Env := [(26, .tell (z3W m)),(37, .tell (z7f m)),(38, .tell (z3M m)),(999999, .pan fun _ _=>none)]
abbrev z6p (n0 : Nat) : KO (AV × List AObj) := zyo Tryd.prog n0 [.cell 8 26]
def zbm (m : Nat) (n0k : Nat) (s : ASt) : RO := z3n Tryd.prog GG (z36 m) m ⟨52,[]⟩ (cdR (cdR (cdR (cdR z5d)))) store_one_h.r.r.r.r s (z6p n0k)
def z5S (m : Nat) (n0k : Nat) (s : ASt) : RO := z3n Tryd.prog GG (z36 m) m ⟨52,[]⟩ (cdR (cdR (cdR z5d))) store_one_h.r.r.r s (z6p n0k)
def zb0 (m : Nat) (t0 t1 t2 t3 : AV) (H : List AObj) : RO := zF9 Tryd.prog GG (z36 m) m ⟨52,[]⟩ z5d store_one_h ⟨H,z2t 0 [t0,t1,t2,t3]⟩ (z6p H.length)
theorem zck (m : Nat) (n0k : Nat) (H : List AObj) (t8 t9 : AV) : zbm m n0k ⟨H,[(8,t8),(9,t9)]⟩ =
 z0l 34 H t9 fun t51 =>
 z0s 34 H t8 t51 fun H2 =>
 z0l 34 H2 t8 fun t9000 =>
 z84 n0k H2 (ro H2 t9000) := by
 refine (z0o _ _ _ _ _ _ _ _ _).trans ?_
 kernel_rfl
theorem zcr (m : Nat) (n0k : Nat) (H : List AObj) (t3 t8 t9 t10 : AV) : z5S m n0k ⟨H,[(3,t3),(8,t8),(9,t9),(10,t10)]⟩ =
 zED none false false .neq t10 (V (.int .i64 0)) fun t46 =>
 z0U t46 (
  z0X (some z91) (some z9b) [(0,t10),(1,t3)] fun t49 =>
  z0q true (ifE 71 t49 fun t50 =>
  zfv t50 H fun u1 H2=>zzU n0k H2 u1)) (
  zbm m n0k ⟨H,[(8,t8),(9,t9)]⟩) := by
 refine (z0o _ _ _ _ _ _ _ _ _).trans ?_
 kernel_rfl
theorem zgD (m : Nat) (t0 t1 t2 t3 : AV) (H : List AObj) : zb0 m t0 t1 t2 t3 H =
 zE6 z0A H t0 fun t4 H2 =>
 zE6 z40 H2 t1 fun t5 H3 =>
 z1G (some z2W) z0A H3 fun t8 H4 =>
 z0l 34 H4 t4 fun t13 =>
 z1G (some z2W) z0A H4 fun t9 H5 =>
 z0s 34 H5 t9 t13 fun H6 =>
 z0b (some (1,5)) t5 fun t14 =>
 z0b (some (0,1)) t14 fun t15 =>
 z0l 1 H6 t15 fun t16 =>
 zED none false false .neq t16 (V (.int .i64 0)) fun t17 =>
 z0U t17 (
  z0l 34 H6 t4 fun t19 =>
  z0b (some (0,1)) t5 fun t20 =>
  z0l 1 H6 t20 fun t21 =>
  z0b (some (1,5)) t5 fun t22 =>
  z0l 5 H6 t22 fun t23 =>
  z0X (some z7d) (some z3Z) [(0,t21),(1,t23),(2,t2)] fun t25 =>
  z3o (z3W m [(ro H6 t19),(ro H6 t25)]) [(ro H6 t19),(ro H6 t25)] fun t26 =>
  zEN t26 0 fun t27 =>
  zEN t26 1 fun t28 =>
  z0s 34 H6 t9 t27 fun H7 =>
  z5S m H.length ⟨H7,[(3,t3),(8,t8),(9,t9),(10,t28)]⟩) (
  z0l 34 H6 t4 fun t30 =>
  z0b (some (0,1)) t5 fun t31 =>
  z0l 1 H6 t31 fun t32 =>
  z3o (z7f m [(ro H6 t30),(ro H6 t32)]) [(ro H6 t30),(ro H6 t32)] fun t33 =>
  zEN t33 0 fun t34 =>
  zEN t33 1 fun t35 =>
  z1G (some z3Z) z2j H6 fun t11 H7 =>
  z0s 7 H7 t11 t34 fun H8 =>
  z0U t35 (
   z0l 34 H8 t4 fun t38 =>
   z0b (some (0,1)) t5 fun t39 =>
   z0l 1 H8 t39 fun t40 =>
   z3o (z3M m [(ro H8 t38),(ro H8 t40),(ro H8 t2)]) [(ro H8 t38),(ro H8 t40),(ro H8 t2)] fun t42 =>
   zEN t42 0 fun t43 =>
   zEN t42 1 fun t44 =>
   z0s 34 H8 t9 t43 fun H9 =>
   z5S m H.length ⟨H9,[(3,t3),(8,t8),(9,t9),(10,t44)]⟩) (
   z5S m H.length ⟨H8,[(3,t3),(8,t8),(9,t9),(10,(V (.int .i64 0)))]⟩)) := by
 refine (panX Tryd.prog GG (z36 m) m ⟨52,[]⟩ H.length z5d store_one_h ⟨H,z2t 0 [t0,t1,t2,t3]⟩ [.cell 8 26]).trans ?_
 kernel_rfl
def z7k (m : Nat) : List AV → List AObj → RO|[t0,t1,t2,t3],H=>zb0 m t0 t1 t2 t3 H|_,_=>none
theorem zbt (m : Nat) : ∀ args H X H',z7k m args H = some (X,H') → ACx Tryd.prog GG 22 args H (Is X H') := by
 intro args H X H' h
 unfold z7k at h
 split at h
 ·exact zzB MIX (by
  intro f e h
  simp only [z36,Prod.mk.injEq,Prod.mk.injEq,List.mem_cons,List.not_mem_nil,or_false] at h
  rcases h with ⟨rfl,rfl⟩|⟨rfl,rfl⟩|⟨rfl,rfl⟩|⟨rfl,rfl⟩
  ·exact zc3 m
  ·exact zfT m
  ·exact zcf m
  ·intro _ _ _ _ h;cases h) (f := 22) (c := z5d) Tryd.func22 rfl (by kernel_rfl) _ rfl Tryd.ntmps22 (Nat.le_of_ble_eq_true rfl) store_one_h h
 ·cases h
end Go.Proofs.YtaplemeamcgpkaaDoor

namespace Go.Proofs.YtaplemeamcgpkaaDoor
open Go.RowKit
def zc_api_Store : List AV := [(V (.slice none 0 0)),(V (.slice none 0 0)),(V (.slice none 0 0)),(V (.slice none 0 0)),(V (.slice none 0 0)),(V (.slice none 0 0)),(V (.slice none 0 0)),(V (.slice none 0 0)),(V (.slice none 0 0)),(V (.slice none 0 0)),(V (.slice none 0 0)),(V (.slice none 0 0)),(V (.slice none 0 0)),(V (.slice none 0 0)),(V (.slice none 0 0)),(V (.slice none 0 0)),(V (.int .i64 0)),(V (.int .i64 0)),(V (.int .i64 0)),(V (.int .i64 0)),(V (.int .i64 0)),(V (.int .i64 0)),(V (.int .i64 0)),(V (.int .i64 0)),(V (.int .i64 0)),(V (.int .i64 0)),(V (.int .i64 0)),(V (.int .i64 0)),(V (.int .i64 0)),(V (.int .i64 0)),(V (.int .i64 0)),(V (.int .i64 0)),(V (.int .i64 0)),(V (.int .i64 0)),(V (.int .i64 0))]
def z64 : Code := (Tryd.f4.body).getD .skip
def z5Y : Hint := (.two .n (.two .n (.two .n .n)))
def z4F (m : Nat) : Env := [(17, .tell (z2b m))]
abbrev z8d : KO (AV × List AObj) := z69 Tryd.prog [.cell 2 28]
def z2Z (m : Nat) (t0 : AV) : RO := zF9 Tryd.prog GG (z4F m) m ⟨8,[]⟩ z64 z5Y ⟨[],z2t 0 [t0]⟩ (z8d)
theorem z94 (m : Nat) (t0 : AV) : z2Z m t0 =
 zE6 z03 [] t0 fun t1 H1 =>
 z1G (some zc_api_Store) z03 H1 fun t2 H2 =>
 z0b (some (0,34)) t1 fun t3 =>
 z0l 34 H2 t3 fun t4 =>
 z3o (z2b m [(ro H2 t4)]) [(ro H2 t4)] fun t5 =>
 z0b (some (0,34)) t1 fun t6 =>
 z0s 34 H2 t6 t5 fun H3 =>
 z0l 37 H3 t1 fun t7 =>
 z0s 37 H3 t2 t7 fun H4 =>
 z0l 37 H4 t2 fun t9000 =>
 z4l H4 (ro H4 t9000) := by
 refine (zhg _ _ _ _ _ _ _ _ _).trans ?_
 kernel_rfl
def z3s (m : Nat) : List AV → RO|[t0]=>z2Z m t0|_=>none
theorem z9D (m : Nat) : ∀ args X H',z3s m args = some (X,H') → ACp Tryd.prog GG 4 args X := by
 intro args X H' h
 unfold z3s at h
 split at h
 ·exact z2A MIX (by
  intro f e h
  simp only [z4F,Prod.mk.injEq,List.mem_cons,List.not_mem_nil,or_false] at h
  obtain ⟨rfl,rfl⟩ := h
  ·exact z9c m) (f := 4) (c := z64) Tryd.func4 rfl (by kernel_rfl) _ rfl Tryd.ntmps4 (Nat.le_of_ble_eq_true rfl) z5Y h
 ·cases h
def z5g : Code := (Tryd.f6.body).getD .skip
def z5j : Hint := (.two .n (.two .n .n))
def z48 (m : Nat) : Env := [(25, .tell (z2U m))]
abbrev z7V : KO (AV × List AObj) := z69 Tryd.prog [.tmp 4]
def z1K (m : Nat) (t0 t1 : AV) : RO := zF9 Tryd.prog GG (z48 m) m ⟨31,[]⟩ z5g z5j ⟨[],z2t 0 [t0,t1]⟩ (z7V)
theorem z8l (m : Nat) (t0 t1 : AV) : z1K m t0 t1 =
 zE6 z03 [] t0 fun t2 H1 =>
 zE6 z03 H1 t1 fun t3 H2 =>
 z0b (some (32,1)) t2 fun t5 =>
 z0l 1 H2 t5 fun t6 =>
 z0b (some (32,1)) t3 fun t7 =>
 z0l 1 H2 t7 fun t8 =>
 zED none false false .eql t6 t8 fun t9 =>
 z0U t9 (
  z0b (some (33,1)) t2 fun t11 =>
  z0l 1 H2 t11 fun t12 =>
  z0b (some (33,1)) t3 fun t13 =>
  z0l 1 H2 t13 fun t14 =>
  zED none false false .eql t12 t14 fun t15 =>
  z0U t15 (
  z0b (some (34,1)) t2 fun t18 =>
  z0l 1 H2 t18 fun t19 =>
  z0b (some (34,1)) t3 fun t20 =>
  z0l 1 H2 t20 fun t21 =>
  zED none false false .eql t19 t21 fun t22 =>
  z0U t22 (
  z0b (some (0,34)) t2 fun t25 =>
  z0l 34 H2 t25 fun t26 =>
  z0b (some (0,34)) t3 fun t27 =>
  z0l 34 H2 t27 fun t28 =>
  z3o (z2x m (ro H2 t26) (ro H2 t28)) [(ro H2 t26),(ro H2 t28)] fun t29 =>
  z4l H2 (ro H2 t29)) (
  z4l H2 (ro H2 (V (.bool false))))) (
  z4l H2 (ro H2 (V (.bool false))))) (
  z4l H2 (ro H2 (V (.bool false)))) := by
 refine (zhg _ _ _ _ _ _ _ _ _).trans ?_
 kernel_rfl
def z2Q (m : Nat) : List AV → RO|[t0,t1]=>z1K m t0 t1|_=>none
theorem z8Q (m : Nat) : ∀ args X H',z2Q m args = some (X,H') → ACp Tryd.prog GG 6 args X := by
 intro args X H' h
 unfold z2Q at h
 split at h
 ·exact z2A MIX (by
  intro f e h
  simp only [z48,Prod.mk.injEq,List.mem_cons,List.not_mem_nil,or_false] at h
  obtain ⟨rfl,rfl⟩ := h
  ·exact z8g m) (f := 6) (c := z5g) Tryd.func6 rfl (by kernel_rfl) _ rfl Tryd.ntmps6 (Nat.le_of_ble_eq_true rfl) z5j h
 ·cases h
end Go.Proofs.YtaplemeamcgpkaaDoor

namespace Go.Proofs.YtaplemeamcgpkaaDoor
open Go.RowKit
attribute [local go_sem] z0E z47 z7R z8E zgo z4K z6a z7q z8e z99 z4y zhO z56 z0d z0c zjo zjA zjy zje ziV z2a z5m zcg zDv zF7
structure St where
 t : Tr
 ver : Int
 bytes : Int
 keys : Int
def St.tail (s : St) : List AV := [nA s.ver,nA s.bytes,nA s.keys]
def stC (s : St) : List AV := tC s.t ++ s.tail
def stA (s : St) : AV := .agg (stC s)
theorem zqG : z2W = zC := _root_.id rfl
theorem z2w (s : St) : stA s = .agg (stC s) := _root_.id rfl
theorem z1a (s : St) : (stC s).length = 35 := by unfold stC;rw [List.length_append,z0E];rfl
theorem zht (s : St) (f : AV → Bool) (h : (tC s.t).all f = true) (h2 : ∀ i : Int,f (nA i) = true) : (stC s).all f = true := by
 unfold stC St.tail
 rw [List.all_append,h]
 simp [h2]
section
variable {R : Type} {s : St} {i n : Nat} {K1 : AV → Option R} {H : List AObj}
theorem z7Q : (stC s).all (ltA n) = true := zht s _ z7R fun _=>rfl
theorem z3l : (stC s).all zCU = true := zht s _ z47 fun _=>rfl
theorem zfl : (stC s).all (lt1 n) = true := zht s _ z8E fun _=>rfl
theorem zpg : (stC s).map (ro1 H) = stC s := by unfold stC;rw [List.map_append,zgo];rfl
theorem zBy (h : 16 ≤ i) (h2 : i < 32) : zCG (stC s) i K1 = K1 (nA (s.t.ver (i - 16))) := by
 rw [← zF7 (t := s.t) (K1 := K1) h h2]
 unfold zCG stC
 rw [List.getElem?_append_left (by rw [z0E];exact h2)]
theorem zFb {t : Tr} (h : i < 16) : zCG (veC t) i K1 = K1 (nA (t.ver i)) := by
 unfold zCG veC
 simp [List.getElem?_map,List.getElem?_range h]
theorem zwZ {t : Tr} : (veC t).all (lt1 n) = true := List.all_eq_true.2 fun d hd=>by
 unfold veC at hd
 obtain ⟨j,_,rfl⟩ := List.mem_map.1 hd
 rfl
theorem zx8 : ((stC s).drop 16).take 16 = veC s.t := by
 unfold stC tC
 rw [List.append_assoc,List.drop_left' z3C,List.take_left' zq0]
theorem zqo : ((stC s).all fun x=>lt1 n (ro1 H x)) = true := zht s _ z6a fun _=>rfl
theorem z4t : (stC s).take 35 = stC s := List.take_of_length_le (by rw [z1a];exact Nat.le_refl _)
theorem zre {u : Tr} : z0e (stC s) 0 (tC u) = stC { s with t := u } := by
 rw [z1r _ _ _ (by rw [z1a,z0E];omega),z0E]
 unfold stC
 rw [List.drop_left' (by rw [z0E])]
 rfl
theorem zAP : z0e zc_api_Store 0 (stC s) = stC s := by
 rw [z1r _ _ _ (by rw [z1a];exact Nat.le_refl _),z1a]
 simp [zc_api_Store]
theorem zwa : zc_api_Store.length = 35 := _root_.id rfl
theorem z4i : (stC s).take 32 = tC s.t := List.take_left' z0E
theorem z7P : zCG (stC s) 32 K1 = K1 (nA s.ver) := by unfold zCG stC;rw [List.getElem?_append_right (by rw [z0E];omega),z0E];rfl
theorem z5A : zCG (stC s) 33 K1 = K1 (nA s.bytes) := by unfold zCG stC;rw [List.getElem?_append_right (by rw [z0E];omega),z0E];rfl
theorem z88 : zCG (stC s) 34 K1 = K1 (nA s.keys) := by unfold zCG stC;rw [List.getElem?_append_right (by rw [z0E];omega),z0E];rfl
end
def inB (v most : Int) : Bool := decide (0 ≤ v) && decide (v ≤ most)
theorem zlX (m : Nat) (v most : Int) : z2P m (nA v) (nA most) = some (bA (inB v most),[]) := by
 rw [zcv]
 unfold inB
 simp (config := {maxSteps := 4000000,implicitDefEqProofs := false}) only [go_sem,]
 by_cases h : 0 ≤ v
 ·simp (config := {maxSteps := 4000000,implicitDefEqProofs := false}) only [go_sem,h]
 ·simp (config := {maxSteps := 4000000,implicitDefEqProofs := false}) only [go_sem,h]
def zt6 (s : St) : Bool := (List.range 16).all fun i=>decide (s.t.ver i ≤ s.ver)
theorem zvA {s : St} {k : Nat} (hk : k < 16) (h : ¬ s.t.ver k ≤ s.ver) : zt6 s = false := List.all_eq_false.2 ⟨k,List.mem_range.2 hk,by simp [h]⟩
def zEB (s : St) : Bool := zEb s.t && inB s.ver 2147483647 && inB s.bytes 65536 && inB s.keys 1024 && zt6 s && decide ((z5n s.t : Int) ≤ s.bytes) && decide ((zaC s.t : Int) ≤ s.keys)
theorem zjp (m : Nat) (s : St) (hm : 1000000 < m) (h : s.t.Ok) : z4n m (stA s) = some (bA (zEB s),[]) := by
 rw [zh8,z2w]
 have hM := z9d m s.t h
 have hW := z8D m s.t h
 have hC := zan m s.t h
 rw [z2a] at hM hW hC
 simp (config := {maxSteps := 4000000,implicitDefEqProofs := false}) (disch := omega) only [go_sem,z4i,z7P,z5A,z88,z7Q,z3l,z1a,zlX,hM,zca,z7F,z7A]
 unfold zEB
 cases h1 : zEb s.t with
 |false=>simp (config := {maxSteps := 4000000,implicitDefEqProofs := false}) only [go_sem,]
 |true =>
 cases h2 : inB s.ver 2147483647 with
 |false=>simp (config := {maxSteps := 4000000,implicitDefEqProofs := false}) only [go_sem,]
 |true =>
 cases h3 : inB s.bytes 65536 with
 |false=>simp (config := {maxSteps := 4000000,implicitDefEqProofs := false}) only [go_sem,]
 |true =>
 cases h4 : inB s.keys 1024 with
 |false=>simp (config := {maxSteps := 4000000,implicitDefEqProofs := false}) only [go_sem,]
 |true =>
 simp (config := {maxSteps := 4000000,implicitDefEqProofs := false}) (disch := omega) only [go_sem,z4i,z7P,z5A,z88,z7Q,z3l,zx8,z1a,zlX,z7A]
 refine zgi (ι := {k : Nat // k ≤ 16 ∧ (List.range k).all (fun i=>decide (s.t.ver i ≤ s.ver)) = true}) (fun k=>⟨[⟨1,z03,0,stC s⟩],[(1,OP 0 0),(29, .agg (veC s.t)),(30,nA k.1)]⟩) (fun k=>16 - k.1) (fun _=>some (bA (zt6 s && decide ((z5n s.t : Int) ≤ s.bytes) && decide ((zaC s.t : Int) ≤ s.keys)),[])) ?_ ⟨0,Nat.zero_le _,rfl⟩ (by dsimp only;omega)
 rintro ⟨k,hk,hall⟩ kc hkc
 dsimp only at hkc ⊢
 rw [zcq]
 by_cases hlt : k < 16
 ·have hlt' : (k : Int) < 16 := by omega
  by_cases hv : s.t.ver k ≤ s.ver
  ·have step := hkc ⟨k + 1,by omega,by rw [List.range_succ,List.all_append,hall];simp [hv]⟩ (by dsimp only;omega)
   have hv' : ¬ s.ver < s.t.ver k := by omega
   simp (config := {maxSteps := 4000000,implicitDefEqProofs := false}) (disch := omega) only [go_sem,hlt',zFb,zwZ,z7P,z7Q,z1a,hv',z0C]
   exact step
  ·have hv' : s.ver < s.t.ver k := by omega
   simp (config := {maxSteps := 4000000,implicitDefEqProofs := false}) (disch := omega) only [go_sem,hlt',zFb,zwZ,z7P,z7Q,z1a,hv',z0C]
   rw [zvA hlt hv]
   rfl
 ·have hlt' : ¬ (k : Int) < 16 := by omega
  have : k = 16 := by omega
  subst this
  have hv : zt6 s = true := hall
  simp (config := {maxSteps := 4000000,implicitDefEqProofs := false}) (disch := omega) only [go_sem,hlt',hv,z4i,z7P,z5A,z88,z7Q,z3l,z1a,hW,hC,z7F]
  by_cases hw : (z5n s.t : Int) ≤ s.bytes
  ·simp (config := {maxSteps := 4000000,implicitDefEqProofs := false}) only [go_sem,hw]
  ·simp (config := {maxSteps := 4000000,implicitDefEqProofs := false}) only [go_sem,hw]
def zt3 (a b : St) : Bool := decide (a.ver = b.ver) && decide (a.bytes = b.bytes) && decide (a.keys = b.keys) && zq7 a.t b.t
theorem zmf (m : Nat) (a b : St) (hm : 16 < m) (ha : ∀ i,(a.t.leaf i).length ≤ 34359738368) (hb : ∀ i,(b.t.leaf i).length ≤ 34359738368) : z1K m (stA a) (stA b) = some (bA (zt3 a b),[]) := by
 have hS := ztf m a.t b.t hm ha hb
 rw [z2a,z2a] at hS
 rw [z8l,z2w,z2w]
 unfold zt3
 by_cases h1 : a.ver = b.ver
 ·by_cases h2 : a.bytes = b.bytes
  ·by_cases h3 : a.keys = b.keys
   ·simp (config := {maxSteps := 4000000,implicitDefEqProofs := false}) (disch := omega) only [go_sem,z4i,z7P,z5A,z88,z7Q,z3l,z1a,h1,h2,h3,hS]
   ·simp (config := {maxSteps := 4000000,implicitDefEqProofs := false}) (disch := omega) only [go_sem,z4i,z7P,z5A,z88,z7Q,z3l,z1a,h1,h2,h3,hS]
  ·simp (config := {maxSteps := 4000000,implicitDefEqProofs := false}) (disch := omega) only [go_sem,z4i,z7P,z5A,z88,z7Q,z3l,z1a,h1,h2,hS]
 ·simp (config := {maxSteps := 4000000,implicitDefEqProofs := false}) (disch := omega) only [go_sem,z4i,z7P,z5A,z88,z7Q,z3l,z1a,h1,hS]
theorem zuu (m : Nat) (s : St) (h : ∀ i,(s.t.leaf i).length ≤ maxLen) : z2Z m (stA s) = some (stA { s with t := zE3 s.t 16 },[]) := by
 have hF := zaJ m s.t h
 rw [z2a,z2a] at hF
 rw [z94,z2w]
 simp (config := {maxSteps := 4000000,implicitDefEqProofs := false}) (disch := omega) only [go_sem,z4i,z7Q,z3l,z1a,hF,zre,z4t,zAP,zwa,zqo,zpg,z2w]
end Go.Proofs.YtaplemeamcgpkaaDoor

namespace Go.Proofs.YtaplemeamcgpkaaDoor
open Go.RowKit
def z4a : TypeId := 31
def z2J : TypeId := 3
def z7b : List AV := [(V (.string ⟨#[]⟩)),(V (.int .i64 0)),(V (.int .i64 0)),(V (.string ⟨#[]⟩))]
def z7Z : List AV := [(V (.int .i64 0))]
def zrz : List AV := [(V (.int .i64 0))]
def z0B : List (Nat × Nat) := [(0,32),(32,1),(33,1),(34,1)]
def z1z : Code := (Tryd.f5.body).getD .skip
def store_Take_h : Hint := (.two .n (.join [1,2,4,5,6] (.join [1,2,4,5,6,18] .n (.two (.two .n .n) .n)) (.join [1,2,4,5,6] (.two .n (.one (.lp [] [1,2,4,5,6,20,21,22] [1,2,4,5,6] (.two .n (.two (.two .n .n) (.join [1,2,4,5,6,20,21,22] (.one (.two .n (.join [1,2,4,5,6,7,20,21,22,36] .n (.two (.two .n .n) .n)))) .n)))))) (.two .n (.two .n (.join [1,2,4,5,6] (.two .n (.one (.lp [] [1,2,4,5,6,45,46,47] [1,2,4,5,6] (.two .n (.two (.two .n .n) (.two (.one (.two .n .n)) .n)))))) (.join [2,4,5,6] (.join [1,2,4,5,6,74] .n (.two .n .n)) (.two .n .n))))))))
def z12 (m : Nat) : Env := [(22, .pan (z7k m)),(18, .tell (z2R m)),(19, .tell (z9q m)),(20, .tell (z42 m))]
abbrev z2C : KO (AV × List AObj) := z69 Tryd.prog [.cell 4 28, .cell 5 31, .cell 6 3]
def z71 (m : Nat) (n0 : Nat) (kc : ASt → RO) (kx : KO (AV × List AObj)) (s : ASt) : RO := z3n Tryd.prog GG (z12 m) m ⟨80,[]⟩ (cdR (cdR (cdR (cdL (cdL (cdR (cdL (cdR (cdR z1z))))))))) store_Take_h.r.r.l.r.c.c.r.r.r s (zfV n0 [1,2,4,5,6,20,21,22] [1,2,4,5,6] kc kx)
def z6R (m : Nat) (n0 : Nat) (kc : ASt → RO) (kx : KO (AV × List AObj)) (s : ASt) : RO := z3n Tryd.prog GG (z12 m) m ⟨80,[]⟩ (cdR (cdR (cdL (cdL (cdR (cdR (cdL (cdL (cdR (cdL (cdR (cdR z1z)))))))))))) store_Take_h.r.r.l.r.c.c.r.r.l.c.r.r s (z4k 1 (zCu (fun s=>z71 m n0 kc kx ⟨s.H,[(1,gt s.T 1),(2,gt s.T 2),(4,gt s.T 4),(5,gt s.T 5),(6,gt s.T 6),(20,gt s.T 20),(21,gt s.T 21),(22,gt s.T 22)]⟩) (zfV n0 [1,2,4,5,6,20,21,22] [1,2,4,5,6] kc kx)))
def zfo (m : Nat) (s : ASt) : RO := z3n Tryd.prog GG (z12 m) m ⟨80,[]⟩ (cdR (cdR (cdR z1z))) store_Take_h.r.r.r s (z2C)
def z9G (m : Nat) (s : ASt) (kc : ASt → RO) (kx : KO (AV × List AObj)) : RO := zdP Tryd.prog GG (z12 m) m ⟨80,[]⟩ (cdL (cdL (cdR (cdL (cdR (cdR z1z)))))) store_Take_h.r.r.l.r.c.c [1,2,4,5,6,20,21,22] [1,2,4,5,6] s kc kx
def z6z (m : Nat) (s : ASt) : RO := z3n Tryd.prog GG (z12 m) m ⟨80,[]⟩ (cdR (cdR z1z)) store_Take_h.r.r s (z2C)
def z6v (m : Nat) (s : ASt) : RO := z3n Tryd.prog GG (z12 m) m ⟨80,[]⟩ (cdR (cdL (cdR z1z))) store_Take_h.r.l.r s (zCu (fun s=>z6z m ⟨s.H,[(1,gt s.T 1),(2,gt s.T 2),(4,gt s.T 4),(5,gt s.T 5),(6,gt s.T 6)]⟩) (z2C))
def z87 (m : Nat) (t0 t1 : AV) : RO := zF9 Tryd.prog GG (z12 m) m ⟨80,[]⟩ z1z store_Take_h ⟨[],z2t 0 [t0,t1]⟩ (z2C)
theorem zbg (m : Nat) (n0 : Nat) (kc : ASt → RO) (kx : KO (AV × List AObj)) (H : List AObj) (t1 t2 t4 t5 t6 t20 t21 t22 : AV) : z71 m n0 kc kx ⟨H,[(1,t1),(2,t2),(4,t4),(5,t5),(6,t6),(20,t20),(21,t21),(22,t22)]⟩ =
 zED none false false .add t22 (V (.int .i64 1)) fun t39 =>
 zd5 n0 H [(1,t1),(2,t2),(4,t4),(5,t5),(6,t6),(20,t20),(21,t21),(22,t39)] kc := by
 refine (z0o _ _ _ _ _ _ _ _ _).trans ?_
 kernel_rfl
theorem z44 (m : Nat) (n0 : Nat) (kc : ASt → RO) (kx : KO (AV × List AObj)) (H : List AObj) (t1 t2 t4 t5 t6 t7 t20 t21 t22 t36 : AV) : z6R m n0 kc kx ⟨H,[(1,t1),(2,t2),(4,t4),(5,t5),(6,t6),(7,t7),(20,t20),(21,t21),(22,t22),(36,t36)]⟩ =
 z0U t36 (
  z0X (some z0B) (some zc_api_Store) [] fun t37 =>
  z0s 37 H t4 t37 fun H2 =>
  z0s 1 H2 t5 (V (.int .i64 1)) fun H3 =>
  z0s 1 H3 t6 t7 fun H4 =>
  kx .ret ⟨H4,[(1,t1),(2,t2),(4,t4),(5,t5),(6,t6)]⟩) (
  z71 m n0 kc kx ⟨H,[(1,t1),(2,t2),(4,t4),(5,t5),(6,t6),(20,t20),(21,t21),(22,t22)]⟩) := by
 refine (z0o _ _ _ _ _ _ _ _ _).trans ?_
 kernel_rfl
theorem zc0 (m : Nat) (H : List AObj) (t1 t2 t4 t5 t6 t20 t21 t22 : AV) (kc : ASt → RO) (kx : KO (AV × List AObj)) : z9G m ⟨H,[(1,t1),(2,t2),(4,t4),(5,t5),(6,t6),(20,t20),(21,t21),(22,t22)]⟩ kc kx =
 zED none false false .lss t22 t21 fun t23 =>
 z0U t23 (
  zcV 6 H t20 t22 fun t25 =>
  z0l 6 H t25 fun t26 =>
  z1G (some z7b) z40 H fun t8 H2 =>
  z0s 6 H2 t8 t26 fun H3 =>
  z0b (some (0,1)) t8 fun t27 =>
  z0l 1 H3 t27 fun t28 =>
  z3o (z9q m [(ro H3 t28)]) [(ro H3 t28)] fun t29 =>
  unE .not t29 fun t30 =>
  z0U t30 (
   z6R m H.length kc kx ⟨H3,[(1,t1),(2,t2),(4,t4),(5,t5),(6,t6),(7,t22),(20,t20),(21,t21),(22,t22),(36,(V (.bool true)))]⟩) (
   z0b (some (1,5)) t8 fun t32 =>
   z0l 5 H3 t32 fun t33 =>
   z3o (z42 m [(ro H3 t33)]) [(ro H3 t33)] fun t34 =>
   unE .not t34 fun t35 =>
   z6R m H.length kc kx ⟨H3,[(1,t1),(2,t2),(4,t4),(5,t5),(6,t6),(7,t22),(20,t20),(21,t21),(22,t22),(36,t35)]⟩)) (
  kx (.exit 0) ⟨H,[(1,t1),(2,t2),(4,t4),(5,t5),(6,t6)]⟩) := by
 refine (z2v _ _ _ _ _ _ _ _ _ _ _ _).trans ?_
 kernel_rfl
theorem zb6 (m : Nat) (H : List AObj) (t1 t2 t4 t5 t6 : AV) : z6z m ⟨H,[(1,t1),(2,t2),(4,t4),(5,t5),(6,t6)]⟩ =
 zEU false true H t1 fun t21 =>
 zc7 m (z9G m) ⟨H,[(1,t1),(2,t2),(4,t4),(5,t5),(6,t6),(20,t1),(21,t21),(22,(V (.int .i64 0)))]⟩ (z4k 0 (zCu (fun s=>zfo m ⟨s.H,[(1,gt s.T 1),(2,gt s.T 2),(4,gt s.T 4),(5,gt s.T 5),(6,gt s.T 6)]⟩) (z2C))) := by
 refine (z0o _ _ _ _ _ _ _ _ _).trans ?_
 kernel_rfl
theorem z49 (m : Nat) (H : List AObj) (t1 t2 t4 t5 t6 t18 : AV) : z6v m ⟨H,[(1,t1),(2,t2),(4,t4),(5,t5),(6,t6),(18,t18)]⟩ =
 z0U t18 (
  z0X (some z0B) (some zc_api_Store) [] fun t19 =>
  z0s 37 H t4 t19 fun H2 =>
  z0s 1 H2 t5 (V (.int .i64 1)) fun H3 =>
  z0s 1 H3 t6 (V (.int .i64 0)) fun H4 =>
  z0l 37 H4 t4 fun t9000 =>
  z0l 1 H4 t5 fun t9001 =>
  z0l 1 H4 t6 fun t9002 =>
  z4l H4 (ro H4 (TU [noT t9000,noT t9001,noT t9002]))) (
  z6z m ⟨H,[(1,t1),(2,t2),(4,t4),(5,t5),(6,t6)]⟩) := by
 refine (z0o _ _ _ _ _ _ _ _ _).trans ?_
 kernel_rfl
theorem zap (m : Nat) (t0 t1 : AV) : z87 m t0 t1 =
 zE6 z03 [] t0 fun t2 H1 =>
 z1G (some zc_api_Store) z03 H1 fun t4 H2 =>
 z1G (some z7Z) z4a H2 fun t5 H3 =>
 z1G (some zrz) z2J H3 fun t6 H4 =>
 z0l 37 H4 t2 fun t11 =>
 z3o (z4n m (ro H4 t11)) [(ro H4 t11)] fun t12 =>
 unE .not t12 fun t13 =>
 z0U t13 (
  z6v m ⟨H4,[(1,t1),(2,t2),(4,t4),(5,t5),(6,t6),(18,(V (.bool true)))]⟩) (
  z0b (some (32,1)) t2 fun t15 =>
  z0l 1 H4 t15 fun t16 =>
  zED none false false .eql t16 (V (.int .i64 2147483647)) fun t17 =>
  z6v m ⟨H4,[(1,t1),(2,t2),(4,t4),(5,t5),(6,t6),(18,t17)]⟩) := by
 refine (zhg _ _ _ _ _ _ _ _ _).trans ?_
 kernel_rfl
def z5O (m : Nat) : List AV → RO|[t0,t1]=>z87 m t0 t1|_=>none
theorem z9L (m : Nat) : ∀ args X H',z5O m args = some (X,H') → ACp Tryd.prog GG 5 args X := by
 intro args X H' h
 unfold z5O at h
 split at h
 ·exact z2A MIX (by
  intro f e h
  simp only [z12,Prod.mk.injEq,List.mem_cons,List.not_mem_nil,or_false] at h
  rcases h with ⟨rfl,rfl⟩|⟨rfl,rfl⟩|⟨rfl,rfl⟩|⟨rfl,rfl⟩
  ·exact zbt m
  ·exact z4b m
  ·exact zi0 m
  ·exact zbQ m) (f := 5) (c := z1z) Tryd.func5 rfl (by kernel_rfl) _ rfl Tryd.ntmps5 (Nat.le_of_ble_eq_true rfl) store_Take_h h
 ·cases h
end Go.Proofs.YtaplemeamcgpkaaDoor

namespace Go.Proofs.YtaplemeamcgpkaaDoor
open Go.RowKit
def St.zero : St := ⟨Tr.zero,0,0,0⟩
def zS : List AV := zC ++ [nA 0,nA 0,nA 0]
theorem zrJ : zc_api_Store = zS := _root_.id rfl
theorem zfG : zS.length = 35 := _root_.id rfl
structure Edt where
 key : z0f
 kind : Int
 i : Int
 s : z0f
def Edt.cells (x : Edt) : List Value := [.string ⟨x.key.toArray⟩, .int .i64 x.kind, .int .i64 x.i, .string ⟨x.s.toArray⟩]
def Edt.it (x : Edt) (v : Int) : Item := ⟨x.key,x.kind,x.i,x.s,v⟩
abbrev eA (x : Edt) : AV := flA Edt.cells x
theorem zoo (x : Edt) : flA Edt.cells x = .agg [V (.string ⟨x.key.toArray⟩),V (.int .i64 x.kind),V (.int .i64 x.i),V (.string ⟨x.s.toArray⟩)] := _root_.id rfl
def edO (x : Edt) : AObj := ⟨1,z40,0,[V (.string ⟨x.key.toArray⟩),V (.int .i64 x.kind),V (.int .i64 x.i),V (.string ⟨x.s.toArray⟩)]⟩
section
variable {R : Type} {s u : St} {i n : Nat} {q : Int} {K1 : AV → Option R} {H : List AObj}
theorem zik : zS.all zCU = true := _root_.id rfl
theorem zm6 : zS.all (ltA n) = true := _root_.id rfl
theorem zs6 : zS.all (lt1 n) = true := _root_.id rfl
theorem zv2 : (zS.all fun x=>lt1 n (ro1 H x)) = true := _root_.id rfl
theorem zzc : zS.map (ro1 H) = stC St.zero := _root_.id rfl
theorem zlc : zS.take 35 = zS := _root_.id rfl
theorem zjY {a b : List AV} (h : a.length = b.length) : z0e a 0 b = b := by
 rw [z1r _ _ _ (by omega)]
 rw [List.drop_of_length_le (by omega)]
 simp
theorem zzV : z0e zS 0 (stC u) = stC u := zjY (by rw [z1a,zfG])
theorem zBR : z0e zS 0 zS = zS := zjY rfl
theorem zAx : z0X (some z0B) (some zS) [] K1 = K1 (.agg zS) := _root_.id rfl
theorem zC0 {k s : ByteArray} {a b v : Int} : z0X (some z7d) (some z3Z) [(0,V (.string k)),(1, .agg [V (.int .i64 a),V (.int .i64 b),V (.string s)]),(2,V (.int .i64 v))] K1 = K1 (.agg [V (.string k),V (.int .i64 a),V (.int .i64 b),V (.string s),V (.int .i64 v)]) := _root_.id rfl
theorem zBq {a b : Int} : z0X (some z91) (some z9b) [(0,V (.int .i64 a)),(1,V (.int .i64 b))] K1 = K1 (.agg [V (.int .i64 a),V (.int .i64 b)]) := _root_.id rfl
end
def noV (e a : Int) : Value := .iface 71 (.agg #[.int .i64 e, .int .i64 a])
def zDi (t : Tr) (x : Edt) (ver : Int) : Tr × Nat := if x.kind = 0 then (if (zEl t x.key).isSome then zE4 t x.key ver else (t,0)) else zEt t (x.it ver)
def tkH (s : St) : List AObj := [⟨1,z03,0,stC s⟩,⟨1,z03,0,zS⟩,⟨1,z4a,0,[nA 0]⟩,⟨1,z2J,0,[nA 0]⟩]
theorem zD1 : z3Z = [V (.string ⟨#[]⟩),V (.int .i64 0),V (.int .i64 0),V (.string ⟨#[]⟩),V (.int .i64 0)] := _root_.id rfl
theorem zCR : z7b = [V (.string ⟨#[]⟩),V (.int .i64 0),V (.int .i64 0),V (.string ⟨#[]⟩)] := _root_.id rfl
attribute [local go_sem] z0E z47 z7R z8E zgo z4K z6a z7q z8e z99 z4y zhO z56 z0d z0c zjo zjA zjy zje ziV z2a z5m zcg zDv zF7 zoo zqG zcr zck zm6 z7Q zC0 zBq
theorem zBS (m : Nat) (t : Tr) (x : Edt) (ver : Int) (a : Int) (s : St) (h : t.Ok) : zb0 m (tA t) (eA x) (nA ver) (nA a) (tkH s ++ [edO x]) =
  some (if (zDi t x ver).2 = 0 then (tA (zDi t x ver).1,tkH s ++ [edO x]) else (PN (noV (zDi t x ver).2 a),tkH s ++ [edO x])) := by
 rw [zgD]
 unfold zDi tkH edO
 have hP := zd2 m t (x.it ver) h
 have hG := ziM m t x.key h
 have hD := zdu m t x.key ver h
 rw [z2a] at hP hG hD ⊢
 rw [zcs] at hP
 unfold Edt.it at hP
 dsimp only at hP
 by_cases hk : x.kind = 0
 ·rw [if_pos hk]
  cases hg : (zEl t x.key).isSome with
  |false =>
   rw [hg] at hG
   simp (config := {maxSteps := 4000000,implicitDefEqProofs := false}) (disch := omega) only [go_sem,hk,hG,zD1,zcs]
  |true =>
   rw [hg] at hG
   rw [if_pos rfl]
   generalize zE4 t x.key ver = r at *
   obtain ⟨t',e'⟩ := r
   dsimp only at hD ⊢
   by_cases he : e' = 0
   ·subst he
    simp (config := {maxSteps := 4000000,implicitDefEqProofs := false}) (disch := omega) only [go_sem,hk,hG,hD,zD1,zcs,Int.ofNat_zero]
    try rfl
   ·have he' : ¬ (e' : Int) = 0 := by omega
    simp (config := {maxSteps := 4000000,implicitDefEqProofs := false}) (disch := omega) only [go_sem,hk,hG,hD,he,he',zD1,zcs]
    try rfl
 ·rw [if_neg hk]
  unfold Edt.it
  generalize zEt t ⟨x.key,x.kind,x.i,x.s,ver⟩ = r at *
  obtain ⟨t',e'⟩ := r
  dsimp only at hP ⊢
  by_cases he : e' = 0
  ·subst he
   simp (config := {maxSteps := 4000000,implicitDefEqProofs := false}) (disch := omega) only [go_sem,hk,hP,Int.ofNat_zero]
   try rfl
  ·have he' : ¬ (e' : Int) = 0 := by omega
   simp (config := {maxSteps := 4000000,implicitDefEqProofs := false}) (disch := omega) only [go_sem,hk,hP,he,he']
   try rfl
end Go.Proofs.YtaplemeamcgpkaaDoor

namespace Go.Proofs.YtaplemeamcgpkaaDoor
open Go.RowKit
def z1g : Code := (zFO 4 ((Tryd.f5.body).getD .skip))
def store_TakeR_h : Hint := (.two .n (.join [1,2,4,5,6] (.two .n (.one (.lp [] [1,2,4,5,6,45,46,47] [1,2,4,5,6] (.two .n (.two (.two .n .n) (.two (.one (.two .n .n)) .n)))))) (.join [2,4,5,6] (.join [1,2,4,5,6,74] .n (.two .n .n)) (.two .n .n))))
def z0W (m : Nat) : Env := [(22, .pan (z7k m)),(23, .tell (z1U m)),(24, .tell (z2n m))]
abbrev z28 (n0 : Nat) : KO (AV × List AObj) := zt4 [4,5,6]
def z5w (m : Nat) (D : List Deferred) (n0k : Nat) (s : ASt) : RO := z3n Tryd.prog GG (z0W m) m ⟨80,D⟩ (cdR (cdR (cdR z1g))) store_TakeR_h.r.r.r s (z28 n0k)
def z5T (m : Nat) (D : List Deferred) (n0k : Nat) (s : ASt) : RO := z3n Tryd.prog GG (z0W m) m ⟨80,D⟩ (cdR (cdL (cdR (cdR z1g)))) store_TakeR_h.r.r.l.r s (zCu (fun s=>z5w m D n0k ⟨s.H,[(2,gt s.T 2),(4,gt s.T 4),(5,gt s.T 5),(6,gt s.T 6)]⟩) (z28 n0k))
def z8q (m : Nat) (D : List Deferred) (n0k : Nat) (s : ASt) : RO := z3n Tryd.prog GG (z0W m) m ⟨80,D⟩ (cdR (cdR z1g)) store_TakeR_h.r.r s (z28 n0k)
def z90 (m : Nat) (D : List Deferred) (s : ASt) (kc : ASt → RO) (kx : KO (AV × List AObj)) : RO := zdP Tryd.prog GG (z0W m) m ⟨80,D⟩ (cdL (cdL (cdR (cdL (cdR z1g))))) store_TakeR_h.r.l.r.c.c [1,2,4,5,6,45,46,47] [1,2,4,5,6] s kc kx
def z77 (m : Nat) (D : List Deferred) (t1 t2 t4 t5 t6 : AV) (H : List AObj) : RO := zF9 Tryd.prog GG (z0W m) m ⟨80,D⟩ z1g store_TakeR_h ⟨H,[(1,t1),(2,t2),(4,t4),(5,t5),(6,t6)]⟩ (z28 H.length)
theorem zas (m : Nat) (D : List Deferred) (n0k : Nat) (H : List AObj) (t2 t4 t5 t6 : AV) : z5w m D n0k ⟨H,[(2,t2),(4,t4),(5,t5),(6,t6)]⟩ =
 z0l 37 H t2 fun t79 =>
 z0s 37 H t4 t79 fun H2 =>
 z0s 1 H2 t5 (V (.int .i64 0)) fun H3 =>
 z0s 1 H3 t6 (V (.int .i64 0)) fun H4 =>
 some (TU [t4,t5,t6],H4) := by
 refine (z0o _ _ _ _ _ _ _ _ _).trans ?_
 kernel_rfl
theorem zaw (m : Nat) (D : List Deferred) (n0k : Nat) (H : List AObj) (t1 t2 t4 t5 t6 t74 : AV) : z5T m D n0k ⟨H,[(1,t1),(2,t2),(4,t4),(5,t5),(6,t6),(74,t74)]⟩ =
 z0U t74 (
  zEU false true H t1 fun t76 =>
  z0X (some z91) (some z9b) [(0,(V (.int .i64 17))),(1,t76)] fun t77 =>
  z0q true (ifE 71 t77 fun t78 =>
  zfv t78 H fun u1 H2=>some (TU [PN u1,t4,t5,t6],H2))) (
  z5w m D n0k ⟨H,[(2,t2),(4,t4),(5,t5),(6,t6)]⟩) := by
 refine (z0o _ _ _ _ _ _ _ _ _).trans ?_
 kernel_rfl
theorem zaq (m : Nat) (D : List Deferred) (n0k : Nat) (H : List AObj) (t1 t2 t4 t5 t6 : AV) : z8q m D n0k ⟨H,[(1,t1),(2,t2),(4,t4),(5,t5),(6,t6)]⟩ =
 z0b (some (0,34)) t2 fun t61 =>
 z0l 34 H t61 fun t62 =>
 z3o (z1U m [(ro H t62)]) [(ro H t62)] fun t63 =>
 z0b (some (33,1)) t2 fun t64 =>
 z0l 1 H t64 fun t65 =>
 zED none false false .gtr t63 t65 fun t66 =>
 z0U t66 (
  z5T m D n0k ⟨H,[(1,t1),(2,t2),(4,t4),(5,t5),(6,t6),(74,(V (.bool true)))]⟩) (
  z0b (some (0,34)) t2 fun t68 =>
  z0l 34 H t68 fun t69 =>
  z3o (z2n m [(ro H t69)]) [(ro H t69)] fun t70 =>
  z0b (some (34,1)) t2 fun t71 =>
  z0l 1 H t71 fun t72 =>
  zED none false false .gtr t70 t72 fun t73 =>
  z5T m D n0k ⟨H,[(1,t1),(2,t2),(4,t4),(5,t5),(6,t6),(74,t73)]⟩) := by
 refine (z0o _ _ _ _ _ _ _ _ _).trans ?_
 kernel_rfl
theorem zar (m : Nat) (D : List Deferred) (H : List AObj) (t1 t2 t4 t5 t6 t45 t46 t47 : AV) (kc : ASt → RO) (kx : KO (AV × List AObj)) : z90 m D ⟨H,[(1,t1),(2,t2),(4,t4),(5,t5),(6,t6),(45,t45),(46,t46),(47,t47)]⟩ kc kx =
 zED none false false .lss t47 t46 fun t48 =>
 z0U t48 (
  zcV 6 H t45 t47 fun t50 =>
  z0l 6 H t50 fun t51 =>
  z1G (some z7b) z40 H fun t10 H2 =>
  z0s 6 H2 t10 t51 fun H3 =>
  z0b (some (0,34)) t2 fun t52 =>
  z0l 34 H3 t52 fun t53 =>
  z0l 6 H3 t10 fun t54 =>
  z0b (some (32,1)) t2 fun t55 =>
  z0l 1 H3 t55 fun t56 =>
  zFG (zb0 m (ro H3 t53) (ro H3 t54) (ro H3 t56) (ro H3 t47) H3) (fun t58 H4 =>
  z0b (some (0,34)) t2 fun t59 =>
  z0s 34 H4 t59 t58 fun H5 =>
  zED none false false .add t47 (V (.int .i64 1)) fun t60 =>
  zd5 H.length H5 [(1,t1),(2,t2),(4,t4),(5,t5),(6,t6),(45,t45),(46,t46),(47,t60)] kc) (fun u1 H4=>kx (.panic (pch u1)) ⟨H4,[(1,t1),(2,t2),(4,t4),(5,t5),(6,t6)]⟩)) (
  kx (.exit 2) ⟨H,[(1,t1),(2,t2),(4,t4),(5,t5),(6,t6)]⟩) := by
 refine (z2v _ _ _ _ _ _ _ _ _ _ _ _).trans ?_
 kernel_rfl
theorem zdU (m : Nat) (D : List Deferred) (t1 t2 t4 t5 t6 : AV) (H : List AObj) : z77 m D t1 t2 t4 t5 t6 H =
 z0b (some (32,1)) t2 fun t41 =>
 z0l 1 H t41 fun t42 =>
 zED none false false .add t42 (V (.int .i64 1)) fun t43 =>
 z0b (some (32,1)) t2 fun t44 =>
 z0s 1 H t44 t43 fun H2 =>
 zEU false true H2 t1 fun t46 =>
 zc7 m (z90 m D) ⟨H2,[(1,t1),(2,t2),(4,t4),(5,t5),(6,t6),(45,t1),(46,t46),(47,(V (.int .i64 0)))]⟩ (z4k 2 (zCu (fun s=>z8q m D H.length ⟨s.H,[(1,gt s.T 1),(2,gt s.T 2),(4,gt s.T 4),(5,gt s.T 5),(6,gt s.T 6)]⟩) (z28 H.length))) := by
 refine (zDa Tryd.prog GG (z0W m) m ⟨80,D⟩ z1g store_TakeR_h ⟨H,[(1,t1),(2,t2),(4,t4),(5,t5),(6,t6)]⟩ [4,5,6]).trans ?_
 kernel_rfl
theorem z8T (m : Nat) : z9t Tryd.prog GG (z0W m) := (by
 intro f e h
 simp only [z0W,Prod.mk.injEq,List.mem_cons,List.not_mem_nil,or_false] at h
 rcases h with ⟨rfl,rfl⟩|⟨rfl,rfl⟩|⟨rfl,rfl⟩
 ·exact zbt m
 ·exact z7G m
 ·exact z8L m)
end Go.Proofs.YtaplemeamcgpkaaDoor

namespace Go.Proofs.YtaplemeamcgpkaaDoor
open Go.RowKit
def z1D : Code := zFT 3 (zFO 0 ((Tryd.f5.body).getD .skip)) .skip
def store_TakeA_h : Hint := (.two .n (.join [1,2,4,5,6] (.join [1,2,4,5,6,18] .n (.two (.two .n .n) .n)) (.join [1,2,4,5,6] (.two .n (.one (.lp [] [1,2,4,5,6,20,21,22] [1,2,4,5,6] (.two .n (.two (.two .n .n) (.join [1,2,4,5,6,20,21,22] (.one (.two .n (.join [1,2,4,5,6,7,20,21,22,36] .n (.two (.two .n .n) .n)))) .n)))))) .n)))
def z0M (m : Nat) : Env := [(18, .tell (z2R m)),(19, .tell (z9q m)),(20, .tell (z42 m))]
abbrev z29 (n0 : Nat) : KO (AV × List AObj) := zoj [1,2,4,5,6]
def z5I (m : Nat) (D : List Deferred) (n0 : Nat) (kc : ASt → RO) (kx : KO (AV × List AObj)) (s : ASt) : RO := z3n Tryd.prog GG (z0M m) m ⟨80,D⟩ (cdR (cdR (cdR (cdL (cdL (cdR (cdL (cdR (cdR z1D))))))))) store_TakeA_h.r.r.l.r.c.c.r.r.r s (zfV n0 [1,2,4,5,6,20,21,22] [1,2,4,5,6] kc kx)
def z5P (m : Nat) (D : List Deferred) (n0 : Nat) (kc : ASt → RO) (kx : KO (AV × List AObj)) (s : ASt) : RO := z3n Tryd.prog GG (z0M m) m ⟨80,D⟩ (cdR (cdR (cdL (cdL (cdR (cdR (cdL (cdL (cdR (cdL (cdR (cdR z1D)))))))))))) store_TakeA_h.r.r.l.r.c.c.r.r.l.c.r.r s (z4k 1 (zCu (fun s=>z5I m D n0 kc kx ⟨s.H,[(1,gt s.T 1),(2,gt s.T 2),(4,gt s.T 4),(5,gt s.T 5),(6,gt s.T 6),(20,gt s.T 20),(21,gt s.T 21),(22,gt s.T 22)]⟩) (zfV n0 [1,2,4,5,6,20,21,22] [1,2,4,5,6] kc kx)))
def z8W (m : Nat) (D : List Deferred) (n0k : Nat) (s : ASt) : RO := z3n Tryd.prog GG (z0M m) m ⟨80,D⟩ (cdR (cdR (cdR z1D))) store_TakeA_h.r.r.r s (z29 n0k)
def z8R (m : Nat) (D : List Deferred) (s : ASt) (kc : ASt → RO) (kx : KO (AV × List AObj)) : RO := zdP Tryd.prog GG (z0M m) m ⟨80,D⟩ (cdL (cdL (cdR (cdL (cdR (cdR z1D)))))) store_TakeA_h.r.r.l.r.c.c [1,2,4,5,6,20,21,22] [1,2,4,5,6] s kc kx
def z5F (m : Nat) (D : List Deferred) (n0k : Nat) (s : ASt) : RO := z3n Tryd.prog GG (z0M m) m ⟨80,D⟩ (cdR (cdR z1D)) store_TakeA_h.r.r s (z29 n0k)
def z5x (m : Nat) (D : List Deferred) (n0k : Nat) (s : ASt) : RO := z3n Tryd.prog GG (z0M m) m ⟨80,D⟩ (cdR (cdL (cdR z1D))) store_TakeA_h.r.l.r s (zCu (fun s=>z5F m D n0k ⟨s.H,[(1,gt s.T 1),(2,gt s.T 2),(4,gt s.T 4),(5,gt s.T 5),(6,gt s.T 6)]⟩) (z29 n0k))
def zd9 (m : Nat) (D : List Deferred) (t0 t1 : AV) (H : List AObj) : RO := zF9 Tryd.prog GG (z0M m) m ⟨80,D⟩ z1D store_TakeA_h ⟨H,[(0,t0),(1,t1)]⟩ (z29 H.length)
theorem zat (m : Nat) (D : List Deferred) (n0 : Nat) (kc : ASt → RO) (kx : KO (AV × List AObj)) (H : List AObj) (t1 t2 t4 t5 t6 t20 t21 t22 : AV) : z5I m D n0 kc kx ⟨H,[(1,t1),(2,t2),(4,t4),(5,t5),(6,t6),(20,t20),(21,t21),(22,t22)]⟩ =
 zED none false false .add t22 (V (.int .i64 1)) fun t39 =>
 zd5 n0 H [(1,t1),(2,t2),(4,t4),(5,t5),(6,t6),(20,t20),(21,t21),(22,t39)] kc := by
 refine (z0o _ _ _ _ _ _ _ _ _).trans ?_
 kernel_rfl
theorem zaA (m : Nat) (D : List Deferred) (n0 : Nat) (kc : ASt → RO) (kx : KO (AV × List AObj)) (H : List AObj) (t1 t2 t4 t5 t6 t7 t20 t21 t22 t36 : AV) : z5P m D n0 kc kx ⟨H,[(1,t1),(2,t2),(4,t4),(5,t5),(6,t6),(7,t7),(20,t20),(21,t21),(22,t22),(36,t36)]⟩ =
 z0U t36 (
  z0X (some z0B) (some zc_api_Store) [] fun t37 =>
  z0s 37 H t4 t37 fun H2 =>
  z0s 1 H2 t5 (V (.int .i64 1)) fun H3 =>
  z0s 1 H3 t6 t7 fun H4 =>
  kx .ret ⟨H4,[(1,t1),(2,t2),(4,t4),(5,t5),(6,t6)]⟩) (
  z5I m D n0 kc kx ⟨H,[(1,t1),(2,t2),(4,t4),(5,t5),(6,t6),(20,t20),(21,t21),(22,t22)]⟩) := by
 refine (z0o _ _ _ _ _ _ _ _ _).trans ?_
 kernel_rfl
theorem z66 (m : Nat) (D : List Deferred) (n0k : Nat) (H : List AObj) (t1 t2 t4 t5 t6 : AV) : z8W m D n0k ⟨H,[(1,t1),(2,t2),(4,t4),(5,t5),(6,t6)]⟩ =
 some (TU [t1,t2,t4,t5,t6],H) := by
 refine (z0o _ _ _ _ _ _ _ _ _).trans ?_
 kernel_rfl
theorem zaF (m : Nat) (D : List Deferred) (H : List AObj) (t1 t2 t4 t5 t6 t20 t21 t22 : AV) (kc : ASt → RO) (kx : KO (AV × List AObj)) : z8R m D ⟨H,[(1,t1),(2,t2),(4,t4),(5,t5),(6,t6),(20,t20),(21,t21),(22,t22)]⟩ kc kx =
 zED none false false .lss t22 t21 fun t23 =>
 z0U t23 (
  zcV 6 H t20 t22 fun t25 =>
  z0l 6 H t25 fun t26 =>
  z1G (some z7b) z40 H fun t8 H2 =>
  z0s 6 H2 t8 t26 fun H3 =>
  z0b (some (0,1)) t8 fun t27 =>
  z0l 1 H3 t27 fun t28 =>
  z3o (z9q m [(ro H3 t28)]) [(ro H3 t28)] fun t29 =>
  unE .not t29 fun t30 =>
  z0U t30 (
   z5P m D H.length kc kx ⟨H3,[(1,t1),(2,t2),(4,t4),(5,t5),(6,t6),(7,t22),(20,t20),(21,t21),(22,t22),(36,(V (.bool true)))]⟩) (
   z0b (some (1,5)) t8 fun t32 =>
   z0l 5 H3 t32 fun t33 =>
   z3o (z42 m [(ro H3 t33)]) [(ro H3 t33)] fun t34 =>
   unE .not t34 fun t35 =>
   z5P m D H.length kc kx ⟨H3,[(1,t1),(2,t2),(4,t4),(5,t5),(6,t6),(7,t22),(20,t20),(21,t21),(22,t22),(36,t35)]⟩)) (
  kx (.exit 0) ⟨H,[(1,t1),(2,t2),(4,t4),(5,t5),(6,t6)]⟩) := by
 refine (z2v _ _ _ _ _ _ _ _ _ _ _ _).trans ?_
 kernel_rfl
theorem zay (m : Nat) (D : List Deferred) (n0k : Nat) (H : List AObj) (t1 t2 t4 t5 t6 : AV) : z5F m D n0k ⟨H,[(1,t1),(2,t2),(4,t4),(5,t5),(6,t6)]⟩ =
 zEU false true H t1 fun t21 =>
 zc7 m (z8R m D) ⟨H,[(1,t1),(2,t2),(4,t4),(5,t5),(6,t6),(20,t1),(21,t21),(22,(V (.int .i64 0)))]⟩ (z4k 0 (zCu (fun s=>z8W m D n0k ⟨s.H,[(1,gt s.T 1),(2,gt s.T 2),(4,gt s.T 4),(5,gt s.T 5),(6,gt s.T 6)]⟩) (z29 n0k))) := by
 refine (z0o _ _ _ _ _ _ _ _ _).trans ?_
 kernel_rfl
theorem zaD (m : Nat) (D : List Deferred) (n0k : Nat) (H : List AObj) (t1 t2 t4 t5 t6 t18 : AV) : z5x m D n0k ⟨H,[(1,t1),(2,t2),(4,t4),(5,t5),(6,t6),(18,t18)]⟩ =
 z0U t18 (
  z0X (some z0B) (some zc_api_Store) [] fun t19 =>
  z0s 37 H t4 t19 fun H2 =>
  z0s 1 H2 t5 (V (.int .i64 1)) fun H3 =>
  z0s 1 H3 t6 (V (.int .i64 0)) fun H4 =>
  none) (
  z5F m D n0k ⟨H,[(1,t1),(2,t2),(4,t4),(5,t5),(6,t6)]⟩) := by
 refine (z0o _ _ _ _ _ _ _ _ _).trans ?_
 kernel_rfl
theorem zeg (m : Nat) (D : List Deferred) (t0 t1 : AV) (H : List AObj) : zd9 m D t0 t1 H =
 zE6 z03 H t0 fun t2 H2 =>
 z1G (some zc_api_Store) z03 H2 fun t4 H3 =>
 z1G (some z7Z) z4a H3 fun t5 H4 =>
 z1G (some zrz) z2J H4 fun t6 H5 =>
 z0l 37 H5 t2 fun t11 =>
 z3o (z4n m (ro H5 t11)) [(ro H5 t11)] fun t12 =>
 unE .not t12 fun t13 =>
 z0U t13 (
  z5x m D H.length ⟨H5,[(1,t1),(2,t2),(4,t4),(5,t5),(6,t6),(18,(V (.bool true)))]⟩) (
  z0b (some (32,1)) t2 fun t15 =>
  z0l 1 H5 t15 fun t16 =>
  zED none false false .eql t16 (V (.int .i64 2147483647)) fun t17 =>
  z5x m D H.length ⟨H5,[(1,t1),(2,t2),(4,t4),(5,t5),(6,t6),(18,t17)]⟩) := by
 refine (zCF _ _ _ _ _ _ _ _ _).trans ?_
 kernel_rfl
theorem zdd (m : Nat) : z9t Tryd.prog GG (z0M m) := (by
 intro f e h
 simp only [z0M,Prod.mk.injEq,List.mem_cons,List.not_mem_nil,or_false] at h
 rcases h with ⟨rfl,rfl⟩|⟨rfl,rfl⟩|⟨rfl,rfl⟩
 ·exact z4b m
 ·exact zi0 m
 ·exact zbQ m)
end Go.Proofs.YtaplemeamcgpkaaDoor

namespace Go.Proofs.YtaplemeamcgpkaaDoor
open Go.RowKit
def z6F : Code := (cdR (cdL (zFO 2 ((Tryd.f21.body).getD .skip))))
def z6V : Hint := .n
def z4R (m : Nat) : Env := []
abbrev zci (n0 : Nat) : KO (AV × List AObj) := zt4 [0]
def zcN (m : Nat) (D : List Deferred) (t0 t1 t2 t4 : AV) (H : List AObj) : RO := zF9 Tryd.prog GG (z4R m) m ⟨15,D⟩ z6F z6V ⟨H,[(0,t0),(1,t1),(2,t2),(4,t4)]⟩ (zci H.length)
theorem zdG (m : Nat) (D : List Deferred) (t0 t1 t2 t4 : AV) (H : List AObj) : zcN m D t0 t1 t2 t4 H =
 z0X (some z0B) (some zc_api_Store) [] fun t10 =>
 z0b (some (0,1)) t4 fun t11 =>
 z0l 1 H t11 fun t12 =>
 z0b (some (1,1)) t4 fun t13 =>
 z0l 1 H t13 fun t14 =>
 z0s 37 H t0 t10 fun H2 =>
 z0l 1 H2 t13 fun t8011 =>
 eqE t14 t8011 (
 z0l 1 H2 t11 fun t8012 =>
 eqE t12 t8012 (
 z0s 1 H2 t1 t12 fun H3 =>
 z0l 1 H3 t13 fun t8014 =>
 eqE t14 t8014 (
 z0s 1 H3 t2 t14 fun H4 =>
 some (TU [t0],H4)))) := by
 refine (zDa Tryd.prog GG (z4R m) m ⟨15,D⟩ z6F z6V ⟨H,[(0,t0),(1,t1),(2,t2),(4,t4)]⟩ [0]).trans ?_
 kernel_rfl
theorem zdh (m : Nat) : z9t Tryd.prog GG (z4R m) := (by intro f e h;cases h)
end Go.Proofs.YtaplemeamcgpkaaDoor

namespace Go.Proofs.YtaplemeamcgpkaaDoor
open Go.RowKit
attribute [local go_sem] z0E z47 z7R z8E zgo z4K z6a z7q z8e z99 z4y zhO z56 z0d z0c zjo zjA zjy zje ziV z2a z5m zcg zDv zF7 z4i z7P z7Q z1a z0C zoo zlq zCR zm6 zs6 zfl
def z97 (ver : Int) : Nat → List Edt → Tr → Tr × Nat × Nat × List Edt
 |_,[],t=>(t,0,0,[])
 |k,x :: r,t=>if (zDi t x ver).2 = 0 then z97 ver (k + 1) r (zDi t x ver).1 else (t,(zDi t x ver).2,k,[x])
def zpe (s : St) (t : Tr) : Bool := decide (s.bytes < (z5n t : Int)) || decide (s.keys < (zaC t : Int))
def zCK (s : St) (v : Int) (n : Nat) (r : Tr × Nat × Nat × List Edt) : RO :=
 if r.2.1 = 0 then (if zpe s r.1 then some (TU [PN (noV 17 n),OP 1 0,OP 2 0,OP 3 0],tkH ⟨r.1,v,s.bytes,s.keys⟩)
  else some (TU [OP 1 0,OP 2 0,OP 3 0],[⟨1,z03,0,stC ⟨r.1,v,s.bytes,s.keys⟩⟩,⟨1,z03,0,stC ⟨r.1,v,s.bytes,s.keys⟩⟩,⟨1,z4a,0,[nA 0]⟩,⟨1,z2J,0,[nA 0]⟩]))
 else some (TU [PN (noV r.2.1 r.2.2.1),OP 1 0,OP 2 0,OP 3 0],tkH ⟨r.1,v,s.bytes,s.keys⟩ ++ r.2.2.2.map edO)
theorem zpA {t : Tr} {x : Edt} {ver : Int} (h : TInv t) (hx : z3i (x.it ver)) (he : (zDi t x ver).2 = 0) : TInv (zDi t x ver).1 := by
 unfold zDi at he ⊢
 by_cases hk : x.kind = 0
 ·rw [if_pos hk] at he ⊢
  cases hg : (zEl t x.key).isSome with
  |false=>exact h
  |true =>
   rw [hg,if_pos rfl] at he
   exact (zti h he).1
 ·rw [if_neg hk] at he ⊢
  exact (zoY h hx he).1
theorem zwU {s : St} {v : Int} : (stC s).set 32 (V (.int .i64 v)) = stC { s with ver := v } := by
 unfold stC St.tail
 rw [List.set_append_right _ _ (by rw [z0E];exact Nat.le_refl _),z0E]
 rfl
theorem zcJ {x : Edt} : (cellsOf (flA Edt.cells x)).length = 4 := _root_.id rfl
theorem zu6 (m : Nat) (D : List Deferred) (s : St) (l : List Edt) (hm : l.length < m) (hl : l.length ≤ 34359738368) (hi : TInv s.t) (hx : ∀ x ∈ l,z3i (x.it 0)) (hv0 : 0 ≤ s.ver) (hv : s.ver < 2147483647) :
  z77 m D (SL (l.map eA)) (OP 0 0) (OP 1 0) (OP 2 0) (OP 3 0) (tkH s) = zCK s (s.ver + 1) l.length (z97 (s.ver + 1) 0 l s.t) := by
 rw [zdU]
 unfold tkH
 simp (config := {maxSteps := 4000000,implicitDefEqProofs := false}) (disch := omega) only [go_sem,zwU]
 refine z65 (ι := {p : Nat × Tr // p.1 ≤ l.length ∧ z97 (s.ver + 1) p.1 (l.drop p.1) p.2 = z97 (s.ver + 1) 0 l s.t ∧ TInv p.2}) (fun p=>⟨tkH ⟨p.1.2,s.ver + 1,s.bytes,s.keys⟩,[(1,SL (l.map eA)),(2,OP 0 0),(4,OP 1 0),(5,OP 2 0),(6,OP 3 0),(45,SL (l.map eA)),(46,nA l.length),(47,nA p.1.1)]⟩) (fun p=>l.length - p.1.1) (fun _=>zCK s (s.ver + 1) l.length (z97 (s.ver + 1) 0 l s.t)) ?_ ⟨(0,s.t),Nat.zero_le _,rfl,hi⟩ (by dsimp only;omega)
 rintro kx hkx ⟨⟨k,t⟩,hk,htk,hit⟩ kc hkc
 dsimp only at hk htk hit hkc ⊢
 rw [zar]
 by_cases hlt : k < l.length
 ·have hlt' : (k : Int) < (l.length : Int) := by omega
  have hmem := List.getElem_mem hlt
  have hdr : l.drop k = l[k] :: l.drop (k + 1) := List.drop_eq_getElem_cons hlt
  have hO := zBS m t l[k] (s.ver + 1) k ⟨t,s.ver + 1,s.bytes,s.keys⟩ hit.ok
  have hn : z3i (l[k].it (s.ver + 1)) := hx _ hmem
  rw [hdr,z97] at htk
  unfold tkH edO at hO
  dsimp only [List.cons_append,List.nil_append] at hO
  rw [z2a,show eA l[k] = _ from zoo l[k]] at hO
  unfold tkH
  by_cases he : (zDi t l[k] (s.ver + 1)).2 = 0
  ·rw [if_pos he] at hO htk
   have step := hkc ⟨(k + 1,(zDi t l[k] (s.ver + 1)).1),by omega,htk,zpA hit hn he⟩ (by dsimp only;omega)
   dsimp only at step
   unfold tkH at step
   rw [z2a] at hO
   simp (config := {maxSteps := 4000000,implicitDefEqProofs := false}) (disch := omega) only [go_sem,hlt',zcJ,zre,hO]
   exact step
  ·rw [if_neg he] at hO htk
   simp (config := {maxSteps := 4000000,implicitDefEqProofs := false}) (disch := omega) only [go_sem,hlt',zcJ,zre,hO,hkx]
   rw [← htk,zCK,if_neg he]
   rfl
 ·have hlt' : ¬ (k : Int) < (l.length : Int) := by omega
  have hkl : k = l.length := by omega
  subst hkl
  rw [List.drop_length,z97] at htk
  rw [← htk,zCK,if_pos rfl]
  unfold zpe tkH
  have hW := z8D m t hit.ok
  have hC := zan m t hit.ok
  rw [z2a] at hW hC
  simp (config := {maxSteps := 4000000,implicitDefEqProofs := false}) (disch := omega) only [go_sem,hlt',hkx,zaq,zaw,zas,hW,hC,z5A,z88,z3l,zBq,zfG]
  by_cases h1 : s.bytes < (z5n t : Int)
  ·rw [if_pos h1,if_pos (by simp [h1])]
   rfl
  ·rw [if_neg h1]
   by_cases h2 : s.keys < (zaC t : Int)
   ·rw [if_pos h2,if_pos (by simp [h2])]
    rfl
   ·rw [if_neg h2,if_neg (by simp [h1,h2]),z4t,z1a,z3l,zzV]
    rfl
end Go.Proofs.YtaplemeamcgpkaaDoor

namespace Go.Proofs.YtaplemeamcgpkaaDoor
open Go.RowKit
attribute [local go_sem] z0E z47 z7R z8E zgo z4K z6a z7q z8e z99 z4y zhO z56 z0d z0c zjo zjA zjy zje ziV z2a z5m zcg zDv zF7 z4t z4i z1a z3l z7Q zfl zpg zrJ zfG zik zlc zm6 zzc zv2 zzV zBR zAx
def zAo (x : Edt) : Bool := zDF x.key && zEn x.kind x.i x.s
def z8s : Nat → List Edt → Option Nat
 |_,[]=>none
 |k,x :: r=>if zAo x then z8s (k + 1) r else some k
theorem zCQ : z7Z = [V (.int .i64 0)] := _root_.id rfl
theorem zFj : zrz = [V (.int .i64 0)] := _root_.id rfl
theorem zmQ (m : Nat) (s : St) (l : List Edt) (hm : 1000000 < m) (h : s.t.Ok) (hb : (zEB s && decide (s.ver ≠ 2147483647)) = false) : z87 m (stA s) (SL (l.map eA)) = some (TU [stA St.zero,nA 1,nA 0],[]) := by
 rw [zap]
 have hM := zjp m s hm h
 rw [z2w] at hM ⊢
 cases h1 : zEB s with
 |false =>
  rw [h1] at hM
  simp (config := {maxSteps := 4000000,implicitDefEqProofs := false}) (disch := omega) only [go_sem,z7P,hM,zCQ,zFj,z2w,z49]
  try rfl
 |true =>
  rw [h1,Bool.true_and] at hb
  have hv : s.ver = 2147483647 := by simpa using hb
  rw [h1] at hM
  simp (config := {maxSteps := 4000000,implicitDefEqProofs := false}) (disch := omega) only [go_sem,z7P,hM,hv,zCQ,zFj,z2w,z49]
  try rfl
theorem znx (m : Nat) (s : St) (l : List Edt) (hm : 1000000 < m) (hlm : l.length < m) (hl : l.length ≤ 34359738368) (h : s.t.Ok) (h1 : zEB s = true) (hv : s.ver ≠ 2147483647) (b : Nat) (hb : z8s 0 l = some b) : z87 m (stA s) (SL (l.map eA)) = some (TU [stA St.zero,nA 1,nA b],[]) := by
 rw [zap]
 have hM := zjp m s hm h
 rw [h1] at hM
 rw [z2w] at hM ⊢
 simp (config := {maxSteps := 4000000,implicitDefEqProofs := false}) (disch := omega) only [go_sem,z7P,hM,hv,zCQ,zFj,z49,zb6]
 refine z65 (ι := {k : Nat // k ≤ l.length ∧ z8s k (l.drop k) = some b}) (fun k=>⟨tkH s,[(1,SL (l.map eA)),(2,OP 0 0),(4,OP 1 0),(5,OP 2 0),(6,OP 3 0),(20,SL (l.map eA)),(21,nA l.length),(22,nA k.1)]⟩) (fun k=>l.length - k.1) (fun _=>some (TU [stA St.zero,nA 1,nA b],[])) ?_ ⟨0,Nat.zero_le _,hb⟩ (by dsimp only;omega)
 rintro kx hkx ⟨k,hk,htk⟩ kc hkc
 dsimp only at hkc ⊢
 rw [zc0]
 unfold tkH
 by_cases hlt : k < l.length
 ·have hlt' : (k : Int) < (l.length : Int) := by omega
  rw [List.drop_eq_getElem_cons hlt,z8s] at htk
  have hK := zly m l[k].key
  have hV := zcS m l[k].kind l[k].i l[k].s
  unfold zAo at htk
  cases q1 : zDF l[k].key with
  |false =>
   rw [q1] at hK htk
   have : k = b := by simpa using htk
   subst this
   simp (config := {maxSteps := 4000000,implicitDefEqProofs := false}) (disch := omega) only [go_sem,hlt',zlq,zoo,zcJ,zCR,hK,z44,hkx,zCQ,zFj,z2w]
   try rfl
  |true =>
   rw [q1] at hK htk
   cases q2 : zEn l[k].kind l[k].i l[k].s with
   |false =>
    rw [q2] at hV htk
    have : k = b := by simpa using htk
    subst this
    simp (config := {maxSteps := 4000000,implicitDefEqProofs := false}) (disch := omega) only [go_sem,hlt',zlq,zoo,zcJ,zCR,hK,hV,z44,hkx,zCQ,zFj,z2w]
    try rfl
   |true =>
    rw [q2] at hV htk
    have step := hkc ⟨k + 1,by omega,by simpa using htk⟩ (by dsimp only;omega)
    dsimp only at step
    unfold tkH at step
    simp (config := {maxSteps := 4000000,implicitDefEqProofs := false}) (disch := omega) only [go_sem,hlt',zlq,zoo,zcJ,zCR,hK,hV,z44,zbg,z0C,zs6]
    exact step
 ·have hkl : k = l.length := by omega
  subst hkl
  rw [List.drop_length] at htk
  cases htk
theorem zx3 (m : Nat) (s : St) (l : List Edt) (hm : 1000000 < m) (hlm : l.length < m) (hl : l.length ≤ 34359738368) (h : s.t.Ok) (h1 : zEB s = true) (hv : s.ver ≠ 2147483647) (hb : z8s 0 l = none) : zd9 m [] (stA s) (SL (l.map eA)) [] = some (TU [SL (l.map eA),OP 0 0,OP 1 0,OP 2 0,OP 3 0],tkH s) := by
 rw [zeg]
 have hM := zjp m s hm h
 rw [h1] at hM
 rw [z2w] at hM ⊢
 simp (config := {maxSteps := 4000000,implicitDefEqProofs := false}) (disch := omega) only [go_sem,z7P,hM,hv,zCQ,zFj,zaD,zay]
 refine z65 (ι := {k : Nat // k ≤ l.length ∧ z8s k (l.drop k) = none}) (fun k=>⟨tkH s,[(1,SL (l.map eA)),(2,OP 0 0),(4,OP 1 0),(5,OP 2 0),(6,OP 3 0),(20,SL (l.map eA)),(21,nA l.length),(22,nA k.1)]⟩) (fun k=>l.length - k.1) (fun _=>some (TU [SL (l.map eA),OP 0 0,OP 1 0,OP 2 0,OP 3 0],tkH s)) ?_ ⟨0,Nat.zero_le _,hb⟩ (by dsimp only;omega)
 rintro kx hkx ⟨k,hk,htk⟩ kc hkc
 dsimp only at hkc ⊢
 rw [zaF]
 unfold tkH
 by_cases hlt : k < l.length
 ·have hlt' : (k : Int) < (l.length : Int) := by omega
  rw [List.drop_eq_getElem_cons hlt,z8s] at htk
  have hK := zly m l[k].key
  have hV := zcS m l[k].kind l[k].i l[k].s
  unfold zAo at htk
  cases q1 : zDF l[k].key with
  |false=>rw [q1] at htk;simp at htk
  |true =>
   rw [q1] at hK htk
   cases q2 : zEn l[k].kind l[k].i l[k].s with
   |false=>rw [q2] at htk;simp at htk
   |true =>
    rw [q2] at hV htk
    have step := hkc ⟨k + 1,by omega,by simpa using htk⟩ (by dsimp only;omega)
    dsimp only at step
    unfold tkH at step
    simp (config := {maxSteps := 4000000,implicitDefEqProofs := false}) (disch := omega) only [go_sem,hlt',zlq,zoo,zcJ,zCR,hK,hV,z66,zaA,zat,z0C,zs6]
    exact step
 ·have hlt' : ¬ (k : Int) < (l.length : Int) := by omega
  simp (config := {maxSteps := 4000000,implicitDefEqProofs := false}) (disch := omega) only [go_sem,hlt',hkx,z66]
end Go.Proofs.YtaplemeamcgpkaaDoor

namespace Go.Proofs.YtaplemeamcgpkaaDoor
open Go.RowKit
def dC : Code := (Tryd.f5.body).getD .skip
theorem noE : z9t Tryd.prog GG [] := fun f e h=>by cases h
def dD (p0 p1 p2 : Value) : Deferred := { target := .fn (.func 21) #[p0,p1,p2],args := #[] }
theorem dB {p0 p1 p2 : Value} {a : Act} {w : World} {Q : Exit → Act → World → Prop} (h2 : a.eval (.tmp 4) = p0) (h3 : a.eval (.tmp 5) = p1) (h4 : a.eval (.tmp 6) = p2) (hd : a.defers = []) (hs : a.tmps.size = 80)
  (hQ : ∀ v : Value,Q .normal { (a.put (some 40) v) with defers := [dD p0 p1 p2] } w) : (cdL (zFO 3 dC)).wp Tryd.prog Q a w := by
 show (Code.region _ _ false).wp Tryd.prog Q a w
 refine wp_region_list ?_
 have hmf : ∀ (fn : Fn) (first cap : Array Value) (w : World),(Instr.makeFunc fn first cap).run Tryd.prog w = .ok (.func fn first cap) w := fun _ _ _ _=>rfl
 have h2' : a.tmps[4]?.getD undef = p0 := by rw [← h2];simp [Act.eval]
 have h3' : a.tmps[5]?.getD undef = p1 := by rw [← h3];simp [Act.eval]
 have h4' : a.tmps[6]?.getD undef = p2 := by rw [← h4];simp [Act.eval]
 have hq := hQ (.func (.func 21) #[] #[p0,p1,p2])
 simp only [Act.put,dD] at hq
 simp [wpList,go_sem,Oper.wp,Oper.upon,execOp,hmf,h2',h3',h4',hs,hd,Region.wanted]
 have g2 : a.tmps[4]'(by omega) = p0 := by rw [← h2'];simp [hs]
 have g3 : a.tmps[5]'(by omega) = p1 := by rw [← h3'];simp [hs]
 have g4 : a.tmps[6]'(by omega) = p2 := by rw [← h4'];simp [hs]
 refine .inl (.inl ?_)
 rw [g2,g3,g4]
 exact hq
theorem zjM (p0 p1 p2 : Value) (w : World) :
  CallsD Tryd.prog 21 #[p0,p1,p2] .returning w fun e u' w'=>e = .returned (.tuple #[]) ∧ u' = .returning ∧ w' = w := by
 refine callsD_of_wpS Tryd.func21 rfl fun c₀ cs hu=>?_
 apply wpS_seq
 apply wpS_region
 simp [wpOpsS,go_sem,recoverD,hu,Tryd.ntmps21,Exit.thenS]
 apply wpS_seq
 apply wpS_region
 simp [wpOpsS,go_sem,Exit.thenS]
 refine wpS_cond (t := false) (by simp [Act.eval]) ?_
 simp only [Bool.false_eq_true,if_false]
 refine wpS_of_wp (wp_skip ?_)
 cases c₀
 simp_all [bodyPostS,results,Tryd.results21]
theorem zfb {P : Program} {ops : Array Oper} {Q : Exit → Act → World → Prop} {o : Oper} {rest : List Oper} {a : Act} {w : World} (v : Value) (hg : o.guard = none) (hx : (execOp a.eval o).run P w = .ok (.value v) w) (h : wpList P ops Q rest (a.put o.dst v) w) : wpList P ops Q (o :: rest) a w := by
 unfold wpList
 rw [if_pos (by simp [Region.wanted,hg])]
 refine .inl ?_
 unfold Oper.wp
 rw [hx]
 exact h
theorem zCb : (match Tryd.prog.underlying 71 with|some (.interface _)=>false|some _=>true|none=>false) = true := by kernel_rfl
theorem zkt (x : Value) (w : World) : (Instr.typeAssert (.iface 71 x) 20 71 false).run Tryd.prog w = .ok x w := by
 have h := zCb
 cases hd : Tryd.prog.underlying 71 with
 |none=>rw [hd] at h;cases h
 |some d =>
  rw [hd] at h
  unfold Instr.typeAssert
  simp only [Sem.run_bind,run_underlying hd,Result.andThen_ok]
  cases d with
  |interface m=>cases h
  |_=>simp [Sem.run_pure]
def eC : Code := (Tryd.f21.body).getD .skip
def oC (k : Nat) : List Oper := (match cdL (cdL (zFO 2 eC)) with|.region _ ops _=>ops.toList|_=>[]).drop k
theorem ztW (m : Nat) {c0 : List AV} {R3 : AObj} {tE tA tX : TypeId} (e0 a0 : Nat) (hc : c0.length = 35) :
  zcN m [] (OP 1 0) (OP 2 0) (OP 3 0) (OP 4 0) [R3,⟨1,z03,0,c0⟩,⟨1,tE,0,[nA 0]⟩,⟨1,tA,0,[nA 0]⟩,⟨1,tX,0,[nA e0,nA a0]⟩] = some (TU [OP 1 0],[R3,⟨1,z03,0,zS⟩,⟨1,tE,0,[nA e0]⟩,⟨1,tA,0,[nA a0]⟩,⟨1,tX,0,[nA e0,nA a0]⟩]) := by
 have hS : z0e c0 0 zS = zS := zjY (by rw [hc,zfG])
 have h8 : 35 ≤ c0.length := by omega
 rw [zdG]
 simp (config := {maxSteps := 4000000,implicitDefEqProofs := false}) (disch := omega) only [go_sem,hS,h8,hc,zBn,zrJ,zAx,zik,zfG,zlc]
theorem eB {p0 p1 p2 : Value} {e0 a0 : Nat} {w : World} {S : SS} {μ : List Value} {c0 : List AV} {R3 : AObj} {a : Act} (hg : GOk GG S) (hr : Rel w S μ [R3,⟨1,z03,0,c0⟩,⟨1,31,0,[nA 0]⟩,⟨1,3,0,[nA 0]⟩]) (hc : c0.length = 35) (h0 : rep S μ (OP 1 0) p0) (h1 : rep S μ (OP 2 0) p1) (h2 : rep S μ (OP 3 0) p2)
  (ha : a.tmps.size = 15) (hd : a.defers = []) (g0 : a.tmps.getD 0 undef = p0) (g1 : a.tmps.getD 1 undef = p1) (g2 : a.tmps.getD 2 undef = p2) (g3 : a.tmps.getD 3 undef = noV e0 a0) :
  (cdL (zFO 2 eC)).wp Tryd.prog (fun e a' w'=>(e = .normal ∨ e = .ret) ∧ a'.defers = [] ∧ ∃ S' μ',Rel w' S' μ' [R3,⟨1,z03,0,zS⟩,⟨1,31,0,[nA e0]⟩,⟨1,3,0,[nA a0]⟩,⟨1,71,0,[nA e0,nA a0]⟩] ∧ Step 4 w S μ [R3,⟨1,z03,0,c0⟩,⟨1,31,0,[nA 0]⟩,⟨1,3,0,[nA 0]⟩] w' S' μ' [R3,⟨1,z03,0,zS⟩,⟨1,31,0,[nA e0]⟩,⟨1,3,0,[nA a0]⟩,⟨1,71,0,[nA e0,nA a0]⟩]) a w := by
 have ec : cdL (zFO 2 eC) = .seq (cdL (cdL (zFO 2 eC))) (cdR (cdL (zFO 2 eC))) := by kernel_rfl
 rw [ec]
 have key2 := z3e (n := 4) (M := 0) MIX (zdh 0) z6F z6V _ _ (by simp) (ztW (R3 := R3) (tE := 31) (tA := 3) (tX := 71) 0 e0 a0 hc)
 refine wp_seq (wp_mono (Q := Lift ⟨15,[]⟩ 4 w S μ [R3,⟨1,z03,0,c0⟩,⟨1,31,0,[nA 0]⟩,⟨1,3,0,[nA 0]⟩] (fun e s=>e = .normal ∧ Aft (fun s=>some (get s.T 0,get s.T 1,get s.T 2,get s.T 4,s.H)) (OP 1 0,OP 2 0,OP 3 0,OP 4 0,[R3,⟨1,z03,0,c0⟩,⟨1,31,0,[nA 0]⟩,⟨1,3,0,[nA 0]⟩,⟨1,71,0,[nA e0,nA a0]⟩]) s)) ?_ fun e a' w' hL=>?_)
 rotate_left
 ·obtain ⟨s1,S1,μ1,⟨rfl,T2,hT,hq⟩,hr1,hf1,hst1⟩ := hL
  injection hq with hq
  injection hq with q0 hq
  injection hq with q1 hq
  injection hq with q2 hq
  injection hq with q4 hH
  obtain ⟨H1,T1⟩ := s1
  dsimp only at q0 q1 q2 q4 hH hT hr1 hf1 hst1
  subst hH
  have hf2 : Fr S1 μ1 ⟨15,[]⟩ [(0,OP 1 0),(1,OP 2 0),(2,OP 3 0),(4,OP 4 0)] a' := by
   refine ⟨hf1.size,hf1.nodef,fun i=>?_⟩
   by_cases i0 : i = 0
   ·subst i0
    have := hf1.slot 0
    rw [hT 0,q0] at this;exact this
   by_cases i1 : i = 1
   ·subst i1
    have := hf1.slot 1
    rw [hT 1,q1] at this;exact this
   by_cases i2 : i = 2
   ·subst i2
    have := hf1.slot 2
    rw [hT 2,q2] at this;exact this
   by_cases i4 : i = 4
   ·subst i4
    have := hf1.slot 4
    rw [hT 4,q4] at this;exact this
   ·have : get ([(0,OP 1 0),(1,OP 2 0),(2,OP 3 0),(4,OP 4 0)] : Tm) i = .nil := by
     simp only [_root_.Go.Proofs.YtaplemeamcgpkaaDoor.get]
     rw [if_neg (Ne.symm i0),if_neg (Ne.symm i1),if_neg (Ne.symm i2),if_neg (Ne.symm i4)]
    rw [this];exact zeD _ _ _
  refine wp_mono (key2 w' S1 μ1 a' hr1 hf2 (hg.ext hst1.still)) ?_
  rintro e2 a2 w2 ⟨s2,S2,μ2,hq2,hr2,hf3,hst2⟩
  have fin : (some (TU (zCN s2.T [0]),s2.H) : RO) = some (TU [OP 1 0],[R3,⟨1,z03,0,zS⟩,⟨1,31,0,[nA e0]⟩,⟨1,3,0,[nA a0]⟩,⟨1,71,0,[nA e0,nA a0]⟩]) → a2.defers = [] ∧ ∃ S' μ',Rel w2 S' μ' [R3,⟨1,z03,0,zS⟩,⟨1,31,0,[nA e0]⟩,⟨1,3,0,[nA a0]⟩,⟨1,71,0,[nA e0,nA a0]⟩] ∧ Step 4 w S μ [R3,⟨1,z03,0,c0⟩,⟨1,31,0,[nA 0]⟩,⟨1,3,0,[nA 0]⟩] w2 S' μ' [R3,⟨1,z03,0,zS⟩,⟨1,31,0,[nA e0]⟩,⟨1,3,0,[nA a0]⟩,⟨1,71,0,[nA e0,nA a0]⟩] := by
   intro h
   injection h with h
   injection h with _ h
   obtain ⟨H2,T2⟩ := s2
   dsimp only at h hr2 hf3 hst2
   subst h
   exact ⟨hf3.nodef,S2,μ2,hr2,hst1.trans hst2⟩
  cases e2 with
  |normal=>exact ⟨.inl rfl,fin hq2⟩
  |ret=>exact ⟨.inr rfl,fin hq2⟩
  |exit id=>cases hq2
  |goto l=>cases hq2
  |panic ch =>
   obtain ⟨u,_,hq2⟩ := zg3 (K := fun u=>some (TU (PN u :: zCN s2.T [0]),s2.H)) hq2
   injection hq2 with hq2
   injection hq2 with hq2 _
   simp at hq2
  |outgrown=>cases hq2
 show (Code.region _ _ false).wp Tryd.prog _ a w
 refine wp_region_list ?_
 refine zfb (noV e0 a0) rfl (by rw [← g3];simp [execOp,go_sem,Act.eval]) ?_
 refine zfb (.agg #[.int .i64 e0, .int .i64 a0]) rfl (by
  have : (a.put (some 8) (noV e0 a0)).eval (.tmp 8) = noV e0 a0 := by simp [Act.put,Act.eval,ha]
  have hA := zkt (.agg #[.int .i64 e0, .int .i64 a0]) w
  simp [execOp,go_sem,ha,noV,hA]) ?_
 generalize hb : (a.put (some 8) (noV e0 a0)).put (some 9) (.agg #[.int .i64 e0, .int .i64 a0]) = b
 have hbs : b.tmps.size = 15 := by rw [← hb];simp [Act.put,ha]
 have hbd : b.defers = [] := by rw [← hb];simp [Act.put,hd]
 have hb0 : b.tmps.getD 0 undef = p0 := by rw [← hb,← g0];simp [Act.put,ha]
 have hb1 : b.tmps.getD 1 undef = p1 := by rw [← hb,← g1];simp [Act.put,ha]
 have hb2 : b.tmps.getD 2 undef = p2 := by rw [← hb,← g2];simp [Act.put,ha]
 have hb9 : b.tmps.getD 9 undef = .agg #[.int .i64 e0, .int .i64 a0] := by rw [← hb];simp [Act.put,ha]
 have hf : Fr S μ ⟨15,[]⟩ [(0,OP 1 0),(1,OP 2 0),(2,OP 3 0),(9, .agg [nA e0,nA a0])] b := by
  refine ⟨hbs,hbd,fun i=>?_⟩
  by_cases q0 : i = 0
  ·subst q0;rw [hb0];exact h0
  by_cases q1 : i = 1
  ·subst q1;rw [hb1];exact h1
  by_cases q2 : i = 2
  ·subst q2;rw [hb2];exact h2
  by_cases q9 : i = 9
  ·subst q9;rw [hb9]
   refine ⟨[.int .i64 e0, .int .i64 a0],rfl,rfl,fun j d u hd hu=>?_⟩
   rcases j with _|_|j
   ·cases hd;cases hu;exact ⟨rfl,rfl,rfl⟩
   ·cases hd;cases hu;exact ⟨rfl,rfl,rfl⟩
   ·cases hd
  ·have : get ([(0,OP 1 0),(1,OP 2 0),(2,OP 3 0),(9, .agg [nA e0,nA a0])] : Tm) i = .nil := by
    simp only [_root_.Go.Proofs.YtaplemeamcgpkaaDoor.get]
    rw [if_neg (Ne.symm q0),if_neg (Ne.symm q1),if_neg (Ne.symm q2),if_neg (Ne.symm q9)]
   rw [this];exact zeD _ _ _
 have hx : runE Tryd.prog GG [] false (oC 0) [] (oC 2) ⟨[R3,⟨1,z03,0,c0⟩,⟨1,31,0,[nA 0]⟩,⟨1,3,0,[nA 0]⟩],[(0,OP 1 0),(1,OP 2 0),(2,OP 3 0),(9, .agg [nA e0,nA a0])]⟩ (fun s=>some (get s.T 0,get s.T 1,get s.T 2,get s.T 4,s.H)) = some (OP 1 0,OP 2 0,OP 3 0,OP 4 0,[R3,⟨1,z03,0,c0⟩,⟨1,31,0,[nA 0]⟩,⟨1,3,0,[nA 0]⟩,⟨1,71,0,[nA e0,nA a0]⟩]) := by kernel_rfl
 have hro := zaf noE (TEq.refl _) SkOk.nil hx
 have hfit : zEE (15 : Nat) (oC 2) = true := by kernel_rfl
 have key := z8N (N := ⟨15,[]⟩) (n := 4) (Q := fun e s=>e = .normal ∧ Aft (fun s=>some (get s.T 0,get s.T 1,get s.T 2,get s.T 4,s.H)) (OP 1 0,OP 2 0,OP 3 0,OP 4 0,[R3,⟨1,z03,0,c0⟩,⟨1,31,0,[nA 0]⟩,⟨1,3,0,[nA 0]⟩,⟨1,71,0,[nA e0,nA a0]⟩]) s) (fun s q=>⟨rfl,q⟩) (H0 := [R3,⟨1,z03,0,c0⟩,⟨1,31,0,[nA 0]⟩,⟨1,3,0,[nA 0]⟩]) (by simp) hr.len _ _ hro hfit w S μ b hr hf hg (Step.refl _ _ _ _ _)
 exact key
theorem znc (p0 p1 p2 : Value) (e0 a0 : Nat) (older : List PanicEntry) (w : World) {S : SS} {μ : List Value} {c0 : List AV} {R3 : AObj} (hg : GOk GG S) (hr : Rel w S μ [R3,⟨1,z03,0,c0⟩,⟨1,31,0,[nA 0]⟩,⟨1,3,0,[nA 0]⟩]) (hc : c0.length = 35) (h0 : rep S μ (OP 1 0) p0) (h1 : rep S μ (OP 2 0) p1) (h2 : rep S μ (OP 3 0) p2) :
  CallsD Tryd.prog 21 #[p0,p1,p2] (.panicking ({ v := noV e0 a0,recovered := false } :: older)) w fun e u' w'=>e = .returned (.tuple #[]) ∧ u' = .panicking ({ v := noV e0 a0,recovered := true } :: older) ∧
   ∃ S' μ',Rel w' S' μ' [R3,⟨1,z03,0,zS⟩,⟨1,31,0,[nA e0]⟩,⟨1,3,0,[nA a0]⟩,⟨1,71,0,[nA e0,nA a0]⟩] ∧ Step 4 w S μ [R3,⟨1,z03,0,c0⟩,⟨1,31,0,[nA 0]⟩,⟨1,3,0,[nA 0]⟩] w' S' μ' [R3,⟨1,z03,0,zS⟩,⟨1,31,0,[nA e0]⟩,⟨1,3,0,[nA a0]⟩,⟨1,71,0,[nA e0,nA a0]⟩] := by
 refine callsD_of_wpS Tryd.func21 rfl fun c₀ cs hu=>?_
 apply wpS_seq
 apply wpS_region
 simp [wpOpsS,go_sem,recoverD,hu,noV,Tryd.ntmps21,Exit.thenS]
 apply wpS_seq
 apply wpS_region
 simp [wpOpsS,go_sem,Exit.thenS]
 refine wpS_cond (t := true) (by simp [Act.eval]) ?_
 simp only [if_true]
 refine wpS_of_wp ?_
 refine wp_mono (eB (e0 := e0) (a0 := a0) hg hr hc h0 h1 h2 (by simp) rfl (by simp) (by simp) (by simp) (by simp [noV])) ?_
 rintro e a' w' ⟨he,hd,hS⟩
 have hv : (results Tryd.f21 a'.tmps).run Tryd.prog w' = .ok (.tuple #[]) w' := by simp [results,Tryd.results21]
 rcases he with rfl|rfl
 ·exact ⟨hd,_,rfl, .tuple #[],hv,rfl,rfl,hS⟩
 ·exact ⟨hd,_,rfl, .tuple #[],hv,rfl,rfl,hS⟩
theorem zA6 {k : Nat} {H : List AObj} {x d : AV} {K : AV → Prop} (h : z0l k H x (fun d=>some d) = some d) (hK : K d) : z67 k H x K := z4j (fun d' e=>by injection e with e;subst e;exact hK) (z9m h)
theorem zj6 {a b : List AV} (h : TU a = TU b) : a = b := by
 injection h with _ h
 injection h
theorem zFy {w : World} {S : SS} {μ : List Value} {H : List AObj} : Step 0 w S μ H w S [] [] := ⟨rfl,rfl,rfl,Nat.le_refl _,fun _ _ _=>rfl,fun _ _ _ h=>h,fun i x hi _=>absurd hi (Nat.not_lt_zero i),fun _ _ _ h _=>.inl h,fun b k _=>by obtain ⟨i,x,o,hx,_⟩ := k;simp at hx⟩
end Go.Proofs.YtaplemeamcgpkaaDoor

namespace Go.Proofs.YtaplemeamcgpkaaDoor
open Go.RowKit
theorem zwA {S : SS} {μ : List Value} {N : Nat} {args : List AV} {vs : List Value} (hl : vs.length = args.length) (hargs : args.length ≤ N) (hv : ∀ (j : Nat) (d : AV) (v : Value),args[j]? = some d → vs[j]? = some v → rep S μ d v) :
  Fr S μ (F0 N) (z2t 0 args) { tmps := vs.toArray ++ Array.replicate (N - vs.toArray.size) undef,defers := [] } := by
 refine ⟨by simp;omega,rfl,fun i=>?_⟩
 rw [z8U]
 simp only [Nat.zero_le,if_true,Nat.sub_zero]
 cases hd : args[i]? with
 |none=>trivial
 |some d =>
  have hi : i < vs.length := by rw [hl];exact (List.getElem?_eq_some_iff.1 hd).1
  have := hv i d vs[i] hd (List.getElem?_eq_getElem hi)
  simp only [Option.getD_some]
  have e : (vs.toArray ++ Array.replicate (N - vs.toArray.size) undef).getD i undef = vs[i] := by
   rw [Array.getD_eq_getD_getElem?,Array.getElem?_append_left (by simpa using hi)]
   simp [hi]
  rw [e];exact this
def zek (s : St) (l : List Edt) : St × Nat × Nat :=
 if (zEB s && decide (s.ver ≠ 2147483647)) = false then (St.zero,1,0)
 else match z8s 0 l with
  |some b=>(St.zero,1,b)
  |none=>if (z97 (s.ver + 1) 0 l s.t).2.1 = 0 then (if zpe s (z97 (s.ver + 1) 0 l s.t).1 then (St.zero,17,l.length) else (⟨(z97 (s.ver + 1) 0 l s.t).1,s.ver + 1,s.bytes,s.keys⟩,0,0))
   else (St.zero,(z97 (s.ver + 1) 0 l s.t).2.1,(z97 (s.ver + 1) 0 l s.t).2.2.1)
def zEs (r : St × Nat × Nat) : AV := TU [stA r.1,nA r.2.1,nA r.2.2]
theorem zrh (s : St) : (tkH s).all (ltO 4) = true := by
 have h1 : (stC s).all (ltA 4) = true := z7Q
 have h2 : zS.all (ltA 4) = true := zm6
 simp only [tkH,List.all_cons,List.all_nil,ltO,h1,h2]
 rfl
theorem zCn {R0 : AObj} {cs : List AV} {H3 : List AObj} {e a : Int} (hc : cs.length = 35) (hs : cs.all zCU = true) : z0l 37 (R0 :: ⟨1,z03,0,cs⟩ :: ⟨1,31,0,[nA e]⟩ :: ⟨1,3,0,[nA a]⟩ :: H3) (OP 1 0) (fun d=>some d) = some (.agg cs) := by
 have ht : cs.take 35 = cs := List.take_of_length_le (by omega)
 simp (config := {maxSteps := 4000000,implicitDefEqProofs := false}) (disch := omega) only [go_sem,hc,ht,hs]
theorem zDX {T : Tm} {R0 : AObj} {cs : List AV} {H3 : List AObj} {e a : Int} (hc : cs.length = 35) (hs : cs.all zCU = true) (g2 : get T 4 = OP 1 0) (g3 : get T 5 = OP 2 0) (g4 : get T 6 = OP 3 0) :
  zCE Tryd.prog (R0 :: ⟨1,z03,0,cs⟩ :: ⟨1,31,0,[nA e]⟩ :: ⟨1,3,0,[nA a]⟩ :: H3) T [.cell 4 28, .cell 5 31, .cell 6 3] (fun ds=>z2s ds = TU [noT (.agg cs),noT (nA e),noT (nA a)]) := by
 rw [zmq,g2]
 refine zA6 (d := .agg cs) (by
  have : z0z Tryd.prog 28 = 37 := by kernel_rfl
  rw [this]
  exact zCn hc hs) ?_
 rw [zmq,g3]
 refine zA6 (d := nA e) (by kernel_rfl) ?_
 rw [zmq,g4]
 refine zA6 (d := nA a) (by kernel_rfl) ?_
 rw [zz0]
 rfl
theorem zmA {e a : Nat} {H : List AObj} : ro H (TU [noT (.agg zS),noT (nA e),noT (nA a)]) = zEs (St.zero,e,a) := by
 show (TU [roA H (.agg zS),roA H (nA e),roA H (nA a)] : AV) = _
 show (TU [.agg (zS.map (ro1 H)),_,_] : AV) = _
 rw [zzc]
 rfl
theorem zuZ {u : St} {H : List AObj} : ro H (TU [noT (.agg (stC u)),noT (nA 0),noT (nA 0)]) = zEs (u,0,0) := by
 show (TU [.agg ((stC u).map (ro1 H)),_,_] : AV) = _
 rw [zpg]
 rfl
theorem zp3 {r : St × Nat × Nat} : ltT 0 (zEs r) = true := by
 have h1 : ltT 0 (stA r.1) = true := by
  show (stC r.1).all (lt1 0) = true
  exact zfl
 show ([stA r.1,nA r.2.1,nA r.2.2].all fun x=>ltA 0 x) = true
 simp only [List.all_cons,List.all_nil,Bool.and_true]
 rw [show ltA 0 (stA r.1) = true from h1]
 rfl
abbrev T5 (l : List Edt) : Tm := [(1,SL (l.map eA)),(2,OP 0 0),(4,OP 1 0),(5,OP 2 0),(6,OP 3 0)]
theorem zh2 {rs : List Tmp} {e : Exit} {s : ASt} {X : AV} {H' : List AObj} (h : zt4 rs e s = some (X,H')) : ((e = .normal ∨ e = .ret) ∧ X = TU (zCN s.T rs) ∧ s.H = H') ∨ (∃ u,e = .panic (pch u) ∧ X = TU (PN u :: zCN s.T rs) ∧ s.H = H') := by
 cases e with
 |normal=>cases h;exact .inl ⟨.inl rfl,rfl,rfl⟩
 |ret=>cases h;exact .inl ⟨.inr rfl,rfl,rfl⟩
 |exit id=>cases h
 |goto l=>cases h
 |panic ch =>
  obtain ⟨u,rfl,h⟩ := zg3 (K := fun u=>some (TU (PN u :: zCN s.T rs),s.H)) h
  cases h
  exact .inr ⟨u,rfl,rfl,rfl⟩
 |outgrown=>cases h
section
variable {s u : St} {l : List Edt} {a2 : Act} {w w1 : World} {S S1 : SS} {μ1 : List Value} {p0 p1 p2 : Value} {M : Nat}
theorem zBw (w' : World) : (invoke (.fn (.func 21) #[p0,p1,p2]) #[]).run Tryd.prog w' = .ok (.enter 21 #[p0,p1,p2]) w' := by simp [go_sem]
theorem zvr (hr1 : Rel w1 S1 μ1 (tkH s)) (hf2 : Fr S1 μ1 ⟨80,[dD p0 p1 p2]⟩ (T5 l) a2) (hg1 : GOk GG S1) (hst1 : Step 0 w S [] [] w1 S1 μ1 (tkH s))
  (hR : z77 M [dD p0 p1 p2] (SL (l.map eA)) (OP 0 0) (OP 1 0) (OP 2 0) (OP 3 0) (tkH s) = some (TU [OP 1 0,OP 2 0,OP 3 0],[⟨1,z03,0,stC u⟩,⟨1,z03,0,stC u⟩,⟨1,z4a,0,[nA 0]⟩,⟨1,z2J,0,[nA 0]⟩])) :
  (zFO 4 dC).wp Tryd.prog (bodyPostD Tryd.prog Tryd.f5 (zns w S [] [] fun r H'=>r = zEs (u,0,0) ∧ H' = [])) a2 w1 := by
 have key := z3e (n := 0) (M := M) MIX (z8T M) z1g store_TakeR_h _ _ (Nat.zero_le _) hR
 refine wp_mono (key w1 S1 μ1 a2 hr1 hf2 hg1) ?_
 rintro e a3 w3 ⟨⟨H3,T3⟩,S3,μ3,hq3,hr3,hf3,hst3⟩
 rcases zh2 hq3 with ⟨he,h,hH⟩|⟨v,_,h,_⟩
 ·dsimp only at hr3 hf3 hst3 hH
  subst hH
  have h := zj6 h
  rw [zah] at h
  injection h with g2 h
  injection h with g3 h
  injection h with g4 _
  have hd : a3.defers = [dD p0 p1 p2] := hf3.nodef
  have fin : Leaves Tryd.prog Tryd.f5 a3.tmps (zns w S [] [] fun r H'=>r = zEs (u,0,0) ∧ H' = []) a3.defers .returning w3 := by
   rw [hd]
   refine leaves_cons (f := 21) (args := #[p0,p1,p2]) (by simp) (zBw w3) ?_
   refine (zjM p0 p1 p2 w3).mono ?_
   rintro e u' w4 ⟨rfl,rfl,rfl⟩
   show Leaves Tryd.prog _ a3.tmps _ [] (settle .returning) w4
   have hs : settle .returning = .returning := rfl
   rw [hs]
   obtain ⟨y,r,hrun,hrep,rfl⟩ := z4f (P := Tryd.prog) (fn := Tryd.f5) (K := fun r=>r = TU [noT (.agg (stC u)),noT (nA 0),noT (nA 0)]) rfl hr3 hf3 (z1Q (fun ds e=>e) (zDX (z1a u) z3l g2.symm g3.symm g4.symm))
   have hro := hrep.toRo hr3
   rw [zuZ] at hro
   exact ⟨y,hrun,y,_,[],S3,[],rfl,⟨rfl,rfl⟩,hr3.le (H' := []) trivial rfl,hro.take (n := 0) zp3,(hst1.trans hst3).trans zFy⟩
  rcases he with rfl|rfl
  ·exact fin
  ·exact fin
 ·exfalso
  have h := congrArg List.length (zj6 h)
  try rw [List.length_cons] at h
  rw [zah] at h
  simp at h
theorem zkm {e0 a0 : Nat} {Y : List AObj} (hr1 : Rel w1 S1 μ1 (tkH s)) (hf2 : Fr S1 μ1 ⟨80,[dD p0 p1 p2]⟩ (T5 l) a2) (hg1 : GOk GG S1) (hst1 : Step 0 w S [] [] w1 S1 μ1 (tkH s)) (r4 : rep S1 μ1 (OP 1 0) p0) (r5 : rep S1 μ1 (OP 2 0) p1) (r6 : rep S1 μ1 (OP 3 0) p2)
  (hR : z77 M [dD p0 p1 p2] (SL (l.map eA)) (OP 0 0) (OP 1 0) (OP 2 0) (OP 3 0) (tkH s) = some (TU [PN (noV e0 a0),OP 1 0,OP 2 0,OP 3 0],tkH u ++ Y)) :
  (zFO 4 dC).wp Tryd.prog (bodyPostD Tryd.prog Tryd.f5 (zns w S [] [] fun r H'=>r = zEs (St.zero,e0,a0) ∧ H' = [])) a2 w1 := by
 have key := z3e (n := 4) (M := M) MIX (z8T M) z1g store_TakeR_h _ _ (Nat.le_refl _) hR
 refine wp_mono (key w1 S1 μ1 a2 hr1 hf2 hg1) ?_
 rintro e a3 w3 ⟨⟨H3,T3⟩,S3,μ3,hq3,hr3,hf3,hst3⟩
 rcases zh2 hq3 with ⟨_,h,_⟩|⟨v,rfl,h,hH⟩
 ·exfalso
  have h := congrArg List.length (zj6 h)
  try rw [List.length_cons] at h
  rw [zah] at h
  simp at h
 ·dsimp only at hr3 hf3 hst3 hH
  subst hH
  have h := zj6 h
  rw [zah] at h
  injection h with gu h
  injection h with g2 h
  injection h with g3 h
  injection h with g4 _
  injection gu with _ gu
  injection gu with gu
  injection gu with gu
  subst gu
  have hd : a3.defers = [dD p0 p1 p2] := hf3.nodef
  show Leaves Tryd.prog _ a3.tmps _ a3.defers (.panicking (pch (noV e0 a0))) w3
  rw [hd]
  have hle : HLe (tkH u ++ Y) (tkH u) := by
   have := HLe.take (tkH u ++ Y) 4
   rwa [List.take_left' (show (tkH u).length = 4 from rfl)] at this
  have hr3' := hr3.le hle (zrh u)
  have hcut : Step 4 w3 S3 μ3 (tkH u ++ Y) w3 S3 (μ3.take 4) (tkH u) := Le.step (s := ⟨tkH u ++ Y,[]⟩) (s' := ⟨tkH u,[]⟩) ⟨hle,zrh u,trivial⟩ (Nat.le_refl _) w3 S3 μ3
  have hst3' := hst3.trans hcut
  have hx := Step.toExt hr1 hst3'
  refine leaves_cons (f := 21) (args := #[p0,p1,p2]) (by simp) (zBw w3) ?_
  refine (znc p0 p1 p2 e0 a0 [] w3 (hg1.ext hst3.still) (R3 := ⟨1,z03,0,stC u⟩) hr3' zfG (r4.ext hx) (r5.ext hx) (r6.ext hx)).mono ?_
  rintro e u' w4 ⟨rfl,rfl,S4,μ4,hr4,hst4⟩
  show Leaves Tryd.prog _ a3.tmps _ [] (settle (.panicking [{ v := noV e0 a0,recovered := true }])) w4
  have hs : settle (.panicking [{ v := noV e0 a0,recovered := true }]) = .returning := rfl
  rw [hs]
  have hf3' : Fr S3 (μ3.take 4) ⟨80,[dD p0 p1 p2]⟩ [(4,OP 1 0),(5,OP 2 0),(6,OP 3 0)] a3 := by
   have := Le.fr (s := ⟨tkH u ++ Y,T3⟩) (s' := ⟨tkH u,[(4,OP 1 0),(5,OP 2 0),(6,OP 3 0)]⟩) ⟨hle,zrh u,g2.symm,rfl,g3.symm,rfl,g4.symm,rfl,trivial⟩ hf3
   exact this
  obtain ⟨y,r,hrun,hrep,rfl⟩ := z4f (P := Tryd.prog) (fn := Tryd.f5) (K := fun r=>r = TU [noT (.agg zS),noT (nA e0),noT (nA a0)]) rfl hr4 (hf3'.ext (Step.toExt hr3' hst4)) (z1Q (fun ds e=>e) (zDX zfG zik rfl rfl rfl))
  have hro := hrep.toRo hr4
  rw [zmA] at hro
  exact ⟨y,hrun,y,_,[],S4,[],rfl,⟨rfl,rfl⟩,hr4.le (H' := []) trivial rfl,hro.take (n := 0) zp3,((hst1.trans (hst3'.less (Nat.zero_le _))).trans (hst4.less (Nat.zero_le _))).trans zFy⟩
end
theorem zs5 {s : St} {l : List Edt} (h : s.t.Ok) (hi : zEb s.t = true → TInv s.t) (hx : ∀ x ∈ l,z3i (x.it 0)) (hl : l.length ≤ 34359738368) : ACp Tryd.prog GG 5 [stA s,SL (l.map eA)] (zEs (zek s l)) := by
 have hM : l.length < l.length + 1000001 := by omega
 generalize hMM : l.length + 1000001 = M at hM
 have hM2 : 1000000 < M := by omega
 cases hb : (zEB s && decide (s.ver ≠ 2147483647)) with
 |false =>
  have := z9L M _ _ [] (show z5O M [stA s,SL (l.map eA)] = _ from zmQ M s l hM2 h hb)
  unfold zek
  rw [if_pos hb]
  exact this
 |true =>
 have hb' := hb
 simp only [Bool.and_eq_true,decide_eq_true_eq] at hb'
 obtain ⟨h1,hv⟩ := hb'
 cases hk : z8s 0 l with
 |some b =>
  have := z9L M _ _ [] (show z5O M [stA s,SL (l.map eA)] = _ from znx M s l hM2 hM hl h h1 hv b hk)
  unfold zek
  rw [if_neg (by rw [hb];decide),hk]
  exact this
 |none =>
 have hmt : zEb s.t = true := by
  unfold zEB at h1
  simp only [Bool.and_eq_true] at h1
  exact h1.1.1.1.1.1.1
 have hvr : 0 ≤ s.ver ∧ s.ver < 2147483647 := by
  unfold zEB inB at h1
  simp only [Bool.and_eq_true,decide_eq_true_eq] at h1
  omega
 have hinv := hi hmt
 refine ⟨by kernel_rfl,fun w S μ vs hr hg hlen hvs=>?_⟩
 have hμ : μ = [] := List.eq_nil_of_length_eq_zero hr.len
 subst hμ
 refine calls_of_wp_defers Tryd.func5 (c := dC) rfl ?_
 rw [Tryd.ntmps5]
 have hfr := zwA (S := S) (μ := []) (N := 80) (args := [stA s,SL (l.map eA)]) (vs := vs) hlen (by simp) hvs
 refine (wpIn_wide (n := 0)).1 (zii (n := 0) MIX (zdd M) 3 dC store_TakeA_h ⟨[],z2t 0 [stA s,SL (l.map eA)]⟩ (by kernel_rfl) (zx3 M s l hM2 hM hl h h1 hv hk) hr hfr hg ?_ (Nat.le_refl _))
 rintro a w1 ⟨S1,μ1,_,hr1,hf1,hg1,hst1⟩
 refine wpIn_wide.2 ?_
 have ec : zFO 3 dC = .seq (cdL (zFO 3 dC)) (zFO 4 dC) := by kernel_rfl
 rw [ec]
 refine wp_seq (dB (p0 := a.eval (.tmp 4)) (p1 := a.eval (.tmp 5)) (p2 := a.eval (.tmp 6)) rfl rfl rfl hf1.nodef hf1.size fun v=>?_)
 have sz : a.tmps.size = 80 := hf1.size
 have r4 : rep S1 μ1 (OP 1 0) (a.tmps.getD 4 undef) := hf1.slot 4
 have r5 : rep S1 μ1 (OP 2 0) (a.tmps.getD 5 undef) := hf1.slot 5
 have r6 : rep S1 μ1 (OP 3 0) (a.tmps.getD 6 undef) := hf1.slot 6
 have hput := hf1.put (some 40) (fun i e=>by cases e;decide) (v := .nil) (u := v) trivial
 generalize hp0 : a.eval (.tmp 4) = p0
 generalize hp1 : a.eval (.tmp 5) = p1
 generalize hp2 : a.eval (.tmp 6) = p2
 have e4 : a.tmps.getD 4 undef = p0 := hp0
 have e5 : a.tmps.getD 5 undef = p1 := hp1
 have e6 : a.tmps.getD 6 undef = p2 := hp2
 rw [e4] at r4
 rw [e5] at r5
 rw [e6] at r6
 show (zFO 4 dC).wp Tryd.prog _ _ w1
 have hf2 : Fr S1 μ1 ⟨80,[dD p0 p1 p2]⟩ [(1,SL (l.map eA)),(2,OP 0 0),(4,OP 1 0),(5,OP 2 0),(6,OP 3 0)] { (a.put (some 40) v) with defers := [dD p0 p1 p2] } := by
  have := hput.some (T' := [(1,SL (l.map eA)),(2,OP 0 0),(4,OP 1 0),(5,OP 2 0),(6,OP 3 0)]) (by simp [_root_.Go.Proofs.YtaplemeamcgpkaaDoor.get,ASt.set,zDl])
  exact ⟨this.size,rfl,this.slot⟩
 have hR := zu6 M [dD p0 p1 p2] s l hM hl hinv hx hvr.1 hvr.2
 unfold zek
 rw [if_neg (by rw [hb];decide),hk]
 dsimp only
 unfold zCK at hR
 by_cases he : (z97 (s.ver + 1) 0 l s.t).2.1 = 0
 ·rw [if_pos he] at hR ⊢
  cases hq : zpe s (z97 (s.ver + 1) 0 l s.t).1 with
  |true =>
   rw [hq,if_pos rfl] at hR
   rw [if_pos rfl]
   exact zkm (Y := []) hr1 hf2 hg1 hst1 r4 r5 r6 (by rw [List.append_nil];exact hR)
  |false =>
   rw [hq,if_neg (by decide)] at hR
   rw [if_neg (by decide)]
   exact zvr hr1 hf2 hg1 hst1 hR
 ·rw [if_neg he] at hR ⊢
  exact zkm hr1 hf2 hg1 hst1 r4 r5 r6 hR
end Go.Proofs.YtaplemeamcgpkaaDoor

namespace Go.Proofs.YtaplemeamcgpkaaDoor
open Go.RowKit
def z4H : Code := (Tryd.f53.body).getD .skip
def z4v : Hint := (.two .n (.two (.two .n (.two (.two .n .n) .n)) (.two .n .n)))
def z7p (m : Nat) : Env := []
abbrev z7n : KO (AV × List AObj) := z69 Tryd.prog [.tmp 2]
def z3q (m : Nat) (t0 : AV) : RO := zF9 Tryd.prog GG (z7p m) m ⟨8,[]⟩ z4H z4v ⟨[],z2t 0 [t0]⟩ (z7n)
theorem z7T (m : Nat) (t0 : AV) : z3q m t0 =
 zED none false true .eql t0 (V (.slice none 0 0)) fun t4 =>
 z0U t4 (
  z4l [] (ro [] (V (.slice none 0 0)))) (
  z3z (some (z2j,5)) 0 [] fun t5 =>
  zF4 (some (z2j,5)) [] t5 t0 fun t7 H1 =>
  z4l H1 (ro H1 t7)) := by
 refine (zhg _ _ _ _ _ _ _ _ _).trans ?_
 kernel_rfl
def z4B (m : Nat) : List AV → RO|[t0]=>z3q m t0|_=>none
theorem z83 (m : Nat) : ∀ args X H',z4B m args = some (X,H') → ACp Tryd.prog GG 53 args X := by
 intro args X H' h
 unfold z4B at h
 split at h
 ·exact z2A MIX (by intro f e h;cases h) (f := 53) (c := z4H) Tryd.func53 rfl (by kernel_rfl) _ rfl Tryd.ntmps53 (Nat.le_of_ble_eq_true rfl) z4v h
 ·cases h
end Go.Proofs.YtaplemeamcgpkaaDoor

