/-
  Texts laid together, part 8 of 8: laws of a walk over data, contracts of functions, each whole by itself.
-/
import Derived.Test.YtaaogcnjfkgnoaaMgg
import Derived.Test.YtaaogcnjfkgnoaaMgc
import Derived.Test.YtaaogcnjfkgnoaaMgf
set_option maxRecDepth 100000
noncomputable section
set_option linter.unusedVariables false
set_option linter.unusedSimpArgs false
section
namespace Go.Proofs.Ytaaogcnjfkgnoaa
attribute [local go_sem] Nat.zero_add Nat.add_zero Nat.mul_one Int.toNat_natCast Int.natCast_zero Int.cast_ofNat_Int or_false false_or or_true true_or Nat.sub_zero Int.natCast_nonneg Int.toNat_zero Bool.true_and Bool.and_true Bool.false_and Bool.and_false Bool.true_or Bool.or_true Bool.false_or Bool.or_false Bool.not_true Bool.not_false Bool.not_not true_and and_true false_and and_false not_true_eq_false not_false_eq_true eq_self decide_true decide_false ne_eq implies_true forall_const true_implies false_implies Bool.true_eq_false Bool.false_eq_true List.map_cons List.map_nil List.all_cons List.all_nil List.length_cons List.length_nil List.length_map List.length_append List.nil_append List.cons_append List.set_cons_zero List.set_cons_succ List.set_nil List.drop_zero List.drop_succ_cons List.drop_nil List.take_zero List.take_succ_cons List.take_nil Option.map_some Option.map_none Option.isSome_some List.all_append List.all_map Function.comp_def decide_eq_true_eq Bool.and_eq_true beq_self_eq_true or_self and_self ite_true ite_false Nat.le_refl Bool.not_eq_true decide_not Bool.not_eq_true' decide_eq_false_iff_not Bool.not_eq_false Bool.or_eq_true if_true if_false ite_self zgt zgL zgT zgD zgN z5I z6x znr zim zl3 znw zj7 zut zii zw8 zoB znT zva zdk z9t zwp zd2 z9U zw5 zcG z9R zw2 ze0 z9K zwc zdv z9B ziK zd1 ziP zop zok zdz ziu zda zdw zfG zhD zo0 zoy zi3 ziH zoh ziC zwi ziG zvM znZ zoK zuK zcE z9s zw4 zdP z9q zvE zdh z9Q zhM z7f z58 zw1 zdI z9O zj8 zd3 zi7 zno zoe zdJ zic zdF zcX zfx zi8 zaD znN ziB zmB zoo ziO zvb ziX zvZ znv zon zv4 zdb z9S zwg zdZ z9X zun zd7 z9P zuX ze2 z9E zv6 zdn z9M zv5 zdS z9A zhP zdB zi9 znO zoa zcS ziS zcC zdx zgR zhQ zmH zot ziV zmt znC zhE zup zhJ zvO znS znV zvX zcP z9Z zvW zcR z9v zwk zcV z9p zwn zcY z9z zux zcD z9N zj1 z7s z5l zvA zdN z9o zoc z9w z7m zih zdG ziz zo7 znJ zdY zig zdH zde zhR zhX ztp znA zhN znx zou zhx zvj ziJ zuT zoz zox zuA zdO z9H zvp zd5 z9T ziM z6A z5a zuG zdl z9J zij zd4 zhL zoC znq zd8 zia zdu zcU zfe ziW zvn znX zif zog znG ziU zw7 zhz zv8 zny zow zvc zcH z9F zvm zcW z9L zuS zcJ z9I zvV zcF za0 zuH zdV z9C zvL zdR z9Y zik ziv znL zqn zMd zvo zuZ zvk zvS zvN zus zuJ zwA zwD zAL
attribute [local go_sem_proc] Nat.reduceAdd Nat.reduceSub Nat.reduceMul Nat.reduceLeDiff Nat.reduceLT Int.reduceEq Int.reduceNe Int.reduceLT Int.reduceLE Int.reduceAdd Int.reduceSub Int.reduceMul Int.reduceNeg Int.reduceToNat reduceCtorEq Nat.reduceEqDiff Nat.reduceBEq Nat.reduceGT
attribute [local go_sem_proc ↓] reduceIte
section
open Go.RowKit
set_option maxHeartbeats 4000000
attribute [local go_sem] zN3 zMM zpp zoA zat zi6 z7p z82 z6w w_0 zM0 zMt zLt zmd zm9 zan z39 z4N z65 z2g zbn Nat.le_add_right List.append_assoc
def zMi (l : List Int) : Bool := !l.all (inN 7)
theorem badL_iff {l : List Int} : zMi l = true ↔ ¬ ∀ p ∈ l,inN 7 p = true := by
 unfold zMi
 rw [← List.all_eq_true]
 cases l.all (inN 7) <;> simp
theorem zvP {l : List Int} {k : Nat} (hk : k < l.length) : zMi (l.take (k + 1)) = (zMi (l.take k) || !inN 7 l[k]) := by
 unfold zMi
 rw [List.take_succ_eq_append_getElem hk,List.all_append]
 simp
theorem zJq (m : Nat) (tx : List (List UInt8)) (bad : List Int) (sd : List Sd) (hm : 1000001 < m) (hbl : bad.length ≤ 9223372036854775807) :
  z8e m (.agg (scC tx bad sd)) = some (bA (zMi (bad.take 10)),[]) := by
 rw [zka]
 have hb : ∀ {K : AV → List AObj → RO},zN2 z1h [] (.agg (scC tx bad sd)) K = K (OP 0 0) [scX tx bad sd] := fun {K}=>by
  rfl
 have n0 : ∀ {K : AObj → RO},z2Q [scX tx bad sd] 0 K = K (scX tx bad sd) := fun {K}=>rfl
 rw [hb]
 refine z13 (m := m) (ι := {k : Nat // k ≤ (bad.take 10).length ∧ zMi ((bad.take 10).take k) = false}) (fun k=>⟨[scX tx bad sd],[(1,OP 0 0),(3,nA k.1)]⟩) (fun k=>(bad.take 10).length - k.1) (fun _=>some (bA (zMi (bad.take 10)),[])) ?_ ⟨0,Nat.zero_le _,rfl⟩ (by dsimp only;simp;omega)
 rintro kx hkx ⟨k,hk,hq⟩ kc hkc
 dsimp only at hkc ⊢
 rw [zgl]
 rw [List.length_take] at hk
 by_cases hc : k < (bad.take 10).length
 ·have hc' := hc
  rw [List.length_take] at hc'
  have h1 : k < bad.length := by omega
  have h1' : (k : Int) < (bad.length : Int) := by omega
  have h2 : (k : Int) < 10 := by omega
  have hw1 : IntKind.i64.wrap ((k : Int) + 1) = (k : Int) + 1 := z2s (by omega) (by omega)
  have he := zvP hc
  rw [hq,Bool.false_or,List.getElem_take] at he
  have hfull : inN 7 bad[k] = false → zMi (bad.take 10) = true := fun h=>by
   rw [badL_iff]
   intro hall
   have := hall _ (List.getElem_mem hc)
   rw [List.getElem_take,h] at this
   cases this
  by_cases h3 : bad[k] < 0
  ·have hin : inN 7 bad[k] = false := by unfold inN;simp;omega
   rw [hfull hin]
   simp (config := {maxSteps := 4000000,implicitDefEqProofs := false}) (disch := omega) only [go_sem,n0,z3V,zuy,h1,h1',h2,h3,hkx,z2j,z5E,z5u,z2i]
  ·have h3' : ¬ bad[k] < 0 := h3
   by_cases h4 : 6 < bad[k]
   ·have hin : inN 7 bad[k] = false := by unfold inN;simp;omega
    rw [hfull hin]
    simp (config := {maxSteps := 4000000,implicitDefEqProofs := false}) (disch := omega) only [go_sem,n0,z3V,zuy,h1,h1',h2,h3,h4,hkx,z2j,z5E,z5u,z2i]
   ·have hin : inN 7 bad[k] = true := by unfold inN;simp;omega
    have step := hkc ⟨k + 1,by rw [List.length_take];omega,by rw [he,hin];rfl⟩ (by dsimp only;omega)
    dsimp only at step
    simp (config := {maxSteps := 4000000,implicitDefEqProofs := false}) (disch := omega) only [go_sem,n0,z3V,zuy,h1,h1',h2,h3,h4,hkx,hw1,z2j,z5E,z5u,zgn,z2i]
    exact step
 ·have hk2 : k = (bad.take 10).length := by rw [List.length_take] at hc ⊢;omega
  rw [hk2,List.take_length] at hq
  rw [hq]
  by_cases h1 : k < bad.length
  ·have h1' : (k : Int) < (bad.length : Int) := by omega
   have h2 : ¬ (k : Int) < 10 := by rw [List.length_take] at hk2;omega
   simp (config := {maxSteps := 4000000,implicitDefEqProofs := false}) (disch := omega) only [go_sem,n0,z3V,zuy,h1',h2,hkx,z2j,z2i]
  ·have h1' : ¬ (k : Int) < (bad.length : Int) := by omega
   simp (config := {maxSteps := 4000000,implicitDefEqProofs := false}) (disch := omega) only [go_sem,n0,z3V,zuy,h1',hkx,z2j,z2i]
end

section
open Go.RowKit
set_option maxHeartbeats 4000000
attribute [local go_sem] zN3 zMM zpp zoA zat zi6 z7p z82 z6w w_0 zM0 zMt zLt zmd zm9 zan z39 z4N z65 z2g zbn Nat.le_add_right List.append_assoc
def cA : Ch := ⟨0,1,0,0,[],[]⟩
def sA1 : Sm := ⟨0,6,1,0,1⟩
def σA (T : List (List UInt8)) (R : List Sm) : Sg := ⟨T,4,bdL [],R⟩
theorem zFg {n : Nat} : ltO n ⟨1,z00,0,[nA 0,nA 1,nA 0,nA 0,V (.slice none 0 0),V (.slice none 0 0)]⟩ = true := _root_.id rfl
theorem zIb : cgB cA = true := by decide
theorem awe1 : chF [] [] cA 4 = (false,[z2k cA]) := by
 unfold chF
 have e : csF [] 4 cA.st cA.vw [] cA.st cA.cs = (true,[]) := rfl
 rw [if_pos (by decide),e,if_pos rfl]
 rfl
theorem zCh : oqT [z2k cA] (z2k cA) = [z2k cA] := by unfold oqT;rw [if_pos (List.mem_singleton.2 rfl)]
theorem zEi : ofE [z2k cA] (z2k cA) = 0 := by unfold ofE;rw [if_pos (List.mem_singleton.2 rfl)]
theorem zHn : ofN [z2k cA] (z2k cA) = 1 := by
 unfold ofN zLs
 rw [if_pos (List.mem_singleton.2 rfl),if_pos (List.mem_singleton.2 rfl)]
 simp
theorem zBf : zMy [z2k cA] cA = sA1 := by
 unfold zMy
 rw [zHn]
 rfl
theorem awe2 : csS [z2k cA] cA = (sA1,0,[z2k cA]) := by
 unfold csS
 rw [if_pos zIb,zEi,if_pos rfl,zCh,zBf]
theorem awe3 {T : List (List UInt8)} : zLe (σA T []) 0 sA1 = [sA1] := by
 unfold zLe
 rw [if_pos ⟨rfl,by simp [σA],by simp [σA]⟩]
 rfl
theorem awe4 : chF [z2k cA] [sA1] cA 4 = (true,[z2k cA]) := by
 unfold chF
 have e : csF [sA1] 4 cA.st cA.vw [z2k cA] cA.st cA.cs = (true,[z2k cA]) := rfl
 rw [if_pos (by decide),e,if_pos rfl]
 show (decide (ofE [z2k cA] (z2k cA) = 0) && decide (zMy [z2k cA] cA ∈ [sA1]),oqT [z2k cA] (z2k cA)) = _
 rw [zEi,zBf,zCh]
 simp
theorem σA_ok {T : List (List UInt8)} {R : List Sm} (hT : T = [] ∨ T = [z2k cA]) (hR : R = [] ∨ R = [sA1]) : SgOk (σA T R) := by
 have he : (z2k cA).length ≤ 9223372036854775807 := Nat.le_trans (zb0 zIb) (by decide)
 refine ⟨?_,?_,?_,by show (1 : Int) ≤ 4;omega,by show (4 : Int) ≤ 64;omega,zz8,?_,?_,?_,?_⟩
 ·rcases hT with rfl|rfl <;> simp [σA]
 ·rcases hT with rfl|rfl <;> simp [σA]
 ·intro s hs;rcases hT with rfl|rfl <;> simp [σA] at hs;subst hs;exact he
 ·rcases hR with rfl|rfl <;> simp [σA]
 ·rcases hR with rfl|rfl <;> simp [σA]
 ·intro s hs;rcases hR with rfl|rfl <;> simp [σA] at hs;subst hs;exact zwm (by decide)
 ·intro s hs;rcases hR with rfl|rfl <;> simp [σA] at hs;subst hs;exact ⟨by decide,by show (0 : Int) < 4;omega⟩
theorem zEF (m : Nat) (hm : 1000001 < m) : z43 m = some (bA true,[]) := by
 have ht : zjV m [] = some (OP 1 0,[tmO [],ttO 0 [],trO []]) := zz2 m [] fun n _=>rfl
 have hr : zeM m (nA 4) (SL []) [tmO [],ttO 0 [],trO []] = some (TU [OP 4 0,nA 0],sc [] [] (σA [] [])) := zxf m [] [] 4 [] (by omega) (by omega) (by simp;omega) (by simp) (fun n _=>rfl) (fun p hp=>by simp at hp)
 have hG1 : GB [] [⟨1,z00,0,[nA 0,nA 1,nA 0,nA 0,V (.slice none 0 0),V (.slice none 0 0)]⟩] := fun n hn=>⟨rfl,by simp [zFg]⟩
 have hG2 : GB [] [⟨1,z00,0,[nA 0,nA 1,nA 0,nA 0,V (.slice none 0 0),V (.slice none 0 0)]⟩,⟨1,z01,0,smC sA1⟩] := fun n hn=>⟨rfl,by simp [zFg,z6w]⟩
 have h1 : z6m m (OP 4 0) (OP 1 0) (.agg [nA 0,nA 1,nA 0,nA 0,SL [],SL []]) (nA 4) (sc [] [] (σA [] []) ++ [⟨1,z00,0,[nA 0,nA 1,nA 0,nA 0,V (.slice none 0 0),V (.slice none 0 0)]⟩]) = some (bA false,sc [] [] (σA [z2k cA] []) ++ [⟨1,z00,0,[nA 0,nA 1,nA 0,nA 0,V (.slice none 0 0),V (.slice none 0 0)]⟩]) := by
  have := zoq m [] [⟨1,z00,0,[nA 0,nA 1,nA 0,nA 0,V (.slice none 0 0),V (.slice none 0 0)]⟩] (σA [] []) cA 4 hG1 (σA_ok (.inl rfl) (.inl rfl)) hm
  rw [show (σA [] []).T = [] from rfl,show (σA [] []).R = [] from rfl,awe1] at this
  exact this
 have h2 : z4b m (OP 1 0) (.agg [nA 0,nA 1,nA 0,nA 0,SL [],SL []]) (sc [] [] (σA [z2k cA] []) ++ [⟨1,z00,0,[nA 0,nA 1,nA 0,nA 0,V (.slice none 0 0),V (.slice none 0 0)]⟩]) = some (TU [.agg (smC sA1),nA 0],sc [] [] (σA [z2k cA] []) ++ [⟨1,z00,0,[nA 0,nA 1,nA 0,nA 0,V (.slice none 0 0),V (.slice none 0 0)]⟩]) := by
  have := zlx m [] [⟨1,z00,0,[nA 0,nA 1,nA 0,nA 0,V (.slice none 0 0),V (.slice none 0 0)]⟩] (σA [z2k cA] []) cA hG1 (σA_ok (.inr rfl) (.inl rfl)) hm
  rw [show (σA [z2k cA] []).T = [z2k cA] from rfl,awe2] at this
  exact this
 have h3 : ∃ x,z6n m (OP 4 0) (nA 0) (.agg (smC sA1)) (sc [] [] (σA [z2k cA] []) ++ [⟨1,z00,0,[nA 0,nA 1,nA 0,nA 0,V (.slice none 0 0),V (.slice none 0 0)]⟩,⟨1,z01,0,smC sA1⟩]) = some (nA x,sc [] [] (σA [z2k cA] [sA1]) ++ [⟨1,z00,0,[nA 0,nA 1,nA 0,nA 0,V (.slice none 0 0),V (.slice none 0 0)]⟩,⟨1,z01,0,smC sA1⟩]) := by
  have := zDw m [] [⟨1,z00,0,[nA 0,nA 1,nA 0,nA 0,V (.slice none 0 0),V (.slice none 0 0)]⟩,⟨1,z01,0,smC sA1⟩] (σA [z2k cA] []) 0 sA1 hG2 (σA_ok (.inr rfl) (.inl rfl)) (zwm (by decide))
  rw [awe3] at this
  exact ⟨_,this⟩
 obtain ⟨x3,h3⟩ := h3
 have h4 : z6m m (OP 4 0) (OP 1 0) (.agg [nA 0,nA 1,nA 0,nA 0,SL [],SL []]) (nA 4) (sc [] [] (σA [z2k cA] [sA1]) ++ [⟨1,z00,0,[nA 0,nA 1,nA 0,nA 0,V (.slice none 0 0),V (.slice none 0 0)]⟩,⟨1,z01,0,smC sA1⟩]) = some (bA true,sc [] [] (σA [z2k cA] [sA1]) ++ [⟨1,z00,0,[nA 0,nA 1,nA 0,nA 0,V (.slice none 0 0),V (.slice none 0 0)]⟩,⟨1,z01,0,smC sA1⟩]) := by
  have := zoq m [] [⟨1,z00,0,[nA 0,nA 1,nA 0,nA 0,V (.slice none 0 0),V (.slice none 0 0)]⟩,⟨1,z01,0,smC sA1⟩] (σA [z2k cA] [sA1]) cA 4 hG2 (σA_ok (.inr rfl) (.inr rfl)) hm
  rw [show (σA [z2k cA] [sA1]).T = [z2k cA] from rfl,show (σA [z2k cA] [sA1]).R = [sA1] from rfl,awe4] at this
  exact this
 have hsc : z09 zc_api_Change 0 [nA 0,nA 1,nA 0,nA 0,V (.slice none 0 0),V (.slice none 0 0)] = [nA 0,nA 1,nA 0,nA 0,V (.slice none 0 0),V (.slice none 0 0)] := rfl
 have hss : z09 zc_api_Stmt 0 (smC sA1) = smC sA1 := rfl
 have hlt := fun {T R}=>zkx (A := []) (B := []) (fun n hn=>⟨rfl,rfl⟩) (σ := σA T R) (n := nAB [] [] + 2) (by omega)
 have hk : sA1.kd = 6 := rfl
 have h5 : z69 m (OP 4 0) (OP 1 0) (.agg [nA 7,nA 0,nA 1,nA 0,nA 0,V (.string ⟨#[]⟩),SL [],SL []]) (nA 4) (sc [] [] (σA [z2k cA] [sA1]) ++ [⟨1,z00,0,[nA 0,nA 1,nA 0,nA 0,V (.slice none 0 0),V (.slice none 0 0)]⟩,⟨1,z01,0,smC sA1⟩]) = some (TU [SL [],nA 21],sc [] [] (σA [z2k cA] [sA1]) ++ [⟨1,z00,0,[nA 0,nA 1,nA 0,nA 0,V (.slice none 0 0),V (.slice none 0 0)]⟩,⟨1,z01,0,smC sA1⟩]) := by
  have hf := zh6 m 4
  have hp := znW m 1 4 (by omega) (by omega)
  rw [show okN 4 = true from rfl,if_pos rfl] at hf
  rw [show (if (4 : Int) < 1 then 0 else 1 % 4) = (1 : Int) from rfl] at hp
  rw [zgP]
  simp (config := {maxSteps := 4000000,implicitDefEqProofs := false}) (disch := omega) only [go_sem,hf,hp,hlt,zFg,z3E]
 have bC : ∀ {K : AV → RO},z1F (some zkv) (some zc_api_Change) [(1,nA 1)] K = K (.agg [nA 0,nA 1,nA 0,nA 0,V (.slice none 0 0),V (.slice none 0 0)]) := fun {K}=>rfl
 have bM : ∀ {K : AV → RO},z1F (some zp1) (some zc_api_Msg) [(0,nA 7),(2,nA 1)] K = K (.agg [nA 7,nA 0,nA 1,nA 0,nA 0,V (.string ⟨#[]⟩),V (.slice none 0 0),V (.slice none 0 0)]) := fun {K}=>rfl
 rw [zh3,ht,zu3]
 simp (config := {maxSteps := 4000000,implicitDefEqProofs := false}) (disch := omega) only [go_sem,hsc,hss,zLM,hr,h1,h2,h3,h4,h5,bC,bM,hk,zGp,hlt,zeG,zeH]
end

section
open Go.RowKit
set_option maxHeartbeats 4000000
attribute [local go_sem] zN3 zMM zpp zoA zat zi6 z7p z82 z6w w_0 zM0 zMt zLt zmd zm9 zan z39 z4N z65 z2g zbn Nat.le_add_right List.append_assoc
section
variable {R : Type} {a b x : AObj} {σ : Sg} {ω : Wg} {K : AObj → Option R} {Y : List AObj}
theorem q_0 : z2Q (hS [a,b,x] σ ω) 0 K = K a := _root_.id rfl
theorem q_1 : z2Q (hS [a,b,x] σ ω) 1 K = K b := _root_.id rfl
theorem q_9 : z2Q (hS [a,b,x] σ ω) 9 K = K (woO 9 ω) := _root_.id rfl
theorem q_Y0 : z2Q (hS [a,b,x] σ ω ++ Y) 0 K = K a := _root_.id rfl
theorem q_Y1 : z2Q (hS [a,b,x] σ ω ++ Y) 1 K = K b := _root_.id rfl
theorem q_Y9 : z2Q (hS [a,b,x] σ ω ++ Y) 9 K = K (woO 9 ω) := _root_.id rfl
theorem q_B0 : z2Q (hS [a,b,x] σ ω ++ Y) 11 K = z2Q Y 0 K := _root_.id rfl
theorem q_B1 : z2Q (hS [a,b,x] σ ω ++ Y) 12 K = z2Q Y 1 K := _root_.id rfl
theorem zKq {o : AObj} : (hS [a,b,x] σ ω ++ Y).set 11 o = hS [a,b,x] σ ω ++ Y.set 0 o := _root_.id rfl
theorem zK2 {o : AObj} : (hS [a,b,x] σ ω ++ Y).set 12 o = hS [a,b,x] σ ω ++ Y.set 1 o := _root_.id rfl
theorem zGx : (hS [a,b,x] σ ω).length = 11 := _root_.id rfl
end
section
variable (m : Nat) (a b x : AObj) (σ : Sg) (ω : Wg) (Y : List AObj) (hm : 1000001 < m) (hA : GA [a,b,x]) (hY : ∀ n,Y.all (ltO n) = true) (hσ : SgOk σ) (hω : WgOk ω)
theorem zBQ : hS [a,b,x] σ ω ++ Y = sc [a,b,x] ([woO 9 ω,trO ω.T] ++ Y) σ := by rw [z8H];rfl
theorem zF8 : hS [a,b,x] σ ω ++ Y = sw (zMw [a,b,x] σ) Y ω := by rw [show Y = [] ++ Y from rfl,zf6,← zKr];rfl
include hm hA hY hσ hω
theorem zGl : z4z m (OP 4 0) (hS [a,b,x] σ ω ++ Y) = some (nA σ.T.length,hS [a,b,x] σ ω ++ Y) := by
 have _ := hm
 have _ := hσ
 rw [zBQ]
 exact zzV m [a,b,x] _ σ ((hA.gb hω).app hY)
end
structure ScI (tx : List (List UInt8)) (bad : List Int) (sd : List Sd) : Prop where
 bl : bad.length ≤ 9223372036854775807
 tl : tx.length ≤ 9223372036854775807
 sl : sd.length ≤ 9223372036854775807
 t : ∀ x ∈ tx,x.length ≤ 9223372036854775807
 s : ∀ x ∈ sd,SmI (sdS x)
theorem zx7 {tx : List (List UInt8)} {bad : List Int} {sd : List Sd} : (scC tx bad sd).length = 3 := _root_.id rfl
theorem zt6 {tx : List (List UInt8)} {bad : List Int} {sd : List Sd} : (scC tx bad sd).take 3 = scC tx bad sd := _root_.id rfl
theorem zEU {H : List AObj} {tx : List (List UInt8)} {bad : List Int} {sd : List Sd} : (scC tx bad sd).map (ro1 H) = scC tx bad sd := _root_.id rfl
theorem zxh {n : Nat} {tx : List (List UInt8)} {bad : List Int} {sd : List Sd} : (scC tx bad sd).all (lt1 n) = true := _root_.id rfl
theorem scB {tx : List (List UInt8)} {bad : List Int} {sd : List Sd} {K : AV → List AObj → RO} : zN2 z1h [] (.agg (scC tx bad sd)) K = K (OP 0 0) [scX tx bad sd] := _root_.id rfl
theorem r_0 {tx : List (List UInt8)} {bad : List Int} {sd : List Sd} {b : AObj} {K : AObj → RO} : z2Q [scX tx bad sd,b] 0 K = K (scX tx bad sd) := _root_.id rfl
theorem r_1 {a b : AObj} {K : AObj → RO} : z2Q [a,b] 1 K = K b := _root_.id rfl
theorem zLy {b : AObj} {tx : List (List UInt8)} {bad : List Int} {sd : List Sd} (hb : ∀ n,ltO n b = true) : GA [scX tx bad sd,b] := fun n hn=>by simp [zAU,hb]
theorem GA_3 {b : AObj} {tx : List (List UInt8)} {bad bad' : List Int} {sd : List Sd} (hb : ∀ n,ltO n b = true) : GA [scX tx bad sd,b,scX tx bad' sd] := fun n hn=>by simp [zAU,hb]
theorem set2 (m : Nat) (b : AObj) (tx : List (List UInt8)) (bad : List Int) (sd : List Sd) (hm : 1000001 < m) (hb : ∀ n,ltO n b = true) (h : ScI tx bad sd) (ho : zMi (bad.take 10) = false) :
  z2r m (.agg (scC tx bad sd)) [scX tx bad sd,b] = some (TU [OP 4 0,OP 7 0,OP 9 0,bA true],hS [scX tx bad sd,b,scX tx (bad.take 10) sd] (scn (bad.take 10) tx sd).1 (scn (bad.take 10) tx sd).2) := by
 refine zJo m [scX tx bad sd,b] tx bad sd hm (zLy hb) h.bl h.tl h.sl h.t h.s ?_
 refine Classical.byContradiction fun q=>?_
 rw [badL_iff.2 q] at ho
 cases ho
theorem zD0 (m : Nat) (b : AObj) (tx : List (List UInt8)) (bad : List Int) (sd : List Sd) (hm : 1000001 < m) (hb : ∀ n,ltO n b = true) (h : ScI tx bad sd) (ho : zMi (bad.take 10) = true) :
 ∃ bd,z2r m (.agg (scC tx bad sd)) [scX tx bad sd,b] = some (TU [V (.pointer none),V (.pointer none),V (.pointer none),bA false],hS [scX tx bad sd,b,scX tx (bad.take 10) sd] (⟨[],7,bd,[]⟩ : Sg) (zNq (bad.take 10)).2) := zFH m [scX tx bad sd,b] tx bad sd hm (zLy hb) h.bl h.tl h.sl h.t h.s (badL_iff.1 ho)
theorem zCB {tx : List (List UInt8)} {bad : List Int} {sd : List Sd} (h : ScI tx bad sd) (ho : zMi (bad.take 10) = false) : Scn (scn (bad.take 10) tx sd).1 (scn (bad.take 10) tx sd).2 := by
 refine zGj ?_ (by simp;omega) h.t h.s
 refine Classical.byContradiction fun q=>?_
 rw [badL_iff.2 q] at ho
 cases ho
end

section
open Go.RowKit
def OpSm (x : Sm) : Prop := (-9223372036854775808 ≤ x.fr ∧ x.fr < 9223372036854775808) ∧ (-9223372036854775808 ≤ x.kd ∧ x.kd < 9223372036854775808) ∧ (-9223372036854775808 ≤ x.vw ∧ x.vw < 9223372036854775808) ∧ (-9223372036854775808 ≤ x.sq ∧ x.sq < 9223372036854775808) ∧ (-9223372036854775808 ≤ x.tm ∧ x.tm < 9223372036854775808)
theorem zDZ {n : Nat} {ds : List AV} (h : ofT Try.prog n 41 ds) : ∃ x : Sm,ds = smC x ∧ OpSm x := by
 obtain ⟨m,a0,b0,rfl,h0,a1,b1,rfl,h1,a2,b2,rfl,h2,a3,b3,rfl,h3,a4,b4,rfl,h4,rfl⟩ := zc9 Try.underlying41 h
 obtain ⟨x0,rfl,q0⟩ := z6q Try.underlying3 h0
 obtain ⟨x1,rfl,q1⟩ := z6q Try.underlying3 h1
 obtain ⟨x2,rfl,q2⟩ := z6q Try.underlying3 h2
 obtain ⟨x3,rfl,q3⟩ := z6q Try.underlying3 h3
 obtain ⟨x4,rfl,q4⟩ := z6q Try.underlying3 h4
 exact ⟨⟨x0,x1,x2,x3,x4⟩,rfl,q0,q1,q2,q3,q4⟩
theorem ztZ {n : Nat} {ds : List AV} (h : ofT Try.prog n 27 ds) : ∃ l : List Sm,ds = [SL (l.map smE)] ∧ l.length ≤ 9223372036854775807 ∧ ∀ x ∈ l,OpSm x := by
 obtain ⟨m,es,rfl,hl,he⟩ := zfR Try.underlying27 h
 obtain ⟨l,rfl,hi⟩ := zme (f := smE) (Q := OpSm) fun x hx=>by
  obtain ⟨q1,q2⟩ := he x hx
  obtain ⟨y,hy,hi⟩ := zDZ q1
  exact ⟨y,by rw [zla (q2.trans (by kernel_rfl)),hy];rfl,hi⟩
 exact ⟨l,rfl,by rw [List.length_map] at hl;exact hl,hi⟩
def zMv (x : Ce) : Prop := (-9223372036854775808 ≤ x.sq ∧ x.sq < 9223372036854775808) ∧ (-9223372036854775808 ≤ x.vw ∧ x.vw < 9223372036854775808) ∧ (-9223372036854775808 ≤ x.tm ∧ x.tm < 9223372036854775808) ∧ x.body.length ≤ 9223372036854775807 ∧ x.vs.length ≤ 9223372036854775807 ∧ (∀ y ∈ x.vs,OpSm y)
theorem zFr {n : Nat} {ds : List AV} (h : ofT Try.prog n 54 ds) : ∃ x : Ce,ds = ceC x ∧ zMv x := by
 obtain ⟨m,a0,b0,rfl,h0,a1,b1,rfl,h1,a2,b2,rfl,h2,a3,b3,rfl,h3,a4,b4,rfl,h4,rfl⟩ := zc9 Try.underlying54 h
 obtain ⟨x0,rfl,q0⟩ := z6q Try.underlying3 h0
 obtain ⟨x1,rfl,q1⟩ := z6q Try.underlying3 h1
 obtain ⟨x2,rfl,q2⟩ := z6q Try.underlying3 h2
 obtain ⟨x3,rfl,q3⟩ := zsE Try.underlying9 h3
 obtain ⟨x4,rfl,q4,r4⟩ := ztZ h4
 exact ⟨⟨x0,x1,x2,x3,x4⟩,rfl,q0,q1,q2,q3,q4,r4⟩
theorem zEH {n : Nat} {ds : List AV} (h : ofT Try.prog n 28 ds) : ∃ l : List Ce,ds = [SL (l.map ceE)] ∧ l.length ≤ 9223372036854775807 ∧ ∀ x ∈ l,zMv x := by
 obtain ⟨m,es,rfl,hl,he⟩ := zfR Try.underlying28 h
 obtain ⟨l,rfl,hi⟩ := zme (f := ceE) (Q := zMv) fun x hx=>by
  obtain ⟨q1,q2⟩ := he x hx
  obtain ⟨y,hy,hi⟩ := zFr q1
  exact ⟨y,by rw [zla (q2.trans (by kernel_rfl)),hy];rfl,hi⟩
 exact ⟨l,rfl,by rw [List.length_map] at hl;exact hl,hi⟩
def OpCh (x : Ch) : Prop := (-9223372036854775808 ≤ x.fr ∧ x.fr < 9223372036854775808) ∧ (-9223372036854775808 ≤ x.vw ∧ x.vw < 9223372036854775808) ∧ (-9223372036854775808 ≤ x.st ∧ x.st < 9223372036854775808) ∧ (-9223372036854775808 ≤ x.rt ∧ x.rt < 9223372036854775808) ∧ x.pf.length ≤ 9223372036854775807 ∧ (∀ y ∈ x.pf,OpSm y) ∧ x.cs.length ≤ 9223372036854775807 ∧ (∀ y ∈ x.cs,zMv y)
theorem zHU {n : Nat} {ds : List AV} (h : ofT Try.prog n 30 ds) : ∃ x : Ch,ds = cgC x ∧ OpCh x := by
 obtain ⟨m,a0,b0,rfl,h0,a1,b1,rfl,h1,a2,b2,rfl,h2,a3,b3,rfl,h3,a4,b4,rfl,h4,a5,b5,rfl,h5,rfl⟩ := zc9 Try.underlying30 h
 obtain ⟨x0,rfl,q0⟩ := z6q Try.underlying3 h0
 obtain ⟨x1,rfl,q1⟩ := z6q Try.underlying3 h1
 obtain ⟨x2,rfl,q2⟩ := z6q Try.underlying3 h2
 obtain ⟨x3,rfl,q3⟩ := z6q Try.underlying3 h3
 obtain ⟨x4,rfl,q4,r4⟩ := ztZ h4
 obtain ⟨x5,rfl,q5,r5⟩ := zEH h5
 exact ⟨⟨x0,x1,x2,x3,x4,x5⟩,rfl,q0,q1,q2,q3,q4,r4,q5,r5⟩
theorem zEM {n : Nat} {ds : List AV} (h : ofT Try.prog n 63 ds) : ∃ l : List Ch,ds = [SL (l.map cgE)] ∧ l.length ≤ 9223372036854775807 ∧ ∀ x ∈ l,OpCh x := by
 obtain ⟨m,es,rfl,hl,he⟩ := zfR Try.underlying63 h
 obtain ⟨l,rfl,hi⟩ := zme (f := cgE) (Q := OpCh) fun x hx=>by
  obtain ⟨q1,q2⟩ := he x hx
  obtain ⟨y,hy,hi⟩ := zHU q1
  exact ⟨y,by rw [zla (q2.trans (by kernel_rfl)),hy];rfl,hi⟩
 exact ⟨l,rfl,by rw [List.length_map] at hl;exact hl,hi⟩
def OpMs (x : Ms) : Prop := (-9223372036854775808 ≤ x.kd ∧ x.kd < 9223372036854775808) ∧ (-9223372036854775808 ≤ x.fr ∧ x.fr < 9223372036854775808) ∧ (-9223372036854775808 ≤ x.vw ∧ x.vw < 9223372036854775808) ∧ (-9223372036854775808 ≤ x.sq ∧ x.sq < 9223372036854775808) ∧ (-9223372036854775808 ≤ x.tm ∧ x.tm < 9223372036854775808) ∧ x.body.length ≤ 9223372036854775807 ∧ x.vs.length ≤ 9223372036854775807 ∧ (∀ y ∈ x.vs,OpSm y) ∧ x.chs.length ≤ 9223372036854775807 ∧ (∀ y ∈ x.chs,OpCh y)
theorem zHd {n : Nat} {ds : List AV} (h : ofT Try.prog n 65 ds) : ∃ x : Ms,ds = msC x ∧ OpMs x := by
 obtain ⟨m,a0,b0,rfl,h0,a1,b1,rfl,h1,a2,b2,rfl,h2,a3,b3,rfl,h3,a4,b4,rfl,h4,a5,b5,rfl,h5,a6,b6,rfl,h6,a7,b7,rfl,h7,rfl⟩ := zc9 Try.underlying65 h
 obtain ⟨x0,rfl,q0⟩ := z6q Try.underlying3 h0
 obtain ⟨x1,rfl,q1⟩ := z6q Try.underlying3 h1
 obtain ⟨x2,rfl,q2⟩ := z6q Try.underlying3 h2
 obtain ⟨x3,rfl,q3⟩ := z6q Try.underlying3 h3
 obtain ⟨x4,rfl,q4⟩ := z6q Try.underlying3 h4
 obtain ⟨x5,rfl,q5⟩ := zsE Try.underlying9 h5
 obtain ⟨x6,rfl,q6,r6⟩ := ztZ h6
 obtain ⟨x7,rfl,q7,r7⟩ := zEM h7
 exact ⟨⟨x0,x1,x2,x3,x4,x5,x6,x7⟩,rfl,q0,q1,q2,q3,q4,q5,q6,r6,q7,r7⟩
theorem zGB {W : World} {v : Value} (h : Arg Try.prog W 65 v) : ∃ x : Ms,OpMs x ∧ rep (SW W) [] (msE x) v := by
 obtain ⟨n,ds,h1,h2⟩ := h
 obtain ⟨t,rfl,ht⟩ := zHd h1
 rw [zwX (by kernel_rfl)] at h2
 exact ⟨t,ht,h2⟩
theorem OpCh.big {x : Ch} (h : OpCh x) : zMX x := ⟨h.2.2.2.2.1,h.2.2.2.2.2.2.1,fun y hy=>⟨(h.2.2.2.2.2.2.2 y hy).2.2.2.1,(h.2.2.2.2.2.2.2 y hy).2.2.2.2.1⟩⟩
theorem OpMs.big {x : Ms} (h : OpMs x) : zLA x := ⟨h.2.2.2.2.2.1,h.2.2.2.2.2.2.1,h.2.2.2.2.2.2.2.2.1,fun y hy=>(h.2.2.2.2.2.2.2.2.2 y hy).big⟩
theorem zqz {i : Int} (h : -9223372036854775808 ≤ i ∧ i < 9223372036854775808) : I64 i := ⟨h.1,by omega⟩
theorem OpSm.i {x : Sm} (h : OpSm x) : SmI x := ⟨zqz h.1,zqz h.2.1,zqz h.2.2.1,zqz h.2.2.2.1,zqz h.2.2.2.2⟩
theorem zFs {n : Nat} {ds : List AV} (h : ofT Try.prog n 51 ds) : ∃ x : Sd,ds = sdC x ∧ SmI (sdS x) := by
 obtain ⟨m,a0,b0,rfl,h0,a1,b1,rfl,h1,rfl⟩ := zc9 Try.underlying51 h
 obtain ⟨x0,rfl,q0⟩ := z6q Try.underlying3 h0
 obtain ⟨x1,rfl,q1⟩ := zDZ h1
 exact ⟨⟨x0,x1.fr,x1.kd,x1.vw,x1.sq,x1.tm⟩,rfl,q1.i⟩
theorem zuQ {W : World} {v : Value} (h : Arg Try.prog W 26 v) : ∃ tx bad sd,ScI tx bad sd ∧ rep (SW W) [] (.agg (scC tx bad sd)) v := by
 obtain ⟨n,ds,h1,h2⟩ := h
 obtain ⟨m,a0,b0,rfl,h0,a1,b1,rfl,h3,a2,b2,rfl,h4,rfl⟩ := zc9 Try.underlying26 h1
 obtain ⟨m0,es0,rfl,hl0,he0⟩ := zfR Try.underlying22 h0
 obtain ⟨tx,rfl,ht⟩ := zme (f := sA) (Q := fun s : List UInt8=>s.length ≤ 9223372036854775807) fun x hx=>by
  obtain ⟨q1,q2⟩ := he0 x hx
  obtain ⟨s,hs,hi⟩ := zsE Try.underlying9 q1
  exact ⟨s,zpI hs (q2.trans (by kernel_rfl)),hi⟩
 obtain ⟨m1,es1,rfl,hl1,he1⟩ := zfR Try.underlying23 h3
 obtain ⟨bad,rfl,hb⟩ := zme (f := nA) (Q := fun _ : Int=>True) fun x hx=>by
  obtain ⟨q1,q2⟩ := he1 x hx
  obtain ⟨i,hi,_⟩ := z6q Try.underlying3 q1
  exact ⟨i,zpI hi (q2.trans (by kernel_rfl)),trivial⟩
 obtain ⟨m2,es2,rfl,hl2,he2⟩ := zfR Try.underlying24 h4
 obtain ⟨sd,rfl,hs⟩ := zme (f := sdE) (Q := fun x : Sd=>SmI (sdS x)) fun x hx=>by
  obtain ⟨q1,q2⟩ := he2 x hx
  obtain ⟨y,hy,hi⟩ := zFs q1
  exact ⟨y,by rw [zla (q2.trans (by kernel_rfl)),hy];rfl,hi⟩
 rw [zwX (by kernel_rfl)] at h2
 rw [List.length_map] at hl0 hl1 hl2
 exact ⟨tx,bad,sd,⟨hl1,hl0,hl2,ht,hs⟩,h2⟩
end

section
open Go.RowKit
set_option maxHeartbeats 4000000
attribute [local go_sem] zN3 zMM zpp zoA zat zi6 z7p z82 z6w w_0 zM0 zMt zLt zmd zm9 zan z39 z4N z65 z2g zbn Nat.le_add_right List.append_assoc
structure CeJ (c : Ce) : Prop where
 vw : I64 c.vw
 body : c.body.length ≤ 9223372036854775807
 vl : c.vs.length ≤ 9223372036854775807
 vs : ∀ x ∈ c.vs,SmI x
end

section
open Go.RowKit
set_option maxHeartbeats 4000000
attribute [local go_sem] zN3 zMM zpp zoA zat zi6 z7p z82 z6w w_0 zM0 zMt zLt zmd zm9 zan z39 z4N z65 z2g zbn Nat.le_add_right List.append_assoc
theorem zyZ {c : Ch} (h : cgB c = true) : (z2k c).length ≤ 9223372036854775807 := Nat.le_trans (zb0 h) (by decide)
theorem zDI {σ : Sg} {c : Ch} {n : Int} (h : SgOk σ) : SgOk { σ with T := (chF σ.T σ.R c n).2 } := by
 unfold chF
 split
 ·rename_i hc
  simp only [Bool.and_eq_true] at hc
  have hC := zsl hc.2.1
  have h3 := zyV (σ := σ) (n := n) (st := c.st) (vw := c.vw) c.cs σ.T c.st h fun x hx=>(hC.cs x hx).1
  split
  ·exact h3.of (zyZ hc.2.1)
  ·exact h3
 ·exact h
theorem zxm {ω : Wg} {c : Ch} {n : Int} (h : WgOk ω) : WgOk { ω with T := (chF ω.T ω.L c n).2 } := by
 unfold chF
 split
 ·have h3 := zxa (ω := ω) (n := n) (st := c.st) (vw := c.vw) c.cs ω.T c.st h
  split
  ·exact h3.of
  ·exact h3
 ·exact h
theorem zJl (c : Ch) : ChS (cgF c) := by
 refine ⟨?_,?_,fun y hy=>?_⟩
 ·show (c.pf.take 66).length ≤ _
  simp;omega
 ·show ((c.cs.take 66).map ceF).length ≤ _
  simp;omega
 ·obtain ⟨z,_,rfl⟩ := List.mem_map.1 hy
  show (z.vs.take 66).length ≤ _
  simp;omega
end

section
open Go.RowKit
set_option maxHeartbeats 4000000
attribute [local go_sem] zN3 zMM zpp zoA zat zi6 z7p z82 z6w w_0 zM0 zMt zLt zmd zm9 zan z39 z4N z65 z2g zbn Nat.le_add_right List.append_assoc
end

section
open Go.RowKit
set_option maxHeartbeats 4000000
attribute [local go_sem] zN3 zMM zpp zoA zat zi6 z7p z82 z6w w_0 zM0 zMt zLt zmd zm9 zan z39 z4N z65 z2g zbn Nat.le_add_right List.append_assoc
end

section
open Go.RowKit
set_option maxHeartbeats 4000000
attribute [local go_sem] zN3 zMM zpp zoA zat zi6 z7p z82 z6w w_0 zM0 zMt zLt zmd zm9 zan z39 z4N z65 z2g zbn Nat.le_add_right List.append_assoc
end

section
open Go.RowKit
set_option maxHeartbeats 4000000
attribute [local go_sem] zN3 zMM zpp zoA zat zi6 z7p z82 z6w w_0 zM0 zMt zLt zmd zm9 zan z39 z4N z65 z2g zbn Nat.le_add_right List.append_assoc
def zLz (l : List Ch) : List UInt8 := (l.map z2k).flatten
theorem zr3 {l : List Ch} {k : Nat} (h : k < l.length) : zLz (l.take (k + 1)) = zLz (l.take k) ++ z2k l[k] := by
 unfold zLz
 rw [List.take_succ_eq_append_getElem h,List.map_append,List.flatten_append]
 congr 1
 simp
theorem zqp {l : List Ch} (h : l.all cgB = true) : (zLz l).length ≤ 4500000 * l.length := by
 induction l with
 |nil=>simp [zLz]
 |cons x r ih =>
  rw [List.all_cons,Bool.and_eq_true] at h
  have h1 := ih h.2
  have h2 := zb0 h.1
  have e : zLz (x :: r) = z2k x ++ zLz r := by simp [zLz]
  rw [e,List.length_append,List.length_cons]
  omega
def zM2 (T : List (List UInt8)) (x : Ms) : Sm := ⟨x.fr,7,x.vw,0,ofN T (zLz x.chs)⟩
def nsS (T : List (List UInt8)) (x : Ms) : Sm × Int × List (List UInt8) :=
 if x.chs.all cgB = true then (if ofE T (zLz x.chs) = 0 then (zM2 T x,0,oqT T (zLz x.chs)) else (Sm.zero,5,oqT T (zLz x.chs))) else (Sm.zero,1,T)
theorem zI6 {R : Type} {a b c d : Int} {K : AV → Option R} : z1F (some z0G) (some zc_api_Stmt) [(0,nA a),(1,nA b),(2,nA c),(4,nA d)] K = K (.agg (smC ⟨a,b,c,0,d⟩)) := _root_.id rfl
theorem zjg {n : Nat} {x : Ms} : ltO n ⟨1,z0t,0,msC x⟩ = true := by
 show (msC x).all (ltA n) = true
 exact zmt
theorem zsS {l : List Ch} {k : Nat} (h : k < l.length) : (l.take (k + 1)).all cgB = ((l.take k).all cgB && cgB l[k]) := by
 rw [List.take_succ_eq_append_getElem h,List.all_append]
 simp
theorem zxe {l : List Ch} {k : Nat} (h : k < l.length) (hb : cgB l[k] = false) : l.all cgB = false := by
 cases q : l.all cgB with
 |false=>rfl
 |true =>
  have := List.all_eq_true.1 q _ (List.getElem_mem h)
  rw [hb] at this
  cases this
theorem vns_fin {n : Nat} {H : List AObj} {T : Tm} : z6K n .ret ⟨H,T⟩ = z04 7 H (get T 4) fun x=>z4f n H (ro H (TU [noT x,noT (get T 5)])) := by
 rw [← zwH,← zwH]
 kernel_rfl
theorem zpF (m : Nat) (A B : List AObj) (σ : Sg) (x : Ms) (hG : GB A B) (hσ : SgOk σ) (hm : 1000001 < m) (hl : x.chs.length ≤ 1000) :
  z89 m (OP (A.length + 1) 0) (msE x) (sc A B σ) = some (TU [smE (nsS σ.T x).1,nA (nsS σ.T x).2.1],sc A B { σ with T := (nsS σ.T x).2.2 }) := by
 rw [zmK,zmH]
 simp (config := {maxSteps := 4000000,implicitDefEqProofs := false}) (disch := omega) only [go_sem,zLM]
 refine z13 (m := m) (ι := {k : Nat // k ≤ x.chs.length ∧ (x.chs.take k).all cgB = true}) (fun k=>⟨sc A B σ ++ [⟨1,z0t,0,msC x⟩,⟨1,z01,0,smC Sm.zero⟩],[(0,OP (A.length + 1) 0),(3,OP (nAB A B) 0),(4,OP (nAB A B + 1) 0),(6,sA (zLz (x.chs.take k.1))),(13,SL (x.chs.map cgE)),(14,nA x.chs.length),(15,nA k.1)]⟩) (fun k=>x.chs.length - k.1) (fun _=>some (TU [smE (nsS σ.T x).1,nA (nsS σ.T x).2.1],sc A B { σ with T := (nsS σ.T x).2.2 })) ?_ ⟨0,Nat.zero_le _,rfl⟩ (by dsimp only;omega)
 rintro kx hkx ⟨k,hk,hall⟩ kc hkc
 dsimp only at hkc hk hall ⊢
 rw [zjn]
 have hlt := fun {σ : Sg}=>zkx hG (σ := σ) (Nat.le_refl _)
 have hlt2 := fun {σ : Sg}=>zkx hG (σ := σ) (n := nAB A B + 2) (by omega)
 have hB1 : A.length + 1 < nAB A B + 2 := by unfold nAB;omega
 have hlen := zqp hall
 by_cases h : k < x.chs.length
 ·have h' : (k : Int) < (x.chs.length : Int) := by omega
  have hw1 : IntKind.i64.wrap ((k : Int) + 1) = (k : Int) + 1 := z2s (by omega) (by omega)
  have hen := zdf m x.chs[k] (by omega)
  rw [zaD] at hen
  cases hB : cgB x.chs[k] with
  |false =>
   rw [hB,if_neg (by decide)] at hen
   have hns : nsS σ.T x = (Sm.zero,1,σ.T) := by
    unfold nsS
    rw [zxe h hB,if_neg (by decide)]
   rw [hns]
   simp (config := {maxSteps := 4000000,implicitDefEqProofs := false}) (disch := omega) only [go_sem,h,h',zLM,hen,zxT,hlt,hkx,z3r]
   refine vns_fin.trans ?_
   simp (config := {maxSteps := 4000000,implicitDefEqProofs := false}) (disch := omega) only [go_sem,zLM,hlt]
  |true =>
   rw [hB,if_pos rfl] at hen
   have hl1 := zb0 hB
   have hp := znK x.chs[k]
   have hp' : ¬ ((z2k x.chs[k]).length : Int) = 0 := by omega
   have hu := fun (K : AV → RO)=>zxH (K := K) (s := z2k x.chs[k]) (by omega)
   have step := hkc ⟨k + 1,by omega,by rw [zsS h,hall,hB];rfl⟩ (by dsimp only;omega)
   dsimp only at step
   rw [zr3 h] at step
   rw [List.length_take] at hlen
   have ha : (zLz (x.chs.take k)).length + (z2k x.chs[k]).length ≤ 9223372036854775807 := by omega
   generalize zLz (x.chs.take k) = t at *
   have ha' : ((t.length + (z2k x.chs[k]).length : Nat) : Int) ≤ 9223372036854775807 := by omega
   have hB2 : nAB A B + 1 < nAB A B + 2 := by omega
   simp (config := {maxSteps := 4000000,implicitDefEqProofs := false}) (disch := omega) only [go_sem,h,h',zLM,hen,hu,hp',ha,ha',hlt2,hB1,hB2,hw1,zjg,z3r]
   exact step
 ·obtain rfl : k = x.chs.length := by omega
  have h' : ¬ (x.chs.length : Int) < (x.chs.length : Int) := Int.lt_irrefl _
  rw [List.take_length] at hall hlen ⊢
  have ht := zEZ m A (B ++ [⟨1,z0t,0,msC x⟩,⟨1,z01,0,smC Sm.zero⟩]) σ (zLz x.chs) (hG.app fun n=>by simp [zjg,z6w]) hσ (by omega)
  rw [z8H,z8H] at ht
  unfold nsS
  rw [if_pos hall]
  by_cases h0 : ofE σ.T (zLz x.chs) = 0
  ·rw [if_pos h0,z6x]
   simp (config := {maxSteps := 4000000,implicitDefEqProofs := false}) (disch := omega) only [go_sem,h',hkx,zLM,ht,h0,zI6,hlt,zcc]
   rfl
  ·have h5 := zJ7 h0
   rw [if_neg h0,z6x]
   rw [h5] at ht
   simp (config := {maxSteps := 4000000,implicitDefEqProofs := false}) (disch := omega) only [go_sem,h',hkx,zLM,ht,zxT,hlt,zcc]
end

section
open Go.RowKit
set_option maxHeartbeats 4000000
attribute [local go_sem] zN3 zMM zpp zoA zat zi6 z7p z82 z6w w_0 zM0 zMt zLt zmd zm9 zan z39 z4N z65 z2g zbn Nat.le_add_right List.append_assoc
theorem wns_fin {n : Nat} {H : List AObj} {T : Tm} : z1o n .ret ⟨H,T⟩ = z04 7 H (get T 4) fun x=>z4f n H (ro H (TU [noT x,noT (get T 5)])) := by
 rw [← zwH,← zwH]
 kernel_rfl
theorem zpN (m : Nat) (A B : List AObj) (ω : Wg) (x : Ms) (hG : GW A B) (hω : WgOk ω) (hm : 1000001 < m) (hl : x.chs.length ≤ 1000) (hS : ∀ y ∈ x.chs,ChS y) :
  z12 m (OP A.length 0) (msE x) (sw A B ω) = some (TU [smE (nsS ω.T x).1,nA (nsS ω.T x).2.1],sw A B { ω with T := (nsS ω.T x).2.2 }) := by
 have htl := hω.tl
 rw [zab,zmH]
 simp (config := {maxSteps := 4000000,implicitDefEqProofs := false}) (disch := omega) only [go_sem,zLM]
 refine z13 (m := m) (ι := {k : Nat // k ≤ x.chs.length ∧ (x.chs.take k).all cgB = true}) (fun k=>⟨sw A B ω ++ [⟨1,z0t,0,msC x⟩,⟨1,z01,0,smC Sm.zero⟩],[(0,OP A.length 0),(3,OP (nSW A B) 0),(4,OP (nSW A B + 1) 0),(6,sA (zLz (x.chs.take k.1))),(7,nA k.1)]⟩) (fun k=>x.chs.length - k.1) (fun _=>some (TU [smE (nsS ω.T x).1,nA (nsS ω.T x).2.1],sw A B { ω with T := (nsS ω.T x).2.2 })) ?_ ⟨0,Nat.zero_le _,rfl⟩ (by dsimp only;omega)
 rintro kx hkx ⟨k,hk,hall⟩ kc hkc
 dsimp only at hkc hk hall ⊢
 rw [z8l]
 have hlt := fun {T : List (List UInt8)} (h : WgOk { ω with T := T })=>zmm hG h (Nat.le_refl _)
 have hlt0 := hlt hω
 have hlt2 := zmm hG hω (n := nSW A B + 2) (by omega)
 have hB1 : A.length < nSW A B + 2 := by unfold nSW;omega
 have hB2 : nSW A B + 1 < nSW A B + 2 := by omega
 have hB3 : nSW A B < nSW A B + 2 := by omega
 have hlen := zqp hall
 by_cases h : k < x.chs.length
 ·have h' : (k : Int) < (x.chs.length : Int) := by omega
  have hw1 : IntKind.i64.wrap ((k : Int) + 1) = (k : Int) + 1 := z2s (by omega) (by omega)
  have hch := zoj m x.chs[k] hm (hS _ (List.getElem_mem h))
  rw [zaD] at hch
  cases hB : cgB x.chs[k] with
  |false =>
   rw [hB] at hch
   have hns : nsS ω.T x = (Sm.zero,1,ω.T) := by
    unfold nsS
    rw [zxe h hB,if_neg (by decide)]
   rw [hns]
   simp (config := {maxSteps := 4000000,implicitDefEqProofs := false}) (disch := omega) only [go_sem,h,h',zLM,hch,zxT,hlt0,hkx]
   refine wns_fin.trans ?_
   simp (config := {maxSteps := 4000000,implicitDefEqProofs := false}) (disch := omega) only [go_sem,zLM,hlt0]
  |true =>
   rw [hB] at hch
   have hen := zgM m x.chs[k] hB (by omega)
   rw [zaD] at hen
   have hl1 := zb0 hB
   have step := hkc ⟨k + 1,by omega,by rw [zsS h,hall,hB];rfl⟩ (by dsimp only;omega)
   dsimp only at step
   rw [zr3 h] at step
   rw [List.length_take] at hlen
   generalize zLz (x.chs.take k) = t at *
   have ha' : ((t.length + (z2k x.chs[k]).length : Nat) : Int) ≤ 9223372036854775807 := by omega
   simp (config := {maxSteps := 4000000,implicitDefEqProofs := false}) (disch := omega) only [go_sem,h,h',zLM,hch,hen,ha',hlt2,hB1,hB2,hB3,hw1,zjg]
   exact step
 ·obtain rfl : k = x.chs.length := by omega
  have h' : ¬ (x.chs.length : Int) < (x.chs.length : Int) := Int.lt_irrefl _
  rw [List.take_length] at hall hlen ⊢
  have hω2 := hω.of (s := zLz x.chs)
  have hlt2 := hlt hω2
  have ht := zHQ m A (B ++ [⟨1,z0t,0,msC x⟩,⟨1,z01,0,smC Sm.zero⟩]) ω (zLz x.chs) (hG.app fun n=>by simp [zjg,z6w]) hω (by omega)
  rw [zf6,zf6] at ht
  unfold nsS
  rw [if_pos hall]
  by_cases h0 : ofE ω.T (zLz x.chs) = 0
  ·have h1 := ofE_N.1 h0
   have h1' : ¬ (ofN ω.T (zLz x.chs) : Int) = 0 := by omega
   rw [if_pos h0,z6x]
   simp (config := {maxSteps := 4000000,implicitDefEqProofs := false}) (disch := omega) only [go_sem,h',hkx,zLM,ht,h1',zI6,hlt2,z3J]
   rfl
  ·have h1 : ofN ω.T (zLz x.chs) = 0 := by
    refine Classical.byContradiction fun q=>h0 (ofE_N.2 q)
   have h1' : (ofN ω.T (zLz x.chs) : Int) = 0 := by omega
   rw [if_neg h0,z6x]
   rw [h1'] at ht
   simp (config := {maxSteps := 4000000,implicitDefEqProofs := false}) (disch := omega) only [go_sem,h',hkx,zLM,ht,zxT,hlt2,z3J]
end

section
open Go.RowKit
structure CeRef (st : Int) (cs : List Ce) (j : Nat) (x : Ce) : Prop where
 lo : st < x.sq
 hi : x.sq ≤ st + 16
 up : 0 < j → znj st cs j < x.sq
 vw : 0 ≤ x.vw
 bd : x.body.length ≤ 65536
def CsRef (st : Int) (cs : List Ce) (k : Nat) : Prop := ∀ (j : Nat) (h : j < cs.length),k ≤ j → CeRef st cs j cs[j]
theorem CsRef.succ {st : Int} {cs : List Ce} {k : Nat} (h : k < cs.length) (h1 : CeRef st cs k cs[k]) : CsRef st cs k ↔ CsRef st cs (k + 1) := by
 constructor
 ·exact fun q j hj hk=>q j hj (by omega)
 ·intro q j hj hk
  by_cases e : j = k
  ·subst e;exact h1
  ·exact q j hj (by omega)
theorem CsRef.ok {st : Int} {cs : List Ce} (h : CsRef st cs 0) : CsOk st cs := fun j hj=>by
 have q := h j hj (Nat.zero_le _)
 refine ⟨?_,q.hi,q.vw,q.bd⟩
 cases j with
 |zero=>exact q.lo
 |succ j=>exact q.up (by omega)
def zMF (p : Prop) (x y : RO) : RO := @ite _ p (Classical.propDecidable p) x y
theorem zf3 {p : Prop} {x y : RO} (h : p) : zMF p x y = x := by unfold zMF;exact if_pos h
theorem z3i {p : Prop} {x y : RO} (h : ¬ p) : zMF p x y = y := by unfold zMF;exact if_neg h
theorem zlX {p q : Prop} {x y : RO} (h : p ↔ q) : zMF p x y = zMF q x y := by rw [show p = q from propext h]
theorem b3_s (m : Nat) (kc : ASt → RO) (kx : KO (AV × List AObj)) (l : List Ch) (n : Int) (i : Nat) (hi : i < 1000000) (x : Ch) (h0 : 0 ≤ x.st) (h1 : x.st ≤ 2147483647) (hl : x.cs.length ≤ 1000) (hm : 1000 < m) (hF : ∀ H,kx .ret ⟨H,[(4,bA false)]⟩ = some (bA false,[])) :
  z7N m 0 kc kx ⟨[⟨1,z00,0,cgC x⟩],[(0,zNb l),(1,nA n),(6,nA i),(7,OP 0 0)]⟩ = zMF (CsRef x.st x.cs 0) (kc ⟨[],[(0,zNb l),(1,nA n),(6,nA ((i : Int) + 1))]⟩) (some (bA false,[])) := by
 rw [zg4]
 refine z13 (m := m) (ι := {k : Nat // k ≤ x.cs.length}) (fun k=>⟨[⟨1,z00,0,cgC x⟩],[(0,zNb l),(1,nA n),(6,nA i),(7,OP 0 0),(9,nA k.1)]⟩) (fun k=>x.cs.length - k.1) (fun k=>zMF (CsRef x.st x.cs k.1) (kc ⟨[],[(0,zNb l),(1,nA n),(6,nA ((i : Int) + 1))]⟩) (some (bA false,[]))) ?_ ⟨0,Nat.zero_le _⟩ (by dsimp only;omega)
 rintro k2 hk2 ⟨k,hk⟩ kd hkd
 dsimp only at hkd ⊢
 rw [zgc]
 by_cases hlt : k < x.cs.length
 ·have hlt' : (k : Int) < (x.cs.length : Int) := by omega
  have step := hkd ⟨k + 1,by omega⟩ (by dsimp only;omega)
  dsimp only at step
  by_cases c1 : x.cs[k].sq ≤ x.st
  ·rw [z3i fun q=>by have := (q k hlt (Nat.le_refl _)).lo;omega]
   simp (config := {maxSteps := 4000000,implicitDefEqProofs := false}) (disch := omega) only [go_sem,hlt',hlt,c1,hk2,z2s,z0L]
   exact hF _
  ·by_cases c2 : x.st + 16 < x.cs[k].sq
   ·rw [z3i fun q=>by have := (q k hlt (Nat.le_refl _)).hi;omega]
    simp (config := {maxSteps := 4000000,implicitDefEqProofs := false}) (disch := omega) only [go_sem,hlt',hlt,c1,c2,hk2,z2s,z0L]
    exact hF _
   ·cases k with
    |zero =>
     have hz : (0 : Int) < (x.cs.length : Int) := by omega
     by_cases c4 : x.cs[0].vw < 0
     ·rw [z3i fun q=>by have := (q 0 hlt (Nat.le_refl _)).vw;omega]
      simp (config := {maxSteps := 4000000,implicitDefEqProofs := false}) (disch := omega) only [go_sem,hz,hlt,c1,c2,c4,hk2,z2s,z0L]
      exact hF _
     ·by_cases c5 : (65536 : Int) < (x.cs[0].body.length : Int)
      ·rw [z3i fun q=>by have := (q 0 hlt (Nat.le_refl _)).bd;omega]
       simp (config := {maxSteps := 4000000,implicitDefEqProofs := false}) (disch := omega) only [go_sem,hz,hlt,c1,c2,c4,c5,hk2,z2s,z0L]
       exact hF _
      ·rw [zlX (CsRef.succ hlt ⟨by omega,by omega,fun h=>absurd h (by omega),by omega,by omega⟩)]
       simp (config := {maxSteps := 4000000,implicitDefEqProofs := false}) (disch := omega) only [go_sem,hz,hlt,c1,c2,c4,c5,hk2,ztu,z2s,z0L,z8E]
       exact step
    |succ k =>
     have hk1 : k < x.cs.length := by omega
     have e1 : IntKind.i64.wrap (((k + 1 : Nat) : Int) - 1) = (k : Int) := by rw [z2s (by omega) (by omega)];omega
     have e2 : (0 : Int) < ((k + 1 : Nat) : Int) := by omega
     by_cases c3 : x.cs[k + 1].sq ≤ x.cs[k].sq
     ·rw [z3i fun q=>by have := (q (k + 1) hlt (Nat.le_refl _)).up (by omega);rw [zbR hk1] at this;omega]
      simp (config := {maxSteps := 4000000,implicitDefEqProofs := false}) (disch := omega) only [go_sem,hlt',hlt,hk1,e1,e2,c1,c2,c3,hk2,z2s,z0L]
      exact hF _
     ·by_cases c4 : x.cs[k + 1].vw < 0
      ·rw [z3i fun q=>by have := (q (k + 1) hlt (Nat.le_refl _)).vw;omega]
       simp (config := {maxSteps := 4000000,implicitDefEqProofs := false}) (disch := omega) only [go_sem,hlt',hlt,hk1,e1,e2,c1,c2,c3,c4,hk2,z2s,z0L]
       exact hF _
      ·by_cases c5 : (65536 : Int) < (x.cs[k + 1].body.length : Int)
       ·rw [z3i fun q=>by have := (q (k + 1) hlt (Nat.le_refl _)).bd;omega]
        simp (config := {maxSteps := 4000000,implicitDefEqProofs := false}) (disch := omega) only [go_sem,hlt',hlt,hk1,e1,e2,c1,c2,c3,c4,c5,hk2,z2s,z0L]
        exact hF _
       ·rw [zlX (CsRef.succ hlt ⟨by omega,by omega,fun h=>by rw [zbR hk1];omega,by omega,by omega⟩)]
        simp (config := {maxSteps := 4000000,implicitDefEqProofs := false}) (disch := omega) only [go_sem,hlt',hlt,hk1,e1,e2,c1,c2,c3,c4,c5,hk2,ztu,z2s,z0L,z8E]
        exact step
 ·obtain rfl : k = x.cs.length := by omega
  have hlt' : ¬ (x.cs.length : Int) < (x.cs.length : Int) := Int.lt_irrefl _
  rw [zf3 (p := CsRef x.st x.cs x.cs.length) (fun j hj hk=>by omega)]
  simp (config := {maxSteps := 4000000,implicitDefEqProofs := false}) (disch := omega) only [go_sem,hlt',hk2,z2s,ztu,zga]
def FrRef (l : List Ch) (q : Int) (i k : Nat) : Prop := ∀ (j : Nat) (h : j < l.length),k ≤ j → j < i → l[j].fr ≠ q
theorem FrRef.succ {l : List Ch} {q : Int} {i k : Nat} (h : k < l.length) (h1 : l[k].fr ≠ q) : FrRef l q i k ↔ FrRef l q i (k + 1) := by
 constructor
 ·exact fun q j hj hk=>q j hj (by omega)
 ·intro q j hj hk
  by_cases e : j = k
  ·subst e;exact fun _=>h1
  ·exact q j hj (by omega)
theorem zLb (m : Nat) (kc : ASt → RO) (kx : KO (AV × List AObj)) (l : List Ch) (n : Int) (i : Nat) (hi : i < l.length) (hll : l.length ≤ 1000) (x : Ch) (h0 : 0 ≤ x.st) (h1 : x.st ≤ 2147483647) (hl : x.cs.length ≤ 1000) (hm : 1000 < m) (hF : ∀ H,kx .ret ⟨H,[(4,bA false)]⟩ = some (bA false,[])) :
  z5f m 0 kc kx ⟨[⟨1,z00,0,cgC x⟩],[(0,zNb l),(1,nA n),(6,nA i),(7,OP 0 0)]⟩ = zMF (FrRef l x.fr i 0) (zMF (CsRef x.st x.cs 0) (kc ⟨[],[(0,zNb l),(1,nA n),(6,nA ((i : Int) + 1))]⟩) (some (bA false,[]))) (some (bA false,[])) := by
 have g := b3_s m kc kx l n i (by omega) x h0 h1 hl hm hF
 rw [zgg]
 refine z13 (m := m) (ι := {k : Nat // k ≤ i}) (fun k=>⟨[⟨1,z00,0,cgC x⟩],[(0,zNb l),(1,nA n),(6,nA i),(7,OP 0 0),(8,nA k.1)]⟩) (fun k=>i - k.1) (fun k=>zMF (FrRef l x.fr i k.1) (zMF (CsRef x.st x.cs 0) (kc ⟨[],[(0,zNb l),(1,nA n),(6,nA ((i : Int) + 1))]⟩) (some (bA false,[]))) (some (bA false,[]))) ?_ ⟨0,Nat.zero_le _⟩ (by dsimp only;omega)
 rintro k2 hk2 ⟨k,hk⟩ kd hkd
 dsimp only at hkd ⊢
 rw [zg1]
 by_cases hlt : k < i
 ·have hlt' : (k : Int) < (i : Int) := by omega
  have hkl : k < l.length := by omega
  have step := hkd ⟨k + 1,by omega⟩ (by dsimp only;omega)
  dsimp only at step
  by_cases c1 : l[k].fr = x.fr
  ·rw [z3i (p := FrRef l x.fr i k) (fun q=>q k hkl (Nat.le_refl _) hlt c1)]
   unfold zNb
   simp (config := {maxSteps := 4000000,implicitDefEqProofs := false}) (disch := omega) only [go_sem,hlt',hkl,c1,hk2,z2s]
   exact hF _
  ·rw [zlX (FrRef.succ hkl c1)]
   unfold zNb at step ⊢
   simp (config := {maxSteps := 4000000,implicitDefEqProofs := false}) (disch := omega) only [go_sem,hlt',hkl,c1,hk2,z2s]
   exact step
 ·obtain rfl : k = i := by omega
  have hlt' : ¬ (k : Int) < (k : Int) := Int.lt_irrefl _
  rw [zf3 (p := FrRef l x.fr k k) (fun j hj h1 h2=>by omega)]
  simp (config := {maxSteps := 4000000,implicitDefEqProofs := false}) (disch := omega) only [go_sem,hlt',hk2,g]
structure ChRef (n : Int) (l : List Ch) (i : Nat) (c : Ch) : Prop where
 f0 : 0 ≤ c.fr
 fn : c.fr < n
 sd : c.st = 0 ∨ zNs c.st = true
 sl : c.st ≤ 2147483647
 one : FrRef l c.fr i 0
 cs : CsRef c.st c.cs 0
def LRef (n : Int) (l : List Ch) (k : Nat) : Prop := ∀ (i : Nat) (h : i < l.length),k ≤ i → ChRef n l i l[i]
theorem LRef.succ {n : Int} {l : List Ch} {k : Nat} (h : k < l.length) (h1 : ChRef n l k l[k]) : LRef n l k ↔ LRef n l (k + 1) := by
 constructor
 ·exact fun q j hj hk=>q j hj (by omega)
 ·intro q j hj hk
  by_cases e : j = k
  ·subst e;exact h1
  ·exact q j hj (by omega)
theorem zCN (m : Nat) (l : List Ch) (n : Int) (hf : zNE l) (hm : 1000 < m) : z5j m ⟨[],[(0,zNb l),(1,nA n)]⟩ = zMF (LRef n l 0) (some (bA true,[])) (some (bA false,[])) := by
 have hl := hf.1
 rw [zgb]
 refine z13 (m := m) (ι := {k : Nat // k ≤ l.length}) (fun k=>⟨[],[(0,zNb l),(1,nA n),(6,nA k.1)]⟩) (fun k=>l.length - k.1) (fun k=>zMF (LRef n l k.1) (some (bA true,[])) (some (bA false,[]))) ?_ ⟨0,Nat.zero_le _⟩ (by dsimp only;omega)
 rintro kx hkx ⟨k,hk⟩ kc hkc
 dsimp only at hkc ⊢
 rw [zg5]
 have hF : ∀ H,kx .ret ⟨H,[(4,bA false)]⟩ = some (bA false,[]) := fun H=>by
  rw [hkx]
  simp (config := {maxSteps := 4000000,implicitDefEqProofs := false}) (disch := omega) only [go_sem,]
 by_cases hlt : k < l.length
 ·have hlt' : (k : Int) < (l.length : Int) := by omega
  have step := hkc ⟨k + 1,by omega⟩ (by dsimp only;omega)
  dsimp only at step
  have hcl := hf.2 l[k] (List.getElem_mem hlt)
  by_cases c1 : l[k].fr < 0
  ·rw [z3i (p := LRef n l k) (fun q=>by have := (q k hlt (Nat.le_refl _)).f0;omega)]
   unfold zNb
   simp (config := {maxSteps := 4000000,implicitDefEqProofs := false}) (disch := omega) only [go_sem,hlt',hlt,c1,z0J]
   exact hF _
  ·by_cases c2 : n ≤ l[k].fr
   ·rw [z3i (p := LRef n l k) (fun q=>by have := (q k hlt (Nat.le_refl _)).fn;omega)]
    unfold zNb
    simp (config := {maxSteps := 4000000,implicitDefEqProofs := false}) (disch := omega) only [go_sem,hlt',hlt,c1,c2,z0J]
    exact hF _
   ·have g1 := zCt m l[k].st
    by_cases c3 : l[k].st = 0
    ·have c4 : ¬ (2147483647 : Int) < l[k].st := by omega
     have g2 := zLb m kc kx l n k hlt hl l[k] (by omega) (by omega) hcl hm hF
     by_cases c5 : FrRef l l[k].fr k 0
     ·rw [zf3 c5] at g2
      by_cases c6 : CsRef l[k].st l[k].cs 0
      ·rw [zf3 c6] at g2
       rw [zlX (LRef.succ hlt ⟨by omega,by omega, .inl c3,by omega,c5,c6⟩)]
       unfold zNb at g2 step ⊢
       simp (config := {maxSteps := 4000000,implicitDefEqProofs := false}) (disch := omega) only [go_sem,hlt',hlt,c1,c2,c3,g2,z0J]
       exact step
      ·rw [z3i c6] at g2
       rw [z3i (p := LRef n l k) (fun q=>c6 (q k hlt (Nat.le_refl _)).cs)]
       unfold zNb at g2 ⊢
       simp (config := {maxSteps := 4000000,implicitDefEqProofs := false}) (disch := omega) only [go_sem,hlt',hlt,c1,c2,c3,g2,z0J]
     ·rw [z3i c5] at g2
      rw [z3i (p := LRef n l k) (fun q=>c5 (q k hlt (Nat.le_refl _)).one)]
      unfold zNb at g2 ⊢
      simp (config := {maxSteps := 4000000,implicitDefEqProofs := false}) (disch := omega) only [go_sem,hlt',hlt,c1,c2,c3,g2,z0J]
    ·cases hd : zNs l[k].st with
     |false =>
      rw [z3i (p := LRef n l k) (fun q=>by
       rcases (q k hlt (Nat.le_refl _)).sd with e|e
       ·exact c3 e
       ·rw [hd] at e;cases e)]
      rw [hd] at g1
      unfold zNb
      simp (config := {maxSteps := 4000000,implicitDefEqProofs := false}) (disch := omega) only [go_sem,hlt',hlt,c1,c2,c3,g1,z0J]
      exact hF _
     |true =>
      rw [hd] at g1
      have hpos : 0 < l[k].st := by
       unfold zNs at hd
       simp only [Bool.and_eq_true,decide_eq_true_eq] at hd
       exact hd.1
      by_cases c4 : (2147483647 : Int) < l[k].st
      ·rw [z3i (p := LRef n l k) (fun q=>by have := (q k hlt (Nat.le_refl _)).sl;omega)]
       unfold zNb
       simp (config := {maxSteps := 4000000,implicitDefEqProofs := false}) (disch := omega) only [go_sem,hlt',hlt,c1,c2,c3,c4,g1,z0J]
       exact hF _
      ·have g2 := zLb m kc kx l n k hlt hl l[k] (by omega) (by omega) hcl hm hF
       by_cases c5 : FrRef l l[k].fr k 0
       ·rw [zf3 c5] at g2
        by_cases c6 : CsRef l[k].st l[k].cs 0
        ·rw [zf3 c6] at g2
         rw [zlX (LRef.succ hlt ⟨by omega,by omega, .inr hd,by omega,c5,c6⟩)]
         unfold zNb at g2 step ⊢
         simp (config := {maxSteps := 4000000,implicitDefEqProofs := false}) (disch := omega) only [go_sem,hlt',hlt,c1,c2,c3,c4,g1,g2,z0J]
         exact step
        ·rw [z3i c6] at g2
         rw [z3i (p := LRef n l k) (fun q=>c6 (q k hlt (Nat.le_refl _)).cs)]
         unfold zNb at g2 ⊢
         simp (config := {maxSteps := 4000000,implicitDefEqProofs := false}) (disch := omega) only [go_sem,hlt',hlt,c1,c2,c3,c4,g1,g2,z0J]
       ·rw [z3i c5] at g2
        rw [z3i (p := LRef n l k) (fun q=>c5 (q k hlt (Nat.le_refl _)).one)]
        unfold zNb at g2 ⊢
        simp (config := {maxSteps := 4000000,implicitDefEqProofs := false}) (disch := omega) only [go_sem,hlt',hlt,c1,c2,c3,c4,g1,g2,z0J]
 ·obtain rfl : k = l.length := by omega
  have hlt' : ¬ (l.length : Int) < (l.length : Int) := Int.lt_irrefl _
  rw [zf3 (p := LRef n l l.length) (fun j hj hk=>by omega)]
  unfold zNb
  simp (config := {maxSteps := 4000000,implicitDefEqProofs := false}) (disch := omega) only [go_sem,hlt',hkx,zg3]
theorem LRef.ok {n : Int} {l : List Ch} (h : LRef n l 0) (hn : okN n = true) (hl : 2 * fN n + 1 ≤ l.length) : LOk n l := by
 refine ⟨hn,hl,fun c hc=>?_,?_⟩
 ·obtain ⟨i,hi,rfl⟩ := List.mem_iff_getElem.1 hc
  have q := h i hi (Nat.zero_le _)
  exact ⟨q.f0,q.fn,q.sd,q.sl,q.cs.ok⟩
 ·refine List.pairwise_iff_getElem.2 fun i j hi hj hij=>?_
  rw [List.getElem_map,List.getElem_map]
  simp only [List.length_map] at hi hj
  exact (h j hj (Nat.zero_le _)).one i hi (Nat.zero_le _) hij
theorem fN_zero {n : Int} : fN n = 0 ↔ okN n = false := by
 constructor
 ·intro h
  cases ho : okN n with
  |false=>rfl
  |true =>
   have := zF5 ho
   rcases okN_iff.1 ho with q|q|q|q|q <;> omega
 ·intro h;unfold fN;rw [h];rfl
end

section
open Go.RowKit
set_option maxHeartbeats 4000000
theorem zzm {n : Int} (h : okN n = true) : n ≤ 16 := by
 rcases okN_iff.1 h with q|q|q|q|q <;> omega
section
variable {n : Int} {l : List Ch} (hn : okN n = true) (hall : ∀ c ∈ l,ChOk n c)
include hn hall
theorem zqS {k : Nat} (hk : k < l.length) : (zL5 l k).testBit l[k].fr.toNat = decide (l[k].fr ∈ (l.take k).map Ch.fr) := by
 have hc := hall l[k] (List.getElem_mem hk)
 have h1 := hc.f0
 have h2 := hc.fn
 have h3 := zzm hn
 have key := zqE hn hall k (by omega) l[k].fr.toNat (by omega)
 rw [Bool.eq_iff_iff,key,decide_eq_true_eq,List.mem_map]
 constructor
 ·rintro ⟨i,hi,hik,he⟩
  refine ⟨l[i],List.mem_take_iff_getElem.2 ⟨i,by omega,rfl⟩,?_⟩
  rw [he,Int.toNat_of_nonneg h1]
 ·rintro ⟨c,hc,he⟩
  obtain ⟨i,hi,rfl⟩ := List.mem_take_iff_getElem.1 hc
  exact ⟨i,by omega,by omega,by rw [he,Int.toNat_of_nonneg h1]⟩
theorem zCZ {k : Nat} (hk : k < l.length) : ((zL5 l k &&& qb l[k].fr : Nat) = 0) ↔ l[k].fr ∉ (l.take k).map Ch.fr := by
 have hc := hall l[k] (List.getElem_mem hk)
 have h1 := hc.f0
 have h2 := hc.fn
 have h3 := zzm hn
 have h4 := zqS hn hall hk
 obtain ⟨a,ha⟩ : ∃ a : Nat,l[k].fr = a := ⟨l[k].fr.toNat,by omega⟩
 rw [ha] at h4 ⊢
 rw [zDR (by omega),show (zL5 l k).testBit a = (zL5 l k).testBit (a : Int).toNat by simp,h4,decide_eq_false_iff_not]
theorem zxD : ∀ k,k ≤ l.length → ((l.take k).map Ch.fr).Nodup → zKU (zL5 l k &&& zLi n) = k
 |0,_,_=>by
  rw [zpo]
  have : zL5 l 0 = 0 := rfl
  rw [this]
  unfold cP
  rw [List.length_eq_zero_iff,List.filter_eq_nil_iff]
  intro i _
  simp
 |k + 1,hk,hd=>by
  have hk' : k < l.length := by omega
  rw [List.take_succ_eq_append_getElem hk',List.map_append,List.nodup_append] at hd
  have ih := zxD k (by omega) hd.1
  have hc := hall l[k] (List.getElem_mem hk')
  have h1 := hc.f0
  have h2 := hc.fn
  have h3 := zzm hn
  have h5 : l[k].fr ∉ (l.take k).map Ch.fr := fun q=>hd.2.2 _ q l[k].fr (by simp) rfl
  have h4 : (zL5 l k).testBit l[k].fr.toNat = false := by rw [zqS hn hall hk',decide_eq_false h5]
  rw [zpo] at ih ⊢
  rw [zCU (p := fun i=>(zL5 l k).testBit i && decide ((i : Int) < n)) (a := l[k].fr.toNat) (by omega) (by simp [h4]) (fun i hi=>by
   rw [zfL hk',zNm hi]
   have e : decide (l[k].fr = (i : Int)) = decide (i = l[k].fr.toNat) := by rw [decide_eq_decide];omega
   rw [e]
   by_cases q : i = l[k].fr.toNat
   ·have : (i : Int) < n := by omega
    simp [q,this]
    omega
   ·simp [q]),ih]
end
theorem zpT {l : List Ch} {k : Nat} (hk : k < l.length) : ((l.take (k + 1)).map Ch.fr).Nodup ↔ ((l.take k).map Ch.fr).Nodup ∧ l[k].fr ∉ (l.take k).map Ch.fr := by
 rw [List.take_succ_eq_append_getElem hk,List.map_append,List.nodup_append]
 constructor
 ·rintro ⟨h1,_,h3⟩
  exact ⟨h1,fun q=>h3 _ q l[k].fr (by simp) rfl⟩
 ·rintro ⟨h1,h2⟩
  refine ⟨h1,by simp,fun a ha b hb=>?_⟩
  simp at hb
  subst hb
  exact fun e=>h2 (e ▸ ha)
def zLB (n : Int) (l : List Ch) : Bool := decide ((l.map Ch.fr).Nodup) && decide (2 * fN n + 1 ≤ l.length)
theorem ztS {n : Int} {l : List Ch} (hn : okN n = true) (hall : ∀ c ∈ l,ChOk n c) (h : zLB n l = true) : LOk n l := by
 unfold zLB at h
 rw [Bool.and_eq_true,decide_eq_true_eq,decide_eq_true_eq] at h
 exact ⟨hn,h.2,hall,h.1⟩
theorem zwl {l : List Ch} {k : Nat} (hk : k < l.length) (h : l[k].fr ∈ (l.take k).map Ch.fr) : ¬ (l.map Ch.fr).Nodup := fun q=>by
 have e : l.map Ch.fr = (l.take (k + 1)).map Ch.fr ++ (l.drop (k + 1)).map Ch.fr := by rw [← List.map_append,List.take_append_drop]
 rw [e] at q
 exact ((zpT hk).1 (List.nodup_append.1 q).1).2 h
section
variable {n : Int} {l : List Ch}
theorem zG5 (m : Nat) (hn : okN n = true) (hall : ∀ c ∈ l,ChOk n c) (hf : zNE l) (hm : 1000 < m) : zc2 m (zNb l) (nA n) = some (bA (zLB n l),[]) := by
 have hF := zh6 m n
 rw [hn] at hF
 rw [zku]
 have hl := hf.1
 unfold zNb
 simp (config := {maxSteps := 4000000,implicitDefEqProofs := false}) (disch := omega) only [go_sem,hF]
 refine z13 (m := m) (ι := {k : Nat // k ≤ l.length ∧ ((l.take k).map Ch.fr).Nodup}) (fun k=>⟨[],[(1,nA n),(7,qA (zL5 l k.1)),(17,zNb l),(18,nA l.length),(19,nA k.1)]⟩) (fun k=>l.length - k.1) (fun _=>some (bA (zLB n l),[])) ?_ ⟨0,Nat.zero_le _,by simp⟩ (by dsimp only;omega)
 rintro kx hkx ⟨k,hk,hnd⟩ kc hkc
 dsimp only at hkc ⊢
 rw [zeY]
 unfold zNb at hkc ⊢
 by_cases hlt : k < l.length
 ·have hlt' : (k : Int) < (l.length : Int) := by omega
  have hc := hall l[k] (List.getElem_mem hlt)
  have c0 := hc.s0
  have hih := zCZ hn hall hlt
  obtain ⟨c1,c2,c3,c4,c5⟩ := hc
  have hs := zp9 l k (by omega)
  have g1 := zGX m (zL5 l k) l[k].fr hs
  have d1 : ¬ l[k].fr < 0 := by omega
  have d2 : ¬ n ≤ l[k].fr := by omega
  have d3 : ¬ (2147483647 : Int) < l[k].st := by omega
  by_cases hin : l[k].fr ∈ (l.take k).map Ch.fr
  ·have h0 : ¬ (zL5 l k &&& qb l[k].fr : Nat) = 0 := fun q=>hih.1 q hin
   rw [decide_eq_false h0] at g1
   have hb : zLB n l = false := by
    unfold zLB
    rw [decide_eq_false (zwl hlt hin)]
    rfl
   rw [hb]
   simp (config := {maxSteps := 4000000,implicitDefEqProofs := false}) (disch := omega) only [go_sem,hlt',hlt,d1,d2,d3,g1,hkx,z4F,z4S,z4D]
  ·have hhas := hih.2 hin
   rw [decide_eq_true hhas] at g1
   have step := hkc ⟨k + 1,by omega,(zpT hlt).2 ⟨hnd,hin⟩⟩ (by dsimp only;omega)
   dsimp only at step
   rw [zfL hlt] at step
   have g2 := zxk m l[k] (by have := hf.2 l[k] (List.getElem_mem hlt);omega) c0 c4 (hf.2 l[k] (List.getElem_mem hlt)) c5
   rw [zaD] at g2
   have g3 := zz5 m (zL5 l k) l[k].fr hs
   have g4 := zFF m l[k].st
   by_cases hz : l[k].st = 0
   ·simp (config := {maxSteps := 4000000,implicitDefEqProofs := false}) (disch := omega) only [go_sem,hlt',hlt,d1,d2,d3,g1,g2,g3,hz,z2s,z4F,z4S,z4D]
    exact step
   ·have hd : zNs l[k].st = true := by
     rcases c3 with q|q
     ·exact absurd q hz
     ·exact q
    rw [hd] at g4
    simp (config := {maxSteps := 4000000,implicitDefEqProofs := false}) (disch := omega) only [go_sem,hlt',hlt,d1,d2,d3,g1,g2,g3,g4,hz,z2s,z4F,z4S,z4D]
    exact step
 ·obtain rfl : k = l.length := by omega
  have hlt' : ¬ (l.length : Int) < (l.length : Int) := Int.lt_irrefl _
  have g5 := zmh m (zL5 l l.length) n (zp9 l _ (Nat.le_refl _))
  rw [zxD hn hall l.length (Nat.le_refl _) hnd,hn] at g5
  rw [List.take_length] at hnd
  have hb : zLB n l = decide (2 * (fN n : Int) + 1 ≤ (l.length : Int)) := by
   unfold zLB
   rw [decide_eq_true hnd,Bool.true_and,decide_eq_decide]
   omega
  rw [hb]
  simp (config := {maxSteps := 4000000,implicitDefEqProofs := false}) (disch := omega) only [go_sem,hlt',hkx,zfr,g5]
theorem ztr (hall : ∀ c ∈ l,ChOk n c) : LRef n l 0 ↔ (l.map Ch.fr).Nodup := by
 constructor
 ·intro h
  refine List.pairwise_iff_getElem.2 fun i j hi hj hij=>?_
  rw [List.getElem_map,List.getElem_map]
  simp only [List.length_map] at hi hj
  exact (h j hj (Nat.zero_le _)).one i hi (Nat.zero_le _) hij
 ·intro h i hi _
  have hc := hall l[i] (List.getElem_mem hi)
  refine ⟨hc.f0,hc.fn,hc.sd,hc.sl,fun j hj _ hji=>?_,fun j hj _=>?_⟩
  ·have := (List.pairwise_iff_getElem.1 h) j i (by simpa using hj) (by simpa using hi) hji
   rwa [List.getElem_map,List.getElem_map] at this
  ·have q := hc.cs j hj
   exact ⟨hc.cs.st hj,q.hi,fun _=>q.lo,q.vw,q.bd⟩
theorem zE9 (m : Nat) (hn : okN n = true) (hall : ∀ c ∈ l,ChOk n c) (hf : zNE l) (hm : 1000 < m) : z8i m (zNb l) (nA n) = some (bA (zLB n l),[]) := by
 have hl := hf.1
 have hF := zl9 m n (by omega)
 have g := zCN m l n hf hm
 have hle := zDr n
 rw [zk4]
 have hpos : ¬ (fN n : Int) = 0 := fun h=>by
  have h' : fN n = 0 := by omega
  rw [fN_zero,hn] at h';cases h'
 have e1 : IntKind.i64.wrap (2 * (fN n : Int)) = 2 * (fN n : Int) := z2s (by omega) (by omega)
 have e2 : IntKind.i64.wrap (2 * (fN n : Int) + 1) = 2 * (fN n : Int) + 1 := z2s (by omega) (by omega)
 unfold zLB
 by_cases c : (l.length : Int) < 2 * (fN n : Int) + 1
 ·rw [decide_eq_false (show ¬ 2 * fN n + 1 ≤ l.length by omega),Bool.and_false]
  unfold zNb
  simp (config := {maxSteps := 4000000,implicitDefEqProofs := false}) (disch := omega) only [go_sem,hF,hpos,e1,e2,c,z5y]
 ·rw [decide_eq_true (show 2 * fN n + 1 ≤ l.length by omega),Bool.and_true]
  by_cases hL : LRef n l 0
  ·rw [decide_eq_true ((ztr hall).1 hL)]
   rw [zf3 hL] at g
   unfold zNb at g ⊢
   simp (config := {maxSteps := 4000000,implicitDefEqProofs := false}) (disch := omega) only [go_sem,hF,hpos,e1,e2,c,g,z5y]
  ·rw [decide_eq_false (fun q=>hL ((ztr hall).2 q))]
   rw [z3i hL] at g
   unfold zNb at g ⊢
   simp (config := {maxSteps := 4000000,implicitDefEqProofs := false}) (disch := omega) only [go_sem,hF,hpos,e1,e2,c,g,z5y]
end
end

section
open Go.RowKit
set_option maxHeartbeats 4000000
def lwS (a : Int × Int) (c : Ch) : Int × Int := if a.1 < c.st then (c.st,c.rt) else a
def zLf (l : List Ch) (k : Nat) : Int × Int := (l.take k).foldl lwS (-1,0)
theorem zo3 {l : List Ch} {k : Nat} (h : k < l.length) : zLf l (k + 1) = lwS (zLf l k) l[k] := by
 unfold zLf
 rw [List.take_succ_eq_append_getElem h,List.foldl_append]
 rfl
theorem zvH {l : List Ch} (h : 0 < l.length) : zom l 1 = l[0] := by
 cases l with
 |nil=>simp at h
 |cons a l =>
  show (if a.st < a.st then a else a) = a
  split <;> rfl
theorem zp5 {l : List Ch} {k : Nat} (h : k < l.length) : zom l (k + 1) = if (zom l k).st < l[k].st then l[k] else zom l k := by
 rw [zom,List.getD_eq_getElem?_getD,List.getElem?_eq_getElem h]
 rfl
theorem zrh {n : Int} {l : List Ch} (hall : ∀ c ∈ l,ChOk n c) : ∀ k,k < l.length → zLf l (k + 1) = ((zom l (k + 1)).st,(zom l (k + 1)).rt)
 |0,h=>by
  have h0 := (hall l[0] (List.getElem_mem h)).s0
  rw [zo3 h,zvH h]
  show lwS (-1,0) _ = _
  unfold lwS
  rw [if_pos (by show (-1 : Int) < _;omega)]
 |k + 1,h=>by
  rw [zo3 h,zrh hall k (by omega),zp5 h]
  unfold lwS
  split <;> rfl
section
variable {n : Int} {l : List Ch}
theorem zDW (m : Nat) (h : LOk n l) (hf : zNE l) (hm : 1000 < m) : z5L m (zNb l) = some (TU [nA (zMg l).st,nA (zMg l).rt],[]) := by
 have hl := hf.1
 have hlen := h.len
 have hb : zLf l l.length = ((zMg l).st,(zMg l).rt) := by
  have := zrh h.all (l.length - 1) (by omega)
  rwa [show l.length - 1 + 1 = l.length by omega] at this
 rw [zjR]
 refine z13 (m := m) (ι := {k : Nat // k ≤ l.length}) (fun k=>⟨[],[(0,zNb l),(4,nA (zLf l k.1).1),(5,nA (zLf l k.1).2),(6,nA k.1)]⟩) (fun k=>l.length - k.1) (fun _=>some (TU [nA (zMg l).st,nA (zMg l).rt],[])) ?_ ⟨0,Nat.zero_le _⟩ (by dsimp only;omega)
 rintro kx hkx ⟨k,hk⟩ kc hkc
 dsimp only at hkc ⊢
 rw [zgr]
 unfold zNb at hkc ⊢
 by_cases hlt : k < l.length
 ·have hlt' : (k : Int) < (l.length : Int) := by omega
  have hw1 : IntKind.i64.wrap ((k : Int) + 1) = (k : Int) + 1 := z2s (by omega) (by omega)
  have step := hkc ⟨k + 1,by omega⟩ (by dsimp only;omega)
  dsimp only at step
  rw [zo3 hlt] at step
  generalize zLf l k = a at *
  unfold lwS at step
  by_cases hc : a.1 < l[k].st
  ·rw [if_pos hc] at step
   simp (config := {maxSteps := 4000000,implicitDefEqProofs := false}) (disch := omega) only [go_sem,hlt,hlt',hc,hw1,z9n]
   exact step
  ·rw [if_neg hc] at step
   simp (config := {maxSteps := 4000000,implicitDefEqProofs := false}) (disch := omega) only [go_sem,hlt,hlt',hc,hw1,z9n]
   exact step
 ·obtain rfl : k = l.length := by omega
  have hlt' : ¬ (l.length : Int) < (l.length : Int) := Int.lt_irrefl _
  rw [hb]
  simp (config := {maxSteps := 4000000,implicitDefEqProofs := false}) (disch := omega) only [go_sem,hlt',hkx,zg8]
theorem zHj {a : Int} {x : Ce} {M : Int} (h1 : a ≤ M) (h2 : x.sq ≤ M) : zLp a x ≤ M := by
 unfold zLp
 split <;> omega
def hiC (l : List Ch) (b : Int) (k : Nat) : Int := zb7 zLp b (l.take k)
theorem zAk {b : Int} {k : Nat} (h : k < l.length) : hiC l b (k + 1) = zdU zLp (hiC l b k) l[k].cs := by
 unfold hiC zb7
 rw [List.take_succ_eq_append_getElem h,List.foldl_append]
 rfl
theorem zpK {β : Type} {R : β → Ce → β} {b : β} {cs : List Ce} {j : Nat} (h : j < cs.length) : zdU R b (cs.take (j + 1)) = R (zdU R b (cs.take j)) cs[j] := by
 unfold zdU
 rw [List.take_succ_eq_append_getElem h,List.foldl_append]
 rfl
theorem zEg (m : Nat) (kc : ASt → RO) (kx : KO (AV × List AObj)) (b : Int) (i : Nat) (hi : i < l.length) (hil : i < 1000000) (hcl : l[i].cs.length ≤ 1000) (hm : 1000 < m) :
  z7c m (z7q m) ⟨[],[(0,zNb l),(3,nA b),(5,nA i),(6,nA 0)]⟩ (z0P 2 (z0P 1 (zM3 (fun s=>z75 m 0 kc kx ⟨s.H,[(0,get s.T 0),(3,get s.T 3),(5,get s.T 5)]⟩) (z5s 0 [0,3,5] [3] kc kx)))) = kc ⟨[],[(0,zNb l),(3,nA (zdU zLp b l[i].cs)),(5,nA (i + 1 : Nat))]⟩ := by
 refine z13 (m := m) (ι := {k : Nat // k ≤ l[i].cs.length}) (fun k=>⟨[],[(0,zNb l),(3,nA (zdU zLp b (l[i].cs.take k.1))),(5,nA i),(6,nA k.1)]⟩) (fun k=>l[i].cs.length - k.1) (fun _=>kc ⟨[],[(0,zNb l),(3,nA (zdU zLp b l[i].cs)),(5,nA (i + 1 : Nat))]⟩) ?_ ⟨0,Nat.zero_le _⟩ (by dsimp only;omega)
 rintro kx' hkx ⟨k,hk⟩ kc' hkc
 dsimp only at hkc ⊢
 rw [zeR]
 unfold zNb at hkc ⊢
 have hwi : IntKind.i64.wrap ((i : Int) + 1) = (i : Int) + 1 := z2s (by omega) (by omega)
 by_cases hlt : k < l[i].cs.length
 ·have hlt' : (k : Int) < (l[i].cs.length : Int) := by omega
  have hw1 : IntKind.i64.wrap ((k : Int) + 1) = (k : Int) + 1 := z2s (by omega) (by omega)
  have step := hkc ⟨k + 1,by omega⟩ (by dsimp only;omega)
  dsimp only at step
  rw [zpK hlt] at step
  generalize zdU zLp b (l[i].cs.take k) = a at *
  unfold zLp at step
  by_cases hc : a < l[i].cs[k].sq
  ·rw [if_pos (by omega)] at step
   simp (config := {maxSteps := 4000000,implicitDefEqProofs := false}) (disch := omega) only [go_sem,hi,hlt,hlt',hc,hw1,z8F]
   exact step
  ·rw [if_neg (by omega)] at step
   simp (config := {maxSteps := 4000000,implicitDefEqProofs := false}) (disch := omega) only [go_sem,hi,hlt,hlt',hc,hw1,z8F]
   exact step
 ·obtain rfl : k = l[i].cs.length := by omega
  have hlt' : ¬ (l[i].cs.length : Int) < (l[i].cs.length : Int) := Int.lt_irrefl _
  rw [List.take_length]
  simp (config := {maxSteps := 4000000,implicitDefEqProofs := false}) (disch := omega) only [go_sem,hi,hlt',hkx,hwi,zeP]
  rfl
theorem zDX (m : Nat) (h : LOk n l) (hf : zNE l) (hm : 1000 < m) : z6W m (zNb l) = some (nA (zkJ l),[]) := by
 have hl := hf.1
 have hlo := zDW m h hf hm
 rw [ziF]
 unfold zNb at hlo ⊢
 simp (config := {maxSteps := 4000000,implicitDefEqProofs := false}) (disch := omega) only [go_sem,hlo]
 refine z13 (m := m) (ι := {k : Nat // k ≤ l.length}) (fun k=>⟨[],[(0,SL (l.map cgE)),(3,nA (hiC l (zMg l).st k.1)),(5,nA k.1)]⟩) (fun k=>l.length - k.1) (fun _=>some (nA (zkJ l),[])) ?_ ⟨0,Nat.zero_le _⟩ (by dsimp only;omega)
 rintro kx hkx ⟨k,hk⟩ kc hkc
 dsimp only at hkc ⊢
 rw [zfv]
 by_cases hlt : k < l.length
 ·have hlt' : (k : Int) < (l.length : Int) := by omega
  have step := hkc ⟨k + 1,by omega⟩ (by dsimp only;omega)
  dsimp only at step
  rw [zAk hlt] at step
  generalize hiC l (zMg l).st k = a at *
  have h2 := zEg m kc kx a k hlt (by omega) (hf.2 _ (List.getElem_mem hlt)) hm
  unfold zNb at h2
  simp (config := {maxSteps := 4000000,implicitDefEqProofs := false}) (disch := omega) only [go_sem,hlt,hlt']
  refine Eq.trans h2 ?_
  exact step
 ·obtain rfl : k = l.length := by omega
  have hlt' : ¬ (l.length : Int) < (l.length : Int) := Int.lt_irrefl _
  have he : hiC l (zMg l).st l.length = zkJ l := by
   unfold hiC zkJ
   rw [List.take_length]
  rw [he]
  simp (config := {maxSteps := 4000000,implicitDefEqProofs := false}) (disch := omega) only [go_sem,hlt',hkx,zfm]
end
end

section
open Go.RowKit
theorem zfP {β : Type} {R : β → Ce → β} : ∀ (l : List Ch) (b : β),zb7 R b l = (l.flatMap Ch.cs).foldl R b
 |[],b=>rfl
 |c :: l,b=>by
  have := zfP (R := R) l (zdU R b c.cs)
  rw [List.flatMap_cons,List.foldl_append]
  exact this
def ofQ (q : Int) (l : List Ch) : List Ce := (l.flatMap Ch.cs).filter fun x=>decide (x.sq = q)
theorem zmO (q : Int) : ∀ (d : List Ce) (a : Int × Co),d.foldl (zmc q) a = (d.filter fun x=>decide (x.sq = q)).foldl (zmc q) a
 |[],a=>rfl
 |x :: d,a=>by
  rw [List.foldl_cons,zmO q d]
  by_cases h : x.sq = q
  ·rw [List.filter_cons_of_pos (by simp [h])]
   rfl
  ·rw [List.filter_cons_of_neg (by simp [h])]
   congr 1
   unfold zmc
   rw [if_neg (fun e=>h e.1)]
theorem zG6 (q : Int) (l : List Ch) : atF q l = ((ofQ q l).foldl (zmc q) (-1,co0 q)).2 := by
 unfold atF ofQ
 rw [zfP,zmO]
def zLx (d : List Ce) (x : Ce) : Bool := d.all fun y=>decide (y.vw ≤ x.vw)
def coX (q : Int) (x : Ce) : Co := ⟨q,x.tm,x.body,false⟩
def zLL (q : Int) (d : List Ce) : Co := match d.find? (zLx d) with
 |some x=>coX q x
 |none=>co0 q
theorem zrA {q : Int} {d : List Ce} {i : Nat} (hi : i < d.length) (h1 : zLx d d[i] = true) (h2 : ∀ (j : Nat) (h : j < i),zLx d (d[j]'(Nat.lt_trans h hi)) = false) : zLL q d = coX q d[i] := by
 unfold zLL
 rw [List.find?_eq_some_iff_getElem.2 ⟨h1,i,hi,rfl,fun j hj=>by rw [h2 j hj];rfl⟩]
theorem zqW {q : Int} {d : List Ce} (h : ∀ (j : Nat) (h : j < d.length),zLx d d[j] = false) : zLL q d = co0 q := by
 unfold zLL
 rw [List.find?_eq_none.2 fun x hx=>by
  obtain ⟨j,hj,rfl⟩ := List.mem_iff_getElem.1 hx
  rw [h j hj];decide]
theorem zsN {q : Int} {d : List Ce} (hq : ∀ x ∈ d,x.sq = q ∧ 0 ≤ x.vw) : ∀ k,k ≤ d.length →
  (k = 0 ∧ (d.take k).foldl (zmc q) (-1,co0 q) = (-1,co0 q)) ∨ ∃ i,∃ h : i < d.length,i < k ∧ (d.take k).foldl (zmc q) (-1,co0 q) = (d[i].vw,coX q d[i]) ∧ (∀ j (hj : j < d.length),j < k → d[j].vw ≤ d[i].vw) ∧ ∀ j (hj : j < d.length),j < i → d[j].vw < d[i].vw
 |0,_=>.inl ⟨rfl,rfl⟩
 |k + 1,hk=>by
  have hk' : k < d.length := by omega
  obtain ⟨x1,x2⟩ := hq _ (List.getElem_mem hk')
  rw [List.take_succ_eq_append_getElem hk',List.foldl_append]
  show (k + 1 = 0 ∧ zmc q _ d[k] = _) ∨ ∃ i,∃ h : i < d.length,i < k + 1 ∧ zmc q _ d[k] = _ ∧ _
  rcases zsN hq k (by omega) with ⟨rfl,e⟩|⟨i,hi,hik,e,h1,h2⟩
  ·rw [e]
   refine .inr ⟨0,hk',by omega,?_,fun j hj hjk=>?_,fun j hj hj0=>by omega⟩
   ·unfold zmc
    rw [if_pos ⟨x1,by show (-1 : Int) < _;omega⟩]
    rfl
   ·obtain rfl : j = 0 := by omega
    exact Int.le_refl _
  ·rw [e]
   by_cases hc : d[i].vw < d[k].vw
   ·refine .inr ⟨k,hk',by omega,?_,fun j hj hjk=>?_,fun j hj hjk=>?_⟩
    ·unfold zmc
     rw [if_pos ⟨x1,hc⟩]
     rfl
    ·by_cases ej : j = k
     ·subst ej;exact Int.le_refl _
     ·have := h1 j hj (by omega);omega
    ·have := h1 j hj (by omega);omega
   ·refine .inr ⟨i,hi,by omega,?_,fun j hj hjk=>?_,h2⟩
    ·unfold zmc
     rw [if_neg (fun q=>hc q.2)]
    ·by_cases ej : j = k
     ·subst ej;omega
     ·exact h1 j hj (by omega)
theorem zDO {q : Int} {l : List Ch} (hv : ∀ c ∈ l,∀ x ∈ c.cs,0 ≤ x.vw) : atF q l = zLL q (ofQ q l) := by
 rw [zG6]
 have hq : ∀ x ∈ ofQ q l,x.sq = q ∧ 0 ≤ x.vw := fun x hx=>by
  unfold ofQ at hx
  rw [List.mem_filter,decide_eq_true_eq,List.mem_flatMap] at hx
  obtain ⟨⟨c,hc,hx⟩,e⟩ := hx
  exact ⟨e,hv c hc x hx⟩
 have := zsN hq (ofQ q l).length (Nat.le_refl _)
 rw [List.take_length] at this
 rcases this with ⟨h0,e⟩|⟨i,hi,_,e,h1,h2⟩
 ·rw [e]
  exact (zqW fun j hj=>by omega).symm
 ·rw [e]
  refine (zrA hi ?_ fun j hj=>?_).symm
  ·unfold zLx
   rw [List.all_eq_true]
   intro y hy
   obtain ⟨j,hj,rfl⟩ := List.mem_iff_getElem.1 hy
   exact decide_eq_true (h1 j hj hj)
  ·cases hb : zLx (ofQ q l) ((ofQ q l)[j]'(Nat.lt_trans hj hi)) with
   |false=>rfl
   |true =>
    unfold zLx at hb
    have := of_decide_eq_true (List.all_eq_true.1 hb _ (List.getElem_mem hi))
    have := h2 j (Nat.lt_trans hj hi) hj
    omega
end

section
open Go.RowKit
set_option maxHeartbeats 4000000
section
variable {n : Int} {l : List Ch}
def zbO : AObj := ⟨1,z0q,0,zc_api_Choice⟩
def ceR (D : List Ce) : AObj := ⟨2,z07,5,D.map ceE⟩
def zLk (D : List Ce) : List AObj := [zbO,ceR D]
def zM1 (q : Int) (a : List Ce) (x : Ce) : List Ce := if x.sq = q then a ++ [x] else a
theorem zrl (q : Int) : ∀ (d a : List Ce),d.foldl (zM1 q) a = a ++ d.filter fun x=>decide (x.sq = q)
 |[],a=>by simp
 |x :: d,a=>by
  rw [List.foldl_cons,zrl q d]
  unfold zM1
  by_cases h : x.sq = q
  ·rw [if_pos h,List.filter_cons_of_pos (by simp [h])]
   simp
  ·rw [if_neg h,List.filter_cons_of_neg (by simp [h])]
theorem zFX (q : Int) (l : List Ch) : zb7 (zM1 q) [] l = ofQ q l := by
 rw [zfP,zrl]
 rfl
theorem zfi {q : Int} : ∀ (cs a : List Ce),(zdU (zM1 q) a cs).length ≤ a.length + cs.length
 |[],a=>Nat.le_refl _
 |x :: cs,a=>by
  have := zfi (q := q) cs (zM1 q a x)
  show (zdU (zM1 q) (zM1 q a x) cs).length ≤ _
  have h2 : (zM1 q a x).length ≤ a.length + 1 := by
   unfold zM1
   split <;> simp
  simp only [List.length_cons]
  omega
theorem zBK {m : Nat} {D : List Ce} : ltO m (ceR D) = true := by
 show ((2 : Nat) == 0 || (D.map ceE).all (ltA m)) = true
 rw [List.all_map]
 exact zfx
theorem zJC (m : Nat) (kc : ASt → RO) (kx : KO (AV × List AObj)) (q : Int) (D : List Ce) (i : Nat) (hi : i < l.length) (hil : i < 1000000) (hD : D.length ≤ 1000000) (hcl : l[i].cs.length ≤ 1000) (hm : 1000 < m) :
  z7c m (z90 m) ⟨zLk D,[(0,zNb l),(1,nA q),(4,OP 0 0),(5,OW 1 D.length),(6,nA i),(7,nA 0)]⟩ (z0P 2 (z0P 1 (zM3 (fun s=>z92 m 2 kc kx ⟨s.H,[(0,get s.T 0),(1,get s.T 1),(4,get s.T 4),(5,get s.T 5),(6,get s.T 6)]⟩) (z5s 2 [0,1,4,5,6] [1,4,5] kc kx)))) = kc ⟨zLk (zdU (zM1 q) D l[i].cs),[(0,zNb l),(1,nA q),(4,OP 0 0),(5,OW 1 (zdU (zM1 q) D l[i].cs).length),(6,nA (i + 1 : Nat))]⟩ := by
 refine z13 (m := m) (ι := {k : Nat // k ≤ l[i].cs.length}) (fun k=>⟨zLk (zdU (zM1 q) D (l[i].cs.take k.1)),[(0,zNb l),(1,nA q),(4,OP 0 0),(5,OW 1 (zdU (zM1 q) D (l[i].cs.take k.1)).length),(6,nA i),(7,nA k.1)]⟩) (fun k=>l[i].cs.length - k.1) (fun _=>kc ⟨zLk (zdU (zM1 q) D l[i].cs),[(0,zNb l),(1,nA q),(4,OP 0 0),(5,OW 1 (zdU (zM1 q) D l[i].cs).length),(6,nA (i + 1 : Nat))]⟩) ?_ ⟨0,Nat.zero_le _⟩ (by dsimp only;omega)
 rintro kx' hkx ⟨k,hk⟩ kc' hkc
 dsimp only at hkc ⊢
 rw [zhd]
 unfold zNb at hkc ⊢
 have hwi : IntKind.i64.wrap ((i : Int) + 1) = (i : Int) + 1 := z2s (by omega) (by omega)
 have hlen := zfi (q := q) (l[i].cs.take k) D
 rw [List.length_take] at hlen
 have hal : ∀ D,(zLk D).all (ltO 2) = true := fun D=>by
  show (ltO 2 zbO && (ltO 2 (ceR D) && true)) = true
  rw [zBK];rfl
 have hll : ∀ D,(zLk D).length = 2 := fun D=>rfl
 have htk : ∀ D,(zLk D).take 2 = zLk D := fun D=>rfl
 by_cases hlt : k < l[i].cs.length
 ·have hlt' : (k : Int) < (l[i].cs.length : Int) := by omega
  have hw1 : IntKind.i64.wrap ((k : Int) + 1) = (k : Int) + 1 := z2s (by omega) (by omega)
  have step := hkc ⟨k + 1,by omega⟩ (by dsimp only;omega)
  dsimp only at step
  rw [zpK hlt] at step
  generalize zdU (zM1 q) D (l[i].cs.take k) = a at *
  by_cases hc : l[i].cs[k].sq = q
  ·rw [show zM1 q a l[i].cs[k] = a ++ [l[i].cs[k]] from if_pos hc] at step
   have ha2 : a.length + 1 ≤ 34359738368 := by omega
   have n1 : ∀ {K : AObj → RO},z2Q (zLk a) 1 K = K (ceR a) := fun {K}=>rfl
   have e1 : zs3 5 [.agg (ceC l[i].cs[k])] = true := rfl
   have e2 : ((zLk a).set 1 (ceR (a ++ [l[i].cs[k]]))) = zLk (a ++ [l[i].cs[k]]) := rfl
   have e3 : (⟨2,z07,5,a.map ceE ++ [.agg (ceC l[i].cs[k])]⟩ : AObj) = ceR (a ++ [l[i].cs[k]]) := by unfold ceR;rw [List.map_append];rfl
   have e4 : ceR a = ⟨2,z07,5,a.map ceE⟩ := rfl
   simp (config := {maxSteps := 4000000,implicitDefEqProofs := false}) (disch := omega) only [go_sem,hi,hlt,hlt',hc,hw1,e1,n1,e4,e3,e2,ha2,hal,hll,htk,za8]
   rw [List.length_append] at step
   exact step
  ·rw [show zM1 q a l[i].cs[k] = a from if_neg hc] at step
   simp (config := {maxSteps := 4000000,implicitDefEqProofs := false}) (disch := omega) only [go_sem,hi,hlt,hlt',hc,hw1,hal,hll,htk,za8]
   exact step
 ·obtain rfl : k = l[i].cs.length := by omega
  have hlt' : ¬ (l[i].cs.length : Int) < (l[i].cs.length : Int) := Int.lt_irrefl _
  rw [List.take_length]
  simp (config := {maxSteps := 4000000,implicitDefEqProofs := false}) (disch := omega) only [go_sem,hi,hlt',hkx,hwi,hal,hll,htk,zh4]
  rfl
end
end

section
open Go.RowKit
set_option maxHeartbeats 4000000
section
variable {n : Int} {l : List Ch}
theorem zC8 {D : List Ce} : (zLk D).all (ltO 2) = true := by
 show (ltO 2 zbO && (ltO 2 (ceR D) && true)) = true
 rw [zBK];rfl
def leB (x y : Ce) : Bool := decide (y.vw ≤ x.vw)
theorem le_succ {d : List Ce} {x : Ce} {k : Nat} (h : k < d.length) : (d.take (k + 1)).all (leB x) = ((d.take k).all (leB x) && leB x d[k]) := by
 rw [List.take_succ_eq_append_getElem h,List.all_append]
 simp
theorem rat_fin {H : List AObj} {T : Tm} : z2w .ret ⟨H,T⟩ = z04 6 H (get T 4) fun x=>z1Z H (ro H x) := by
 rw [← zwH]
 kernel_rfl
theorem zGy (m : Nat) (kx0 : KO (AV × List AObj)) (q : Int) (d : List Ce) (i : Nat) (hi : i < d.length) (hd : d.length ≤ 1000000) (hm : 1000001 < m) :
  z7c m (z8X m) ⟨zLk d,[(1,nA q),(4,OP 0 0),(5,OW 1 d.length),(8,nA i),(9,bA true),(10,nA 0)]⟩ kx0 = kx0 (.exit 6) ⟨zLk d,[(1,nA q),(4,OP 0 0),(5,OW 1 d.length),(8,nA i),(9,bA (zLx d d[i]))]⟩ := by
 refine z13 (m := m) (ι := {k : Nat // k ≤ d.length}) (fun k=>⟨zLk d,[(1,nA q),(4,OP 0 0),(5,OW 1 d.length),(8,nA i),(9,bA ((d.take k.1).all (leB d[i]))),(10,nA k.1)]⟩) (fun k=>d.length - k.1) (fun _=>kx0 (.exit 6) ⟨zLk d,[(1,nA q),(4,OP 0 0),(5,OW 1 d.length),(8,nA i),(9,bA (zLx d d[i]))]⟩) ?_ ⟨0,Nat.zero_le _⟩ (by dsimp only;omega)
 rintro kx hkx ⟨k,hk⟩ kc hkc
 dsimp only at hkc ⊢
 rw [zh1]
 have hal := zC8 (D := d)
 have hll : (zLk d).length = 2 := rfl
 have htk : (zLk d).take 2 = zLk d := rfl
 have n1 : ∀ {K : AObj → RO},z2Q (zLk d) 1 K = K (ceR d) := fun {K}=>rfl
 have e4 : ceR d = ⟨2,z07,5,d.map ceE⟩ := rfl
 have hi' : (i : Int) < (d.length : Int) := by omega
 by_cases hlt : k < d.length
 ·have hlt' : (k : Int) < (d.length : Int) := by omega
  have hw1 : IntKind.i64.wrap ((k : Int) + 1) = (k : Int) + 1 := z2s (by omega) (by omega)
  have step := hkc ⟨k + 1,by omega⟩ (by dsimp only;omega)
  dsimp only at step
  rw [le_succ hlt] at step
  by_cases hc : d[i].vw < d[k].vw
  ·have e : leB d[i] d[k] = false := decide_eq_false (by omega)
   rw [e,Bool.and_false] at step
   simp (config := {maxSteps := 4000000,implicitDefEqProofs := false}) (disch := omega) only [go_sem,hi,hi',hlt,hlt',hc,hw1,n1,e4,hal,hll,htk,zas]
   exact step
  ·have e : leB d[i] d[k] = true := decide_eq_true (by omega)
   rw [e,Bool.and_true] at step
   simp (config := {maxSteps := 4000000,implicitDefEqProofs := false}) (disch := omega) only [go_sem,hi,hi',hlt,hlt',hc,hw1,n1,e4,hal,hll,htk,zas]
   exact step
 ·obtain rfl : k = d.length := by omega
  have hlt' : ¬ (d.length : Int) < (d.length : Int) := Int.lt_irrefl _
  rw [List.take_length]
  simp (config := {maxSteps := 4000000,implicitDefEqProofs := false}) (disch := omega) only [go_sem,hlt',hkx,hll]
  rfl
theorem zFW (m : Nat) (q : Int) (d : List Ce) (hd : d.length ≤ 1000000) (hm : 1000001 < m) :
  z8V m ⟨zLk d,[(1,nA q),(4,OP 0 0),(5,OW 1 d.length)]⟩ = some (coE (zLL q d),[]) := by
 rw [zgZ]
 refine z13 (m := m) (ι := {k : Nat // k ≤ d.length ∧ ∀ (j : Nat) (h : j < d.length),j < k → zLx d d[j] = false}) (fun k=>⟨zLk d,[(1,nA q),(4,OP 0 0),(5,OW 1 d.length),(8,nA k.1)]⟩) (fun k=>d.length - k.1) (fun _=>some (coE (zLL q d),[])) ?_ ⟨0,Nat.zero_le _,fun j _ h=>by omega⟩ (by dsimp only;omega)
 rintro kx hkx ⟨k,hk,hno⟩ kc hkc
 dsimp only at hkc ⊢
 rw [zho]
 have hal := zC8 (D := d)
 have hll : (zLk d).length = 2 := rfl
 have htk : (zLk d).take 2 = zLk d := rfl
 have n1 : ∀ {K : AObj → RO},z2Q (zLk d) 1 K = K (ceR d) := fun {K}=>rfl
 have n0 : ∀ {K : AObj → RO},z2Q (zLk d) 0 K = K zbO := fun {K}=>rfl
 have e4 : ceR d = ⟨2,z07,5,d.map ceE⟩ := rfl
 have hset : ∀ {c : Co},(zLk d).set 0 ⟨1,z0q,0,coC c⟩ = [⟨1,z0q,0,coC c⟩,ceR d] := fun {c}=>rfl
 have hn0 : ∀ {o : AObj} {K : AObj → RO},z2Q [o,ceR d] 0 K = K o := fun {o K}=>rfl
 have hzb : zbO = ⟨1,z0q,0,zc_api_Choice⟩ := rfl
 by_cases hlt : k < d.length
 ·have hlt' : (k : Int) < (d.length : Int) := by omega
  have hw1 : IntKind.i64.wrap ((k : Int) + 1) = (k : Int) + 1 := z2s (by omega) (by omega)
  have h4 := fun kx0=>zGy m kx0 q d k hlt hd hm
  cases ht : zLx d d[k] with
  |true =>
   have hb : ∀ {a b : Int} {s : List UInt8} {K1 : AV → RO},z1F (some z3M) (some zc_api_Choice) [(0,nA a),(1,nA b),(2,sA s)] K1 = K1 (.agg (coC ⟨a,b,s,false⟩)) := _root_.id rfl
   rw [zrA hlt ht fun j hj=>hno j (by omega) hj]
   simp (config := {maxSteps := 4000000,implicitDefEqProofs := false}) (disch := omega) only [go_sem,hlt',hll]
   refine (h4 _).trans ?_
   rw [ht]
   simp (config := {maxSteps := 4000000,implicitDefEqProofs := false}) (disch := omega) only [go_sem,hlt,hlt',hkx,n0,n1,e4,hzb,hb,hset,hll,zaa]
   refine rat_fin.trans ?_
   simp (config := {maxSteps := 4000000,implicitDefEqProofs := false}) (disch := omega) only [go_sem,hn0]
   rfl
  |false =>
   have step := hkc ⟨k + 1,by omega,fun j hj hjk=>by
    by_cases e : j = k
    ·subst e;exact ht
    ·exact hno j hj (by omega)⟩ (by dsimp only;omega)
   dsimp only at step
   simp (config := {maxSteps := 4000000,implicitDefEqProofs := false}) (disch := omega) only [go_sem,hlt',hll]
   refine (h4 _).trans ?_
   rw [ht]
   simp (config := {maxSteps := 4000000,implicitDefEqProofs := false}) (disch := omega) only [go_sem,hlt,hlt',hw1,hal,hll,htk,zaa,zha]
   exact step
 ·obtain rfl : k = d.length := by omega
  have hlt' : ¬ (d.length : Int) < (d.length : Int) := Int.lt_irrefl _
  have hb : ∀ {K1 : AV → RO},z1F (some z3M) (some zc_api_Choice) [(0,nA q),(3,V (.bool true))] K1 = K1 (.agg (coC (co0 q))) := _root_.id rfl
  rw [zqW fun j hj=>hno j hj hj]
  simp (config := {maxSteps := 4000000,implicitDefEqProofs := false}) (disch := omega) only [go_sem,hlt',hkx,hll,n0,hn0,hset,hzb,hb,zhl]
theorem zxY {q : Int} (hf : ∀ c ∈ l,c.cs.length ≤ 1000) : ∀ k,k ≤ l.length → (zb7 (zM1 q) [] (l.take k)).length ≤ 1000 * k
 |0,_=>by simp [zb7]
 |k + 1,hk=>by
  have hk' : k < l.length := by omega
  have ih := zxY hf k (by omega) (q := q)
  have h1 := hf _ (List.getElem_mem hk')
  unfold zb7 at ih ⊢
  rw [List.take_succ_eq_append_getElem hk',List.foldl_append]
  have := zfi (q := q) l[k].cs ((l.take k).foldl (fun a c=>zdU (zM1 q) a c.cs) [])
  show (zdU (zM1 q) _ l[k].cs).length ≤ _
  omega
theorem zH5 (m : Nat) (q : Int) (hf : zNE l) (hm : 1000001 < m) : z6J m (zNb l) (nA q) = some (coE (zLL q (ofQ q l)),[]) := by
 have hl := hf.1
 rw [zkM]
 have ha : ∀ {K : AV → List AObj → RO},z2f (some zc_api_Choice) z0q [] K = K (OP 0 0) [zbO] := fun {K}=>rfl
 have hr : ∀ {K : AV → List AObj → RO},zNf (V (.slice none 0 0)) z07 5 [zbO] K = K (OW 1 0) (zLk []) := fun {K}=>rfl
 rw [ha,hr]
 refine z13 (m := m) (ι := {k : Nat // k ≤ l.length}) (fun k=>⟨zLk (zb7 (zM1 q) [] (l.take k.1)),[(0,zNb l),(1,nA q),(4,OP 0 0),(5,OW 1 (zb7 (zM1 q) [] (l.take k.1)).length),(6,nA k.1)]⟩) (fun k=>l.length - k.1) (fun _=>some (coE (zLL q (ofQ q l)),[])) ?_ ⟨0,Nat.zero_le _⟩ (by dsimp only;omega)
 rintro kx hkx ⟨k,hk⟩ kc hkc
 dsimp only at hkc ⊢
 rw [zhb]
 have hlen := zxY (q := q) hf.2 k hk
 by_cases hlt : k < l.length
 ·have hlt' : (k : Int) < (l.length : Int) := by omega
  have step := hkc ⟨k + 1,by omega⟩ (by dsimp only;omega)
  dsimp only at step
  have e : zb7 (zM1 q) [] (l.take (k + 1)) = zdU (zM1 q) (zb7 (zM1 q) [] (l.take k)) l[k].cs := by
   unfold zb7
   rw [List.take_succ_eq_append_getElem hlt,List.foldl_append]
   rfl
  rw [e] at step
  generalize zb7 (zM1 q) [] (l.take k) = D at *
  have hll : (zLk D).length = 2 := rfl
  have h2 := zJC m kc kx q D k hlt (by omega) (by omega) (hf.2 _ (List.getElem_mem hlt)) (by omega)
  unfold zNb at h2 step ⊢
  simp (config := {maxSteps := 4000000,implicitDefEqProofs := false}) (disch := omega) only [go_sem,hlt,hlt',hll]
  exact h2.trans step
 ·obtain rfl : k = l.length := by omega
  have hlt' : ¬ (l.length : Int) < (l.length : Int) := Int.lt_irrefl _
  rw [List.take_length,zFX] at hlen ⊢
  have h3 := zFW m q (ofQ q l) (by omega) hm
  have hll : (zLk (ofQ q l)).length = 2 := rfl
  unfold zNb
  simp (config := {maxSteps := 4000000,implicitDefEqProofs := false}) (disch := omega) only [go_sem,hlt',hkx,hll]
  exact h3
theorem zJE (m : Nat) (q : Int) (h : LOk n l) (hf : zNE l) (hm : 1000001 < m) : z6J m (zNb l) (nA q) = some (coE (atF q l),[]) := by
 rw [zH5 m q hf hm,zDO]
 intro c hc x hx
 obtain ⟨j,hj,rfl⟩ := List.mem_iff_getElem.1 hx
 exact ((h.all c hc).cs j hj).vw
end
end

section
open Go.RowKit
def zN6 (last : Int) (cs : List Ce) : Nat → Int
 |0=>last
 |j + 1=>(cs.getD j Ce.zero).sq
theorem zCq {st : Int} {cs : List Ce} : ∀ j,zN6 st cs j = znj st cs j
 |0=>rfl
 |j + 1=>rfl
theorem zxQ {R : List Sm} {n st vw : Int} : ∀ (cs : List Ce) (T : List (List UInt8)) (last : Int),(csF R n st vw T last cs).1 = true → ∀ (j : Nat) (h : j < cs.length),zN6 last cs j < cs[j].sq ∧ cs[j].sq ≤ st + 16
 |[],T,last,_,j,h=>by simp at h
 |x :: r,T,last,hF,j,h=>by
  simp only [csF] at hF
  split at hF
  ·rename_i h1
   split at hF
   ·have ih := zxQ r _ _ hF
    unfold zmT at h1
    simp only [Bool.and_eq_true,decide_eq_true_eq] at h1
    cases j with
    |zero=>exact ⟨h1.1,h1.2.1⟩
    |succ j =>
     have := ih j (by simpa using h)
     cases j with
     |zero=>exact this
     |succ j=>exact this
   ·cases hF
  ·cases hF
theorem zDB {T : List (List UInt8)} {R : List Sm} {c : Ch} {n : Int} (h : (chF T R c n).1 = true) : ChOk n c := by
 unfold chF at h
 split at h
 ·rename_i h1
  simp only [Bool.and_eq_true,decide_eq_true_eq] at h1
  obtain ⟨hn,hB,hfn,hvw,hst⟩ := h1
  split at h
  ·rename_i h2
   have hs := zxQ _ _ _ h2
   have hC := zsl hB
   obtain ⟨g0,g1,g2,g3⟩ := zsj hB
   obtain ⟨h7,h8⟩ := zpC g3
   refine ⟨?_,hfn,?_,hC.st.2,fun j hj=>?_⟩
   ·exact (zkz (zqJ g0)).1
   ·unfold stH at hst
    by_cases e : c.st = 0
    ·exact .inl e
    ·rw [if_neg e,Bool.and_eq_true] at hst
     exact .inr hst.1
   ·obtain ⟨q1,q2⟩ := hs j hj
    obtain ⟨p1,p2,p3⟩ := ztf (List.all_eq_true.1 h8 _ (List.getElem_mem hj))
    simp only [List.all_cons,List.all_nil,Bool.and_true,Bool.and_eq_true] at p1
    exact ⟨by rw [← zCq];exact q1,q2,(zkz p1.2.1).1,p2⟩
  ·cases h
 ·cases h
theorem zCK {a : Int} {x : Ce} : a ≤ zLp a x := by
 unfold zLp
 split <;> omega
theorem zrC {M : Int} : ∀ (d : List Ce) (a : Int),(∀ x ∈ d,x.sq ≤ M) → a ≤ M → a ≤ d.foldl zLp a ∧ d.foldl zLp a ≤ M
 |[],a,_,h=>⟨Int.le_refl _,h⟩
 |x :: d,a,hd,h=>by
  have h1 := zrC d (zLp a x) (fun y hy=>hd y (List.mem_cons_of_mem _ hy)) (zHj h (hd x (List.mem_cons_self ..)))
  have h2 := zCK (a := a) (x := x)
  exact ⟨Int.le_trans h2 h1.1,h1.2⟩
theorem zrb {l : List Ch} : ∀ k,k ≤ l.length → ∀ j (h : j < l.length),j < k → l[j].st ≤ (zom l k).st
 |0,_,j,_,hj=>by omega
 |k + 1,hk,j,h,hj=>by
  rw [zp5 (by omega)]
  by_cases e : j = k
  ·subst e
   split <;> omega
  ·have := zrb k (by omega) j h (by omega)
   split <;> omega
theorem zzd {n : Int} {l : List Ch} (h : LOk n l) : (zMg l).st ≤ zkJ l ∧ zkJ l ≤ (zMg l).st + 16 := by
 unfold zkJ
 rw [zfP]
 refine zrC _ _ (fun x hx=>?_) (by omega)
 rw [List.mem_flatMap] at hx
 obtain ⟨c,hc,hx⟩ := hx
 obtain ⟨j,hj,rfl⟩ := List.mem_iff_getElem.1 hx
 obtain ⟨i,hi,rfl⟩ := List.mem_iff_getElem.1 hc
 have h1 := ((h.all _ hc).cs j hj).hi
 have h2 := zrb l.length (Nat.le_refl _) i hi hi
 unfold zMg
 omega
def vwF (R : List Sm) (n vw : Int) : List (List UInt8) → List Ch → Bool × List (List UInt8)
 |T,[]=>(true,T)
 |T,c :: r=>if c.vw = vw then (if (chF T R c n).1 = true then vwF R n vw (chF T R c n).2 r else (false,(chF T R c n).2)) else (false,T)
theorem zws {R : List Sm} {n vw : Int} : ∀ (l : List Ch) (T : List (List UInt8)),(vwF R n vw T l).1 = true → ∀ c ∈ l,ChOk n c
 |[],T,_,c,hc=>by simp at hc
 |x :: r,T,h,c,hc=>by
  simp only [vwF] at h
  split at h
  ·split at h
   ·rename_i h2
    rcases List.mem_cons.1 hc with e|e
    ·subst e;exact zDB h2
    ·exact zws r _ h c e
   ·cases h
  ·cases h
def nvF (R : List Sm) (T : List (List UInt8)) (x : Ms) (n : Int) : List Co × Int × List (List UInt8) :=
  if x.kd = 7 ∧ okN n = true then
    (if x.fr = prN x.vw n then
      (if (vwF R n x.vw T x.chs).1 = true then
        (if zLB  n x.chs = true then
          (if (nsS (vwF R n x.vw T x.chs).2 x).2.1 = 0 ∧ (nsS (vwF R n x.vw T x.chs).2 x).1 ∈ R then
            (zMP  x.chs (zMg  x.chs).st (zkJ   x.chs - (zMg  x.chs).st).toNat, 0, (nsS (vwF R n x.vw T x.chs).2 x).2.2)
          else ([], 19, (nsS (vwF R n x.vw T x.chs).2 x).2.2))
        else ([], 1, (vwF R n x.vw T x.chs).2))
      else ([], 3, (vwF R n x.vw T x.chs).2))
    else ([], 21, T))
  else ([], 1, T)
end

section
open Go.RowKit
set_option maxHeartbeats 4000000
attribute [local go_sem] zN3 zMM zpp zoA zat zi6 z7p z82 z6w w_0 zM0 zMt zLt zmd zm9 zan z39 z4N z65 z2g zbn Nat.le_add_right List.append_assoc
theorem zEj {T : List (List UInt8)} {x : Ms} (hT : T.length ≤ 65536) (h1 : I64 x.fr) (h2 : I64 x.vw) : SmI (zM2 T x) := by
 have := zDE (s := zLz x.chs) hT
 exact ⟨h1,by show I64 7;exact ⟨by omega,by omega⟩,h2,by show I64 0;exact ⟨by omega,by omega⟩,by show I64 (ofN T (zLz x.chs) : Int);exact ⟨by omega,by omega⟩⟩
theorem zx2 {l : List Ch} (h : l.all cgB = true) (hl : l.length ≤ 1000) : (zLz l).length ≤ 9223372036854775807 := by
 have := zqp h
 omega
theorem zzz {σ : Sg} {x : Ms} (h : SgOk σ) (hl : x.chs.length ≤ 1000) : SgOk { σ with T := (nsS σ.T x).2.2 } := by
 unfold nsS
 split
 ·rename_i hc
  split
  ·exact h.of (zx2 hc hl)
  ·exact h.of (zx2 hc hl)
 ·exact h
section
variable (m : Nat) (A B : List AObj) (σ : Sg) (x : Ms) (n : Int) (hG : GB A B) (hm : 1000001 < m) (hl : x.chs.length ≤ 1000) (hf : zNE x.chs) (hx1 : I64 x.fr) (hx2 : I64 x.vw) (hn : okN n = true)
include hG hm hl hf hx1 hx2 hn
theorem nv3_s (hσ : SgOk σ) (hall : ∀ c ∈ x.chs, ChOk n c) :
    zbz             m (nAB A B) ⟨sc A B σ ++ [⟨1, z0t       , 0, msC x⟩], [(0, OP (A.length + 4) 0), (1, OP (A.length + 1) 0), (3, nA n), (6, OP (nAB A B) 0)]⟩ =
      if zLB  n x.chs = true then
        (if (nsS σ.T x).2.1 = 0 ∧ (nsS σ.T x).1 ∈ σ.R then
          some (TU [SL ((zMP  x.chs (zMg  x.chs).st (zkJ   x.chs - (zMg  x.chs).st).toNat).map coE), nA 0], sc A B { σ with T := (nsS σ.T x).2.2 })
        else some (TU [SL [], nA 19], sc A B { σ with T := (nsS σ.T x).2.2 }))
      else some (TU [SL [], nA 1], sc A B σ) := by
  have hlt := fun {σ : Sg} => zkx   hG (σ := σ) (Nat.le_refl _)
  have hmay := zG5    m hn hall hf (by omega)
  unfold zNb  at hmay
  rw [zjU               ]
  by_cases hb : zLB  n x.chs = true
  · rw [if_pos hb]
    rw [hb] at hmay
    have hL := ztS     hn hall hb
    have hst := zpF        m A (B ++ [⟨1, z0t       , 0, msC x⟩]) σ x (hG.app fun n => by simp [zjg   ]) hσ hm hl
    rw [z8H   , z8H   , zmH  ] at hst
    have hσ2 := zzz    hσ hl
    unfold nsS at hst hσ2 ⊢
    have hh := fun (s : Sm) (hs : SmI s) => zuI    m A (B ++ [⟨1, z0t       , 0, msC x⟩, ⟨1, z01        , 0, smC s⟩]) { σ with T := oqT σ.T (zLz  x.chs) } s (hG.app fun n => by simp [zjg   , z6w   ])
    have hhb := zzd    hL
    have hch := zlT              m x.chs n (zkJ   x.chs - (zMg  x.chs).st).toNat hL hf (by omega) (by omega)
    unfold zNb  at hch
    cases ha : x.chs.all cgB with
    | false =>
      rw [ha, if_neg (by decide)] at hst
      rw [if_neg (show ¬ (false : Bool) = true by decide), if_neg (by simp)]
      dsimp only at hst
      rw [z6x  ] at hst
      simp (config := {maxSteps := 4000000, implicitDefEqProofs := false}) (disch := omega) only [go_sem, zLM , hmay, hst, hlt, z57               ]
    | true =>
      rw [ha, if_pos rfl] at hst hσ2
      rw [if_pos rfl]
      by_cases h0 : ofE σ.T (zLz  x.chs) = 0
      · rw [if_pos h0] at hst hσ2 ⊢
        dsimp only at hst hσ2 ⊢
        have hh2 := hh (zM2  σ.T x) (zEj    hσ.tl hx1 hx2) hσ2 (zEj    hσ.tl hx1 hx2)
        rw [z8H   , z6x  ] at hh2
        rw [z6x  ] at hst
        by_cases hr : zM2  σ.T x ∈ σ.R
        · rw [if_pos ⟨rfl, hr⟩]
          rw [decide_eq_true hr] at hh2
          simp (config := {maxSteps := 4000000, implicitDefEqProofs := false}) (disch := omega) only [go_sem, zLM , hmay, hst, hh2, hch, hlt, z57               , zjs               ]
        · rw [if_neg (fun q => hr q.2)]
          rw [decide_eq_false hr] at hh2
          simp (config := {maxSteps := 4000000, implicitDefEqProofs := false}) (disch := omega) only [go_sem, zLM , hmay, hst, hh2, hlt, z57               ]
      · rw [if_neg h0] at hst ⊢
        dsimp only at hst ⊢
        rw [if_neg (by simp)]
        rw [z6x  ] at hst
        simp (config := {maxSteps := 4000000, implicitDefEqProofs := false}) (disch := omega) only [go_sem, zLM , hmay, hst, hlt, z57               ]
  · rw [if_neg hb]
    have hb' : zLB  n x.chs = false := by simpa using hb
    rw [hb'] at hmay
    simp (config := {maxSteps := 4000000, implicitDefEqProofs := false}) (disch := omega) only [go_sem, hmay, hlt]
theorem nv2_s (hσ : SgOk σ) :
    z8f             m (nAB A B) ⟨sc A B σ ++ [⟨1, z0t       , 0, msC x⟩], [(0, OP (A.length + 4) 0), (1, OP (A.length + 1) 0), (3, nA n), (6, OP (nAB A B) 0)]⟩ =
      if (vwF σ.R n x.vw σ.T x.chs).1 = true then
        (if zLB  n x.chs = true then
          (if (nsS (vwF σ.R n x.vw σ.T x.chs).2 x).2.1 = 0 ∧ (nsS (vwF σ.R n x.vw σ.T x.chs).2 x).1 ∈ σ.R then
            some (TU [SL ((zMP  x.chs (zMg  x.chs).st (zkJ   x.chs - (zMg  x.chs).st).toNat).map coE), nA 0], sc A B { σ with T := (nsS (vwF σ.R n x.vw σ.T x.chs).2 x).2.2 })
          else some (TU [SL [], nA 19], sc A B { σ with T := (nsS (vwF σ.R n x.vw σ.T x.chs).2 x).2.2 }))
        else some (TU [SL [], nA 1], sc A B { σ with T := (vwF σ.R n x.vw σ.T x.chs).2 }))
      else some (TU [SL [], nA 3], sc A B { σ with T := (vwF σ.R n x.vw σ.T x.chs).2 }) := by
  have hlt := fun {σ : Sg} => zkx   hG (σ := σ) (Nat.le_refl _)
  have hlt1 := fun {σ : Sg} => zkx   hG (σ := σ) (n := nAB A B + 1) (by omega)
  have hB1 : nAB A B < nAB A B + 1 := Nat.lt_succ_self _
  have h14 : A.length + 4 < nAB A B + 1 ∧ A.length + 1 < nAB A B + 1 := by unfold nAB; omega
  rw [zjT               ]
  simp (config := {maxSteps := 4000000, implicitDefEqProofs := false}) (disch := omega) only [go_sem, ]
  refine z13     (m := m) (ι := {p : Nat × List (List UInt8) // p.1 ≤ x.chs.length ∧ SgOk { σ with T := p.2 } ∧ vwF σ.R n x.vw σ.T x.chs = vwF σ.R n x.vw p.2 (x.chs.drop p.1)}) (fun p => ⟨sc A B { σ with T := p.1.2 } ++ [⟨1, z0t       , 0, msC x⟩], [(0, OP (A.length + 4) 0), (1, OP (A.length + 1) 0), (3, nA n), (6, OP (nAB A B) 0), (38, SL (x.chs.map cgE)), (39, nA x.chs.length), (40, nA p.1.1)]⟩) (fun p => x.chs.length - p.1.1) (fun _ => _) ?_ ⟨(0, σ.T), Nat.zero_le _, hσ, rfl⟩ (by dsimp only; omega)
  rintro kx hkx ⟨⟨k, T⟩, hk, hT, hF⟩ kc hkc
  dsimp only at hkc hk hT hF ⊢
  rw [zjE               ]
  by_cases h : k < x.chs.length
  · have h' : (k : Int) < (x.chs.length : Int) := by omega
    have hw1 : IntKind.i64.wrap ((k : Int) + 1) = (k : Int) + 1 := z2s   (by omega) (by omega)
    rw [List.drop_eq_getElem_cons h] at hF
    simp only [vwF] at hF
    have hv := zoq       m A (B ++ [⟨1, z0t       , 0, msC x⟩, ⟨1, z00          , 0, cgC x.chs[k]⟩]) { σ with T := T } x.chs[k] n (hG.app fun n => by simp [zjg   , zhi   ]) hT hm
    rw [z8H   , z8H   , zaD  ] at hv
    dsimp only at hv
    have hT2 := zDI    (σ := { σ with T := T }) (c := x.chs[k]) (n := n) hT
    dsimp only at hT2
    by_cases c1 : x.chs[k].vw = x.vw
    · rw [if_pos c1] at hF
      by_cases c2 : (chF T σ.R x.chs[k] n).1 = true
      · rw [if_pos c2] at hF
        rw [c2] at hv
        have step := hkc ⟨(k + 1, (chF T σ.R x.chs[k] n).2), by dsimp only; omega, hT2, hF⟩ (by dsimp only; omega)
        dsimp only at step
        simp (config := {maxSteps := 4000000, implicitDefEqProofs := false}) (disch := omega) only [go_sem, h, h', c1, hv, hw1, hlt1, h14, hB1, zjg   , zMH , z7D               , zjo               ]
        exact step
      · rw [if_neg c2] at hF
        have c2' : (chF T σ.R x.chs[k] n).1 = false := by simpa using c2
        rw [c2'] at hv
        rw [hF, if_neg (show ¬ (false : Bool) = true by decide)]
        simp (config := {maxSteps := 4000000, implicitDefEqProofs := false}) (disch := omega) only [go_sem, h, h', c1, hv, hkx, hlt, zMH , z7D               ]
    · rw [if_neg c1] at hF
      rw [hF, if_neg (show ¬ (false : Bool) = true by decide)]
      simp (config := {maxSteps := 4000000, implicitDefEqProofs := false}) (disch := omega) only [go_sem, h, h', c1, hkx, hlt, zMH , z7D               ]
  · obtain rfl : k = x.chs.length := by omega
    have h' : ¬ (x.chs.length : Int) < (x.chs.length : Int) := Int.lt_irrefl _
    rw [List.drop_length] at hF
    simp only [vwF] at hF
    have h1 : (vwF σ.R n x.vw σ.T x.chs).1 = true := by rw [hF]
    have h3 := nv3_s m A B { σ with T := T } x n hG hm hl hf hx1 hx2 hn hT (zws    _ _ h1)
    dsimp only at h3
    rw [hF, if_pos rfl]
    dsimp only
    rw [← h3]
    simp (config := {maxSteps := 4000000, implicitDefEqProofs := false}) (disch := omega) only [go_sem, h', hkx]
end
theorem ztw (m : Nat) (A B : List AObj) (σ : Sg) (x : Ms) (n : Int) (hG : GB A B) (hσ : SgOk σ) (hm : 1000001 < m) (hl : x.chs.length ≤ 1000) (hf : zNE x.chs) (hx1 : I64 x.fr) (hx2 : I64 x.vw) :
  z69 m (OP (A.length + 4) 0) (OP (A.length + 1) 0) (msE x) (nA n) (sc A B σ) = some (TU [SL ((nvF σ.R σ.T x n).1.map coE),nA (nvF σ.R σ.T x n).2.1],sc A B { σ with T := (nvF σ.R σ.T x n).2.2 }) := by
 have hlt := fun {σ : Sg}=>zkx hG (σ := σ) (Nat.le_refl _)
 have hF := zh6 m n
 rw [zgP,zmH]
 unfold nvF
 by_cases h1 : x.kd = 7
 ·cases hn : okN n with
  |false =>
   rw [hn] at hF
   rw [if_neg (by simp)]
   simp (config := {maxSteps := 4000000,implicitDefEqProofs := false}) (disch := omega) only [go_sem,h1,hF,hlt,z3E]
  |true =>
   rw [hn] at hF
   rw [if_pos ⟨h1,rfl⟩]
   have hr := zhy hn
   have hp := znW m x.vw n ⟨hx2.1,by have := hx2.2;omega⟩ (by omega)
   rw [show (if n < 1 then 0 else x.vw % n) = prN x.vw n from rfl] at hp
   by_cases h2 : x.fr = prN x.vw n
   ·rw [if_pos h2]
    have h3 := nv2_s m A B σ x n hG hm hl hf hx1 hx2 hn hσ
    refine Eq.trans ?_ (h3.trans ?_)
    ·have h2' : prN x.vw n = x.fr := h2.symm
     simp (config := {maxSteps := 4000000,implicitDefEqProofs := false}) (disch := omega) only [go_sem,h1,hF,hp,h2',hlt,z3E]
    ·by_cases q1 : (vwF σ.R n x.vw σ.T x.chs).1 = true
     ·rw [if_pos q1,if_pos q1]
      by_cases q2 : zLB n x.chs = true
      ·rw [if_pos q2,if_pos q2]
       by_cases q3 : (nsS (vwF σ.R n x.vw σ.T x.chs).2 x).2.1 = 0 ∧ (nsS (vwF σ.R n x.vw σ.T x.chs).2 x).1 ∈ σ.R
       ·rw [if_pos q3,if_pos q3]
       ·rw [if_neg q3,if_neg q3]
        rfl
      ·rw [if_neg q2,if_neg q2]
       rfl
     ·rw [if_neg q1,if_neg q1]
      rfl
   ·rw [if_neg h2]
    simp (config := {maxSteps := 4000000,implicitDefEqProofs := false}) (disch := omega) only [go_sem,h1,hF,hp,h2,hlt,z3E]
 ·rw [if_neg (fun q=>h1 q.1)]
  simp (config := {maxSteps := 4000000,implicitDefEqProofs := false}) (disch := omega) only [go_sem,h1,hF,hlt,z3E]
end

section
open Go.RowKit
set_option maxHeartbeats 4000000
attribute [local go_sem] zN3 zMM zpp zoA zat zi6 z7p z82 z6w w_0 zM0 zMt zLt zmd zm9 zan z39 z4N z65 z2g zbn Nat.le_add_right List.append_assoc
theorem zsZ {ω : Wg} {x : Ms} (h : WgOk ω) : WgOk { ω with T := (nsS ω.T x).2.2 } := by
 unfold nsS
 split
 ·split
  ·exact h.of
  ·exact h.of
 ·exact h
theorem zA7 {n : Int} {l : List Ch} (h : LOk n l) : 0 ≤ (zMg l).st ∧ (zMg l).st ≤ 2147483647 := by
 have h0 := h.len
 have hc := h.all _ (znD (by omega) l.length (Nat.le_refl _))
 exact ⟨hc.s0,hc.sl⟩
def coR (l : List Co) : AObj := ⟨2,z0q,4,l.map coE⟩
theorem zGn {m : Nat} {D : List Co} : ltO m (coR D) = true := by
 show ((2 : Nat) == 0 || (D.map coE).all (ltA m)) = true
 rw [List.all_map]
 exact zfe
theorem zBJ {D : List Co} {x : Co} : (⟨2,z0q,4,D.map coE ++ [.agg (coC x)]⟩ : AObj) = coR (D ++ [x]) := by unfold coR;rw [List.map_append];rfl
section
variable (m : Nat) (A B : List AObj) (ω : Wg) (x : Ms) (n : Int) (hG : GW A B) (hm : 1000001 < m) (hl : x.chs.length ≤ 1000) (hf : zNE x.chs) (hS : ∀ y ∈ x.chs,ChS y) (hn : okN n = true)
include hG hm hl hf hS hn
theorem zFU (hω : WgOk ω) (s : Sm) (hL : LOk n x.chs) :
  z1s m (nSW A B) ⟨sw A B ω ++ [⟨1,z0t,0,msC x⟩,⟨1,z01,0,smC s⟩],[(4,OP (nSW A B) 0)]⟩ = some (TU [SL ((zMP x.chs (zMg x.chs).st (zkJ x.chs - (zMg x.chs).st).toNat).map coE),nA 0],sw A B ω) := by
 have _ := hl
 have _ := hS
 have _ := hn
 have hlo := zDW m hL hf (by omega)
 have hhi := zDX m hL hf (by omega)
 have hat := fun q=>zJE m q hL hf hm
 obtain ⟨b1,b2⟩ := zzd hL
 obtain ⟨c0,c1⟩ := zA7 hL
 have hlt := zmm hG hω (Nat.le_refl _)
 have hlt3 := zmm hG hω (n := nSW A B + 3) (by omega)
 have hw0 : IntKind.i64.wrap ((zMg x.chs).st + 1) = (zMg x.chs).st + 1 := z2s (by omega) (by omega)
 unfold zNb at hlo hhi hat
 generalize he : (zkJ x.chs - (zMg x.chs).st).toNat = e at *
 have hhe : zkJ x.chs = (zMg x.chs).st + e := by omega
 rw [hhe] at hhi
 generalize (zMg x.chs).st = low at *
 rw [z8n]
 simp (config := {maxSteps := 4000000,implicitDefEqProofs := false}) (disch := omega) only [go_sem,hlo,hw0]
 have e0 : low + 1 = low + 1 + ((0 : Nat) : Int) := by simp
 rw [e0]
 refine z13 (m := m) (ι := {d : Nat // d ≤ e}) (fun d=>⟨sw A B ω ++ [⟨1,z0t,0,msC x⟩,⟨1,z01,0,smC s⟩,coR (zMP x.chs low d.1)],[(4,OP (nSW A B) 0),(13,OW (nSW A B + 2) d.1),(14,nA (low + 1 + d.1))]⟩) (fun d=>e - d.1) (fun _=>some (TU [SL ((zMP x.chs low e).map coE),nA 0],sw A B ω)) ?_ ⟨0,Nat.zero_le _⟩ (by dsimp only;omega)
 rintro kx hkx ⟨d,hd⟩ kc hkc
 dsimp only at hkc ⊢
 rw [z8q]
 by_cases h : d < e
 ·have h' : ¬ low + (e : Int) < low + 1 + (d : Int) := by omega
  have h'' : low + 1 + (d : Int) ≤ low + (e : Int) := by omega
  have hw1 : IntKind.i64.wrap (low + 1 + (d : Int) + 1) = low + 1 + (d : Int) + 1 := z2s (by omega) (by omega)
  have step := hkc ⟨d + 1,by omega⟩ (by dsimp only;omega)
  dsimp only at step
  have hat2 := hat (low + 1 + d)
  have e5 : zMP x.chs low (d + 1) = zMP x.chs low d ++ [atF (low + 1 + d) x.chs] := by
   rw [zqY]
   congr 3
   omega
  rw [e5] at step
  have hdl : (zMP x.chs low d).length = d := by simp [zMP]
  generalize hD : zMP x.chs low d = D at *
  have hk2 : coR D = ⟨2,z0q,4,D.map coE⟩ := rfl
  have e1 : ∀ x : Co,zs3 4 [.agg (coC x)] = true := fun x=>rfl
  have ha2 : d + 1 ≤ 34359738368 := by omega
  rw [ztp] at hat2
  have hBk : nSW A B + 2 < nSW A B + 3 := by omega
  have hBj : nSW A B < nSW A B + 3 := by omega
  simp (config := {maxSteps := 4000000,implicitDefEqProofs := false}) (disch := omega) only [go_sem,h',h'',hhi,hat2,hw1,hk2,e1,ha2,hdl,zBJ,zGn,zjg,hlt3,hBk,hBj]
  rw [show low + 1 + ((d + 1 : Nat) : Int) = low + 1 + (d : Int) + 1 by omega] at step
  exact step
 ·obtain rfl : d = e := by omega
  have h' : low + (d : Int) < low + 1 + (d : Int) := by omega
  have h'' : ¬ low + 1 + (d : Int) ≤ low + (d : Int) := by omega
  have hro : ∀ D : List Co,coR D = ⟨2,z0q,4,D.map coE⟩ := fun D=>rfl
  have hdl : (zMP x.chs low d).length = d := by simp [zMP]
  have hr1 : ro1 (sw A B ω ++ [⟨1,z0t,0,msC x⟩,⟨1,z01,0,smC s⟩,⟨2,z0q,4,(zMP x.chs low d).map coE⟩]) (OW (nSW A B + 2) d) = SL ((zMP x.chs low d).map coE) := by
   refine zMl (e := z0q) (z := 4) ?_ (by rw [List.length_map,hdl])
   rw [List.getElem?_append_right (by rw [z65];omega),z65]
   simp
  have hsl : ltA (nSW A B) (SL ((zMP x.chs low d).map coE)) = true := rfl
  simp (config := {maxSteps := 4000000,implicitDefEqProofs := false}) (disch := omega) only [go_sem,h',h'',hhi,hkx,hlt,hro,hdl,hr1,hsl,z8x]
theorem wnv3_s (hω : WgOk ω) (hall : ∀ c ∈ x.chs, ChOk n c) :
    z1q                          m (nSW A B) ⟨sw A B ω ++ [⟨1, z0t       , 0, msC x⟩], [(0, OP A.length 0), (2, nA n), (4, OP (nSW A B) 0)]⟩ =
      if zLB  n x.chs = true then
        (if (nsS ω.T x).2.1 = 0 ∧ (nsS ω.T x).1 ∈ ω.L then
          some (TU [SL ((zMP  x.chs (zMg  x.chs).st (zkJ   x.chs - (zMg  x.chs).st).toNat).map coE), nA 0], sw A B { ω with T := (nsS ω.T x).2.2 })
        else some (TU [SL [], nA 19], sw A B { ω with T := (nsS ω.T x).2.2 }))
      else some (TU [SL [], nA 1], sw A B ω) := by
  have hlt0 := zmm   hG hω (Nat.le_refl _)
  have hmay := zE9     m hn hall hf (by omega)
  have hLl := hω.ll
  have hX := fun H => hω.ro H
  have hX2 := fun n => (hω.lt n).2.1
  unfold zNb  at hmay
  rw [z8t                            ]
  by_cases hb : zLB  n x.chs = true
  · rw [if_pos hb]
    rw [hb] at hmay
    have hL := ztS     hn hall hb
    have hst := zpN        m A (B ++ [⟨1, z0t       , 0, msC x⟩]) ω x (hG.app fun n => by simp [zjg   ]) hω hm hl hS
    rw [zf6   , zf6   , zmH  ] at hst
    have hω2 := zsZ     (x := x) hω
    have hlt2 := zmm   hG hω2 (Nat.le_refl _)
    have h7 := zFU    m A B { ω with T := (nsS ω.T x).2.2 } x n hG hm hl hf hS hn hω2 (nsS ω.T x).1 hL
    have hh := zrH     m ω.n ω.rog ω.L (nsS ω.T x).1 (by omega) (by omega)
    unfold rrA rrC at hh
    rw [z6x  ] at hh hst
    generalize nsS ω.T x = q at *
    obtain ⟨s, e, T2⟩ := q
    dsimp only at *
    by_cases h0 : e = 0
    · subst h0
      by_cases hr : s ∈ ω.L
      · rw [if_pos ⟨rfl, hr⟩]
        rw [decide_eq_true hr] at hh
        rw [← h7]
        simp (config := {maxSteps := 4000000, implicitDefEqProofs := false}) (disch := omega) only [go_sem, zLM , hmay, hst, hh, hX, hX2, hlt2, z22                            ]
      · rw [if_neg (fun q => hr q.2)]
        rw [decide_eq_false hr] at hh
        simp (config := {maxSteps := 4000000, implicitDefEqProofs := false}) (disch := omega) only [go_sem, zLM , hmay, hst, hh, hX, hX2, hlt2, z22                            ]
    · rw [if_neg (fun q => h0 q.1)]
      simp (config := {maxSteps := 4000000, implicitDefEqProofs := false}) (disch := omega) only [go_sem, zLM , hmay, hst, h0, hlt2, z22                            ]
  · rw [if_neg hb]
    have hb' : zLB  n x.chs = false := by simpa using hb
    rw [hb'] at hmay
    simp (config := {maxSteps := 4000000, implicitDefEqProofs := false}) (disch := omega) only [go_sem, hmay, hlt0]
theorem wnv2_s (hω : WgOk ω) : ∀ (kx0 : KO (AV × List AObj)) (hk0 : kx0 = z0P    0 (zM3  (fun s => z1q                          m (nSW A B) ⟨s.H, [(0, get s.T 0), (2, get s.T 2), (4, get s.T 4)]⟩) (z0n                           (nSW A B)))),
    z7c   m (z2L                          m) ⟨sw A B ω ++ [⟨1, z0t       , 0, msC x⟩], [(0, OP A.length 0), (2, nA n), (4, OP (nSW A B) 0), (8, nA 0)]⟩ kx0 =
      if (vwF ω.L n x.vw ω.T x.chs).1 = true then
        (if zLB  n x.chs = true then
          (if (nsS (vwF ω.L n x.vw ω.T x.chs).2 x).2.1 = 0 ∧ (nsS (vwF ω.L n x.vw ω.T x.chs).2 x).1 ∈ ω.L then
            some (TU [SL ((zMP  x.chs (zMg  x.chs).st (zkJ   x.chs - (zMg  x.chs).st).toNat).map coE), nA 0], sw A B { ω with T := (nsS (vwF ω.L n x.vw ω.T x.chs).2 x).2.2 })
          else some (TU [SL [], nA 19], sw A B { ω with T := (nsS (vwF ω.L n x.vw ω.T x.chs).2 x).2.2 }))
        else some (TU [SL [], nA 1], sw A B { ω with T := (vwF ω.L n x.vw ω.T x.chs).2 }))
      else some (TU [SL [], nA 3], sw A B { ω with T := (vwF ω.L n x.vw ω.T x.chs).2 }) := by
  intro kx0 hk0
  subst hk0
  have hB1 : nSW A B < nSW A B + 1 := Nat.lt_succ_self _
  have hA1 : A.length < nSW A B + 1 := by unfold nSW; omega
  refine z13     (m := m) (ι := {p : Nat × List (List UInt8) // p.1 ≤ x.chs.length ∧ WgOk { ω with T := p.2 } ∧ vwF ω.L n x.vw ω.T x.chs = vwF ω.L n x.vw p.2 (x.chs.drop p.1)}) (fun p => ⟨sw A B { ω with T := p.1.2 } ++ [⟨1, z0t       , 0, msC x⟩], [(0, OP A.length 0), (2, nA n), (4, OP (nSW A B) 0), (8, nA p.1.1)]⟩) (fun p => x.chs.length - p.1.1) (fun _ => _) ?_ ⟨(0, ω.T), Nat.zero_le _, hω, rfl⟩ (by dsimp only; omega)
  rintro kx hkx ⟨⟨k, T⟩, hk, hT, hF⟩ kc hkc
  dsimp only at hkc hk hT hF ⊢
  rw [z8o                            ]
  have hltT := zmm   hG hT (Nat.le_refl _)
  by_cases h : k < x.chs.length
  · have h' : (k : Int) < (x.chs.length : Int) := by omega
    have hw1 : IntKind.i64.wrap ((k : Int) + 1) = (k : Int) + 1 := z2s   (by omega) (by omega)
    rw [List.drop_eq_getElem_cons h] at hF
    simp only [vwF] at hF
    have hv := rchangeW_s m A (B ++ [⟨1, z0t       , 0, msC x⟩]) { ω with T := T } x.chs[k] n (hG.app fun n => by simp [zjg   ]) hT hm (hS _ (List.getElem_mem h))
    rw [zf6   , zf6   , zaD  ] at hv
    dsimp only at hv
    have hT2 := zxm     (ω := { ω with T := T }) (c := x.chs[k]) (n := n) hT
    dsimp only at hT2
    have hlt1 := zmm   hG hT2 (n := nSW A B + 1) (by omega)
    have hlt0 := zmm   hG hT2 (Nat.le_refl _)
    by_cases c1 : x.chs[k].vw = x.vw
    · rw [if_pos c1] at hF
      by_cases c2 : (chF T ω.L x.chs[k] n).1 = true
      · rw [if_pos c2] at hF
        rw [c2] at hv
        have step := hkc ⟨(k + 1, (chF T ω.L x.chs[k] n).2), by dsimp only; omega, hT2, hF⟩ (by dsimp only; omega)
        dsimp only at step
        simp (config := {maxSteps := 4000000, implicitDefEqProofs := false}) (disch := omega) only [go_sem, h, h', c1, hv, hw1, hlt1, hA1, hB1, zjg   , zMH , z20                            , z8w                            ]
        exact step
      · rw [if_neg c2] at hF
        have c2' : (chF T ω.L x.chs[k] n).1 = false := by simpa using c2
        rw [c2'] at hv
        rw [hF, if_neg (show ¬ (false : Bool) = true by decide)]
        simp (config := {maxSteps := 4000000, implicitDefEqProofs := false}) (disch := omega) only [go_sem, h, h', c1, hv, hkx, hlt0, zMH , z20                            ]
    · rw [if_neg c1] at hF
      rw [hF, if_neg (show ¬ (false : Bool) = true by decide)]
      simp (config := {maxSteps := 4000000, implicitDefEqProofs := false}) (disch := omega) only [go_sem, h, h', c1, hkx, hltT, zMH , z20                            ]
  · obtain rfl : k = x.chs.length := by omega
    have h' : ¬ (x.chs.length : Int) < (x.chs.length : Int) := Int.lt_irrefl _
    rw [List.drop_length] at hF
    simp only [vwF] at hF
    have h1 : (vwF ω.L n x.vw ω.T x.chs).1 = true := by rw [hF]
    have h3 := wnv3_s m A B { ω with T := T } x n hG hm hl hf hS hn hT (zws    _ _ h1)
    dsimp only at h3
    rw [hF, if_pos rfl]
    dsimp only
    rw [← h3]
    simp (config := {maxSteps := 4000000, implicitDefEqProofs := false}) (disch := omega) only [go_sem, h', hkx]
end
theorem zsT (m : Nat) (A B : List AObj) (ω : Wg) (x : Ms) (n : Int) (hG : GW A B) (hω : WgOk ω) (hm : 1000001 < m) (hl : x.chs.length ≤ 1000) (hf : zNE x.chs) (hS : ∀ y ∈ x.chs,ChS y) (hx2 : I64 x.vw) :
  z1k m (OP A.length 0) (msE x) (nA n) (sw A B ω) = some (TU [SL ((nvF ω.L ω.T x n).1.map coE),nA (nvF ω.L ω.T x n).2.1],sw A B { ω with T := (nvF ω.L ω.T x n).2.2 }) := by
 have hlt0 := zmm hG hω (Nat.le_refl _)
 have hF := zl9 m n (by omega)
 rw [zak,zmH]
 unfold nvF
 by_cases h1 : x.kd = 7
 ·cases hn : okN n with
  |false =>
   rw [fN_zero.2 hn] at hF
   rw [if_neg (by simp)]
   simp (config := {maxSteps := 4000000,implicitDefEqProofs := false}) (disch := omega) only [go_sem,h1,hF,hlt0,z1d]
  |true =>
   have hpos : ¬ (fN n : Int) = 0 := fun h=>by
    have h' : fN n = 0 := by omega
    rw [fN_zero,hn] at h';cases h'
   rw [if_pos ⟨h1,rfl⟩]
   have hr := zhy hn
   have hp := zpR m x.vw n ⟨hx2.1,by have := hx2.2;omega⟩ (by omega)
   rw [show (if n < 1 then 0 else x.vw % n) = prN x.vw n from rfl] at hp
   by_cases h2 : x.fr = prN x.vw n
   ·rw [if_pos h2]
    have h3 := wnv2_s m A B ω x n hG hm hl hf hS hn hω _ rfl
    refine Eq.trans ?_ (h3.trans ?_)
    ·have h2' : prN x.vw n = x.fr := h2.symm
     simp (config := {maxSteps := 4000000,implicitDefEqProofs := false}) (disch := omega) only [go_sem,h1,hF,hpos,hp,h2',hlt0,z1d,z3K]
    ·by_cases q1 : (vwF ω.L n x.vw ω.T x.chs).1 = true
     ·rw [if_pos q1,if_pos q1]
      by_cases q2 : zLB n x.chs = true
      ·rw [if_pos q2,if_pos q2]
       by_cases q3 : (nsS (vwF ω.L n x.vw ω.T x.chs).2 x).2.1 = 0 ∧ (nsS (vwF ω.L n x.vw ω.T x.chs).2 x).1 ∈ ω.L
       ·rw [if_pos q3,if_pos q3]
       ·rw [if_neg q3,if_neg q3]
        rfl
      ·rw [if_neg q2,if_neg q2]
       rfl
     ·rw [if_neg q1,if_neg q1]
      rfl
   ·rw [if_neg h2]
    simp (config := {maxSteps := 4000000,implicitDefEqProofs := false}) (disch := omega) only [go_sem,h1,hF,hpos,hp,h2,hlt0,z1d,z3K]
 ·rw [if_neg (fun q=>h1 q.1)]
  simp (config := {maxSteps := 4000000,implicitDefEqProofs := false}) (disch := omega) only [go_sem,h1,hlt0,z1d]
end

section
open Go.RowKit
set_option maxHeartbeats 4000000
attribute [local go_sem] zN3 zMM zpp zoA zat zi6 z7p z82 z6w w_0 zM0 zMt zLt zmd zm9 zan z39 z4N z65 z2g zbn Nat.le_add_right List.append_assoc
theorem zwP {σ : Sg} {n vw : Int} : ∀ (l : List Ch) (T : List (List UInt8)),SgOk { σ with T := T } → SgOk { σ with T := (vwF σ.R n vw T l).2 }
 |[],T,h=>h
 |x :: r,T,h=>by
  have h2 := zDI (σ := { σ with T := T }) (c := x) (n := n) h
  dsimp only at h2
  simp only [vwF]
  split
  ·split
   ·exact zwP r _ h2
   ·exact h2
  ·exact h
theorem zCf {σ : Sg} {x : Ms} {n : Int} (h : SgOk σ) (hl : x.chs.length ≤ 1000) : SgOk { σ with T := (nvF σ.R σ.T x n).2.2 } := by
 have h1 := zwP (n := n) (vw := x.vw) x.chs σ.T h
 have h2 := zzz (x := x) h1 hl
 dsimp only at h2
 unfold nvF
 split
 ·split
  ·split
   ·split
    ·split
     ·exact h2
     ·exact h2
    ·exact h1
   ·exact h1
  ·exact h
 ·exact h
theorem zxd {ω : Wg} {n vw : Int} : ∀ (l : List Ch) (T : List (List UInt8)),WgOk { ω with T := T } → WgOk { ω with T := (vwF ω.L n vw T l).2 }
 |[],T,h=>h
 |x :: r,T,h=>by
  have h2 := zxm (ω := { ω with T := T }) (c := x) (n := n) h
  dsimp only at h2
  simp only [vwF]
  split
  ·split
   ·exact zxd r _ h2
   ·exact h2
  ·exact h
theorem zDf {ω : Wg} {x : Ms} {n : Int} (h : WgOk ω) : WgOk { ω with T := (nvF ω.L ω.T x n).2.2 } := by
 have h1 := zxd (n := n) (vw := x.vw) x.chs ω.T h
 have h2 := zsZ (x := x) h1
 dsimp only at h2
 unfold nvF
 split
 ·split
  ·split
   ·split
    ·split
     ·exact h2
     ·exact h2
    ·exact h1
   ·exact h1
  ·exact h
 ·exact h
theorem zCC {R : List Sm} {T : List (List UInt8)} {x : Ms} {n : Int} : (nvF R T x n).1.length ≤ 16 := by
 unfold nvF
 split
 ·rename_i h1
  split
  ·split
   ·rename_i h2
    split
    ·rename_i h3
     split
     ·have := zzd (ztS h1.2 (zws _ _ h2) h3)
      simp [zMP]
      omega
     ·simp
    ·simp
   ·simp
  ·simp
 ·simp
section
variable (m : Nat) (a b x : AObj) (σ : Sg) (ω : Wg) (Y : List AObj) (d : Ms)
theorem zy8 (hm : 1000001 < m) (hA : GA [a,b,x]) (hY : ∀ n,Y.all (ltO n) = true) (hσ : SgOk σ) (hω : WgOk ω) (n : Int) (hl : d.chs.length ≤ 1000) (hf : zNE d.chs) (h1 : I64 d.fr) (h2 : I64 d.vw) : z69 m (OP 7 0) (OP 4 0) (msE d) (nA n) (hS [a,b,x] σ ω ++ Y) = some (TU [SL ((nvF σ.R σ.T d n).1.map coE),nA (nvF σ.R σ.T d n).2.1],hS [a,b,x] { σ with T := (nvF σ.R σ.T d n).2.2 } ω ++ Y) := by
 rw [zBQ,zBQ]
 exact ztw m [a,b,x] _ σ d n ((hA.gb hω).app hY) hσ hm hl hf h1 h2
theorem zuY (hm : 1000001 < m) (hA : GA [a,b,x]) (hY : ∀ n,Y.all (ltO n) = true) (hω : WgOk ω) (n : Int) (hl : d.chs.length ≤ 1000) (hf : zNE d.chs) (hq : ∀ y ∈ d.chs,ChS y) (h2 : I64 d.vw) : z1k m (OP 9 0) (msE d) (nA n) (hS [a,b,x] σ ω ++ Y) = some (TU [SL ((nvF ω.L ω.T d n).1.map coE),nA (nvF ω.L ω.T d n).2.1],hS [a,b,x] σ { ω with T := (nvF ω.L ω.T d n).2.2 } ++ Y) := by
 rw [zF8,zF8]
 exact zsT m (zMw [a,b,x] σ) Y ω d n ((hA.gw σ).app (B := []) hY) hω hm hl hf hq h2
theorem zAb (hm : 1000001 < m) (hA : GA [a,b,x]) (hY : ∀ n,Y.all (ltO n) = true) (hσ : SgOk σ) (hω : WgOk ω) (hl : d.chs.length ≤ 1000) : z89 m (OP 4 0) (msE d) (hS [a,b,x] σ ω ++ Y) = some (TU [smE (nsS σ.T d).1,nA (nsS σ.T d).2.1],hS [a,b,x] { σ with T := (nsS σ.T d).2.2 } ω ++ Y) := by
 rw [zBQ,zBQ]
 exact zpF m [a,b,x] _ σ d ((hA.gb hω).app hY) hσ hm hl
theorem zv0 (hm : 1000001 < m) (hA : GA [a,b,x]) (hY : ∀ n,Y.all (ltO n) = true) (hω : WgOk ω) (hl : d.chs.length ≤ 1000) (hq : ∀ y ∈ d.chs,ChS y) : z12 m (OP 9 0) (msE d) (hS [a,b,x] σ ω ++ Y) = some (TU [smE (nsS ω.T d).1,nA (nsS ω.T d).2.1],hS [a,b,x] σ { ω with T := (nsS ω.T d).2.2 } ++ Y) := by
 rw [zF8,zF8]
 exact zpN m (zMw [a,b,x] σ) Y ω d ((hA.gw σ).app (B := []) hY) hω hm hl hq
end
theorem zKB {R : Type} {K1 : AV → Option R} {isB sl : Bool} {x : Co} : zMe (some [.i .i64, .i .i64, .s, .b]) isB sl .neq (.agg (coC x)) (.agg (coC x)) K1 = K1 (bA false) := by
 show K1 (bA (!(decide (x.sq = x.sq) && (decide (x.tm = x.tm) && (decide (x.body = x.body) && ((x.nl == x.nl) && true)))))) = _
 simp
theorem zzg (m : Nat) (tx : List (List UInt8)) (bad bad' : List Int) (sd : List Sd) (d : Ms) (σ : Sg) (ω : Wg) (L : List Co) (X : Option (AV × List AObj)) (hm : 1000001 < m) (hL : L.length ≤ 16) (hA : GA [scX tx bad sd,⟨1,z0t,0,msC d⟩,scX tx bad' sd]) (hω : WgOk ω)
  (h3 : z2S m ⟨hS [scX tx bad sd,⟨1,z0t,0,msC d⟩,scX tx bad' sd] σ ω,[(4,OP 1 0),(7,OP 4 0),(9,OP 9 0)]⟩ = X) :
  z2R m ⟨hS [scX tx bad sd,⟨1,z0t,0,msC d⟩,scX tx bad' sd] σ ω,[(4,OP 1 0),(7,OP 4 0),(9,OP 9 0),(11,SL (L.map coE)),(13,SL (L.map coE))]⟩ = X := by
 rw [zbD]
 refine z13 (m := m) (ι := {k : Nat // k ≤ L.length}) (fun k=>⟨hS [scX tx bad sd,⟨1,z0t,0,msC d⟩,scX tx bad' sd] σ ω,[(4,OP 1 0),(7,OP 4 0),(9,OP 9 0),(11,SL (L.map coE)),(13,SL (L.map coE)),(15,nA k.1)]⟩) (fun k=>L.length - k.1) (fun _=>X) ?_ ⟨0,Nat.zero_le _⟩ (by dsimp only;omega)
 rintro kx hkx ⟨k,hk⟩ kc hkc
 dsimp only at hkc ⊢
 rw [zbC]
 have hall : (hS [scX tx bad sd,⟨1,z0t,0,msC d⟩,scX tx bad' sd] σ ω).all (ltO 11) = true := zCQ hA hω (by simp)
 have htk : List.take 11 (hS [scX tx bad sd,⟨1,z0t,0,msC d⟩,scX tx bad' sd] σ ω) = hS [scX tx bad sd,⟨1,z0t,0,msC d⟩,scX tx bad' sd] σ ω := rfl
 by_cases h : k < L.length
 ·have h' : (k : Int) < (L.length : Int) := by omega
  have hw1 : IntKind.i64.wrap ((k : Int) + 1) = (k : Int) + 1 := z2s (by omega) (by omega)
  have step := hkc ⟨k + 1,by omega⟩ (by dsimp only;omega)
  dsimp only at step
  simp (config := {maxSteps := 4000000,implicitDefEqProofs := false}) (disch := omega) only [go_sem,h,h',hw1,zKB,zGx,hall,htk]
  exact step
 ·obtain rfl : k = L.length := by omega
  have h' : ¬ (L.length : Int) < (L.length : Int) := Int.lt_irrefl _
  rw [← h3]
  simp (config := {maxSteps := 4000000,implicitDefEqProofs := false}) (disch := omega) only [go_sem,h',hkx]
theorem zDK (x : Ms) : (msF x).chs.length ≤ 1000 ∧ zNE (msF x).chs ∧ ∀ y ∈ (msF x).chs,ChS y := by
 have h1 : (msF x).chs.length ≤ 66 := by
  show ((x.chs.take 66).map cgF).length ≤ 66
  simp
  omega
 have h2 : ∀ y ∈ (msF x).chs,∃ z,y = cgF z := fun y hy=>by
  obtain ⟨z,_,rfl⟩ := List.mem_map.1 (show y ∈ (x.chs.take 66).map cgF from hy)
  exact ⟨z,rfl⟩
 refine ⟨by omega,⟨by omega,fun y hy=>?_⟩,fun y hy=>?_⟩
 ·obtain ⟨z,rfl⟩ := h2 y hy
  show ((z.cs.take 66).map ceF).length ≤ 1000
  simp
  omega
 ·obtain ⟨z,rfl⟩ := h2 y hy
  exact zJl z
theorem ztc (m : Nat) (tx : List (List UInt8)) (bad : List Int) (sd : List Sd) (x : Ms) (n : Int) (hm : 1000001 < m) (h : ScI tx bad sd) (hx : zLA x) (hx1 : I64 x.fr) (hx2 : I64 x.vw) :
  z6f m (.agg (scC tx bad sd)) (msE x) (nA n) = some (bA true,[]) := by
 have hf := zKc m x (by omega) hx
 obtain ⟨hl,hfit,hq⟩ := zDK x
 have d1 : I64 (msF x).fr := hx1
 have d2 : I64 (msF x).vw := hx2
 have haw := zEF m hm
 rw [zeK,scB,zmH]
 rw [zmH,zmH] at hf
 generalize msF x = d at *
 have hmo : ∀ n,ltO n ⟨1,z0t,0,msC d⟩ = true := fun n=>zjg
 cases ho : zMi (bad.take 10) with
 |true =>
  obtain ⟨bd,hs⟩ := zD0 m ⟨1,z0t,0,msC d⟩ tx bad sd hm hmo h ho
  have hb := zJq m tx bad sd hm h.bl
  rw [ho] at hb
  simp (config := {maxSteps := 4000000,implicitDefEqProofs := false}) (disch := omega) only [go_sem,hf,hs,hb,haw,q_0,r_0,r_1,z3V,zx7,zt6,zEU,zxh]
 |false =>
  have hs := set2 m ⟨1,z0t,0,msC d⟩ tx bad sd hm hmo h ho
  have hok := zCB h ho
  have hA : GA [scX tx bad sd,⟨1,z0t,0,msC d⟩,scX tx (bad.take 10) sd] := GA_3 hmo
  generalize scn (bad.take 10) tx sd = q at *
  obtain ⟨⟨T,n7,bd,L⟩,ω⟩ := q
  dsimp only at *
  have e1 : T = ω.T := hok.t
  have e2 : L = ω.L := hok.l
  subst e1 e2
  have h1 := zy8 m _ _ _ ⟨ω.T,n7,bd,ω.L⟩ ω [] d hm hA (fun _=>rfl) hok.so hok.wo n hl hfit d1 d2
  have hσ1 := zCf (x := d) (n := n) hok.so hl
  have hω1 := zDf (x := d) (n := n) hok.wo
  dsimp only at h1 hσ1 hω1
  have h2 := zuY m _ _ _ ⟨(nvF ω.L ω.T d n).2.2,n7,bd,ω.L⟩ ω [] d hm hA (fun _=>rfl) hok.wo n hl hfit hq d2
  have hlen := zCC (R := ω.L) (T := ω.T) (x := d) (n := n)
  generalize nvF ω.L ω.T d n = F at *
  obtain ⟨C,e,T1⟩ := F
  dsimp only at *
  have h3 := zAb m _ _ _ ⟨T1,n7,bd,ω.L⟩ { ω with T := T1 } [] d hm hA (fun _=>rfl) hσ1 hω1 hl
  have hσ2 := zzz (x := d) hσ1 hl
  have hω2 := zsZ (x := d) hω1
  dsimp only at h3 hσ2 hω2
  have h4 := zv0 m _ _ _ ⟨(nsS T1 d).2.2,n7,bd,ω.L⟩ { ω with T := T1 } [⟨1,z01,0,smC (nsS T1 d).1⟩] d hm hA (fun _=>by simp [z6w]) hω1 hl hq
  have h5 := zGl m _ _ _ ⟨(nsS T1 d).2.2,n7,bd,ω.L⟩ { ω with T := (nsS T1 d).2.2 } [⟨1,z01,0,smC (nsS T1 d).1⟩,⟨1,z01,0,smC (nsS T1 d).1⟩] hm hA (fun _=>by simp [z6w]) hσ2 hω2
  dsimp only at h4
  generalize nsS T1 d = G at *
  obtain ⟨s,g,T2⟩ := G
  simp only [List.append_nil] at h1 h2 h3
  rw [zmH] at h1 h2 h3 h4
  rw [z6x] at h3 h4
  have hr3 : z2S m ⟨hS [scX tx bad sd,⟨1,z0t,0,msC d⟩,scX tx (bad.take 10) sd] ⟨T1,n7,bd,ω.L⟩ { ω with T := T1 },[(4,OP 1 0),(7,OP 4 0),(9,OP 9 0)]⟩ = some (bA true,[]) := by
   rw [zbg]
   simp (config := {maxSteps := 4000000,implicitDefEqProofs := false}) (disch := omega) only [go_sem,zLM,haw,h3,h4,h5,q_0,q_1,q_9,q_Y0,q_Y1,q_Y9,q_B0,q_B1,zKq,zK2,zGx]
  have hr2 := zzg m tx bad (bad.take 10) sd d ⟨T1,n7,bd,ω.L⟩ { ω with T := T1 } C _ hm hlen hA hω1 hr3
  simp (config := {maxSteps := 4000000,implicitDefEqProofs := false}) (disch := omega) only [go_sem,hf,hs,h1,h2,q_0,q_1,q_9,zGx,r_0,r_1,z3V,zx7,zt6,zEU,zxh,zbd]
  exact hr2
end

section
open Go.RowKit
theorem walk_ViewNews (W : World) (v0 : Value) (h0 : Arg Try.prog W 26 v0) (v1 : Value) (h1 : Arg Try.prog W 65 v1) (v2 : Value) (h2 : Arg Try.prog W 3 v2) :
  Calls Try.prog 6 #[v0,v1,v2] W fun e W'=>e = .returned (.bool true) ∧ Below W.heap.size W W' := by
 obtain ⟨tx,bad,sd,hs,r0⟩ := zuQ h0
 obtain ⟨x,hx,r1⟩ := zGB h1
 obtain ⟨n,hn,r2⟩ := zD3 h2
 exact zvz (zeE 1000002 [_,_,_] _ _ (ztc 1000002 tx bad sd x n (by omega) hs hx.big (zqz hx.2.1) (zqz hx.2.2.1))) zEf (vs := [v0,v1,v2]) rfl (zKg r0 r1 r2)
end

end Go.Proofs.Ytaaogcnjfkgnoaa
end

