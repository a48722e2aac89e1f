/-
  Texts laid together, part 7 of 7: laws of a walk over data, contracts of functions, each whole by itself.
-/
import Derived.Test.YtaaogcnjfkgnoaaMgf
import Derived.Test.YtaaogcnjfkgnoaaMgc
set_option maxRecDepth 100000
set_option linter.unusedVariables false
set_option linter.unusedSimpArgs false
namespace Go.Proofs.Ytaaogcnjfkgnoaa
open Go.RowKit
theorem zpc : ∀ (l : List Int) (s : Nat),s < 2 ^ 64 → l.foldl (fun s i=>s ||| qb i) s < 2 ^ 64
 |[],s,h=>h
 |i :: l,s,h=>zpc l _ (Nat.or_lt_two_pow h (qb_lt i))
theorem zov {j : Nat} (hj : j < 64) : ∀ (l : List Int) (s : Nat),(l.foldl (fun s i=>s ||| qb i) s).testBit j = (s.testBit j || decide ((j : Int) ∈ l))
 |[],s=>by simp
 |i :: l,s=>by
  show (l.foldl _ (s ||| qb i)).testBit j = _
  rw [zov hj l,bitw hj]
  by_cases h : i = (j : Int)
  ·simp [h]
  ·have : ¬ (j : Int) = i := fun e=>h e.symm
   simp [h,this]
def setV (w : Sm) (R l : List Sm) (n : Int) : Nat := (outL (spL w R l) 64).foldl (fun s i=>s ||| qb i) 0 &&& allN n
theorem zmQ {w : Sm} {R l : List Sm} {n : Int} : setV w R l n < 2 ^ 64 := Nat.lt_of_le_of_lt Nat.and_le_left (zpc _ 0 (by decide))
theorem zwE {w : Sm} {R : List Sm} (hR : ∀ x ∈ R,0 ≤ x.fr ∧ x.fr < 64) {j : Nat} (hj : j < 64) : ∀ (l : List Sm) (b : List Bool),b.length = 64 → (l.foldl (spS w R) b).getD j false = (b.getD j false || voB w l R j)
 |[],b,hb=>by simp [voB]
 |x :: l,b,hb=>by
  show (l.foldl (spS w R) (spS w R b x)).getD j false = _
  rw [zwE hR hj l _ (by rw [zrs,hb])]
  have hv : voB w (x :: l) R j = ((decide (x = ({ w with fr := (j : Int) } : Sm)) && decide (x ∈ R)) || voB w l R j) := by
   unfold voB
   by_cases h : x = ({ w with fr := (j : Int) } : Sm)
   ·subst h
    simp
   ·have h' : ¬ ({ w with fr := (j : Int) } : Sm) = x := fun e=>h e.symm
    simp [h,h']
  rw [hv,← Bool.or_assoc]
  congr 1
  unfold spS hitB
  by_cases h1 : x = { w with fr := x.fr }
  ·by_cases h2 : x ∈ R
   ·obtain ⟨f0,f1⟩ := hR x h2
    rw [if_pos (by rw [decide_eq_true h1,decide_eq_true h2];rfl)]
    by_cases h3 : x.fr = (j : Int)
    ·have e : decide (x = ({ w with fr := (j : Int) } : Sm)) = true := decide_eq_true (by rw [← h3];exact h1)
     rw [e,decide_eq_true h2,h3,Int.toNat_natCast]
     simp [List.getD_eq_getElem?_getD,hb,hj]
    ·have e : decide (x = ({ w with fr := (j : Int) } : Sm)) = false := decide_eq_false (fun q=>h3 (by rw [q]))
     rw [e]
     have : x.fr.toNat ≠ j := by omega
     simp [List.getD_eq_getElem?_getD,List.getElem?_set_ne this]
   ·rw [if_neg (by rw [decide_eq_false h2,Bool.and_false];decide),decide_eq_false h2]
    simp
  ·have e : decide (x = ({ w with fr := (j : Int) } : Sm)) = false := decide_eq_false (fun q=>h1 (by rw [q]))
   rw [if_neg (by rw [decide_eq_false h1,Bool.false_and];decide),e]
   simp
theorem zm1 {w : Sm} {R l : List Sm} {n : Int} (hR : ∀ x ∈ R,0 ≤ x.fr ∧ x.fr < 64) {j : Nat} (hj : j < 64) : (setV w R l n).testBit j = (voB w l R j && decide ((j : Int) < n)) := by
 unfold setV
 rw [Nat.testBit_and,zov hj,zp5 hj,Nat.zero_testBit,Bool.false_or]
 congr 1
 have h := zwE (w := w) hR hj l (List.replicate 64 false) (by simp)
 rw [show (List.replicate 64 false).getD j false = false by rw [List.getD_eq_getElem?_getD,List.getElem?_replicate,if_pos hj];rfl,Bool.false_or] at h
 rw [← h]
 unfold outL spL
 rw [Bool.eq_iff_iff,decide_eq_true_eq]
 constructor
 ·intro q
  obtain ⟨p,hp,e⟩ := List.mem_map.1 q
  have : p = j := by omega
  subst this
  exact (List.mem_filter.1 hp).2
 ·intro q
  exact List.mem_map.2 ⟨j,List.mem_filter.2 ⟨List.mem_range.2 hj,q⟩,rfl⟩
theorem zoH {w : Sm} {l L : List Sm} {but : Int} {k : Nat} (hk : k ≤ 64) : manyN w l L but k = cP fun i=>(decide ((i : Int) ≠ but) && voB w l L i) && decide (i < k) := by
 unfold manyN cP
 obtain ⟨d,hd⟩ : ∃ d,64 = k + d := ⟨64 - k,by omega⟩
 rw [hd,zkB,List.filter_append,List.length_append]
 have h1 : ((List.range k).filter fun (i : Nat)=>(decide ((i : Int) ≠ but) && voB w l L i) && decide (i < k)) = (List.range k).filter fun (p : Nat)=>decide ((p : Int) ≠ but) && voB w l L (p : Int) := by
  refine List.filter_congr fun i hi=>?_
  rw [decide_eq_true (List.mem_range.1 hi),Bool.and_true]
 have h2 : (((List.range d).map (k + ·)).filter fun (i : Nat)=>(decide ((i : Int) ≠ but) && voB w l L i) && decide (i < k)) = [] := by
  rw [List.filter_eq_nil_iff]
  intro i hi
  obtain ⟨a,_,rfl⟩ := List.mem_map.1 hi
  simp
 rw [h1,h2]
 rfl
theorem zxk {w : Sm} {R l : List Sm} {n p : Int} (hR : ∀ x ∈ R,0 ≤ x.fr ∧ x.fr < 64) (hp0 : 0 ≤ p) (hp : p < n) (hn : n ≤ 64) : (!decide ((setV w R l n &&& qb p : Nat) = 0)) = voB w l R p := by
 obtain ⟨k,rfl⟩ : ∃ k : Nat,p = k := ⟨p.toNat,by omega⟩
 have hk : k < 64 := by omega
 have h1 := zm1 (w := w) (l := l) (n := n) hR hk
 rw [decide_eq_true hp,Bool.and_true] at h1
 rw [← h1]
 have hq : qb (k : Int) = 2 ^ k := by unfold qb;rw [if_pos (by omega)];simp
 rw [hq]
 generalize setV w R l n = S
 rw [Bool.eq_iff_iff,Bool.not_eq_true',decide_eq_false_iff_not]
 constructor
 ·intro h
  cases hb : S.testBit k with
  |true=>rfl
  |false =>
   refine absurd (Nat.eq_of_testBit_eq fun i=>?_) h
   rw [Nat.testBit_and,Nat.testBit_two_pow,Nat.zero_testBit]
   by_cases e : k = i
   ·subst e;simp [hb]
   ·simp [e]
 ·intro h e
  have := congrArg (fun x=>x.testBit k) e
  simp [h] at this
theorem znq {w : Sm} {R l : List Sm} {n p : Int} (hR : ∀ x ∈ R,0 ≤ x.fr ∧ x.fr < 64) (hp0 : 0 ≤ p) (hp : p < n) (hn0 : 0 ≤ n) (hn : n ≤ 64) : cntS (setV w R l n &&& (18446744073709551615 - qb p)) = manyN w l R p n.toNat := by
 rw [cnt_P,zoH (by omega)]
 refine zpN fun i hi=>?_
 rw [Nat.testBit_and,zm1 hR hi,zxa (qb_lt p) hi]
 have h0 := bitw (s := 0) (i := p) hi
 rw [Nat.zero_or,Nat.zero_testBit,Bool.false_or] at h0
 rw [h0]
 have e1 : decide ((i : Int) < n) = decide (i < n.toNat) := by rw [decide_eq_decide];omega
 have e2 : (!decide (p = (i : Int))) = decide ((i : Int) ≠ p) := by
  rw [← decide_not,decide_eq_decide]
  constructor <;> intro h e <;> exact h e.symm
 rw [e1,e2]
 cases voB w l R i <;> cases decide (i < n.toNat) <;> cases decide ((i : Int) ≠ p) <;> rfl
theorem ztx {w : Sm} {R l : List Sm} {n : Int} (hR : ∀ x ∈ R,0 ≤ x.fr ∧ x.fr < 64) (hn0 : 0 ≤ n) (hn : n ≤ 64) : cntS (setV w R l n &&& allN n) = manyN w l R (-1) n.toNat := by
 rw [zoT,zoH (by omega)]
 refine zpN fun i hi=>?_
 rw [zm1 hR hi]
 have e1 : decide ((i : Int) < n) = decide (i < n.toNat) := by rw [decide_eq_decide];omega
 have e2 : decide ((i : Int) ≠ -1) = true := decide_eq_true (by omega)
 rw [e1,e2]
 cases voB w l R i <;> cases decide (i < n.toNat) <;> rfl
end Go.Proofs.Ytaaogcnjfkgnoaa

namespace Go.Proofs.Ytaaogcnjfkgnoaa
open Go.RowKit
attribute [local go_sem] Nat.zero_add Nat.add_zero Nat.mul_one Int.toNat_natCast Int.natCast_zero Int.cast_ofNat_Int or_false false_or or_true true_or Nat.sub_zero Int.natCast_nonneg Int.toNat_zero Bool.true_and Bool.and_true Bool.false_and Bool.and_false Bool.true_or Bool.or_true Bool.false_or Bool.or_false Bool.not_true Bool.not_false Bool.not_not true_and and_true false_and and_false not_true_eq_false not_false_eq_true eq_self decide_true decide_false ne_eq implies_true forall_const true_implies false_implies Bool.true_eq_false Bool.false_eq_true List.map_cons List.map_nil List.all_cons List.all_nil List.length_cons List.length_nil List.length_map List.length_append List.nil_append List.cons_append List.set_cons_zero List.set_cons_succ List.set_nil List.drop_zero List.drop_succ_cons List.drop_nil List.take_zero List.take_succ_cons List.take_nil Option.map_some Option.map_none Option.isSome_some List.all_append List.all_map Function.comp_def decide_eq_true_eq Bool.and_eq_true beq_self_eq_true or_self and_self ite_true ite_false Nat.le_refl Bool.not_eq_true decide_not Bool.not_eq_true' decide_eq_false_iff_not Bool.not_eq_false Bool.or_eq_true if_true if_false ite_self u_roF u_cvF u_cvC u_ceT u_ceK z2m sm_it z6A z37 z5m z6p z3d sm_ro z3i sm_sl z6a z69 sm_fr z1F z13 sm_kd z28 z12 sm_vw z1u z0P sm_sq z1R z0S sm_tm z1q z0L z2R z2b z3k z63 z64 z29 z3g z1p z1y z2F z39 ce_it z6J z31 z4Z z6x z3A ce_ro z3t ce_sl z6d z6g ce_sq z1X z14 ce_vw z1C z0H ce_tm z1U z0W z33 z0v z0n ce_vs z1P z0X z36 z1t z3r z6F z6H z1T z2X z1z z2c z2M z2V cg_it z67 z3s z61 z6n z2U cg_ro z3E cg_sl z6b z6u cg_fr z1J z0N cg_vw z1Q z11 cg_st z1M z0G cg_rt z1H z17 cg_pf z1Z z0E cg_cs z1N z0I z32 z1I z3b z6y z6c z1V z3v z23 z1L z35 z3p ms_it z6o z3n z6C z6h z3h ms_ro z3e ms_sl z6E z6r ms_kd z1S z0R ms_fr z1v z0O ms_vw z25 z0U ms_sq z1s z0Z ms_tm z1G z0F z3c z0u z0o ms_vs z1E z0Y z68 z0Q z0x z3C z1W z3x z65 z6K z20 z3D z24 z27 z3q z2Y co_it z6M z2W z6D z6m z3m co_ro z3o co_sl z6w z66 co_sq z26 z0V co_tm z1B z0K z3z z0y z0p co_nl z1w z0M z3y z1o z3l z6N z6v z1K z3j z1Y z1O z2N z2Z sd_it z6e z3B z6z z6G z3a sd_ro z2T sd_sl z6I z6i sd_wh z21 z15 sd_fr z1x z0T sd_kd z1D z18 sd_vw z1A z0J sd_sq z22 z16 sd_tm z1r z10 z30 z38 z6f z5O u_bz u_bi1 u_bi2 u_bi3 u_bi4 u_bi5 u_bi6 u_bi7 ltO_o ltO_r u_eqE zbl Nat.le_add_right List.append_assoc s_B0 s_Bk s_Bs0 s_Bsk zas zge z8d z8K z92
attribute [local go_sem_proc] Nat.reduceAdd Nat.reduceSub Nat.reduceMul Nat.reduceLeDiff Nat.reduceLT Int.reduceEq Int.reduceNe Int.reduceLT Int.reduceLE Int.reduceAdd Int.reduceSub Int.reduceMul Int.reduceNeg Int.reduceToNat reduceCtorEq Nat.reduceEqDiff Nat.reduceBEq Nat.reduceGT
attribute [local go_sem_proc ↓] reduceIte
theorem SgOk.rr {σ : Sg} (h : SgOk σ) : ∀ x ∈ σ.R,0 ≤ x.fr ∧ x.fr < 64 := fun x hx=>by
 obtain ⟨h1,h2⟩ := h.rf x hx
 have := h.n2
 exact ⟨h1,by omega⟩
theorem zm9 (m : Nat) (A B : List AObj) (σ : Sg) (l : List Sm) (w : Sm) (n : Int) (hG : GB A B) (hσ : SgOk σ) (hm : 70 < m) (hlm : l.length < m) (hll : l.length ≤ 1000000) (hli : ∀ x ∈ l,SmI x) :
  za8 m (OP (A.length + 4) 0) (SL (l.map smE)) (smE w) (nA n) (sc A B σ) = some (qA (setV w σ.R l n),sc A B σ) := by
 have hv := zqy m A (B ++ [⟨1,z01,0,smC w⟩]) σ l w (hG.app fun n=>by simp [z92]) hσ hm hlm hll hli
 rw [zcj,sm_it] at hv
 have hol := zok (b := spL w σ.R l) (k := 64)
 have ho := of_s m (outL (spL w σ.R l) 64) (by omega) (by omega)
 have ha := all_s m n
 have hand := bits_and_u64_nat ((outL (spL w σ.R l) 64).foldl (fun s i=>s ||| qb i) 0) (allN n) (zpc _ 0 (by decide)) (zr4 n)
 have hlt := sc_lt hG (σ := σ) (Nat.le_refl _)
 rw [zkF,sm_it]
 unfold setV
 simp (config := {maxSteps := 4000000,implicitDefEqProofs := false}) (disch := omega) only [go_sem,hv,ho,ha,hand,hlt]
theorem st_b {R : Type} {a b c d : Int} {K : AV → Option R} : z49 (some z1m) (some zc_api_Stmt) [(1,nA a),(2,nA b),(3,nA c),(4,nA d)] K = K (.agg (smC ⟨0,a,b,c,d⟩)) := _root_.id rfl
def okC (T : List (List UInt8)) (s : List UInt8) (tm : Int) : Bool := decide (ofN T s ≠ 0) && decide ((ofN T s : Int) = tm)
theorem ofE_N {T : List (List UInt8)} {s : List UInt8} : ofE T s = 0 ↔ ofN T s ≠ 0 := by
 unfold ofE ofN posL
 split
 ·simp [*]
 ·split
  ·simp
  ·simp
def wPre (c : Ce) : Sm := ⟨0,2,c.vw,c.sq,c.tm⟩
def wPrep (c : Ce) : Sm := ⟨0,3,c.vw,c.sq,c.tm⟩
def prN (v n : Int) : Int := if n < 1 then 0 else v % n
def ceH (T : List (List UInt8)) (R : List Sm) (c : Ce) (n : Int) : Bool :=
 okN n && (okC T c.body c.tm && (voB (wPre c) c.vs R (prN c.vw n) && decide (2 * fN n ≤ manyN (wPrep c) c.vs R (prN c.vw n) n.toNat)))
def ceT (T : List (List UInt8)) (c : Ce) (n : Int) : List (List UInt8) := if okN n = true then oqT T c.body else T
theorem zix {n : Int} (h : okN n = true) : 4 ≤ n ∧ n ≤ 16 := by rcases okN_iff.1 h with h|h|h|h|h <;> omega
theorem zuL {v n : Int} (h : okN n = true) : 0 ≤ prN v n ∧ prN v n < n := by
 obtain ⟨h1,h2⟩ := zix h
 unfold prN
 rw [if_neg (by omega)]
 exact ⟨Int.emod_nonneg _ (by omega),Int.emod_lt_of_pos _ (by omega)⟩
structure CeI (c : Ce) : Prop where
 vw : I64 c.vw
 body : c.body.length ≤ 1000000
 vl : c.vs.length ≤ 1000000
 vs : ∀ x ∈ c.vs,SmI x
theorem SgOk.of {σ : Sg} (h : SgOk σ) {s : List UInt8} (hs : s.length ≤ 9223372036854775807) : SgOk { σ with T := oqT σ.T s } := by
 refine ⟨?_,?_,?_,h.n1,h.n2,h.bl,h.rn,h.rl,h.ri,h.rf⟩
 ·show (oqT σ.T s).Nodup
  unfold oqT
  split
  ·exact h.tn
  ·split
   ·exact h.tn
   ·rename_i h1 _
    exact List.nodup_append.2 ⟨h.tn,by simp,fun a ha b hb=>by simp at hb;subst hb;exact fun e=>h1 (e ▸ ha)⟩
 ·show (oqT σ.T s).length ≤ 65536
  have := h.tl
  unfold oqT
  split
  ·exact h.tl
  ·split
   ·exact h.tl
   ·simp;omega
 ·show ∀ x ∈ oqT σ.T s,_
  unfold oqT
  split
  ·exact h.ts
  ·split
   ·exact h.ts
   ·intro x hx
    rcases List.mem_append.1 hx with q|q
    ·exact h.ts x q
    ·simp at q;subst q;exact hs
theorem ztb (m : Nat) (A B : List AObj) (σ : Sg) (c : Ce) (n : Int) (hG : GB A B) (hσ : SgOk σ) (hm : 1000001 < m) (hc : CeI c) (hn : okN n = true) :
  zca m (nAB A B) ⟨sc A B σ ++ [⟨1,z0a,0,ceC c⟩],[(0,OP (A.length + 4) 0),(3,nA n),(6,OP (nAB A B) 0),(9,nA (fN n))]⟩ = some (bA (voB (wPre c) c.vs σ.R (prN c.vw n) && decide (2 * fN n ≤ manyN (wPrep c) c.vs σ.R (prN c.vw n) n.toNat)),sc A B σ) := by
 obtain ⟨n1,n2⟩ := zix hn
 obtain ⟨p1,p2⟩ := zuL (v := c.vw) hn
 have hvl := hc.vl
 have hC : ∀ n,ltO n ⟨1,z0a,0,ceC c⟩ = true := fun n=>by
  show ((1 : Nat) == 0 || (ceC c).all (ltA n)) = true
  rw [z4Z];rfl
 have hY : ∀ (w : Sm) n,([⟨1,z0a,0,ceC c⟩,⟨1,z01,0,smC w⟩] : List AObj).all (ltO n) = true := fun w n=>by simp [hC,z92]
 have v1 := zm9 m A (B ++ [⟨1,z0a,0,ceC c⟩,⟨1,z01,0,smC (wPre c)⟩]) σ c.vs (wPre c) n (hG.app (hY _)) hσ (by omega) (by omega) hvl hc.vs
 have v2 := zm9 m A (B ++ [⟨1,z0a,0,ceC c⟩,⟨1,z01,0,smC (wPrep c)⟩]) σ c.vs (wPrep c) n (hG.app (hY _)) hσ (by omega) (by omega) hvl hc.vs
 rw [zcj,sm_it] at v1 v2
 have pr := zn6 m c.vw n ⟨hc.vw.1,by have := hc.vw.2;omega⟩ (by omega)
 rw [show (if n < 1 then 0 else c.vw % n) = prN c.vw n from rfl] at pr
 have hh := has_s m (setV (wPre c) σ.R c.vs n) (prN c.vw n) zmQ
 rw [zxk hσ.rr p1 p2 (by omega)] at hh
 have hw := zpA m (setV (wPrep c) σ.R c.vs n) (prN c.vw n) zmQ
 have hcn := zqN m (setV (wPrep c) σ.R c.vs n &&& (18446744073709551615 - qb (prN c.vw n))) (Nat.lt_of_le_of_lt Nat.and_le_left zmQ)
 rw [znq hσ.rr p1 p2 (by omega) (by omega)] at hcn
 have hlt := sc_lt hG (σ := σ) (Nat.le_refl _)
 have hf := fN_le n
 have hw2 : IntKind.i64.wrap (2 * (fN n : Int)) = 2 * (fN n : Int) := w_i64 (by omega) (by omega)
 have hst : ∀ {K : AV → RO},z49 (some z1m) (some zc_api_Stmt) [(1,nA 2),(2,nA c.vw),(3,nA c.sq),(4,nA c.tm)] K = K (.agg (smC (wPre c))) := st_b
 have hkd : z06 (smC (wPre c)) 1 [nA 3] = smC (wPrep c) := rfl
 have hdd : decide ((2 : Int) * (fN n : Int) ≤ (manyN (wPrep c) c.vs σ.R (prN c.vw n) n.toNat : Int)) = decide (2 * fN n ≤ manyN (wPrep c) c.vs σ.R (prN c.vw n) n.toNat) := by rw [decide_eq_decide];omega
 rw [zjm]
 generalize prN c.vw n = p at *
 cases hv : voB (wPre c) c.vs σ.R p with
 |true =>
  rw [hv] at hh
  simp (config := {maxSteps := 4000000,implicitDefEqProofs := false}) (disch := omega) only [go_sem,pr,hst,v1,v2,hkd,hh,hw,hcn,hw2,hlt,hdd]
 |false =>
  rw [hv] at hh
  simp (config := {maxSteps := 4000000,implicitDefEqProofs := false}) (disch := omega) only [go_sem,pr,hst,v1,v2,hkd,hh,hw,hcn,hw2,hlt,hdd]
theorem zuP (m : Nat) (A B : List AObj) (σ : Sg) (c : Ce) (n : Int) (hG : GB A B) (hσ : SgOk σ) (hm : 1000001 < m) (hc : CeI c) :
  zic m (OP (A.length + 4) 0) (OP (A.length + 1) 0) (ceE c) (nA n) (sc A B σ) = some (bA (ceH σ.T σ.R c n),sc A B { σ with T := ceT σ.T c n }) := by
 have hf := ziy m n
 have hC : ∀ n,([⟨1,z0a,0,ceC c⟩] : List AObj).all (ltO n) = true := fun n=>by
  rw [List.all_cons,List.all_nil,Bool.and_true]
  show ((1 : Nat) == 0 || (ceC c).all (ltA n)) = true
  rw [z4Z];rfl
 have hb := hc.body
 have ht := tof_s m A (B ++ [⟨1,z0a,0,ceC c⟩]) σ c.body (hG.app hC) hσ (by omega)
 rw [zcj,zcj] at ht
 have hσ2 := hσ.of (s := c.body) (by omega)
 have hlt := fun {σ : Sg}=>sc_lt hG (σ := σ) (Nat.le_refl _)
 rw [zml,ce_it]
 unfold ceH ceT
 cases hn : okN n with
 |false =>
  rw [hn] at hf
  simp (config := {maxSteps := 4000000,implicitDefEqProofs := false}) (disch := omega) only [go_sem,hf,hlt]
 |true =>
  rw [hn] at hf
  have h2 := ztb m A B _ c n hG hσ2 hm hc hn
  dsimp only at h2
  rw [if_pos rfl,Bool.true_and]
  unfold okC
  by_cases c1 : ofE σ.T c.body = 0
  ·have c1' := ofE_N.1 c1
   by_cases c2 : (ofN σ.T c.body : Int) = c.tm
   ·rw [decide_eq_true c1',decide_eq_true c2,Bool.true_and,Bool.true_and,← h2]
    simp (config := {maxSteps := 4000000,implicitDefEqProofs := false}) (disch := omega) only [go_sem,hf,ht,c1,c2,hlt,zba]
   ·rw [decide_eq_false c2,Bool.and_false,Bool.false_and]
    simp (config := {maxSteps := 4000000,implicitDefEqProofs := false}) (disch := omega) only [go_sem,hf,ht,c1,c2,hlt,zba]
  ·have c1' : ¬ ofN σ.T c.body ≠ 0 := fun q=>c1 (ofE_N.2 q)
   rw [decide_eq_false c1',Bool.false_and,Bool.false_and]
   simp (config := {maxSteps := 4000000,implicitDefEqProofs := false}) (disch := omega) only [go_sem,hf,ht,c1,hlt,zba]
theorem WgOk.of {ω : Wg} (h : WgOk ω) {s : List UInt8} : WgOk { ω with T := oqT ω.T s } := ⟨by
 show (oqT ω.T s).length ≤ 65536
 have := h.tl
 unfold oqT
 split
 ·exact h.tl
 ·split
  ·exact h.tl
  ·simp;omega,h.ll,h.rl,h.lx⟩
theorem zsZ (m : Nat) (A B : List AObj) (ω : Wg) (c : Ce) (n : Int) (hG : GW A B) (hω : WgOk ω) (hm : 1000001 < m) (hc : CeI c) (hn : okN n = true) :
  z2S m (nSW A B) ⟨sw A B ω ++ [⟨1,z0a,0,ceC c⟩],[(0,OP A.length 0),(2,nA n),(4,OP (nSW A B) 0),(7,nA (fN n))]⟩ = some (bA (voB (wPre c) c.vs ω.L (prN c.vw n) && decide (2 * fN n ≤ manyN (wPrep c) c.vs ω.L (prN c.vw n) n.toNat)),sw A B ω) := by
 obtain ⟨n1,n2⟩ := zix hn
 have hvl := hc.vl
 have hL := hω.ll
 have hC : ∀ n,([⟨1,z0a,0,ceC c⟩] : List AObj).all (ltO n) = true := fun n=>by
  rw [List.all_cons,List.all_nil,Bool.and_true]
  show ((1 : Nat) == 0 || (ceC c).all (ltA n)) = true
  rw [z4Z];rfl
 have hv := zoA m ω.n ω.rog ω.L c.vs (wPre c) (prN c.vw n) (by omega) (by omega) (by omega) hvl
 rw [show (decide (({ wPre c with fr := prN c.vw n } : Sm) ∈ c.vs) && decide (({ wPre c with fr := prN c.vw n } : Sm) ∈ ω.L)) = voB (wPre c) c.vs ω.L (prN c.vw n) from rfl,sm_it] at hv
 unfold rrA rrC at hv
 have hmn := zrM m A (B ++ [⟨1,z0a,0,ceC c⟩]) ω c.vs (wPrep c) n (prN c.vw n) (hG.app hC) hω (by omega) (by omega) hvl (by omega) (by omega) (by omega)
 rw [zio,sm_it] at hmn
 have pr := znR m c.vw n ⟨hc.vw.1,by have := hc.vw.2;omega⟩ (by omega)
 rw [show (if n < 1 then 0 else c.vw % n) = prN c.vw n from rfl] at pr
 have hlt := sw_lt hG hω (Nat.le_refl _)
 have hf := fN_le n
 have hw2 : IntKind.i64.wrap (2 * (fN n : Int)) = 2 * (fN n : Int) := w_i64 (by omega) (by omega)
 have hst : ∀ {K : AV → RO},z49 (some z1m) (some zc_api_Stmt) [(1,nA 2),(2,nA c.vw),(3,nA c.sq),(4,nA c.tm)] K = K (.agg (smC (wPre c))) := st_b
 have hst3 : ∀ {K : AV → RO},z49 (some z1m) (some zc_api_Stmt) [(1,nA 3),(2,nA c.vw),(3,nA c.sq),(4,nA c.tm)] K = K (.agg (smC (wPrep c))) := st_b
 have hdd : decide ((2 : Int) * (fN n : Int) ≤ (manyN (wPrep c) c.vs ω.L (prN c.vw n) n.toNat : Int)) = decide (2 * fN n ≤ manyN (wPrep c) c.vs ω.L (prN c.vw n) n.toNat) := by rw [decide_eq_decide];omega
 have hX := fun H=>hω.ro H
 have hX2 := fun n=>(hω.lt n).2.1
 rw [zaB]
 generalize prN c.vw n = p at *
 cases hv2 : voB (wPre c) c.vs ω.L p with
 |true =>
  rw [hv2] at hv
  simp (config := {maxSteps := 4000000,implicitDefEqProofs := false}) (disch := omega) only [go_sem,w_Y0,w_B0,z5M,z78,zb2,hX,hX2,pr,hst,hst3,hv,hmn,hw2,hlt,hdd]
 |false =>
  rw [hv2] at hv
  simp (config := {maxSteps := 4000000,implicitDefEqProofs := false}) (disch := omega) only [go_sem,w_Y0,w_B0,z5M,z78,zb2,hX,hX2,pr,hst,hst3,hv,hmn,hw2,hlt,hdd]
theorem zww (m : Nat) (A B : List AObj) (ω : Wg) (c : Ce) (n : Int) (hG : GW A B) (hω : WgOk ω) (hm : 1000001 < m) (hc : CeI c) :
  z2L m (OP A.length 0) (ceE c) (nA n) (sw A B ω) = some (bA (ceH ω.T ω.L c n),sw A B { ω with T := ceT ω.T c n }) := by
 have hf := zmP m n (by omega)
 have hC : ∀ n,([⟨1,z0a,0,ceC c⟩] : List AObj).all (ltO n) = true := fun n=>by
  rw [List.all_cons,List.all_nil,Bool.and_true]
  show ((1 : Nat) == 0 || (ceC c).all (ltA n)) = true
  rw [z4Z];rfl
 have hl := hω.tl
 have ht := wof_s m A (B ++ [⟨1,z0a,0,ceC c⟩]) ω c.body (hG.app hC) hω (by omega)
 rw [zio,zio] at ht
 have hω2 := hω.of (s := c.body)
 have hlt0 := sw_lt hG hω (Nat.le_refl _)
 have hlt := sw_lt hG hω2 (Nat.le_refl _)
 rw [zbA,ce_it]
 unfold ceH ceT
 cases hn : okN n with
 |false =>
  have h0 : fN n = 0 := by unfold fN;rw [hn];rfl
  rw [h0] at hf
  simp (config := {maxSteps := 4000000,implicitDefEqProofs := false}) (disch := omega) only [go_sem,z78,zb2,hf,hlt0]
 |true =>
  have h2 := zsZ m A B _ c n hG hω2 hm hc hn
  dsimp only at h2
  obtain ⟨n1,n2⟩ := zix hn
  have h0 : ¬ (fN n : Int) = 0 := by have := fN_ok hn;omega
  rw [if_pos rfl,Bool.true_and]
  unfold okC
  by_cases c1 : ofN ω.T c.body = 0
  ·have c1' : (ofN ω.T c.body : Int) = 0 := by omega
   rw [decide_eq_false (show ¬ ofN ω.T c.body ≠ 0 from fun q=>q c1),Bool.false_and,Bool.false_and]
   rw [c1'] at ht
   simp (config := {maxSteps := 4000000,implicitDefEqProofs := false}) (disch := omega) only [go_sem,w_Y0,w_B0,z78,zb2,hf,h0,ht,hlt,z42]
  ·have c1' : ¬ (ofN ω.T c.body : Int) = 0 := by omega
   by_cases c2 : (ofN ω.T c.body : Int) = c.tm
   ·rw [decide_eq_true (show ofN ω.T c.body ≠ 0 from c1),decide_eq_true c2,Bool.true_and,Bool.true_and,← h2]
    have c3 : ¬ c.tm = 0 := by omega
    simp (config := {maxSteps := 4000000,implicitDefEqProofs := false}) (disch := omega) only [go_sem,w_Y0,w_B0,z78,zb2,hf,h0,ht,c1',c2,c3,hlt,z42]
   ·rw [decide_eq_false c2,Bool.and_false,Bool.false_and]
    simp (config := {maxSteps := 4000000,implicitDefEqProofs := false}) (disch := omega) only [go_sem,w_Y0,w_B0,z78,zb2,hf,h0,ht,c1',c2,hlt,z42]
end Go.Proofs.Ytaaogcnjfkgnoaa

namespace Go.Proofs.Ytaaogcnjfkgnoaa
open Go.RowKit
attribute [local go_sem] Nat.zero_add Nat.add_zero Nat.mul_one Int.toNat_natCast Int.natCast_zero Int.cast_ofNat_Int or_false false_or or_true true_or Nat.sub_zero Int.natCast_nonneg Int.toNat_zero Bool.true_and Bool.and_true Bool.false_and Bool.and_false Bool.true_or Bool.or_true Bool.false_or Bool.or_false Bool.not_true Bool.not_false Bool.not_not true_and and_true false_and and_false not_true_eq_false not_false_eq_true eq_self decide_true decide_false ne_eq implies_true forall_const true_implies false_implies Bool.true_eq_false Bool.false_eq_true List.map_cons List.map_nil List.all_cons List.all_nil List.length_cons List.length_nil List.length_map List.length_append List.nil_append List.cons_append List.set_cons_zero List.set_cons_succ List.set_nil List.drop_zero List.drop_succ_cons List.drop_nil List.take_zero List.take_succ_cons List.take_nil Option.map_some Option.map_none Option.isSome_some List.all_append List.all_map Function.comp_def decide_eq_true_eq Bool.and_eq_true beq_self_eq_true or_self and_self ite_true ite_false Nat.le_refl Bool.not_eq_true decide_not Bool.not_eq_true' decide_eq_false_iff_not Bool.not_eq_false Bool.or_eq_true if_true if_false ite_self u_roF u_cvF u_cvC u_ceT u_ceK z2m sm_it z6A z37 z5m z6p z3d sm_ro z3i sm_sl z6a z69 sm_fr z1F z13 sm_kd z28 z12 sm_vw z1u z0P sm_sq z1R z0S sm_tm z1q z0L z2R z2b z3k z63 z64 z29 z3g z1p z1y z2F z39 ce_it z6J z31 z4Z z6x z3A ce_ro z3t ce_sl z6d z6g ce_sq z1X z14 ce_vw z1C z0H ce_tm z1U z0W z33 z0v z0n ce_vs z1P z0X z36 z1t z3r z6F z6H z1T z2X z1z z2c z2M z2V cg_it z67 z3s z61 z6n z2U cg_ro z3E cg_sl z6b z6u cg_fr z1J z0N cg_vw z1Q z11 cg_st z1M z0G cg_rt z1H z17 cg_pf z1Z z0E cg_cs z1N z0I z32 z1I z3b z6y z6c z1V z3v z23 z1L z35 z3p ms_it z6o z3n z6C z6h z3h ms_ro z3e ms_sl z6E z6r ms_kd z1S z0R ms_fr z1v z0O ms_vw z25 z0U ms_sq z1s z0Z ms_tm z1G z0F z3c z0u z0o ms_vs z1E z0Y z68 z0Q z0x z3C z1W z3x z65 z6K z20 z3D z24 z27 z3q z2Y co_it z6M z2W z6D z6m z3m co_ro z3o co_sl z6w z66 co_sq z26 z0V co_tm z1B z0K z3z z0y z0p co_nl z1w z0M z3y z1o z3l z6N z6v z1K z3j z1Y z1O z2N z2Z sd_it z6e z3B z6z z6G z3a sd_ro z2T sd_sl z6I z6i sd_wh z21 z15 sd_fr z1x z0T sd_kd z1D z18 sd_vw z1A z0J sd_sq z22 z16 sd_tm z1r z10 z30 z38 z6f z5O u_bz u_bi1 u_bi2 u_bi3 u_bi4 u_bi5 u_bi6 u_bi7 s_B0 s_Bk s_Bs0 s_Bsk zas zge z8d z8K z92 w_0 w_Y0 w_B0 w_Bk w_Bs0 w_Bsk zfn z78 zaz zb2 z5M ltO_o ltO_r u_eqE zbl Nat.le_add_right List.append_assoc
attribute [local go_sem_proc] Nat.reduceAdd Nat.reduceSub Nat.reduceMul Nat.reduceLeDiff Nat.reduceLT Int.reduceEq Int.reduceNe Int.reduceLT Int.reduceLE Int.reduceAdd Int.reduceSub Int.reduceMul Int.reduceNeg Int.reduceToNat reduceCtorEq Nat.reduceEqDiff Nat.reduceBEq Nat.reduceGT
attribute [local go_sem_proc ↓] reduceIte
def wSt (c : Ch) : Sm := ⟨0,5,0,c.st,c.rt⟩
def stH (R : List Sm) (c : Ch) (n : Int) : Bool :=
 if c.st = 0 then decide (c.rt = 0) && decide (c.pf.length = 0) else dueB c.st && decide (2 * fN n + 1 ≤ manyN (wSt c) c.pf R (-1) n.toNat)
structure ChI (c : Ch) : Prop where
 fr : I64 c.fr
 vw : 0 ≤ c.vw ∧ c.vw ≤ 2147483647
 st : 0 ≤ c.st ∧ c.st ≤ 2147483647
 rt : 0 ≤ c.rt ∧ c.rt ≤ 2147483647
 pl : c.pf.length ≤ 64
 pf : ∀ x ∈ c.pf,SmI x
 cl : c.cs.length ≤ 64
 cs : ∀ x ∈ c.cs,CeI x ∧ 0 ≤ x.sq ∧ x.sq ≤ 2147483647
theorem zqa {x : Sm} (h : smB x = true) : SmI x := by
 have h1 := zng h
 have g : ∀ v ∈ [x.fr,x.kd,x.vw,x.sq,x.tm],I64 v := fun v hv=>by
  obtain ⟨a,b⟩ := h1 v hv
  exact ⟨by omega,by omega⟩
 exact ⟨g _ (by simp),g _ (by simp),g _ (by simp),g _ (by simp),g _ (by simp)⟩
theorem zjL {v : Int} (h : numB v = true) : 0 ≤ v ∧ v ≤ 2147483647 := by
 unfold numB at h
 simpa using h
theorem zzc {x : Ce} (h : ceB x = true) : CeI x ∧ 0 ≤ x.sq ∧ x.sq ≤ 2147483647 := by
 obtain ⟨h1,h2,h3⟩ := zpy h
 obtain ⟨h4,h5⟩ := zjO h3
 simp only [List.all_cons,List.all_nil,Bool.and_true,Bool.and_eq_true] at h1
 obtain ⟨a1,a2⟩ := zjL h1.1
 obtain ⟨b1,b2⟩ := zjL h1.2.1
 exact ⟨⟨⟨by omega,by omega⟩,by omega,by omega,fun y hy=>zqa (List.all_eq_true.1 h5 y hy)⟩,a1,a2⟩
theorem zoy {c : Ch} (h : cgB c = true) : ChI c := by
 obtain ⟨h1,h2,h3,h4⟩ := zps h
 obtain ⟨h5,h6⟩ := zjO h3
 obtain ⟨h7,h8⟩ := zmM h4
 simp only [List.all_cons,List.all_nil,Bool.and_true,Bool.and_eq_true] at h2
 have h9 := zjL (zp1 h1)
 exact ⟨⟨by omega,by omega⟩,zjL h2.1,zjL h2.2.1,zjL h2.2.2,h5,fun y hy=>zqa (List.all_eq_true.1 h6 y hy),h7,fun y hy=>zzc (List.all_eq_true.1 h8 y hy)⟩
theorem zfu {n : Nat} {c : Ch} : ltO n ⟨1,z00,0,cgC c⟩ = true := by
 show ((1 : Nat) == 0 || (cgC c).all (ltA n)) = true
 rw [z61];rfl
theorem zwP {n : Nat} {c : Ce} : ltO n ⟨1,z0a,0,ceC c⟩ = true := by
 show ((1 : Nat) == 0 || (ceC c).all (ltA n)) = true
 rw [z4Z];rfl
theorem st5_b {R : Type} {a b c : Int} {K : AV → Option R} : z49 (some z1m) (some zc_api_Stmt) [(1,nA a),(3,nA b),(4,nA c)] K = K (.agg (smC ⟨0,a,0,b,c⟩)) := _root_.id rfl
theorem zsl (m : Nat) (A B : List AObj) (σ : Sg) (c : Ch) (n : Int) (hG : GB A B) (hσ : SgOk σ) (hm : 1000001 < m) (hc : ChI c) (hn : okN n = true) :
  zeu m (OP (A.length + 4) 0) (cgE c) (nA n) (sc A B σ) = some (bA (stH σ.R c n),sc A B σ) := by
 obtain ⟨n1,n2⟩ := zix hn
 have hpl := hc.pl
 have v1 := zm9 m A (B ++ [⟨1,z00,0,cgC c⟩,⟨1,z01,0,smC (wSt c)⟩]) σ c.pf (wSt c) n (hG.app fun n=>by simp [zfu,z92]) hσ (by omega) (by omega) (by omega) hc.pf
 rw [zcj,sm_it] at v1
 have hd := due_s m c.st
 have hs := zkT m (setV (wSt c) σ.R c.pf n) n zmQ
 rw [hn,ztx hσ.rr (by omega) (by omega),Bool.true_and] at hs
 have hdd : decide ((2 : Int) * (fN n : Int) + 1 ≤ (manyN (wSt c) c.pf σ.R (-1) n.toNat : Int)) = decide (2 * fN n + 1 ≤ manyN (wSt c) c.pf σ.R (-1) n.toNat) := by rw [decide_eq_decide];omega
 rw [hdd] at hs
 have hst : ∀ {K : AV → RO},z49 (some z1m) (some zc_api_Stmt) [(1,nA 5),(3,nA c.st),(4,nA c.rt)] K = K (.agg (smC (wSt c))) := st5_b
 have hlt := sc_lt hG (σ := σ) (Nat.le_refl _)
 rw [zkc,cg_it]
 unfold stH
 by_cases c1 : c.st = 0
 ·rw [if_pos c1]
  by_cases c2 : c.rt = 0
  ·have e1 : decide ((c.pf.length : Int) = 0) = decide (c.pf.length = 0) := by rw [decide_eq_decide];omega
   simp (config := {maxSteps := 4000000,implicitDefEqProofs := false}) (disch := omega) only [go_sem,c1,c2,e1,hlt]
  ·simp (config := {maxSteps := 4000000,implicitDefEqProofs := false}) (disch := omega) only [go_sem,c1,c2,hlt]
 ·rw [if_neg c1]
  cases hdu : dueB c.st with
  |false =>
   rw [hdu] at hd
   simp (config := {maxSteps := 4000000,implicitDefEqProofs := false}) (disch := omega) only [go_sem,c1,hd,hst,hlt]
  |true =>
   rw [hdu] at hd
   simp (config := {maxSteps := 4000000,implicitDefEqProofs := false}) (disch := omega) only [go_sem,c1,hd,hst,v1,hs,hlt]
def ceSeq (st vw last : Int) (x : Ce) : Bool := decide (last < x.sq) && (decide (x.sq ≤ st + 16) && decide (x.vw < vw))
def csF (R : List Sm) (n st vw : Int) : List (List UInt8) → Int → List Ce → Bool × List (List UInt8)
 |T,_,[]=>(true,T)
 |T,last,x :: r=>if ceSeq st vw last x = true then (if ceH T R x n = true then csF R n st vw (ceT T x n) x.sq r else (false,ceT T x n)) else (false,T)
theorem SgOk.ce {σ : Sg} (h : SgOk σ) {c : Ce} {n : Int} (hs : c.body.length ≤ 9223372036854775807) : SgOk { σ with T := ceT σ.T c n } := by
 unfold ceT
 split
 ·exact h.of hs
 ·exact h
theorem ztG (m : Nat) (A B : List AObj) (σ : Sg) (c : Ch) (n : Int) (hG : GB A B) (hσ : SgOk σ) (hm : 1000001 < m) (hc : ChI c) :
  zgg m (OP (A.length + 4) 0) (OP (A.length + 1) 0) (cgE c) (nA n) (sc A B σ) = some (bA (csF σ.R n c.st c.vw σ.T c.st c.cs).1,sc A B { σ with T := (csF σ.R n c.st c.vw σ.T c.st c.cs).2 }) := by
 have hcl := hc.cl
 obtain ⟨s1,s2⟩ := hc.st
 have h14 : A.length + 4 < nAB A B + 1 ∧ A.length + 1 < nAB A B + 1 := by unfold nAB;omega
 have hB1 : nAB A B < nAB A B + 1 := Nat.lt_succ_self _
 rw [zlN,cg_it]
 simp (config := {maxSteps := 4000000,implicitDefEqProofs := false}) (disch := omega) only [go_sem,]
 refine z4a (m := m) (ι := {p : Nat × List (List UInt8) × Int // p.1 ≤ c.cs.length ∧ SgOk { σ with T := p.2.1 } ∧ csF σ.R n c.st c.vw σ.T c.st c.cs = csF σ.R n c.st c.vw p.2.1 p.2.2 (c.cs.drop p.1)}) (fun p=>⟨sc A B { σ with T := p.1.2.1 } ++ [⟨1,z00,0,cgC c⟩],[(0,OP (A.length + 4) 0),(1,OP (A.length + 1) 0),(3,nA n),(6,OP (nAB A B) 0),(9,nA p.1.2.2),(15,SL (c.cs.map ceE)),(16,nA c.cs.length),(17,nA p.1.1)]⟩) (fun p=>c.cs.length - p.1.1) (fun _=>some (bA (csF σ.R n c.st c.vw σ.T c.st c.cs).1,sc A B { σ with T := (csF σ.R n c.st c.vw σ.T c.st c.cs).2 })) ?_ ⟨(0,σ.T,c.st),Nat.zero_le _,hσ,rfl⟩ (by dsimp only;omega)
 rintro kx hkx ⟨⟨k,T,last⟩,hk,hT,hF⟩ kc hkc
 dsimp only at hkc hk hT hF ⊢
 rw [ziP]
 by_cases h : k < c.cs.length
 ·have h' : (k : Int) < (c.cs.length : Int) := by omega
  have hw1 : IntKind.i64.wrap ((k : Int) + 1) = (k : Int) + 1 := w_i64 (by omega) (by omega)
  rw [List.drop_eq_getElem_cons h] at hF
  obtain ⟨hx,x1,x2⟩ := hc.cs _ (List.getElem_mem h)
  have hxb := hx.body
  generalize hxe : c.cs[k] = x at *
  have hv := zuP m A (B ++ [⟨1,z00,0,cgC c⟩,⟨1,z0a,0,ceC x⟩]) { σ with T := T } x n (hG.app fun n=>by simp [zfu,zwP]) hT hm hx
  rw [zcj,zcj,ce_it] at hv
  dsimp only at hv
  have hT2 := hT.ce (c := x) (n := n) (by omega)
  have hlt := fun {σ : Sg}=>sc_lt hG (σ := σ) (n := nAB A B + 1) (by omega)
  have hw2 : IntKind.i64.wrap (x.sq - c.st) = x.sq - c.st := w_i64 (by omega) (by omega)
  simp only [csF] at hF
  by_cases c1 : last < x.sq ∧ x.sq ≤ c.st + 16 ∧ x.vw < c.vw
  ·have e0 : ceSeq c.st c.vw last x = true := by unfold ceSeq;simp [c1]
   rw [if_pos e0] at hF
   have e1 : ¬ x.sq ≤ last := by omega
   have e2 : ¬ 16 < x.sq - c.st := by omega
   have e3 : ¬ c.vw ≤ x.vw := by omega
   cases hb : ceH T σ.R x n with
   |true =>
    rw [if_pos hb] at hF
    rw [hb] at hv
    have step := hkc ⟨(k + 1,ceT T x n,x.sq),by dsimp only;omega,hT2,hF⟩ (by dsimp only;omega)
    dsimp only at step
    simp (config := {maxSteps := 4000000,implicitDefEqProofs := false}) (disch := omega) only [go_sem,h,h',hxe,e1,e2,e3,hv,hw1,hw2,hlt,h14,hB1,zfu,z4E,z4K,z4F,z4I,z4H,szOf]
    exact step
   |false =>
    rw [if_neg (by rw [hb];decide)] at hF
    rw [hb] at hv
    have hlt := fun {σ : Sg}=>sc_lt hG (σ := σ) (Nat.le_refl _)
    simp (config := {maxSteps := 4000000,implicitDefEqProofs := false}) (disch := omega) only [go_sem,h,h',hxe,e1,e2,e3,hv,hw1,hw2,hlt,hkx,hF,z4E,z4K,z4F,z4I,z4H,szOf]
  ·have e0 : ¬ ceSeq c.st c.vw last x = true := by unfold ceSeq;simp;omega
   rw [if_neg e0] at hF
   have hlt := fun {σ : Sg}=>sc_lt hG (σ := σ) (Nat.le_refl _)
   by_cases e1 : x.sq ≤ last
   ·simp (config := {maxSteps := 4000000,implicitDefEqProofs := false}) (disch := omega) only [go_sem,h,h',hxe,e1,hlt,hkx,hF,z4E,z4K,z4F,z4I,z4H,szOf]
   ·by_cases e2 : 16 < x.sq - c.st
    ·simp (config := {maxSteps := 4000000,implicitDefEqProofs := false}) (disch := omega) only [go_sem,h,h',hxe,e1,e2,hw2,hlt,hkx,hF,z4E,z4K,z4F,z4I,z4H,szOf]
    ·have e3 : c.vw ≤ x.vw := by omega
     simp (config := {maxSteps := 4000000,implicitDefEqProofs := false}) (disch := omega) only [go_sem,h,h',hxe,e1,e2,e3,hw2,hlt,hkx,hF,z4E,z4K,z4F,z4I,z4H,szOf]
 ·obtain rfl : k = c.cs.length := by omega
  have h' : ¬ (c.cs.length : Int) < (c.cs.length : Int) := Int.lt_irrefl _
  rw [List.drop_length] at hF
  simp only [csF] at hF
  have hlt := fun {σ : Sg}=>sc_lt hG (σ := σ) (Nat.le_refl _)
  simp (config := {maxSteps := 4000000,implicitDefEqProofs := false}) (disch := omega) only [go_sem,h,h',hlt,hkx,hF,z4E,z4K,z4F,z4I,z4H]
end Go.Proofs.Ytaaogcnjfkgnoaa

namespace Go.Proofs.Ytaaogcnjfkgnoaa
open Go.RowKit
attribute [local go_sem] Nat.zero_add Nat.add_zero Nat.mul_one Int.toNat_natCast Int.natCast_zero Int.cast_ofNat_Int or_false false_or or_true true_or Nat.sub_zero Int.natCast_nonneg Int.toNat_zero Bool.true_and Bool.and_true Bool.false_and Bool.and_false Bool.true_or Bool.or_true Bool.false_or Bool.or_false Bool.not_true Bool.not_false Bool.not_not true_and and_true false_and and_false not_true_eq_false not_false_eq_true eq_self decide_true decide_false ne_eq implies_true forall_const true_implies false_implies Bool.true_eq_false Bool.false_eq_true List.map_cons List.map_nil List.all_cons List.all_nil List.length_cons List.length_nil List.length_map List.length_append List.nil_append List.cons_append List.set_cons_zero List.set_cons_succ List.set_nil List.drop_zero List.drop_succ_cons List.drop_nil List.take_zero List.take_succ_cons List.take_nil Option.map_some Option.map_none Option.isSome_some List.all_append List.all_map Function.comp_def decide_eq_true_eq Bool.and_eq_true beq_self_eq_true or_self and_self ite_true ite_false Nat.le_refl Bool.not_eq_true decide_not Bool.not_eq_true' decide_eq_false_iff_not Bool.not_eq_false Bool.or_eq_true if_true if_false ite_self u_roF u_cvF u_cvC u_ceT u_ceK z2m sm_it z6A z37 z5m z6p z3d sm_ro z3i sm_sl z6a z69 sm_fr z1F z13 sm_kd z28 z12 sm_vw z1u z0P sm_sq z1R z0S sm_tm z1q z0L z2R z2b z3k z63 z64 z29 z3g z1p z1y z2F z39 ce_it z6J z31 z4Z z6x z3A ce_ro z3t ce_sl z6d z6g ce_sq z1X z14 ce_vw z1C z0H ce_tm z1U z0W z33 z0v z0n ce_vs z1P z0X z36 z1t z3r z6F z6H z1T z2X z1z z2c z2M z2V cg_it z67 z3s z61 z6n z2U cg_ro z3E cg_sl z6b z6u cg_fr z1J z0N cg_vw z1Q z11 cg_st z1M z0G cg_rt z1H z17 cg_pf z1Z z0E cg_cs z1N z0I z32 z1I z3b z6y z6c z1V z3v z23 z1L z35 z3p ms_it z6o z3n z6C z6h z3h ms_ro z3e ms_sl z6E z6r ms_kd z1S z0R ms_fr z1v z0O ms_vw z25 z0U ms_sq z1s z0Z ms_tm z1G z0F z3c z0u z0o ms_vs z1E z0Y z68 z0Q z0x z3C z1W z3x z65 z6K z20 z3D z24 z27 z3q z2Y co_it z6M z2W z6D z6m z3m co_ro z3o co_sl z6w z66 co_sq z26 z0V co_tm z1B z0K z3z z0y z0p co_nl z1w z0M z3y z1o z3l z6N z6v z1K z3j z1Y z1O z2N z2Z sd_it z6e z3B z6z z6G z3a sd_ro z2T sd_sl z6I z6i sd_wh z21 z15 sd_fr z1x z0T sd_kd z1D z18 sd_vw z1A z0J sd_sq z22 z16 sd_tm z1r z10 z30 z38 z6f z5O u_bz u_bi1 u_bi2 u_bi3 u_bi4 u_bi5 u_bi6 u_bi7 s_B0 s_Bk s_Bs0 s_Bsk zas zge z8d z8K z92 w_0 w_Y0 w_B0 w_Bk w_Bs0 w_Bsk zfn z78 zaz zb2 z5M ltO_o ltO_r u_eqE zbl Nat.le_add_right List.append_assoc
attribute [local go_sem_proc] Nat.reduceAdd Nat.reduceSub Nat.reduceMul Nat.reduceLeDiff Nat.reduceLT Int.reduceEq Int.reduceNe Int.reduceLT Int.reduceLE Int.reduceAdd Int.reduceSub Int.reduceMul Int.reduceNeg Int.reduceToNat reduceCtorEq Nat.reduceEqDiff Nat.reduceBEq Nat.reduceGT
attribute [local go_sem_proc ↓] reduceIte
def csSm (T : List (List UInt8)) (c : Ch) : Sm := ⟨c.fr,6,c.vw,c.st,ofN T (encCg c)⟩
def csS (T : List (List UInt8)) (c : Ch) : Sm × Int × List (List UInt8) :=
 if cgB c = true then (if ofE T (encCg c) = 0 then (csSm T c,0,oqT T (encCg c)) else (Sm.zero,5,oqT T (encCg c))) else (Sm.zero,1,T)
theorem znd (c : Ch) : 0 < (encCg c).length := by
 have := zp6 c.fr.toNat
 unfold encCg putsL
 simp only [List.flatMap_cons,List.length_append]
 omega
theorem ofE_5 {T : List (List UInt8)} {s : List UInt8} (h : ofE T s ≠ 0) : ofE T s = 5 := by
 unfold ofE at h ⊢
 split at h
 ·exact absurd rfl h
 ·split at h
  ·rename_i h1 h2;rw [if_neg h1,if_pos h2]
  ·exact absurd rfl h
theorem st6_b {R : Type} {a b c d e : Int} {K : AV → Option R} : z49 (some z1m) (some zc_api_Stmt) [(0,nA a),(1,nA b),(2,nA c),(3,nA d),(4,nA e)] K = K (.agg (smC ⟨a,b,c,d,e⟩)) := _root_.id rfl
theorem st0_b {R : Type} {K : AV → Option R} : z49 (some z1m) (some zc_api_Stmt) [] K = K (.agg (smC Sm.zero)) := _root_.id rfl
theorem zsmO : (⟨1,z01,0,zc_api_Stmt⟩ : AObj) = ⟨1,z01,0,smC Sm.zero⟩ := _root_.id rfl
theorem zx0 {R : Type} {s : List UInt8} {K : AV → Option R} (h : s.length ≤ 34359738368) : convE false none true true false (SL (bC s)) K = K (sA s) := by
 show whenE true (match zeT (bC s) with|some l=>K (V (.string ⟨l.toArray⟩))|none=>none) = _
 rw [zo9]
 exact zbO
theorem zfa (m : Nat) (A B : List AObj) (σ : Sg) (c : Ch) (hG : GB A B) (hσ : SgOk σ) (hm : 1000001 < m) :
  z3T m (OP (A.length + 1) 0) (cgE c) (sc A B σ) = some (TU [smE (csS σ.T c).1,nA (csS σ.T c).2.1],sc A B { σ with T := (csS σ.T c).2.2 }) := by
 have hen := zfU m c (by omega)
 rw [cg_it] at hen
 have hlt := fun {σ : Sg}=>sc_lt hG (σ := σ) (Nat.le_refl _)
 rw [zgL,cg_it]
 unfold csS
 cases hB : cgB c with
 |false =>
  rw [hB,if_neg (by decide)] at hen
  rw [if_neg (by decide),sm_it]
  simp (config := {maxSteps := 4000000,implicitDefEqProofs := false}) (disch := omega) only [go_sem,zsmO,hen,st0_b,hlt,z5z]
 |true =>
  rw [hB,if_pos rfl] at hen
  have hl := zfE hB
  have hp := znd c
  have hp' : ¬ ((encCg c).length : Int) = 0 := by omega
  have ht := tof_s m A (B ++ [⟨1,z00,0,cgC c⟩,⟨1,z01,0,smC Sm.zero⟩]) σ (encCg c) (hG.app fun n=>by simp [zfu,z92]) hσ (by omega)
  rw [zcj,zcj] at ht
  have hu := fun (K : AV → RO)=>zx0 (K := K) (s := encCg c) (by omega)
  by_cases h0 : ofE σ.T (encCg c) = 0
  ·rw [if_pos rfl,if_pos h0,sm_it]
   simp (config := {maxSteps := 4000000,implicitDefEqProofs := false}) (disch := omega) only [go_sem,zsmO,hen,hu,ht,h0,hp',st6_b,hlt,z5z]
   rfl
  ·have h5 := ofE_5 h0
   rw [if_pos rfl,if_neg h0,sm_it]
   rw [h5] at ht
   simp (config := {maxSteps := 4000000,implicitDefEqProofs := false}) (disch := omega) only [go_sem,zsmO,hen,hu,ht,h0,hp',st0_b,hlt,z5z]
def chF (T : List (List UInt8)) (R : List Sm) (c : Ch) (n : Int) : Bool × List (List UInt8) :=
  if (okN n && (cgB c && (decide (c.fr < n) && (decide (1 ≤ c.vw) && stH R c n)))) = true then
    (if (csF R n c.st c.vw T c.st c.cs).1 = true then
      (decide (ofE (csF R n c.st c.vw T c.st c.cs).2 (encCg c) = 0) && decide (csSm (csF R n c.st c.vw T c.st c.cs).2 c ∈ R), oqT (csF R n c.st c.vw T c.st c.cs).2 (encCg c))
    else (false, (csF R n c.st c.vw T c.st c.cs).2))
  else (false, T)
theorem zsA {σ : Sg} {n st vw : Int} : ∀ (l : List Ce) (T : List (List UInt8)) (last : Int),SgOk { σ with T := T } → (∀ x ∈ l,CeI x) → SgOk { σ with T := (csF σ.R n st vw T last l).2 }
 |[],T,last,h,_=>h
 |x :: l,T,last,h,hl=>by
  have hx := hl x (List.mem_cons_self ..)
  have hb := hx.body
  have h2 := h.ce (c := x) (n := n) (by omega)
  simp only [csF]
  split
  ·split
   ·exact zsA l _ _ h2 fun y hy=>hl y (List.mem_cons_of_mem _ hy)
   ·exact h2
  ·exact h
theorem zvg {α : Type} [DecidableEq α] {L : List α} {s : α} : posL L s ≤ L.length := by
 unfold posL
 split
 ·rename_i hs
  exact List.idxOf_lt_length_of_mem hs
 ·omega
theorem zy5 {T : List (List UInt8)} {s : List UInt8} (h : T.length ≤ 65536) : ofN T s ≤ 65537 := by
 have := zvg (L := T) (s := s)
 unfold ofN
 split
 ·omega
 ·split <;> omega
theorem zyP {T : List (List UInt8)} {c : Ch} (hT : T.length ≤ 65536) (hc : ChI c) : SmI (csSm T c) := by
 have := zy5 (s := encCg c) hT
 obtain ⟨v1,v2⟩ := hc.vw
 obtain ⟨s1,s2⟩ := hc.st
 exact ⟨hc.fr,⟨by show _ ≤ (6 : Int);omega,by show (6 : Int) ≤ _;omega⟩,⟨by show _ ≤ c.vw;omega,by show c.vw ≤ _;omega⟩,⟨by show _ ≤ c.st;omega,by show c.st ≤ _;omega⟩,⟨by show _ ≤ ((ofN T (encCg c) : Nat) : Int);omega,by show ((ofN T (encCg c) : Nat) : Int) ≤ _;omega⟩⟩
theorem zq4 (m : Nat) (A B : List AObj) (σ : Sg) (c : Ch) (hG : GB A B) (hσ : SgOk σ) (hm : 1000001 < m) (hB : cgB c = true) :
  za4 m (nAB A B) ⟨sc A B σ ++ [⟨1,z00,0,cgC c⟩],[(0,OP (A.length + 4) 0),(1,OP (A.length + 1) 0),(6,OP (nAB A B) 0)]⟩ = some (bA (decide (ofE σ.T (encCg c) = 0) && decide (csSm σ.T c ∈ σ.R)),sc A B { σ with T := oqT σ.T (encCg c) }) := by
 have hc := zoy hB
 have hst := zfa m A (B ++ [⟨1,z00,0,cgC c⟩]) σ c (hG.app fun n=>by simp [zfu]) hσ hm
 rw [zcj,zcj] at hst
 have hl := zfE hB
 have hσ2 := hσ.of (s := encCg c) (by omega)
 have hlt := fun {σ : Sg}=>sc_lt hG (σ := σ) (Nat.le_refl _)
 rw [zhG]
 unfold csS at hst
 rw [if_pos hB] at hst
 by_cases h0 : ofE σ.T (encCg c) = 0
 ·rw [if_pos h0] at hst
  have hh := ztz m A (B ++ [⟨1,z00,0,cgC c⟩,⟨1,z01,0,smC (csSm σ.T c)⟩]) { σ with T := oqT σ.T (encCg c) } (csSm σ.T c) (hG.app fun n=>by simp [zfu,z92]) hσ2 (zyP hσ.tl hc)
  rw [zcj] at hh
  dsimp only at hst hh
  rw [cg_it,sm_it] at hst
  rw [sm_it] at hh
  rw [decide_eq_true h0,Bool.true_and]
  simp (config := {maxSteps := 4000000,implicitDefEqProofs := false}) (disch := omega) only [go_sem,zsmO,hst,hh,hlt]
 ·rw [if_neg h0] at hst
  dsimp only at hst
  rw [cg_it,sm_it] at hst
  rw [decide_eq_false h0,Bool.false_and]
  simp (config := {maxSteps := 4000000,implicitDefEqProofs := false}) (disch := omega) only [go_sem,zsmO,hst,hlt]
theorem zkn (m : Nat) (A B : List AObj) (σ : Sg) (c : Ch) (n : Int) (hG : GB A B) (hσ : SgOk σ) (hm : 1000001 < m) :
  z6j m (OP (A.length + 4) 0) (OP (A.length + 1) 0) (cgE c) (nA n) (sc A B σ) = some (bA (chF σ.T σ.R c n).1,sc A B { σ with T := (chF σ.T σ.R c n).2 }) := by
 have hen := zfU m c (by omega)
 rw [cg_it] at hen
 have hf := ziy m n
 have hlt := fun {σ : Sg}=>sc_lt hG (σ := σ) (Nat.le_refl _)
 rw [zka,cg_it]
 unfold chF
 cases hn : okN n with
 |false =>
  rw [hn] at hf
  rw [if_neg (by simp)]
  simp (config := {maxSteps := 4000000,implicitDefEqProofs := false}) (disch := omega) only [go_sem,hf,hlt,z3H]
 |true =>
  rw [hn] at hf
  cases hB : cgB c with
  |false =>
   rw [hB,if_neg (by decide)] at hen
   rw [if_neg (by simp)]
   simp (config := {maxSteps := 4000000,implicitDefEqProofs := false}) (disch := omega) only [go_sem,hf,hen,hlt,z5z,z3H]
  |true =>
   rw [hB,if_pos rfl] at hen
   have hc := zoy hB
   have hp := znd c
   have hp' : ¬ ((encCg c).length : Int) = 0 := by omega
   by_cases c1 : c.fr < n
   ·have c1' : ¬ n ≤ c.fr := by omega
    by_cases c2 : 1 ≤ c.vw
    ·have c2' : ¬ c.vw < 1 := by omega
     have hs := zsl m A (B ++ [⟨1,z00,0,cgC c⟩]) σ c n (hG.app fun n=>by simp [zfu]) hσ hm hc hn
     rw [zcj,cg_it] at hs
     rw [decide_eq_true c1,decide_eq_true c2]
     cases h1 : stH σ.R c n with
     |false =>
      rw [h1] at hs
      rw [if_neg (by decide)]
      simp (config := {maxSteps := 4000000,implicitDefEqProofs := false}) (disch := omega) only [go_sem,hf,hen,hs,c1',c2',hp',hlt,z5z,z3H,z5h,z5a]
     |true =>
      rw [h1] at hs
      rw [if_pos (by decide)]
      have hcs := ztG m A (B ++ [⟨1,z00,0,cgC c⟩]) σ c n (hG.app fun n=>by simp [zfu]) hσ hm hc
      rw [zcj,zcj,cg_it] at hcs
      have hσ3 := zsA (σ := σ) (n := n) (st := c.st) (vw := c.vw) c.cs σ.T c.st hσ fun x hx=>(hc.cs x hx).1
      have h4 := zq4 m A B _ c hG hσ3 hm hB
      generalize csF σ.R n c.st c.vw σ.T c.st c.cs = F at *
      obtain ⟨b,T'⟩ := F
      dsimp only at *
      cases b with
      |true =>
       rw [if_pos rfl,← h4]
       simp (config := {maxSteps := 4000000,implicitDefEqProofs := false}) (disch := omega) only [go_sem,hf,hen,hs,hcs,c1',c2',hp',hlt,z5z,z3H,z5h,z5a]
      |false =>
       rw [if_neg (by decide)]
       simp (config := {maxSteps := 4000000,implicitDefEqProofs := false}) (disch := omega) only [go_sem,hf,hen,hs,hcs,c1',c2',hp',hlt,z5z,z3H,z5h,z5a]
    ·have c2' : c.vw < 1 := by omega
     rw [decide_eq_false c2,decide_eq_true c1,if_neg (by simp)]
     simp (config := {maxSteps := 4000000,implicitDefEqProofs := false}) (disch := omega) only [go_sem,hf,hen,c1',c2',hp',hlt,z5z,z3H,z5h,z5a]
   ·have c1' : n ≤ c.fr := by omega
    rw [decide_eq_false c1,if_neg (by simp)]
    simp (config := {maxSteps := 4000000,implicitDefEqProofs := false}) (disch := omega) only [go_sem,hf,hen,c1',hp',hlt,z5z,z3H,z5h,z5a]
end Go.Proofs.Ytaaogcnjfkgnoaa

namespace Go.Proofs.Ytaaogcnjfkgnoaa
open Go.RowKit
set_option maxHeartbeats 4000000
attribute [local go_sem] Nat.zero_add Nat.add_zero Nat.mul_one Int.toNat_natCast Int.natCast_zero Int.cast_ofNat_Int or_false false_or or_true true_or Nat.sub_zero Int.natCast_nonneg Int.toNat_zero Bool.true_and Bool.and_true Bool.false_and Bool.and_false Bool.true_or Bool.or_true Bool.false_or Bool.or_false Bool.not_true Bool.not_false Bool.not_not true_and and_true false_and and_false not_true_eq_false not_false_eq_true eq_self decide_true decide_false ne_eq implies_true forall_const true_implies false_implies Bool.true_eq_false Bool.false_eq_true List.map_cons List.map_nil List.all_cons List.all_nil List.length_cons List.length_nil List.length_map List.length_append List.nil_append List.cons_append List.set_cons_zero List.set_cons_succ List.set_nil List.drop_zero List.drop_succ_cons List.drop_nil List.take_zero List.take_succ_cons List.take_nil Option.map_some Option.map_none Option.isSome_some List.all_append List.all_map Function.comp_def decide_eq_true_eq Bool.and_eq_true beq_self_eq_true or_self and_self ite_true ite_false Nat.le_refl Bool.not_eq_true decide_not Bool.not_eq_true' decide_eq_false_iff_not Bool.not_eq_false Bool.or_eq_true if_true if_false ite_self u_roF u_cvF u_cvC u_ceT u_ceK z2m sm_it z6A z37 z5m z6p z3d sm_ro z3i sm_sl z6a z69 sm_fr z1F z13 sm_kd z28 z12 sm_vw z1u z0P sm_sq z1R z0S sm_tm z1q z0L z2R z2b z3k z63 z64 z29 z3g z1p z1y z2F z39 ce_it z6J z31 z4Z z6x z3A ce_ro z3t ce_sl z6d z6g ce_sq z1X z14 ce_vw z1C z0H ce_tm z1U z0W z33 z0v z0n ce_vs z1P z0X z36 z1t z3r z6F z6H z1T z2X z1z z2c z2M z2V cg_it z67 z3s z61 z6n z2U cg_ro z3E cg_sl z6b z6u cg_fr z1J z0N cg_vw z1Q z11 cg_st z1M z0G cg_rt z1H z17 cg_pf z1Z z0E cg_cs z1N z0I z32 z1I z3b z6y z6c z1V z3v z23 z1L z35 z3p ms_it z6o z3n z6C z6h z3h ms_ro z3e ms_sl z6E z6r ms_kd z1S z0R ms_fr z1v z0O ms_vw z25 z0U ms_sq z1s z0Z ms_tm z1G z0F z3c z0u z0o ms_vs z1E z0Y z68 z0Q z0x z3C z1W z3x z65 z6K z20 z3D z24 z27 z3q z2Y co_it z6M z2W z6D z6m z3m co_ro z3o co_sl z6w z66 co_sq z26 z0V co_tm z1B z0K z3z z0y z0p co_nl z1w z0M z3y z1o z3l z6N z6v z1K z3j z1Y z1O z2N z2Z sd_it z6e z3B z6z z6G z3a sd_ro z2T sd_sl z6I z6i sd_wh z21 z15 sd_fr z1x z0T sd_kd z1D z18 sd_vw z1A z0J sd_sq z22 z16 sd_tm z1r z10 z30 z38 z6f z5O u_bz u_bi1 u_bi2 u_bi3 u_bi4 u_bi5 u_bi6 u_bi7 s_B0 s_Bk s_Bs0 s_Bsk zas zge z8d z8K z92 w_0 w_Y0 w_B0 w_Bk w_Bs0 w_Bsk zfn z78 zaz zb2 z5M ltO_o ltO_r u_eqE zbl Nat.le_add_right List.append_assoc
attribute [local go_sem_proc] Nat.reduceAdd Nat.reduceSub Nat.reduceMul Nat.reduceLeDiff Nat.reduceLT Int.reduceEq Int.reduceNe Int.reduceLT Int.reduceLE Int.reduceAdd Int.reduceSub Int.reduceMul Int.reduceNeg Int.reduceToNat reduceCtorEq Nat.reduceEqDiff Nat.reduceBEq Nat.reduceGT
attribute [local go_sem_proc ↓] reduceIte
structure ChS (c : Ch) : Prop where
 pl : c.pf.length ≤ 1000000
 cl : c.cs.length ≤ 1000000
 vl : ∀ y ∈ c.cs,y.vs.length ≤ 1000000
theorem zmH (m : Nat) (c : Ch) (hm : 1000001 < m) (h : ChS c) : z3U m (cgE c) = some (bA (cgB c),[]) := by
 have h1 := h.pl
 have h2 := h.cl
 exact zqx m c (by omega) (by omega) (by omega) (by omega) fun y hy=>by have := h.vl y hy;exact ⟨by omega,by omega⟩
theorem zhv (m : Nat) (A B : List AObj) (ω : Wg) (c : Ch) (hG : GW A B) (hω : WgOk ω) (hm : 1000001 < m) (hc : ChS c) :
  z19 m (OP A.length 0) (cgE c) (sw A B ω) = some (TU [smE (csS ω.T c).1,nA (csS ω.T c).2.1],sw A B { ω with T := (csS ω.T c).2.2 }) := by
 have hch := zmH m c hm hc
 rw [cg_it] at hch
 have hlt := fun {T : List (List UInt8)} (h : WgOk { ω with T := T })=>sw_lt hG h (Nat.le_refl _)
 have hlt0 := hlt hω
 have htl := hω.tl
 rw [z9o,cg_it]
 unfold csS
 cases hB : cgB c with
 |false =>
  rw [hB] at hch
  rw [if_neg (by decide),sm_it]
  simp (config := {maxSteps := 4000000,implicitDefEqProofs := false}) (disch := omega) only [go_sem,zsmO,hch,st0_b,hlt0]
 |true =>
  rw [hB] at hch
  have hl := zfE hB
  have hen := zjx m c hB (by omega)
  rw [cg_it] at hen
  have hω2 := hω.of (s := encCg c)
  have hlt2 := hlt hω2
  have ht := wof_s m A (B ++ [⟨1,z00,0,cgC c⟩,⟨1,z01,0,smC Sm.zero⟩]) ω (encCg c) (hG.app fun n=>by simp [zfu,z92]) hω (by omega)
  rw [zio,zio] at ht
  by_cases h0 : ofE ω.T (encCg c) = 0
  ·have h1 := ofE_N.1 h0
   have h1' : ¬ (ofN ω.T (encCg c) : Int) = 0 := by omega
   rw [if_pos rfl,if_pos h0,sm_it]
   simp (config := {maxSteps := 4000000,implicitDefEqProofs := false}) (disch := omega) only [go_sem,zsmO,hch,hen,ht,h1',st6_b,hlt2]
   rfl
  ·have h1 : ofN ω.T (encCg c) = 0 := by
    refine Classical.byContradiction fun q=>h0 (ofE_N.2 q)
   have h1' : (ofN ω.T (encCg c) : Int) = 0 := by omega
   rw [if_pos rfl,if_neg h0,sm_it]
   rw [h1'] at ht
   simp (config := {maxSteps := 4000000,implicitDefEqProofs := false}) (disch := omega) only [go_sem,zsmO,hch,hen,ht,h1',st0_b,hlt2]
theorem zqJ {ω : Wg} {n st vw : Int} : ∀ (l : List Ce) (T : List (List UInt8)) (last : Int),WgOk { ω with T := T } → WgOk { ω with T := (csF ω.L n st vw T last l).2 }
 |[],T,last,h=>h
 |x :: l,T,last,h=>by
  have h2 : WgOk { ω with T := ceT T x n } := by
   unfold ceT
   split
   ·exact h.of
   ·exact h
  simp only [csF]
  split
  ·split
   ·exact zqJ l _ _ h2
   ·exact h2
  ·exact h
theorem zoL (m : Nat) (A B : List AObj) (ω : Wg) (c : Ch) (hG : GW A B) (hω : WgOk ω) (hm : 1000001 < m) (hc : ChS c) (hB : cgB c = true) :
  z4f m (nSW A B) ⟨sw A B ω ++ [⟨1,z00,0,cgC c⟩],[(0,OP A.length 0),(4,OP (nSW A B) 0)]⟩ = some (bA (decide (ofE ω.T (encCg c) = 0) && decide (csSm ω.T c ∈ ω.L)),sw A B { ω with T := oqT ω.T (encCg c) }) := by
 have hst := zhv m A (B ++ [⟨1,z00,0,cgC c⟩]) ω c (hG.app fun n=>by simp [zfu]) hω hm hc
 rw [zio,zio] at hst
 have hω2 := hω.of (s := encCg c)
 have hLl := hω.ll
 have hlt := sw_lt hG hω2 (Nat.le_refl _)
 have hX := fun H=>hω.ro H
 have hX2 := fun n=>(hω.lt n).2.1
 rw [z0j]
 unfold csS at hst
 rw [if_pos hB] at hst
 by_cases h0 : ofE ω.T (encCg c) = 0
 ·rw [if_pos h0] at hst
  have hh := zo7 m ω.n ω.rog ω.L (csSm ω.T c) (by omega) (by omega)
  unfold rrA rrC at hh
  dsimp only at hst
  rw [cg_it,sm_it] at hst
  rw [sm_it] at hh
  rw [decide_eq_true h0,Bool.true_and]
  simp (config := {maxSteps := 4000000,implicitDefEqProofs := false}) (disch := omega) only [go_sem,zsmO,hst,hh,hX,hX2,hlt]
 ·rw [if_neg h0] at hst
  dsimp only at hst
  rw [cg_it,sm_it] at hst
  rw [decide_eq_false h0,Bool.false_and]
  simp (config := {maxSteps := 4000000,implicitDefEqProofs := false}) (disch := omega) only [go_sem,zsmO,hst,hlt]
theorem znV (m : Nat) (A B : List AObj) (ω : Wg) (c : Ch) (n : Int) (hG : GW A B) (hω : WgOk ω) (hm : 1000001 < m) (hc0 : ChS c) (hB : cgB c = true) :
  z1c m (nSW A B) ⟨sw A B ω ++ [⟨1,z00,0,cgC c⟩],[(0,OP A.length 0),(2,nA n),(4,OP (nSW A B) 0)]⟩ = some (if (csF ω.L n c.st c.vw ω.T c.st c.cs).1 = true then
   (bA (decide (ofE (csF ω.L n c.st c.vw ω.T c.st c.cs).2 (encCg c) = 0) && decide (csSm (csF ω.L n c.st c.vw ω.T c.st c.cs).2 c ∈ ω.L)),sw A B { ω with T := oqT (csF ω.L n c.st c.vw ω.T c.st c.cs).2 (encCg c) })
  else (bA false,sw A B { ω with T := (csF ω.L n c.st c.vw ω.T c.st c.cs).2 })) := by
 have hc := zoy hB
 have hcl := hc.cl
 obtain ⟨s1,s2⟩ := hc.st
 have hA1 : A.length < nSW A B + 1 := by unfold nSW;omega
 have hB1 : nSW A B < nSW A B + 1 := Nat.lt_succ_self _
 rw [z0g]
 generalize hRES : some (if (csF ω.L n c.st c.vw ω.T c.st c.cs).1 = true then
   (bA (decide (ofE (csF ω.L n c.st c.vw ω.T c.st c.cs).2 (encCg c) = 0) && decide (csSm (csF ω.L n c.st c.vw ω.T c.st c.cs).2 c ∈ ω.L)),sw A B { ω with T := oqT (csF ω.L n c.st c.vw ω.T c.st c.cs).2 (encCg c) })
  else (bA false,sw A B { ω with T := (csF ω.L n c.st c.vw ω.T c.st c.cs).2 })) = RES
 refine z4a (m := m) (ι := {p : Nat × List (List UInt8) // p.1 ≤ c.cs.length ∧ WgOk { ω with T := p.2 } ∧ c.st ≤ lastQ c.st c.cs p.1 ∧ csF ω.L n c.st c.vw ω.T c.st c.cs = csF ω.L n c.st c.vw p.2 (lastQ c.st c.cs p.1) (c.cs.drop p.1)}) (fun p=>⟨sw A B { ω with T := p.1.2 } ++ [⟨1,z00,0,cgC c⟩],[(0,OP A.length 0),(2,nA n),(4,OP (nSW A B) 0),(8,nA p.1.1)]⟩) (fun p=>c.cs.length - p.1.1) (fun _=>RES) ?_ ⟨(0,ω.T),Nat.zero_le _,hω,Int.le_refl _,rfl⟩ (by dsimp only;omega)
 rintro kx hkx ⟨⟨k,T⟩,hk,hT,hla,hF⟩ kc hkc
 dsimp only at hkc hk hT hla hF ⊢
 rw [z9G]
 by_cases h : k < c.cs.length
 ·have h' : (k : Int) < (c.cs.length : Int) := by omega
  have hw1 : IntKind.i64.wrap ((k : Int) + 1) = (k : Int) + 1 := w_i64 (by omega) (by omega)
  rw [List.drop_eq_getElem_cons h] at hF
  obtain ⟨hx,x1,x2⟩ := hc.cs _ (List.getElem_mem h)
  have hls : lastQ c.st c.cs (k + 1) = c.cs[k].sq := zfM h
  generalize hxe : c.cs[k] = x at *
  have hv := zww m A (B ++ [⟨1,z00,0,cgC c⟩,⟨1,z0a,0,ceC x⟩]) { ω with T := T } x n (hG.app fun n=>by simp [zfu,zwP]) hT hm hx
  rw [zio,zio,ce_it] at hv
  dsimp only at hv
  have hT2 : WgOk { ω with T := ceT T x n } := by
   unfold ceT
   split
   ·exact hT.of
   ·exact hT
  have hlt0 := sw_lt hG hT (Nat.le_refl _)
  have hlt1 := sw_lt hG hT2 (n := nSW A B + 1) (by omega)
  have hlt2 := sw_lt hG hT2 (Nat.le_refl _)
  have hw2 : IntKind.i64.wrap (c.st + 16) = c.st + 16 := w_i64 (by omega) (by omega)
  simp only [csF] at hF
  by_cases e1 : x.sq ≤ c.st
  ·have e0 : ¬ ceSeq c.st c.vw (lastQ c.st c.cs k) x = true := by unfold ceSeq;simp;omega
   rw [if_neg e0] at hF
   rw [← hRES,hF,if_neg (by simp)]
   simp (config := {maxSteps := 4000000,implicitDefEqProofs := false}) (disch := omega) only [go_sem,h,h',hxe,e1,hlt0,hkx,z0l,z0m,z0j,z0g,z08,z07,z0h,z05,szOf]
  ·by_cases e2 : c.st + 16 < x.sq
   ·have e0 : ¬ ceSeq c.st c.vw (lastQ c.st c.cs k) x = true := by unfold ceSeq;simp;omega
    rw [if_neg e0] at hF
    rw [← hRES,hF,if_neg (by simp)]
    simp (config := {maxSteps := 4000000,implicitDefEqProofs := false}) (disch := omega) only [go_sem,h,h',hxe,e1,e2,hw2,hlt0,hkx,z0l,z0m,z0j,z0g,z08,z07,z0h,z05,szOf]
   ·by_cases hk0 : (0 : Int) < (k : Int)
    ·have hj : k - 1 < c.cs.length := by omega
     have hlj : lastQ c.st c.cs k = c.cs[k - 1].sq := by
      have := zfM (st := c.st) hj
      rw [← this];congr 1;omega
     have hw3 : IntKind.i64.wrap ((k : Int) - 1) = ((k - 1 : Nat) : Int) := (w_i64 (by omega) (by omega)).trans (by omega)
     generalize hye : c.cs[k - 1] = y at *
     by_cases e4 : x.sq ≤ y.sq
     ·have e0 : ¬ ceSeq c.st c.vw (lastQ c.st c.cs k) x = true := by unfold ceSeq;simp;omega
      rw [if_neg e0] at hF
      rw [← hRES,hF,if_neg (by simp)]
      simp (config := {maxSteps := 4000000,implicitDefEqProofs := false}) (disch := omega) only [go_sem,h,h',hxe,e1,e2,hk0,hw3,hj,hye,e4,hw2,hlt0,hkx,z0l,z0m,z0j,z0g,z08,z07,z0h,z05,szOf]
     ·by_cases e3 : c.vw ≤ x.vw
      ·have e0 : ¬ ceSeq c.st c.vw (lastQ c.st c.cs k) x = true := by unfold ceSeq;simp;omega
       rw [if_neg e0] at hF
       rw [← hRES,hF,if_neg (by simp)]
       simp (config := {maxSteps := 4000000,implicitDefEqProofs := false}) (disch := omega) only [go_sem,h,h',hxe,e1,e2,e3,hk0,hw3,hj,hye,e4,hw2,hlt0,hkx,z0l,z0m,z0j,z0g,z08,z07,z0h,z05,szOf]
      ·have e0 : ceSeq c.st c.vw (lastQ c.st c.cs k) x = true := by unfold ceSeq;simp;omega
       rw [if_pos e0] at hF
       cases hb : ceH T ω.L x n with
       |true =>
        rw [if_pos hb] at hF
        rw [hb] at hv
        have step := hkc ⟨(k + 1,ceT T x n),by dsimp only;omega,hT2,by dsimp only;rw [hls];omega,by dsimp only;rw [hls];exact hF⟩ (by dsimp only;omega)
        dsimp only at step
        simp (config := {maxSteps := 4000000,implicitDefEqProofs := false}) (disch := omega) only [go_sem,h,h',hxe,e1,e2,e3,hk0,hw3,hj,hye,e4,hw1,hw2,hv,hlt1,hA1,hB1,zfu,z0l,z0m,z0j,z0g,z08,z07,z0h,z05,szOf]
        exact step
       |false =>
        rw [if_neg (by rw [hb];decide)] at hF
        rw [hb] at hv
        rw [← hRES,hF,if_neg (by simp)]
        simp (config := {maxSteps := 4000000,implicitDefEqProofs := false}) (disch := omega) only [go_sem,h,h',hxe,e1,e2,e3,hk0,hw3,hj,hye,e4,hw1,hw2,hv,hlt2,hkx,z0l,z0m,z0j,z0g,z08,z07,z0h,z05,szOf]
    ·have hk1 : k = 0 := by omega
     have hlj : lastQ c.st c.cs k = c.st := by rw [hk1];rfl
     by_cases e3 : c.vw ≤ x.vw
     ·have e0 : ¬ ceSeq c.st c.vw (lastQ c.st c.cs k) x = true := by unfold ceSeq;simp;omega
      rw [if_neg e0] at hF
      rw [← hRES,hF,if_neg (by simp)]
      simp (config := {maxSteps := 4000000,implicitDefEqProofs := false}) (disch := omega) only [go_sem,h,h',hxe,e1,e2,e3,hk0,hw2,hlt0,hkx,z0l,z0m,z0j,z0g,z08,z07,z0h,z05,szOf]
     ·have e0 : ceSeq c.st c.vw (lastQ c.st c.cs k) x = true := by unfold ceSeq;simp;omega
      rw [if_pos e0] at hF
      cases hb : ceH T ω.L x n with
      |true =>
       rw [if_pos hb] at hF
       rw [hb] at hv
       have step := hkc ⟨(k + 1,ceT T x n),by dsimp only;omega,hT2,by dsimp only;rw [hls];omega,by dsimp only;rw [hls];exact hF⟩ (by dsimp only;omega)
       dsimp only at step
       simp (config := {maxSteps := 4000000,implicitDefEqProofs := false}) (disch := omega) only [go_sem,h,h',hxe,e1,e2,e3,hk0,hw1,hw2,hv,hlt1,hA1,hB1,zfu,z0l,z0m,z0j,z0g,z08,z07,z0h,z05,szOf]
       exact step
      |false =>
       rw [if_neg (by rw [hb];decide)] at hF
       rw [hb] at hv
       rw [← hRES,hF,if_neg (by simp)]
       simp (config := {maxSteps := 4000000,implicitDefEqProofs := false}) (disch := omega) only [go_sem,h,h',hxe,e1,e2,e3,hk0,hw1,hw2,hv,hlt2,hkx,z0l,z0m,z0j,z0g,z08,z07,z0h,z05,szOf]
 ·obtain rfl : k = c.cs.length := by omega
  have h' : ¬ (c.cs.length : Int) < (c.cs.length : Int) := Int.lt_irrefl _
  rw [List.drop_length] at hF
  simp only [csF] at hF
  have h6 := zoL m A B { ω with T := T } c hG hT hm hc0 hB
  dsimp only at h6
  rw [← hRES,hF,if_pos rfl,← h6]
  simp (config := {maxSteps := 4000000,implicitDefEqProofs := false}) (disch := omega) only [go_sem,h,h',hkx]
end Go.Proofs.Ytaaogcnjfkgnoaa

namespace Go.Proofs.Ytaaogcnjfkgnoaa
open Go.RowKit
set_option maxHeartbeats 4000000
attribute [local go_sem] Nat.zero_add Nat.add_zero Nat.mul_one Int.toNat_natCast Int.natCast_zero Int.cast_ofNat_Int or_false false_or or_true true_or Nat.sub_zero Int.natCast_nonneg Int.toNat_zero Bool.true_and Bool.and_true Bool.false_and Bool.and_false Bool.true_or Bool.or_true Bool.false_or Bool.or_false Bool.not_true Bool.not_false Bool.not_not true_and and_true false_and and_false not_true_eq_false not_false_eq_true eq_self decide_true decide_false ne_eq implies_true forall_const true_implies false_implies Bool.true_eq_false Bool.false_eq_true List.map_cons List.map_nil List.all_cons List.all_nil List.length_cons List.length_nil List.length_map List.length_append List.nil_append List.cons_append List.set_cons_zero List.set_cons_succ List.set_nil List.drop_zero List.drop_succ_cons List.drop_nil List.take_zero List.take_succ_cons List.take_nil Option.map_some Option.map_none Option.isSome_some List.all_append List.all_map Function.comp_def decide_eq_true_eq Bool.and_eq_true beq_self_eq_true or_self and_self ite_true ite_false Nat.le_refl Bool.not_eq_true decide_not Bool.not_eq_true' decide_eq_false_iff_not Bool.not_eq_false Bool.or_eq_true if_true if_false ite_self u_roF u_cvF u_cvC u_ceT u_ceK z2m sm_it z6A z37 z5m z6p z3d sm_ro z3i sm_sl z6a z69 sm_fr z1F z13 sm_kd z28 z12 sm_vw z1u z0P sm_sq z1R z0S sm_tm z1q z0L z2R z2b z3k z63 z64 z29 z3g z1p z1y z2F z39 ce_it z6J z31 z4Z z6x z3A ce_ro z3t ce_sl z6d z6g ce_sq z1X z14 ce_vw z1C z0H ce_tm z1U z0W z33 z0v z0n ce_vs z1P z0X z36 z1t z3r z6F z6H z1T z2X z1z z2c z2M z2V cg_it z67 z3s z61 z6n z2U cg_ro z3E cg_sl z6b z6u cg_fr z1J z0N cg_vw z1Q z11 cg_st z1M z0G cg_rt z1H z17 cg_pf z1Z z0E cg_cs z1N z0I z32 z1I z3b z6y z6c z1V z3v z23 z1L z35 z3p ms_it z6o z3n z6C z6h z3h ms_ro z3e ms_sl z6E z6r ms_kd z1S z0R ms_fr z1v z0O ms_vw z25 z0U ms_sq z1s z0Z ms_tm z1G z0F z3c z0u z0o ms_vs z1E z0Y z68 z0Q z0x z3C z1W z3x z65 z6K z20 z3D z24 z27 z3q z2Y co_it z6M z2W z6D z6m z3m co_ro z3o co_sl z6w z66 co_sq z26 z0V co_tm z1B z0K z3z z0y z0p co_nl z1w z0M z3y z1o z3l z6N z6v z1K z3j z1Y z1O z2N z2Z sd_it z6e z3B z6z z6G z3a sd_ro z2T sd_sl z6I z6i sd_wh z21 z15 sd_fr z1x z0T sd_kd z1D z18 sd_vw z1A z0J sd_sq z22 z16 sd_tm z1r z10 z30 z38 z6f z5O u_bz u_bi1 u_bi2 u_bi3 u_bi4 u_bi5 u_bi6 u_bi7 s_B0 s_Bk s_Bs0 s_Bsk zas zge z8d z8K z92 w_0 w_Y0 w_B0 w_Bk w_Bs0 w_Bsk zfn z78 zaz zb2 z5M ltO_o ltO_r u_eqE zbl Nat.le_add_right List.append_assoc
attribute [local go_sem_proc] Nat.reduceAdd Nat.reduceSub Nat.reduceMul Nat.reduceLeDiff Nat.reduceLT Int.reduceEq Int.reduceNe Int.reduceLT Int.reduceLE Int.reduceAdd Int.reduceSub Int.reduceMul Int.reduceNeg Int.reduceToNat reduceCtorEq Nat.reduceEqDiff Nat.reduceBEq Nat.reduceGT
attribute [local go_sem_proc ↓] reduceIte
theorem zo4 (m : Nat) (A B : List AObj) (ω : Wg) (c : Ch) (n : Int) (hG : GW A B) (hω : WgOk ω) (hm : 1000001 < m) (hc0 : ChS c) (hB : cgB c = true) (hn : okN n = true) :
  z2y m (nSW A B) ⟨sw A B ω ++ [⟨1,z00,0,cgC c⟩],[(0,OP A.length 0),(2,nA n),(4,OP (nSW A B) 0),(7,nA (fN n))]⟩ = some (if stH ω.L c n = true then (if (csF ω.L n c.st c.vw ω.T c.st c.cs).1 = true then
   (bA (decide (ofE (csF ω.L n c.st c.vw ω.T c.st c.cs).2 (encCg c) = 0) && decide (csSm (csF ω.L n c.st c.vw ω.T c.st c.cs).2 c ∈ ω.L)),sw A B { ω with T := oqT (csF ω.L n c.st c.vw ω.T c.st c.cs).2 (encCg c) })
  else (bA false,sw A B { ω with T := (csF ω.L n c.st c.vw ω.T c.st c.cs).2 })) else (bA false,sw A B ω)) := by
 have hc := zoy hB
 obtain ⟨n1,n2⟩ := zix hn
 have hpl := hc.pl
 have hL := hω.ll
 have h5 := znV m A B ω c n hG hω hm hc0 hB
 have hlt := sw_lt hG hω (Nat.le_refl _)
 have hd := zzB m c.st
 have hst : ∀ {K : AV → RO},z49 (some z1m) (some zc_api_Stmt) [(1,nA 5),(3,nA c.st),(4,nA c.rt)] K = K (.agg (smC (wSt c))) := st5_b
 have hmn := zrM m A (B ++ [⟨1,z00,0,cgC c⟩]) ω c.pf (wSt c) n (-1) (hG.app fun n=>by simp [zfu]) hω (by omega) (by omega) (by omega) (by omega) (by omega) (by omega)
 rw [zio,sm_it] at hmn
 have hf := fN_le n
 have hw2 : IntKind.i64.wrap (2 * (fN n : Int)) = 2 * (fN n : Int) := w_i64 (by omega) (by omega)
 have hw3 : IntKind.i64.wrap (2 * (fN n : Int) + 1) = 2 * (fN n : Int) + 1 := w_i64 (by omega) (by omega)
 rw [z0h]
 unfold stH
 by_cases c1 : c.st = 0
 ·rw [if_pos c1]
  by_cases c2 : c.rt = 0
  ·by_cases c3 : c.pf.length = 0
   ·have c3' : (c.pf.length : Int) = 0 := by omega
    rw [decide_eq_true c2,decide_eq_true c3,if_pos (by simp),← h5]
    simp (config := {maxSteps := 4000000,implicitDefEqProofs := false}) (disch := omega) only [go_sem,c1,c2,c3',z07]
   ·have c3' : ¬ (c.pf.length : Int) = 0 := by omega
    rw [decide_eq_true c2,decide_eq_false c3,if_neg (by simp)]
    simp (config := {maxSteps := 4000000,implicitDefEqProofs := false}) (disch := omega) only [go_sem,c1,c2,c3',hlt,z07]
  ·rw [decide_eq_false c2,Bool.false_and,if_neg (by simp)]
   simp (config := {maxSteps := 4000000,implicitDefEqProofs := false}) (disch := omega) only [go_sem,c1,c2,hlt,z07]
 ·rw [if_neg c1]
  cases hdu : dueB c.st with
  |false =>
   rw [hdu] at hd
   rw [Bool.false_and,if_neg (by simp)]
   simp (config := {maxSteps := 4000000,implicitDefEqProofs := false}) (disch := omega) only [go_sem,c1,hd,hlt,z08]
  |true =>
   rw [hdu] at hd
   rw [Bool.true_and]
   by_cases c4 : 2 * fN n + 1 ≤ manyN (wSt c) c.pf ω.L (-1) n.toNat
   ·have c4' : ¬ (manyN (wSt c) c.pf ω.L (-1) n.toNat : Int) < 2 * (fN n : Int) + 1 := by omega
    rw [decide_eq_true c4,if_pos rfl,← h5]
    simp (config := {maxSteps := 4000000,implicitDefEqProofs := false}) (disch := omega) only [go_sem,c1,hd,hst,hmn,hw2,hw3,c4',z08]
   ·have c4' : (manyN (wSt c) c.pf ω.L (-1) n.toNat : Int) < 2 * (fN n : Int) + 1 := by omega
    rw [decide_eq_false c4,if_neg (by simp)]
    simp (config := {maxSteps := 4000000,implicitDefEqProofs := false}) (disch := omega) only [go_sem,c1,hd,hst,hmn,hw2,hw3,c4',hlt,z08]
theorem rchangeW_s (m : Nat) (A B : List AObj) (ω : Wg) (c : Ch) (n : Int) (hG : GW A B) (hω : WgOk ω) (hm : 1000001 < m) (hc0 : ChS c) :
    z2o                      m (OP A.length 0) (cgE c) (nA n) (sw A B ω) = some (bA (chF ω.T ω.L c n).1, sw A B { ω with T := (chF ω.T ω.L c n).2 }) := by
  have hch := zmH       m c hm hc0
  rw [cg_it] at hch
  have hf := zmP       m n (by omega)
  have hlt := sw_lt hG hω (Nat.le_refl _)
  rw [zaF                        , cg_it]
  unfold chF
  cases hn : okN n with
  | false =>
    have h0 : fN n = 0 := by unfold fN; rw [hn]; rfl
    rw [h0] at hf
    rw [if_neg (by simp)]
    simp (config := {maxSteps := 4000000, implicitDefEqProofs := false}) (disch := omega) only [go_sem, hf, hlt, z05                           ]
  | true =>
    have h0 : ¬ (fN n : Int) = 0 := by have := fN_ok hn; have := zix     hn; omega
    cases hB : cgB c with
    | false =>
      rw [hB] at hch
      rw [if_neg (by simp)]
      simp (config := {maxSteps := 4000000, implicitDefEqProofs := false}) (disch := omega) only [go_sem, hf, h0, hch, hlt, z05                           ]
    | true =>
      rw [hB] at hch
      by_cases c1 : c.fr < n
      · have c1' : ¬ n ≤ c.fr := by omega
        by_cases c2 : 1 ≤ c.vw
        · have c2' : ¬ c.vw < 1 := by omega
          have h2 := zo4        m A B ω c n hG hω hm hc0 hB hn
          rw [decide_eq_true c1, decide_eq_true c2]
          simp only [Bool.true_and]
          have hR : (if stH ω.L c n = true then (if (csF ω.L n c.st c.vw ω.T c.st c.cs).1 = true then
      (bA (decide (ofE (csF ω.L n c.st c.vw ω.T c.st c.cs).2 (encCg c) = 0) && decide (csSm (csF ω.L n c.st c.vw ω.T c.st c.cs).2 c ∈ ω.L)), sw A B { ω with T := oqT (csF ω.L n c.st c.vw ω.T c.st c.cs).2 (encCg c) })
    else (bA false, sw A B { ω with T := (csF ω.L n c.st c.vw ω.T c.st c.cs).2 })) else (bA false, sw A B ω)) = (bA (if stH ω.L c n = true then if (csF ω.L n c.st c.vw ω.T c.st c.cs).1 = true then (decide (ofE (csF ω.L n c.st c.vw ω.T c.st c.cs).2 (encCg c) = 0) && decide (csSm (csF ω.L n c.st c.vw ω.T c.st c.cs).2 c ∈ ω.L), oqT (csF ω.L n c.st c.vw ω.T c.st c.cs).2 (encCg c)) else (false, (csF ω.L n c.st c.vw ω.T c.st c.cs).2) else (false, ω.T)).1, sw A B { ω with T := (if stH ω.L c n = true then if (csF ω.L n c.st c.vw ω.T c.st c.cs).1 = true then (decide (ofE (csF ω.L n c.st c.vw ω.T c.st c.cs).2 (encCg c) = 0) && decide (csSm (csF ω.L n c.st c.vw ω.T c.st c.cs).2 c ∈ ω.L), oqT (csF ω.L n c.st c.vw ω.T c.st c.cs).2 (encCg c)) else (false, (csF ω.L n c.st c.vw ω.T c.st c.cs).2) else (false, ω.T)).2 }) := by
            split
            · split <;> rfl
            · rfl
          rw [← hR, ← h2]
          simp (config := {maxSteps := 4000000, implicitDefEqProofs := false}) (disch := omega) only [go_sem, hf, h0, hch, c1', c2', z05                           ]
        · have c2' : c.vw < 1 := by omega
          rw [decide_eq_true c1, decide_eq_false c2, if_neg (by simp)]
          simp (config := {maxSteps := 4000000, implicitDefEqProofs := false}) (disch := omega) only [go_sem, hf, h0, hch, c1', c2', hlt, z05                           ]
      · have c1' : n ≤ c.fr := by omega
        rw [decide_eq_false c1, if_neg (by simp)]
        simp (config := {maxSteps := 4000000, implicitDefEqProofs := false}) (disch := omega) only [go_sem, hf, h0, hch, c1', hlt, z05                           ]
end Go.Proofs.Ytaaogcnjfkgnoaa

namespace Go.Proofs.Ytaaogcnjfkgnoaa
open Go.RowKit
set_option maxHeartbeats 4000000
attribute [local go_sem] Nat.zero_add Nat.add_zero Nat.mul_one Int.toNat_natCast Int.natCast_zero Int.cast_ofNat_Int or_false false_or or_true true_or Nat.sub_zero Int.natCast_nonneg Int.toNat_zero Bool.true_and Bool.and_true Bool.false_and Bool.and_false Bool.true_or Bool.or_true Bool.false_or Bool.or_false Bool.not_true Bool.not_false Bool.not_not true_and and_true false_and and_false not_true_eq_false not_false_eq_true eq_self decide_true decide_false ne_eq implies_true forall_const true_implies false_implies Bool.true_eq_false Bool.false_eq_true List.map_cons List.map_nil List.all_cons List.all_nil List.length_cons List.length_nil List.length_map List.length_append List.nil_append List.cons_append List.set_cons_zero List.set_cons_succ List.set_nil List.drop_zero List.drop_succ_cons List.drop_nil List.take_zero List.take_succ_cons List.take_nil Option.map_some Option.map_none Option.isSome_some List.all_append List.all_map Function.comp_def decide_eq_true_eq Bool.and_eq_true beq_self_eq_true or_self and_self ite_true ite_false Nat.le_refl Bool.not_eq_true decide_not Bool.not_eq_true' decide_eq_false_iff_not Bool.not_eq_false Bool.or_eq_true if_true if_false ite_self u_roF u_cvF u_cvC u_ceT u_ceK z2m sm_it z6A z37 z5m z6p z3d sm_ro z3i sm_sl z6a z69 sm_fr z1F z13 sm_kd z28 z12 sm_vw z1u z0P sm_sq z1R z0S sm_tm z1q z0L z2R z2b z3k z63 z64 z29 z3g z1p z1y z2F z39 ce_it z6J z31 z4Z z6x z3A ce_ro z3t ce_sl z6d z6g ce_sq z1X z14 ce_vw z1C z0H ce_tm z1U z0W z33 z0v z0n ce_vs z1P z0X z36 z1t z3r z6F z6H z1T z2X z1z z2c z2M z2V cg_it z67 z3s z61 z6n z2U cg_ro z3E cg_sl z6b z6u cg_fr z1J z0N cg_vw z1Q z11 cg_st z1M z0G cg_rt z1H z17 cg_pf z1Z z0E cg_cs z1N z0I z32 z1I z3b z6y z6c z1V z3v z23 z1L z35 z3p ms_it z6o z3n z6C z6h z3h ms_ro z3e ms_sl z6E z6r ms_kd z1S z0R ms_fr z1v z0O ms_vw z25 z0U ms_sq z1s z0Z ms_tm z1G z0F z3c z0u z0o ms_vs z1E z0Y z68 z0Q z0x z3C z1W z3x z65 z6K z20 z3D z24 z27 z3q z2Y co_it z6M z2W z6D z6m z3m co_ro z3o co_sl z6w z66 co_sq z26 z0V co_tm z1B z0K z3z z0y z0p co_nl z1w z0M z3y z1o z3l z6N z6v z1K z3j z1Y z1O z2N z2Z sd_it z6e z3B z6z z6G z3a sd_ro z2T sd_sl z6I z6i sd_wh z21 z15 sd_fr z1x z0T sd_kd z1D z18 sd_vw z1A z0J sd_sq z22 z16 sd_tm z1r z10 z30 z38 z6f z5O u_bz u_bi1 u_bi2 u_bi3 u_bi4 u_bi5 u_bi6 u_bi7 s_B0 s_Bk s_Bs0 s_Bsk zas zge z8d z8K z92 w_0 w_Y0 w_B0 w_Bk w_Bs0 w_Bsk zfn z78 zaz zb2 z5M ltO_o ltO_r u_eqE zbl Nat.le_add_right List.append_assoc
attribute [local go_sem_proc] Nat.reduceAdd Nat.reduceSub Nat.reduceMul Nat.reduceLeDiff Nat.reduceLT Int.reduceEq Int.reduceNe Int.reduceLT Int.reduceLE Int.reduceAdd Int.reduceSub Int.reduceMul Int.reduceNeg Int.reduceToNat reduceCtorEq Nat.reduceEqDiff Nat.reduceBEq Nat.reduceGT
attribute [local go_sem_proc ↓] reduceIte
theorem u_pe0 {R : Type} {i j : Nat} {K : AV → Option R} : ptrE .eql (OP i j) (V (.pointer none)) K = K (V (.bool false)) := _root_.id rfl
def hS (A : List AObj) (σ : Sg) (ω : Wg) : List AObj := A ++ (tmO σ.T :: ttO A.length σ.T :: trO σ.T :: rmO σ.R :: rgO (A.length + 3) σ.n σ.bd σ.R :: rrO σ.R :: woO (A.length + 6) ω :: trO ω.T :: [])
theorem hS_sc {A : List AObj} {σ : Sg} {ω : Wg} : hS A σ ω = sc A [woO (A.length + 6) ω,trO ω.T] σ := rfl
def sixO (A : List AObj) (σ : Sg) : List AObj := A ++ [tmO σ.T,ttO A.length σ.T,trO σ.T,rmO σ.R,rgO (A.length + 3) σ.n σ.bd σ.R,rrO σ.R]
theorem zja {A : List AObj} {σ : Sg} : (sixO A σ).length = A.length + 6 := by simp [sixO]
theorem hS_sw {A : List AObj} {σ : Sg} {ω : Wg} : hS A σ ω = sw (sixO A σ) [] ω := by
 unfold hS sw swM
 rw [zja]
 unfold sixO
 simp only [List.append_assoc,List.cons_append,List.nil_append]
theorem zoS {A : List AObj} {σ : Sg} {ω : Wg} : (hS A σ ω).length = A.length + 8 := by unfold hS;simp
def GA (A : List AObj) : Prop := ∀ n,A.length ≤ n → A.all (ltO n) = true
theorem GA.gb {A : List AObj} (h : GA A) {ω : Wg} (hω : WgOk ω) : GB A [woO (A.length + 6) ω,trO ω.T] := fun n hn=>by
 have h2 : A.length + 8 ≤ n := by unfold nAB at hn;simp at hn;omega
 refine ⟨h n (by omega),?_⟩
 simp only [List.all_cons,List.all_nil,zqu hω (show A.length + 6 + 1 < n by omega),znu,Bool.and_true]
theorem GA.gw {A : List AObj} (h : GA A) (σ : Sg) : GW (sixO A σ) [] := fun n hn=>by
 have h2 : A.length + 8 ≤ n := by unfold nSW at hn;rw [zja] at hn;simp at hn;omega
 refine ⟨?_,rfl⟩
 unfold sixO
 rw [List.all_append,h n (by omega)]
 simp only [List.all_cons,List.all_nil,zte,zth (show A.length + 2 < n by omega),znu,zv3,zvK (show A.length + 3 + 2 < n by omega),zwR,Bool.and_self]
theorem hS_lt {A : List AObj} {σ : Sg} {ω : Wg} (h : GA A) (hω : WgOk ω) {n : Nat} (hn : A.length + 8 ≤ n) : (hS A σ ω).all (ltO n) = true := by
 rw [hS_sc]
 exact sc_lt (h.gb hω) (by unfold nAB;simp;omega)
structure Scn (σ : Sg) (ω : Wg) : Prop where
 so : SgOk σ
 wo : WgOk ω
 t : σ.T = ω.T
 l : σ.R = ω.L
 n : σ.n = 7
 n' : ω.n = 7
 bd : σ.bd = bdL ω.rog
 rg : ∀ p ∈ ω.rog,inN 7 p = true
theorem zu0 {j : Nat} (hj : j < 64) : ∀ (l : List Int),(∀ p ∈ l,0 ≤ p ∧ p < 64) → ∀ (b : List Bool),b.length = 64 → (l.foldl (fun b p=>b.set p.toNat true) b).getD j false = (b.getD j false || decide ((j : Int) ∈ l))
 |[],_,b,hb=>by simp
 |p :: l,hl,b,hb=>by
  show (l.foldl _ (b.set p.toNat true)).getD j false = _
  rw [zu0 hj l (fun q hq=>hl q (List.mem_cons_of_mem _ hq)) _ (by simp [hb])]
  obtain ⟨p0,p1⟩ := hl p (List.mem_cons_self ..)
  by_cases h : p = (j : Int)
  ·subst h
   simp [List.getD_eq_getElem?_getD,hb,hj]
  ·have h1 : p.toNat ≠ j := by omega
   have h2 : ¬ (j : Int) = p := fun e=>h e.symm
   simp [List.getD_eq_getElem?_getD,List.getElem?_set_ne h1,h2]
theorem Scn.bad {σ : Sg} {ω : Wg} (h : Scn σ ω) (p : Int) : badB σ.n σ.bd p = (inN 7 p && decide (p ∈ ω.rog)) := by
 unfold badB
 rw [h.n,h.bd]
 show (inN 7 p && _) = _
 cases hp : inN 7 p with
 |false=>rfl
 |true =>
  unfold inN at hp
  rw [Bool.and_eq_true,decide_eq_true_eq,decide_eq_true_eq] at hp
  obtain ⟨j,rfl⟩ : ∃ j : Nat,p = j := ⟨p.toNat,by omega⟩
  have := zu0 (j := j) (by omega) ω.rog (fun q hq=>by
   have := h.rg q hq
   unfold inN at this
   rw [Bool.and_eq_true,decide_eq_true_eq,decide_eq_true_eq] at this
   omega) (List.replicate 64 false) (by simp)
  rw [show (List.replicate 64 false).getD j false = false by rw [List.getD_eq_getElem?_getD,List.getElem?_replicate,if_pos (by omega)];rfl,Bool.false_or] at this
  rw [Int.toNat_natCast]
  unfold bdL
  rw [this]
theorem Scn.ok {σ : Sg} {ω : Wg} (h : Scn σ ω) (p : Int) (s : Sm) : okS σ.n σ.bd p s = rokS ω.n ω.rog p s := by
 unfold okS rokS
 rw [h.bad,h.bad,h.n,h.n']
 have e : ∀ p,(inN 7 p && decide (p ∈ ω.rog)) = decide (p ∈ ω.rog) := fun p=>by
  cases hp : decide (p ∈ ω.rog) with
  |false=>simp
  |true =>
   rw [h.rg p (by simpa using hp)];rfl
 rw [e,e]
theorem Scn.say {σ : Sg} {ω : Wg} (h : Scn σ ω) (p : Int) (s : Sm) : sayR σ p s = rsayL ω.n ω.rog ω.L p s := by
 unfold sayR rsayL
 rw [h.ok,h.l]
theorem Scn.okf {σ : Sg} {ω : Wg} (h : Scn σ ω) {p : Int} {s : Sm} (hs : okS σ.n σ.bd p s = true) : 0 ≤ s.fr ∧ s.fr < σ.n := by
 unfold okS at hs
 simp only [Bool.and_eq_true,Bool.or_eq_true,decide_eq_true_eq] at hs
 obtain ⟨⟨h1,h2⟩,h3|⟨_,h3⟩⟩ := hs
 ·rw [h3];exact ⟨h1,h2⟩
 ·rw [h.bad,Bool.and_eq_true] at h3
  have := h3.1
  unfold inN at this
  rw [Bool.and_eq_true,decide_eq_true_eq,decide_eq_true_eq] at this
  rw [h.n]
  exact this
theorem Scn.said {σ : Sg} {ω : Wg} (h : Scn σ ω) (p : Int) (s : Sm) (hs : SmI s) : Scn { σ with R := sayR σ p s } { ω with L := rsayL ω.n ω.rog ω.L p s,X := SL ((rsayL ω.n ω.rog ω.L p s).map smE) } := by
 have hsay := h.say p s
 have hll := h.wo.ll
 have hso : SgOk { σ with R := sayR σ p s } := by
  have ho := h.so
  have hrl := ho.rl
  unfold sayR
  split
  ·rename_i hc
   refine ⟨ho.tn,ho.tl,ho.ts,ho.n1,ho.n2,ho.bl,?_,?_,?_,?_⟩
   ·exact List.nodup_append.2 ⟨ho.rn,by simp,fun a ha b hb=>by simp at hb;subst hb;exact fun e=>hc.2.1 (e ▸ ha)⟩
   ·simp;omega
   ·intro x hx
    rcases List.mem_append.1 hx with q|q
    ·exact ho.ri x q
    ·simp at q;subst q;exact hs
   ·intro x hx
    rcases List.mem_append.1 hx with q|q
    ·exact ho.rf x q
    ·simp at q;subst q;exact h.okf hc.1
  ·exact ho
 refine ⟨hso,⟨h.wo.tl,?_,h.wo.rl, .inl rfl⟩,h.t,hsay,h.n,h.n',h.bd,h.rg⟩
 show (rsayL ω.n ω.rog ω.L p s).length ≤ 65536
 rw [← hsay]
 exact hso.rl
theorem Scn.of {σ : Sg} {ω : Wg} (h : Scn σ ω) {s : List UInt8} (hs : s.length ≤ 9223372036854775807) : Scn { σ with T := oqT σ.T s } { ω with T := oqT ω.T s } :=
 ⟨h.so.of hs,h.wo.of,by show oqT σ.T s = oqT ω.T s;rw [h.t],h.l,h.n,h.n',h.bd,h.rg⟩
end Go.Proofs.Ytaaogcnjfkgnoaa

namespace Go.Proofs.Ytaaogcnjfkgnoaa
open Go.RowKit
set_option maxHeartbeats 4000000
attribute [local go_sem] Nat.zero_add Nat.add_zero Nat.mul_one Int.toNat_natCast Int.natCast_zero Int.cast_ofNat_Int or_false false_or or_true true_or Nat.sub_zero Int.natCast_nonneg Int.toNat_zero Bool.true_and Bool.and_true Bool.false_and Bool.and_false Bool.true_or Bool.or_true Bool.false_or Bool.or_false Bool.not_true Bool.not_false Bool.not_not true_and and_true false_and and_false not_true_eq_false not_false_eq_true eq_self decide_true decide_false ne_eq implies_true forall_const true_implies false_implies Bool.true_eq_false Bool.false_eq_true List.map_cons List.map_nil List.all_cons List.all_nil List.length_cons List.length_nil List.length_map List.length_append List.nil_append List.cons_append List.set_cons_zero List.set_cons_succ List.set_nil List.drop_zero List.drop_succ_cons List.drop_nil List.take_zero List.take_succ_cons List.take_nil Option.map_some Option.map_none Option.isSome_some List.all_append List.all_map Function.comp_def decide_eq_true_eq Bool.and_eq_true beq_self_eq_true or_self and_self ite_true ite_false Nat.le_refl Bool.not_eq_true decide_not Bool.not_eq_true' decide_eq_false_iff_not Bool.not_eq_false Bool.or_eq_true if_true if_false ite_self u_roF u_cvF u_cvC u_ceT u_ceK z2m sm_it z6A z37 z5m z6p z3d sm_ro z3i sm_sl z6a z69 sm_fr z1F z13 sm_kd z28 z12 sm_vw z1u z0P sm_sq z1R z0S sm_tm z1q z0L z2R z2b z3k z63 z64 z29 z3g z1p z1y z2F z39 ce_it z6J z31 z4Z z6x z3A ce_ro z3t ce_sl z6d z6g ce_sq z1X z14 ce_vw z1C z0H ce_tm z1U z0W z33 z0v z0n ce_vs z1P z0X z36 z1t z3r z6F z6H z1T z2X z1z z2c z2M z2V cg_it z67 z3s z61 z6n z2U cg_ro z3E cg_sl z6b z6u cg_fr z1J z0N cg_vw z1Q z11 cg_st z1M z0G cg_rt z1H z17 cg_pf z1Z z0E cg_cs z1N z0I z32 z1I z3b z6y z6c z1V z3v z23 z1L z35 z3p ms_it z6o z3n z6C z6h z3h ms_ro z3e ms_sl z6E z6r ms_kd z1S z0R ms_fr z1v z0O ms_vw z25 z0U ms_sq z1s z0Z ms_tm z1G z0F z3c z0u z0o ms_vs z1E z0Y z68 z0Q z0x z3C z1W z3x z65 z6K z20 z3D z24 z27 z3q z2Y co_it z6M z2W z6D z6m z3m co_ro z3o co_sl z6w z66 co_sq z26 z0V co_tm z1B z0K z3z z0y z0p co_nl z1w z0M z3y z1o z3l z6N z6v z1K z3j z1Y z1O z2N z2Z sd_it z6e z3B z6z z6G z3a sd_ro z2T sd_sl z6I z6i sd_wh z21 z15 sd_fr z1x z0T sd_kd z1D z18 sd_vw z1A z0J sd_sq z22 z16 sd_tm z1r z10 z30 z38 z6f z5O u_bz u_bi1 u_bi2 u_bi3 u_bi4 u_bi5 u_bi6 u_bi7 s_B0 s_Bk s_Bs0 s_Bsk zas zge z8d z8K z92 w_0 w_Y0 w_B0 w_Bk w_Bs0 w_Bsk zfn z78 zaz zb2 z5M ltO_o ltO_r u_eqE zbl Nat.le_add_right List.append_assoc
attribute [local go_sem_proc] Nat.reduceAdd Nat.reduceSub Nat.reduceMul Nat.reduceLeDiff Nat.reduceLT Int.reduceEq Int.reduceNe Int.reduceLT Int.reduceLE Int.reduceAdd Int.reduceSub Int.reduceMul Int.reduceNeg Int.reduceToNat reduceCtorEq Nat.reduceEqDiff Nat.reduceBEq Nat.reduceGT
attribute [local go_sem_proc ↓] reduceIte
def scC (tx : List (List UInt8)) (bad : List Int) (sd : List Sd) : List AV := [SL (tx.map sA),SL (bad.map nA),SL (sd.map sdE)]
def scX (tx : List (List UInt8)) (bad : List Int) (sd : List Sd) : AObj := ⟨1,z2h,0,scC tx bad sd⟩
def sdS (x : Sd) : Sm := ⟨x.fr,x.kd,x.vw,x.sq,x.tm⟩
def hM (A : List AObj) (σ : Sg) (o6 o7 : AObj) : List AObj := A ++ (tmO σ.T :: ttO A.length σ.T :: trO σ.T :: rmO σ.R :: rgO (A.length + 3) σ.n σ.bd σ.R :: rrO σ.R :: o6 :: o7 :: [])
section
variable {R : Type} {A H0 : List AObj} {X : AObj} {σ : Sg} {ω : Wg} {o6 o7 o : AObj} {K : AObj → Option R} {K1 : List AV → Option R} {tx : List (List UInt8)} {bad : List Int} {sd : List Sd}
theorem hS_hM : hS A σ ω = hM A σ (woO (A.length + 6) ω) (trO ω.T) := _root_.id rfl
theorem hM_6 : nthOE (hM A σ o6 o7) (A.length + 6) K = K o6 := (nthOA A (k := 6))
theorem hM_s6 : (hM A σ o6 o7).set (A.length + 6) o = hM A σ o o7 := (setA A (k := 6))
theorem hM_0 : nthOE (hM (H0 ++ [X]) σ o6 o7) H0.length K = K X := by
 unfold hM
 rw [List.append_assoc]
 exact (nthOA H0 (k := 0))
theorem z55 : zh8 (scX tx bad sd) K1 = K1 (scC tx bad sd) := by unfold scX;exact u_cl1
theorem sc_f0 {K : AV → Option R} : nthE (scC tx bad sd) 0 K = K (SL (tx.map sA)) := _root_.id rfl
theorem sc_f1 {K : AV → Option R} : nthE (scC tx bad sd) 1 K = K (SL (bad.map nA)) := _root_.id rfl
theorem sc_f2 {K : AV → Option R} : nthE (scC tx bad sd) 2 K = K (SL (sd.map sdE)) := _root_.id rfl
theorem zuk {n : Nat} : ltO n (scX tx bad sd) = true := _root_.id rfl
theorem zy6 {x : Sd} : ((sdC x).drop 1).take 5 = smC (sdS x) := _root_.id rfl
theorem zyZ {a n : Nat} {K : AObj → Option R} : putE (woO a ω) 1 0 (OW (a + 1) n) K = K ⟨1,z0q,0,[OW (a + 1) n,nA ω.n,SL (ω.rog.map nA),ω.X]⟩ := by
 unfold woO
 rw [u_pt1]
 rfl
theorem zvE {a : Nat} {L : List Sm} {K : AObj → Option R} : putE (woO a ω) 5 1 (.agg [nA ω.n,SL (ω.rog.map nA),SL (L.map smE)]) K = K (woO a { ω with L := L,X := SL (L.map smE) }) := by
 unfold woO
 rw [u_pt1]
 rfl
end
theorem zxM (m : Nat) (A : List AObj) (σ : Sg) (ω : Wg) (x : List UInt8) (t1 : AV) (k : Nat) (n0 : Nat) (kc : ASt → RO) (kx : KO (AV × List AObj)) (hA : GA A) (h : Scn σ ω) (hx : x.length ≤ 9223372036854775807) (hm : 1000001 < m) :
  z5y m n0 kc kx ⟨hS A σ ω,[(1,t1),(6,OP (A.length + 1) 0),(7,OP (A.length + 4) 0),(9,OP (A.length + 6) 0),(10,nA k),(11,sA x)]⟩ = z5B m n0 kc kx ⟨hS A { σ with T := oqT σ.T x } { ω with T := oqT ω.T x },[(1,t1),(6,OP (A.length + 1) 0),(7,OP (A.length + 4) 0),(9,OP (A.length + 6) 0),(10,nA k)]⟩ := by
 have ht := tof_s m A _ σ x (hA.gb h.wo) h.so hx
 rw [← hS_sc,← hS_sc] at ht
 have htl := h.wo.tl
 have hr := zwO m (sixO A { σ with T := oqT σ.T x } ++ [woO (A.length + 6) ω]) [] ω.T x (fun n hn=>by
  refine ⟨?_,rfl⟩
  rw [List.length_append,zja] at hn
  have h2 := hA.gw { σ with T := oqT σ.T x } (n := n) (by unfold nSW;rw [zja];simp at hn ⊢;omega)
  rw [List.all_append,h2.1]
  simp at hn
  simp only [List.all_cons,List.all_nil,zqu h.wo (show A.length + 6 + 1 < n by omega),Bool.and_true]) (by omega) htl
 have e1 : ∀ T,sixO A { σ with T := oqT σ.T x } ++ [woO (A.length + 6) ω] ++ trO T :: [] = hM A { σ with T := oqT σ.T x } (woO (A.length + 6) ω) (trO T) := fun T=>by
  unfold sixO hM
  simp only [List.append_assoc,List.cons_append,List.nil_append]
 have e2 : (sixO A { σ with T := oqT σ.T x } ++ [woO (A.length + 6) ω]).length = A.length + 7 := by rw [List.length_append,zja];rfl
 rw [e1,e1,e2] at hr
 have e3 : A.length + 6 + 1 = A.length + 7 := rfl
 have hwo : (⟨1,z0q,0,[OW (A.length + 7) (oqT ω.T x).length,nA ω.n,SL (ω.rog.map nA),ω.X]⟩ : AObj) = woO (A.length + 6) { ω with T := oqT ω.T x } := rfl
 have hp := fun {n : Nat} {K : AObj → RO}=>(show putE (woO (A.length + 6) ω) 1 0 (OW (A.length + 7) n) K = K ⟨1,z0q,0,[OW (A.length + 7) n,nA ω.n,SL (ω.rog.map nA),ω.X]⟩ from zyZ)
 rw [zdE]
 rw [hS_hM] at ht
 rw [hS_hM,hS_hM]
 rw [hS_hM] at ht
 simp (config := {maxSteps := 4000000,implicitDefEqProofs := false}) (disch := omega) only [go_sem,ht,hM_6,e3,hr,hp,hM_s6,hwo]
theorem zy9 (m : Nat) (H0 : List AObj) (σ : Sg) (ω : Wg) (tx : List (List UInt8)) (bad : List Int) (sd : List Sd) (k : Nat) (hk : k < sd.length) (n0 : Nat) (kc : ASt → RO) (kx : KO (AV × List AObj)) (hA : GA (H0 ++ [scX tx bad sd])) (h : Scn σ ω) (hs : SmI (sdS sd[k])) (hm : 1000001 < m) (hsd : sd.length ≤ 9223372036854775807) :
  z5v m n0 kc kx ⟨hS (H0 ++ [scX tx bad sd]) σ ω,[(1,OP H0.length 0),(6,OP (H0.length + 2) 0),(7,OP (H0.length + 5) 0),(9,OP (H0.length + 7) 0),(12,nA k)]⟩ = backE n0 (hS (H0 ++ [scX tx bad sd]) { σ with R := sayR σ sd[k].wh (sdS sd[k]) } { ω with L := rsayL ω.n ω.rog ω.L sd[k].wh (sdS sd[k]),X := SL ((rsayL ω.n ω.rog ω.L sd[k].wh (sdS sd[k])).map smE) }) [(1,OP H0.length 0),(6,OP (H0.length + 2) 0),(7,OP (H0.length + 5) 0),(9,OP (H0.length + 7) 0),(12,nA (IntKind.i64.wrap ((k : Int) + 1)))] kc := by
 have hh := h.said sd[k].wh (sdS sd[k]) hs
 have hy := zu8 m (H0 ++ [scX tx bad sd]) _ σ sd[k].wh (sdS sd[k]) (hA.gb h.wo) h.so hs
 rw [← hS_sc,← hS_sc] at hy
 have hll := h.wo.ll
 have hrl := h.wo.rl
 obtain ⟨e,hr⟩ := zyq m ω.n ω.rog ω.L sd[k].wh (sdS sd[k]) (by omega) hll (by omega) hrl
 unfold rrA rrC at hr
 have hX := fun H=>h.wo.ro H
 have hX2 := fun n=>(h.wo.lt n).2.1
 have hl : (H0 ++ [scX tx bad sd]).length = H0.length + 1 := by simp
 have h6 := fun {σ : Sg} {o6 o7 : AObj} {K : AObj → RO}=>hM_6 (A := H0 ++ [scX tx bad sd]) (σ := σ) (o6 := o6) (o7 := o7) (K := K)
 have hs6 := fun {σ : Sg} {o6 o7 o : AObj}=>hM_s6 (A := H0 ++ [scX tx bad sd]) (σ := σ) (o6 := o6) (o7 := o7) (o := o)
 rw [hl] at hy
 simp only [hl] at h6 hs6
 rw [sm_it] at hy hr
 rw [zeg]
 rw [hS_hM] at hy
 rw [hS_hM,hS_hM]
 rw [hS_hM] at hy
 rw [hl] at hy ⊢
 have e3 : H0.length + 1 + 6 = H0.length + 7 := rfl
 have e4 : H0.length + 1 + 4 = H0.length + 5 := rfl
 simp only [e3,e4] at hy h6 hs6 ⊢
 have hk' : (k : Int) < (sd.length : Int) := by omega
 simp (config := {maxSteps := 4000000,implicitDefEqProofs := false}) (disch := omega) only [go_sem,hk,hM_0,z55,sc_f2,zy6,hy,h6,hs6,hX,hX2,hr,zvE,szOf]
end Go.Proofs.Ytaaogcnjfkgnoaa

namespace Go.Proofs.Ytaaogcnjfkgnoaa
open Go.RowKit
set_option maxHeartbeats 4000000
attribute [local go_sem] Nat.zero_add Nat.add_zero Nat.mul_one Int.toNat_natCast Int.natCast_zero Int.cast_ofNat_Int or_false false_or or_true true_or Nat.sub_zero Int.natCast_nonneg Int.toNat_zero Bool.true_and Bool.and_true Bool.false_and Bool.and_false Bool.true_or Bool.or_true Bool.false_or Bool.or_false Bool.not_true Bool.not_false Bool.not_not true_and and_true false_and and_false not_true_eq_false not_false_eq_true eq_self decide_true decide_false ne_eq implies_true forall_const true_implies false_implies Bool.true_eq_false Bool.false_eq_true List.map_cons List.map_nil List.all_cons List.all_nil List.length_cons List.length_nil List.length_map List.length_append List.nil_append List.cons_append List.set_cons_zero List.set_cons_succ List.set_nil List.drop_zero List.drop_succ_cons List.drop_nil List.take_zero List.take_succ_cons List.take_nil Option.map_some Option.map_none Option.isSome_some List.all_append List.all_map Function.comp_def decide_eq_true_eq Bool.and_eq_true beq_self_eq_true or_self and_self ite_true ite_false Nat.le_refl Bool.not_eq_true decide_not Bool.not_eq_true' decide_eq_false_iff_not Bool.not_eq_false Bool.or_eq_true if_true if_false ite_self u_roF u_cvF u_cvC u_ceT u_ceK z2m sm_it z6A z37 z5m z6p z3d sm_ro z3i sm_sl z6a z69 sm_fr z1F z13 sm_kd z28 z12 sm_vw z1u z0P sm_sq z1R z0S sm_tm z1q z0L z2R z2b z3k z63 z64 z29 z3g z1p z1y z2F z39 ce_it z6J z31 z4Z z6x z3A ce_ro z3t ce_sl z6d z6g ce_sq z1X z14 ce_vw z1C z0H ce_tm z1U z0W z33 z0v z0n ce_vs z1P z0X z36 z1t z3r z6F z6H z1T z2X z1z z2c z2M z2V cg_it z67 z3s z61 z6n z2U cg_ro z3E cg_sl z6b z6u cg_fr z1J z0N cg_vw z1Q z11 cg_st z1M z0G cg_rt z1H z17 cg_pf z1Z z0E cg_cs z1N z0I z32 z1I z3b z6y z6c z1V z3v z23 z1L z35 z3p ms_it z6o z3n z6C z6h z3h ms_ro z3e ms_sl z6E z6r ms_kd z1S z0R ms_fr z1v z0O ms_vw z25 z0U ms_sq z1s z0Z ms_tm z1G z0F z3c z0u z0o ms_vs z1E z0Y z68 z0Q z0x z3C z1W z3x z65 z6K z20 z3D z24 z27 z3q z2Y co_it z6M z2W z6D z6m z3m co_ro z3o co_sl z6w z66 co_sq z26 z0V co_tm z1B z0K z3z z0y z0p co_nl z1w z0M z3y z1o z3l z6N z6v z1K z3j z1Y z1O z2N z2Z sd_it z6e z3B z6z z6G z3a sd_ro z2T sd_sl z6I z6i sd_wh z21 z15 sd_fr z1x z0T sd_kd z1D z18 sd_vw z1A z0J sd_sq z22 z16 sd_tm z1r z10 z30 z38 z6f z5O u_bz u_bi1 u_bi2 u_bi3 u_bi4 u_bi5 u_bi6 u_bi7 s_B0 s_Bk s_Bs0 s_Bsk zas zge z8d z8K z92 w_0 w_Y0 w_B0 w_Bk w_Bs0 w_Bsk zfn z78 zaz zb2 z5M ltO_o ltO_r u_eqE zbl Nat.le_add_right List.append_assoc
attribute [local go_sem_proc] Nat.reduceAdd Nat.reduceSub Nat.reduceMul Nat.reduceLeDiff Nat.reduceLT Int.reduceEq Int.reduceNe Int.reduceLT Int.reduceLE Int.reduceAdd Int.reduceSub Int.reduceMul Int.reduceNeg Int.reduceToNat reduceCtorEq Nat.reduceEqDiff Nat.reduceBEq Nat.reduceGT
attribute [local go_sem_proc ↓] reduceIte
def cut3 (x : List UInt8) : List UInt8 := if 3000 < x.length then x.take 3000 else x
def stepT (p : Sg × Wg) (x : List UInt8) : Sg × Wg := ({ p.1 with T := oqT p.1.T (cut3 x) },{ p.2 with T := oqT p.2.T (cut3 x) })
def stepR (p : Sg × Wg) (d : Sd) : Sg × Wg := ({ p.1 with R := sayR p.1 d.wh (sdS d) },{ p.2 with L := rsayL p.2.n p.2.rog p.2.L d.wh (sdS d),X := SL ((rsayL p.2.n p.2.rog p.2.L d.wh (sdS d)).map smE) })
def scn0 (rog : List Int) : Sg × Wg := (⟨[],7,bdL rog,[]⟩,⟨[],7,rog,[],V (.slice none 0 0)⟩)
def scnT (rog : List Int) (tx : List (List UInt8)) : Sg × Wg := (tx.take 80).foldl stepT (scn0 rog)
def scn (rog : List Int) (tx : List (List UInt8)) (sd : List Sd) : Sg × Wg := (sd.take 120).foldl stepR (scnT rog tx)
theorem zm2 {x : List UInt8} (h : x.length ≤ 9223372036854775807) : (cut3 x).length ≤ 9223372036854775807 := by
 unfold cut3
 split
 ·simp;omega
 ·exact h
theorem zrk {rog : List Int} (hb : ∀ p ∈ rog,inN 7 p = true) (hl : rog.length ≤ 1000000) : Scn (scn0 rog).1 (scn0 rog).2 :=
 ⟨⟨List.nodup_nil,by show ([] : List (List UInt8)).length ≤ _;simp,fun s hs=>by simp [scn0] at hs,by show (1 : Int) ≤ 7;omega,by show (7 : Int) ≤ 64;omega,zs0,List.nodup_nil,by show ([] : List Sm).length ≤ _;simp,fun s hs=>by simp [scn0] at hs,fun s hs=>by simp [scn0] at hs⟩,⟨by show ([] : List (List UInt8)).length ≤ _;simp,by show ([] : List Sm).length ≤ _;simp,hl, .inr ⟨rfl,rfl⟩⟩,rfl,rfl,rfl,rfl,rfl,hb⟩
theorem zmj : ∀ (l : List (List UInt8)) (p : Sg × Wg),Scn p.1 p.2 → (∀ x ∈ l,x.length ≤ 9223372036854775807) → Scn (l.foldl stepT p).1 (l.foldl stepT p).2
 |[],p,h,_=>h
 |x :: l,p,h,hl=>zmj l (stepT p x) (h.of (zm2 (hl x (List.mem_cons_self ..)))) fun y hy=>hl y (List.mem_cons_of_mem _ hy)
theorem zlX : ∀ (l : List Sd) (p : Sg × Wg),Scn p.1 p.2 → (∀ x ∈ l,SmI (sdS x)) → Scn (l.foldl stepR p).1 (l.foldl stepR p).2
 |[],p,h,_=>h
 |x :: l,p,h,hl=>zlX l (stepR p x) (h.said x.wh (sdS x) (hl x (List.mem_cons_self ..))) fun y hy=>hl y (List.mem_cons_of_mem _ hy)
theorem zqL {rog : List Int} {tx : List (List UInt8)} (hb : ∀ p ∈ rog,inN 7 p = true) (hl : rog.length ≤ 1000000) (ht : ∀ x ∈ tx,x.length ≤ 9223372036854775807) : Scn (scnT rog tx).1 (scnT rog tx).2 := zmj _ _ (zrk hb hl) fun x hx=>ht x (List.mem_of_mem_take hx)
theorem zyK {rog : List Int} {tx : List (List UInt8)} {sd : List Sd} (hb : ∀ p ∈ rog,inN 7 p = true) (hl : rog.length ≤ 1000000) (ht : ∀ x ∈ tx,x.length ≤ 9223372036854775807) (hs : ∀ x ∈ sd,SmI (sdS x)) : Scn (scn rog tx sd).1 (scn rog tx sd).2 := zlX _ _ (zqL hb hl ht) fun x hx=>hs x (List.mem_of_mem_take hx)
theorem zmO {α β : Type} {f : β → α → β} {l : List α} {k : Nat} {b : β} (h : k < l.length) : (l.take (k + 1)).foldl f b = f ((l.take k).foldl f b) l[k] := by
 rw [List.take_succ_eq_append_getElem h,List.foldl_append]
 rfl
section
variable (m : Nat) (H0 : List AObj) (tx : List (List UInt8)) (bad : List Int) (sd : List Sd) (hm : 1000001 < m) (hA : GA (H0 ++ [scX tx bad sd])) (htl : tx.length ≤ 9223372036854775807) (hsl : sd.length ≤ 9223372036854775807) (ht : ∀ x ∈ tx,x.length ≤ 9223372036854775807) (hs : ∀ x ∈ sd,SmI (sdS x))
include hm hA hsl hs
theorem zwG (p : Sg × Wg) (h : Scn p.1 p.2) : z96 m H0.length ⟨hS (H0 ++ [scX tx bad sd]) p.1 p.2,[(1,OP H0.length 0),(6,OP (H0.length + 2) 0),(7,OP (H0.length + 5) 0),(9,OP (H0.length + 7) 0)]⟩ = some (TU [OP (H0.length + 2) 0,OP (H0.length + 5) 0,OP (H0.length + 7) 0,bA true],hS (H0 ++ [scX tx bad sd]) ((sd.take 120).foldl stepR p).1 ((sd.take 120).foldl stepR p).2) := by
 have hl : (H0 ++ [scX tx bad sd]).length = H0.length + 1 := by simp
 rw [zeA]
 refine z4a (m := m) (ι := {k : Nat // k ≤ (sd.take 120).length}) (fun k=>⟨hS (H0 ++ [scX tx bad sd]) (((sd.take 120).take k.1).foldl stepR p).1 (((sd.take 120).take k.1).foldl stepR p).2,[(1,OP H0.length 0),(6,OP (H0.length + 2) 0),(7,OP (H0.length + 5) 0),(9,OP (H0.length + 7) 0),(12,nA k.1)]⟩) (fun k=>(sd.take 120).length - k.1) (fun _=>some (TU [OP (H0.length + 2) 0,OP (H0.length + 5) 0,OP (H0.length + 7) 0,bA true],hS (H0 ++ [scX tx bad sd]) ((sd.take 120).foldl stepR p).1 ((sd.take 120).foldl stepR p).2)) ?_ ⟨0,Nat.zero_le _⟩ (by dsimp only;simp;omega)
 rintro kx hkx ⟨k,hk⟩ kc hkc
 dsimp only at hkc ⊢
 have hP := zlX ((sd.take 120).take k) p h fun x hx=>hs x (List.mem_of_mem_take (List.mem_of_mem_take hx))
 have hl8 : (hS (H0 ++ [scX tx bad sd]) (((sd.take 120).take k).foldl stepR p).1 (((sd.take 120).take k).foldl stepR p).2).length = H0.length + 9 := by rw [zoS,hl]
 have hallk := hS_lt hA hP.wo (σ := (((sd.take 120).take k).foldl stepR p).1) (n := H0.length + 9) (by rw [hl];omega)
 rw [zeE]
 rw [List.length_take] at hk
 by_cases hc : k < (sd.take 120).length
 ·have hc' := hc
  rw [List.length_take] at hc'
  have h1 : k < sd.length := by omega
  have h1' : (k : Int) < (sd.length : Int) := by omega
  have h2 : (k : Int) < 120 := by omega
  have hr := zy9 m H0 _ _ tx bad sd k h1 (H0.length + 9) kc kx hA hP (hs _ (List.getElem_mem h1)) hm hsl
  have step := hkc ⟨k + 1,by omega⟩ (by dsimp only;omega)
  dsimp only at step
  rw [zmO hc,List.getElem_take] at step
  have hP2 := hP.said sd[k].wh (sdS sd[k]) (hs _ (List.getElem_mem h1))
  generalize ((sd.take 120).take k).foldl stepR p = q at *
  obtain ⟨σ,ω⟩ := q
  dsimp only at *
  have hall := hS_lt hA hP2.wo (σ := { σ with R := sayR σ sd[k].wh (sdS sd[k]) }) (n := H0.length + 9) (by rw [hl];omega)
  have hl9 : (hS (H0 ++ [scX tx bad sd]) { σ with R := sayR σ sd[k].wh (sdS sd[k]) } { ω with L := rsayL ω.n ω.rog ω.L sd[k].wh (sdS sd[k]),X := SL ((rsayL ω.n ω.rog ω.L sd[k].wh (sdS sd[k])).map smE) }).length = H0.length + 9 := by rw [zoS,hl]
  have htk : (hS (H0 ++ [scX tx bad sd]) { σ with R := sayR σ sd[k].wh (sdS sd[k]) } { ω with L := rsayL ω.n ω.rog ω.L sd[k].wh (sdS sd[k]),X := SL ((rsayL ω.n ω.rog ω.L sd[k].wh (sdS sd[k])).map smE) }).take (H0.length + 9) = _ := List.take_of_length_le (by rw [hl9];exact Nat.le_refl _)
  have hw1 : IntKind.i64.wrap ((k : Int) + 1) = (k : Int) + 1 := w_i64 (by omega) (by omega)
  have o1 : H0.length + 2 < H0.length + 9 := by omega
  have o2 : H0.length + 5 < H0.length + 9 := by omega
  have o3 : H0.length + 7 < H0.length + 9 := by omega
  have o4 : H0.length < H0.length + 9 := by omega
  rw [hw1] at hr
  have hc0 := fun {K : AObj → RO} {σ : Sg} {o6 o7 : AObj}=>hM_0 (H0 := H0) (X := scX tx bad sd) (σ := σ) (o6 := o6) (o7 := o7) (K := K)
  have hc1 : ∀ {K : AObj → RO},nthOE (hS (H0 ++ [scX tx bad sd]) σ ω) H0.length K = K (scX tx bad sd) := fun {K}=>by rw [hS_hM];exact hM_0
  simp (config := {maxSteps := 4000000,implicitDefEqProofs := false}) (disch := omega) only [go_sem,hc1,z55,sc_f2,h1',h2,hl8,hr,z72]
  simp (config := {maxSteps := 4000000,implicitDefEqProofs := false}) (disch := omega) only [go_sem,hl9,hall,htk,o1,o2,o3,o4]
  exact step
 ·have hk2 : k = (sd.take 120).length := by rw [List.length_take] at hc ⊢;omega
  have htk : (sd.take 120).take k = sd.take 120 := by rw [hk2,List.take_length]
  rw [htk] at hl8 hallk ⊢
  have hc1 : ∀ {K : AObj → RO},nthOE (hS (H0 ++ [scX tx bad sd]) ((sd.take 120).foldl stepR p).1 ((sd.take 120).foldl stepR p).2) H0.length K = K (scX tx bad sd) := fun {K}=>by rw [hS_hM];exact hM_0
  have o1 : H0.length + 2 < H0.length + 9 := by omega
  have o2 : H0.length + 5 < H0.length + 9 := by omega
  have o3 : H0.length + 7 < H0.length + 9 := by omega
  by_cases h1 : k < sd.length
  ·have h1' : (k : Int) < (sd.length : Int) := by omega
   have h2 : ¬ (k : Int) < 120 := by rw [List.length_take] at hk2;omega
   simp (config := {maxSteps := 4000000,implicitDefEqProofs := false}) (disch := omega) only [go_sem,hc1,z55,sc_f2,h1',h2,hl8,hkx,z72,z9Q,zlH,hallk,o1,o2,o3]
  ·have h1' : ¬ (k : Int) < (sd.length : Int) := by omega
   simp (config := {maxSteps := 4000000,implicitDefEqProofs := false}) (disch := omega) only [go_sem,hc1,z55,sc_f2,h1',hl8,hkx,z72,z9Q,zlH,hallk,o1,o2,o3]
include htl ht
theorem zwM (rog : List Int) (hb : ∀ p ∈ rog,inN 7 p = true) (hlr : rog.length ≤ 1000000) : z6t m H0.length ⟨hS (H0 ++ [scX tx bad sd]) (scn0 rog).1 (scn0 rog).2,[(1,OP H0.length 0),(6,OP (H0.length + 2) 0),(7,OP (H0.length + 5) 0),(9,OP (H0.length + 7) 0)]⟩ = some (TU [OP (H0.length + 2) 0,OP (H0.length + 5) 0,OP (H0.length + 7) 0,bA true],hS (H0 ++ [scX tx bad sd]) (scn rog tx sd).1 (scn rog tx sd).2) := by
 have hl : (H0 ++ [scX tx bad sd]).length = H0.length + 1 := by simp
 have h0 := zrk hb hlr
 have h5 := zwG m H0 tx bad sd hm hA hsl hs (scnT rog tx) (zqL hb hlr ht)
 rw [show (sd.take 120).foldl stepR (scnT rog tx) = scn rog tx sd from rfl] at h5
 rw [zez]
 refine z4a (m := m) (ι := {k : Nat // k ≤ (tx.take 80).length}) (fun k=>⟨hS (H0 ++ [scX tx bad sd]) (((tx.take 80).take k.1).foldl stepT (scn0 rog)).1 (((tx.take 80).take k.1).foldl stepT (scn0 rog)).2,[(1,OP H0.length 0),(6,OP (H0.length + 2) 0),(7,OP (H0.length + 5) 0),(9,OP (H0.length + 7) 0),(10,nA k.1)]⟩) (fun k=>(tx.take 80).length - k.1) (fun _=>some (TU [OP (H0.length + 2) 0,OP (H0.length + 5) 0,OP (H0.length + 7) 0,bA true],hS (H0 ++ [scX tx bad sd]) (scn rog tx sd).1 (scn rog tx sd).2)) ?_ ⟨0,Nat.zero_le _⟩ (by dsimp only;simp;omega)
 rintro kx hkx ⟨k,hk⟩ kc hkc
 dsimp only at hkc ⊢
 have hP := zmj ((tx.take 80).take k) (scn0 rog) h0 fun x hx=>ht x (List.mem_of_mem_take (List.mem_of_mem_take hx))
 have hl8 : (hS (H0 ++ [scX tx bad sd]) (((tx.take 80).take k).foldl stepT (scn0 rog)).1 (((tx.take 80).take k).foldl stepT (scn0 rog)).2).length = H0.length + 9 := by rw [zoS,hl]
 rw [zeL]
 rw [List.length_take] at hk
 by_cases hc : k < (tx.take 80).length
 ·have hc' := hc
  rw [List.length_take] at hc'
  have h1 : k < tx.length := by omega
  have h1' : (k : Int) < (tx.length : Int) := by omega
  have h2 : (k : Int) < 80 := by omega
  have hx := ht _ (List.getElem_mem h1)
  have step := hkc ⟨k + 1,by omega⟩ (by dsimp only;omega)
  dsimp only at step
  rw [zmO hc,List.getElem_take] at step
  have hP2 := hP.of (zm2 hx)
  generalize ((tx.take 80).take k).foldl stepT (scn0 rog) = q at *
  obtain ⟨σ,ω⟩ := q
  dsimp only at *
  have hst : stepT (σ,ω) tx[k] = ({ σ with T := oqT σ.T (cut3 tx[k]) },{ ω with T := oqT ω.T (cut3 tx[k]) }) := rfl
  rw [hst] at step
  dsimp only at step
  have hr := zxM m (H0 ++ [scX tx bad sd]) σ ω (cut3 tx[k]) (OP H0.length 0) k (H0.length + 9) kc kx hA hP (zm2 hx) hm
  rw [hl] at hr
  have e4 : H0.length + 1 + 1 = H0.length + 2 := rfl
  have e5 : H0.length + 1 + 4 = H0.length + 5 := rfl
  have e6 : H0.length + 1 + 6 = H0.length + 7 := rfl
  simp only [e4,e5,e6] at hr
  have hall := hS_lt hA hP2.wo (σ := { σ with T := oqT σ.T (cut3 tx[k]) }) (n := H0.length + 9) (by rw [hl];omega)
  have hl9 : (hS (H0 ++ [scX tx bad sd]) { σ with T := oqT σ.T (cut3 tx[k]) } { ω with T := oqT ω.T (cut3 tx[k]) }).length = H0.length + 9 := by rw [zoS,hl]
  have htk : (hS (H0 ++ [scX tx bad sd]) { σ with T := oqT σ.T (cut3 tx[k]) } { ω with T := oqT ω.T (cut3 tx[k]) }).take (H0.length + 9) = _ := List.take_of_length_le (by rw [hl9];exact Nat.le_refl _)
  have hw1 : IntKind.i64.wrap ((k : Int) + 1) = (k : Int) + 1 := w_i64 (by omega) (by omega)
  have o1 : H0.length + 2 < H0.length + 9 := by omega
  have o2 : H0.length + 5 < H0.length + 9 := by omega
  have o3 : H0.length + 7 < H0.length + 9 := by omega
  have o4 : H0.length < H0.length + 9 := by omega
  have hc1 : ∀ {K : AObj → RO},nthOE (hS (H0 ++ [scX tx bad sd]) σ ω) H0.length K = K (scX tx bad sd) := fun {K}=>by rw [hS_hM];exact hM_0
  unfold cut3 at *
  by_cases h3 : 3000 < tx[k].length
  ·have h3' : (3000 : Int) < (tx[k].length : Int) := by omega
   have h3'' : (3000 : Int) ≤ (tx[k].length : Int) := by omega
   rw [if_pos h3] at *
   simp (config := {maxSteps := 4000000,implicitDefEqProofs := false}) (disch := omega) only [go_sem,hc1,z55,sc_f0,h1,h1',h2,h3',h3'',hl8,szOf,z4B,z9L]
   simp (config := {maxSteps := 4000000,implicitDefEqProofs := false}) (disch := omega) only [go_sem,hr,hl9,hall,htk,o1,o2,o3,o4,hw1,z9u]
   exact step
  ·have h3' : ¬ (3000 : Int) < (tx[k].length : Int) := by omega
   rw [if_neg h3] at *
   simp (config := {maxSteps := 4000000,implicitDefEqProofs := false}) (disch := omega) only [go_sem,hc1,z55,sc_f0,h1,h1',h2,h3',hl8,szOf,z4B,z9L]
   simp (config := {maxSteps := 4000000,implicitDefEqProofs := false}) (disch := omega) only [go_sem,hr,hl9,hall,htk,o1,o2,o3,o4,hw1,z9u]
   exact step
 ·have hk2 : k = (tx.take 80).length := by rw [List.length_take] at hc ⊢;omega
  have htk : (tx.take 80).take k = tx.take 80 := by rw [hk2,List.take_length]
  rw [htk] at hl8 ⊢
  rw [show (tx.take 80).foldl stepT (scn0 rog) = scnT rog tx from rfl] at *
  have hc1 : ∀ {K : AObj → RO},nthOE (hS (H0 ++ [scX tx bad sd]) (scnT rog tx).1 (scnT rog tx).2) H0.length K = K (scX tx bad sd) := fun {K}=>by rw [hS_hM];exact hM_0
  by_cases h1 : k < tx.length
  ·have h1' : (k : Int) < (tx.length : Int) := by omega
   have h2 : ¬ (k : Int) < 80 := by rw [List.length_take] at hk2;omega
   simp (config := {maxSteps := 4000000,implicitDefEqProofs := false}) (disch := omega) only [go_sem,hc1,z55,sc_f0,h1',h2,hl8,hkx,z4B]
   exact h5
  ·have h1' : ¬ (k : Int) < (tx.length : Int) := by omega
   simp (config := {maxSteps := 4000000,implicitDefEqProofs := false}) (disch := omega) only [go_sem,hc1,z55,sc_f0,h1',hl8,hkx,z4B]
   exact h5
end
end Go.Proofs.Ytaaogcnjfkgnoaa

namespace Go.Proofs.Ytaaogcnjfkgnoaa
open Go.RowKit
set_option maxHeartbeats 4000000
attribute [local go_sem] Nat.zero_add Nat.add_zero Nat.mul_one Int.toNat_natCast Int.natCast_zero Int.cast_ofNat_Int or_false false_or or_true true_or Nat.sub_zero Int.natCast_nonneg Int.toNat_zero Bool.true_and Bool.and_true Bool.false_and Bool.and_false Bool.true_or Bool.or_true Bool.false_or Bool.or_false Bool.not_true Bool.not_false Bool.not_not true_and and_true false_and and_false not_true_eq_false not_false_eq_true eq_self decide_true decide_false ne_eq implies_true forall_const true_implies false_implies Bool.true_eq_false Bool.false_eq_true List.map_cons List.map_nil List.all_cons List.all_nil List.length_cons List.length_nil List.length_map List.length_append List.nil_append List.cons_append List.set_cons_zero List.set_cons_succ List.set_nil List.drop_zero List.drop_succ_cons List.drop_nil List.take_zero List.take_succ_cons List.take_nil Option.map_some Option.map_none Option.isSome_some List.all_append List.all_map Function.comp_def decide_eq_true_eq Bool.and_eq_true beq_self_eq_true or_self and_self ite_true ite_false Nat.le_refl Bool.not_eq_true decide_not Bool.not_eq_true' decide_eq_false_iff_not Bool.not_eq_false Bool.or_eq_true if_true if_false ite_self u_roF u_cvF u_cvC u_ceT u_ceK z2m sm_it z6A z37 z5m z6p z3d sm_ro z3i sm_sl z6a z69 sm_fr z1F z13 sm_kd z28 z12 sm_vw z1u z0P sm_sq z1R z0S sm_tm z1q z0L z2R z2b z3k z63 z64 z29 z3g z1p z1y z2F z39 ce_it z6J z31 z4Z z6x z3A ce_ro z3t ce_sl z6d z6g ce_sq z1X z14 ce_vw z1C z0H ce_tm z1U z0W z33 z0v z0n ce_vs z1P z0X z36 z1t z3r z6F z6H z1T z2X z1z z2c z2M z2V cg_it z67 z3s z61 z6n z2U cg_ro z3E cg_sl z6b z6u cg_fr z1J z0N cg_vw z1Q z11 cg_st z1M z0G cg_rt z1H z17 cg_pf z1Z z0E cg_cs z1N z0I z32 z1I z3b z6y z6c z1V z3v z23 z1L z35 z3p ms_it z6o z3n z6C z6h z3h ms_ro z3e ms_sl z6E z6r ms_kd z1S z0R ms_fr z1v z0O ms_vw z25 z0U ms_sq z1s z0Z ms_tm z1G z0F z3c z0u z0o ms_vs z1E z0Y z68 z0Q z0x z3C z1W z3x z65 z6K z20 z3D z24 z27 z3q z2Y co_it z6M z2W z6D z6m z3m co_ro z3o co_sl z6w z66 co_sq z26 z0V co_tm z1B z0K z3z z0y z0p co_nl z1w z0M z3y z1o z3l z6N z6v z1K z3j z1Y z1O z2N z2Z sd_it z6e z3B z6z z6G z3a sd_ro z2T sd_sl z6I z6i sd_wh z21 z15 sd_fr z1x z0T sd_kd z1D z18 sd_vw z1A z0J sd_sq z22 z16 sd_tm z1r z10 z30 z38 z6f z5O u_bz u_bi1 u_bi2 u_bi3 u_bi4 u_bi5 u_bi6 u_bi7 s_B0 s_Bk s_Bs0 s_Bsk zas zge z8d z8K z92 w_0 w_Y0 w_B0 w_Bk w_Bs0 w_Bsk zfn z78 zaz zb2 z5M ltO_o ltO_r u_eqE zbl Nat.le_add_right List.append_assoc
attribute [local go_sem_proc] Nat.reduceAdd Nat.reduceSub Nat.reduceMul Nat.reduceLeDiff Nat.reduceLT Int.reduceEq Int.reduceNe Int.reduceLT Int.reduceLE Int.reduceAdd Int.reduceSub Int.reduceMul Int.reduceNeg Int.reduceToNat reduceCtorEq Nat.reduceEqDiff Nat.reduceBEq Nat.reduceGT
attribute [local go_sem_proc ↓] reduceIte
theorem zrO {tx : List (List UInt8)} {bad : List Int} {sd : List Sd} : (scC tx bad sd).all sure = true := _root_.id rfl
theorem zze {tx : List (List UInt8)} {bad l : List Int} {sd : List Sd} {R : Type} {K : AObj → Option R} : putE (scX tx bad sd) 1 1 (SL (l.map nA)) K = K (scX tx l sd) := by
 unfold scX
 rw [u_pt1]
 rfl
theorem zqY (m : Nat) (H0 : List AObj) (tx : List (List UInt8)) (bad : List Int) (sd : List Sd) (hb : bad.length ≤ 9223372036854775807) :
  z3S m (.agg (scC tx bad sd)) H0 = z6L m H0.length ⟨H0 ++ [scX tx (bad.take 10) sd],[(1,OP H0.length 0)]⟩ := by
 have h0 : ∀ {o : AObj} {K : AObj → RO},nthOE (H0 ++ [o]) H0.length K = K o := fun {o K}=>(nthOA H0 (k := 0))
 have hs : ∀ {o o' : AObj},(H0 ++ [o]).set H0.length o' = H0 ++ [o'] := fun {o o'}=>(setA H0 (k := 0))
 have e : (⟨1,z2h,0,scC tx bad sd⟩ : AObj) = scX tx bad sd := rfl
 rw [zgN]
 by_cases h : 10 < bad.length
 ·have h' : (10 : Int) < (bad.length : Int) := by omega
  have h'' : (10 : Int) ≤ (bad.length : Int) := by omega
  have hc : cutE (bad.map nA) 0 10 = (bad.take 10).map nA := cutM (n := 10)
  have h1 : ((bad.map nA).all fun d=>decide ((cellsOf d).length = szOf 3)) = true := by rw [List.all_map];exact List.all_eq_true.2 fun _ _=>rfl
  simp (config := {maxSteps := 4000000,implicitDefEqProofs := false}) (disch := omega) only [go_sem,zrO,e,h0,hs,z55,sc_f1,zze,h',h'',hc]
 ·have h' : ¬ (10 : Int) < (bad.length : Int) := by omega
  have ht : bad.take 10 = bad := List.take_of_length_le (by omega)
  rw [ht]
  simp (config := {maxSteps := 4000000,implicitDefEqProofs := false}) (disch := omega) only [go_sem,zrO,e,h0,hs,z55,sc_f1,h']
theorem zxj {H0 : List AObj} {tx : List (List UInt8)} {b : List Int} {sd : List Sd} {bd : List Bool} {x7 x8 : AV} : ghS 9 0 z5A 1 ⟨sc (H0 ++ [scX tx b sd]) [] (⟨[],7,bd,[]⟩ : Sg) ++ [⟨1,z0q,0,[V (.slice none 0 0),nA 7,SL (b.map nA),V (.slice none 0 0)]⟩],[(1,OP H0.length 0),(6,OP (H0.length + 2) 0),(7,x7),(8,x8),(9,OP (H0.length + 7) 0)]⟩ = ⟨hS (H0 ++ [scX tx b sd]) (⟨[],7,bd,[]⟩ : Sg) (scn0 b).2,[(1,OP H0.length 0),(6,OP (H0.length + 2) 0),(7,x7),(8,x8),(9,OP (H0.length + 7) 0)]⟩ := by
 have hl : (H0 ++ [scX tx b sd]).length = H0.length + 1 := by simp
 have hsl2 : (sc (H0 ++ [scX tx b sd]) [] (⟨[],7,bd,[]⟩ : Sg)).length = H0.length + 7 := by rw [z8K];unfold nAB;rw [hl];rfl
 have g1 : (sc (H0 ++ [scX tx b sd]) [] (⟨[],7,bd,[]⟩ : Sg) ++ ([⟨1,z0q,0,[V (.slice none 0 0),nA 7,SL (b.map nA),V (.slice none 0 0)]⟩] : List AObj))[H0.length + 7]? = some ⟨1,z0q,0,[V (.slice none 0 0),nA 7,SL (b.map nA),V (.slice none 0 0)]⟩ := by
  rw [← hsl2]
  exact (getA _ (k := 0))
 have g2 : ∀ o,(sc (H0 ++ [scX tx b sd]) [] (⟨[],7,bd,[]⟩ : Sg) ++ ([⟨1,z0q,0,[V (.slice none 0 0),nA 7,SL (b.map nA),V (.slice none 0 0)]⟩] : List AObj)).set (H0.length + 7) o = sc (H0 ++ [scX tx b sd]) [] (⟨[],7,bd,[]⟩ : Sg) ++ [o] := fun o=>by
  rw [← hsl2]
  exact (setA _ (k := 0))
 unfold ghS
 show (match OP (H0.length + 7) 0 with|_=>_) = _
 dsimp only
 rw [g1]
 dsimp only
 show (⟨(sc (H0 ++ [scX tx b sd]) [] (⟨[],7,bd,[]⟩ : Sg) ++ ([⟨1,z0q,0,[V (.slice none 0 0),nA 7,SL (b.map nA),V (.slice none 0 0)]⟩] : List AObj)).set (H0.length + 7) _ ++ _,_⟩ : ASt) = _
 rw [g2,List.length_append,hsl2,List.append_assoc,hS_sc]
 unfold sc scM
 rw [hl]
 simp only [List.append_assoc,List.cons_append,List.nil_append]
 rfl
theorem set_s (m : Nat) (H0 : List AObj) (tx : List (List UInt8)) (bad : List Int) (sd : List Sd) (hm : 1000001 < m) (hA : GA H0) (hbl : bad.length ≤ 9223372036854775807) (htl : tx.length ≤ 9223372036854775807) (hsl : sd.length ≤ 9223372036854775807) (ht : ∀ x ∈ tx,x.length ≤ 9223372036854775807) (hs : ∀ x ∈ sd,SmI (sdS x)) (hb : ∀ p ∈ bad.take 10,inN 7 p = true) :
  z3S m (.agg (scC tx bad sd)) H0 = some (TU [OP (H0.length + 2) 0,OP (H0.length + 5) 0,OP (H0.length + 7) 0,bA true],hS (H0 ++ [scX tx (bad.take 10) sd]) (scn (bad.take 10) tx sd).1 (scn (bad.take 10) tx sd).2) := by
 rw [zqY m H0 tx bad sd hbl]
 have hbl2 : (bad.take 10).length ≤ 10 := by simp;omega
 generalize bad.take 10 = b at *
 have hl : (H0 ++ [scX tx b sd]).length = H0.length + 1 := by simp
 have hA1 : GA (H0 ++ [scX tx b sd]) := fun n hn=>by
  rw [hl] at hn
  rw [List.all_append,hA n (by omega)]
  rfl
 have h1 := ztn m (H0 ++ [scX tx b sd]) (fun n hn=>hA1 n hn)
 have h2 := zrE m (H0 ++ [scX tx b sd]) [] 7 b (by omega) (by omega) (by omega) (by omega) (fun n hn=>hA1 n hn) hb
 have h3 := zwM m H0 tx b sd hm hA1 htl hsl ht hs b hb (by omega)
 rw [show (scn0 b).1 = (⟨[],7,bdL b,[]⟩ : Sg) from rfl] at h3
 rw [z9R,h1,zpq,hl]
 have hH : H0 ++ [scX tx b sd] ++ [tmO [],ttO (H0.length + 1) [],trO []] = H0 ++ [scX tx b sd,tmO [],ttO (H0.length + 1) [],trO []] := by
  rw [List.append_assoc];rfl
 have n0 : ∀ {K : AObj → RO},nthOE (H0 ++ [scX tx b sd,tmO [],ttO (H0.length + 1) [],trO []]) H0.length K = K (scX tx b sd) := fun {K}=>(nthOA H0 (k := 0))
 have n1 : ∀ {K : AObj → RO},nthOE (sc (H0 ++ [scX tx b sd]) [] (⟨[],7,bdL b,[]⟩ : Sg)) H0.length K = K (scX tx b sd) := fun {K}=>by
  unfold sc scM
  rw [List.append_assoc];exact (nthOA H0 (k := 0))
 have hro : ro (H0 ++ [scX tx b sd,tmO [],ttO (H0.length + 1) [],trO []]) (SL (b.map nA)) = SL (b.map nA) := rfl
 have hsl2 : (sc (H0 ++ [scX tx b sd]) [] (⟨[],7,bdL b,[]⟩ : Sg)).length = H0.length + 7 := by rw [z8K];unfold nAB;rw [hl];rfl
 simp only [List.length_append,List.length_cons,List.length_nil] at h2
 rw [hH] at h2
 have b1 : ∀ {K : AV → RO},z49 (some z83) (some zc_plenumref04_Ring) [(0,nA 7),(1,SL (b.map nA))] K = K (.agg [nA 7,SL (b.map nA),V (.slice none 0 0)]) := fun {K}=>rfl
 have b2 : ∀ {K : AV → RO},z49 (some z7v) (some z7o) [(1, .agg [nA 7,SL (b.map nA),V (.slice none 0 0)])] K = K (.agg [V (.slice none 0 0),nA 7,SL (b.map nA),V (.slice none 0 0)]) := fun {K}=>rfl
 have b3 : ∀ {K : AV → List AObj → RO} {H : List AObj},boxE z0q H (.agg [V (.slice none 0 0),nA 7,SL (b.map nA),V (.slice none 0 0)]) K = K (OP H.length 0) (H ++ [⟨1,z0q,0,[V (.slice none 0 0),nA 7,SL (b.map nA),V (.slice none 0 0)]⟩]) := fun {K H}=>rfl
 simp (config := {maxSteps := 4000000,implicitDefEqProofs := false}) (disch := omega) only [go_sem,n0,n1,z55,sc_f1,hro,h2,b1,b2,b3,hsl2]
 rw [show H0.length + 1 + 1 = H0.length + 2 from rfl,show H0.length + 1 + 4 = H0.length + 5 from rfl,zxj]
 simp (config := {maxSteps := 4000000,implicitDefEqProofs := false}) (disch := omega) only [go_sem,z9V,z9N,u_pe0,h3]
theorem zyf (m : Nat) (H0 : List AObj) (tx : List (List UInt8)) (bad : List Int) (sd : List Sd) (hm : 1000001 < m) (hA : GA H0) (hbl : bad.length ≤ 9223372036854775807) (htl : tx.length ≤ 9223372036854775807) (hsl : sd.length ≤ 9223372036854775807) (ht : ∀ x ∈ tx,x.length ≤ 9223372036854775807) (hs : ∀ x ∈ sd,SmI (sdS x)) (hb : ¬ ∀ p ∈ bad.take 10,inN 7 p = true) :
  ∃ bd,z3S m (.agg (scC tx bad sd)) H0 = some (TU [V (.pointer none),V (.pointer none),V (.pointer none),bA false],hS (H0 ++ [scX tx (bad.take 10) sd]) (⟨[],7,bd,[]⟩ : Sg) (scn0 (bad.take 10)).2) := by
 rw [zqY m H0 tx bad sd hbl]
 have hbl2 : (bad.take 10).length ≤ 10 := by simp;omega
 generalize bad.take 10 = b at *
 have hl : (H0 ++ [scX tx b sd]).length = H0.length + 1 := by simp
 have hA1 : GA (H0 ++ [scX tx b sd]) := fun n hn=>by
  rw [hl] at hn
  rw [List.all_append,hA n (by omega)]
  rfl
 have h1 := ztn m (H0 ++ [scX tx b sd]) (fun n hn=>hA1 n hn)
 obtain ⟨bd,h2⟩ := zx4 m (H0 ++ [scX tx b sd]) [] 7 b (by omega) (by omega) (by omega) (by omega) (fun n hn=>hA1 n hn) hb
 have hW : WgOk (scn0 b).2 := ⟨by show ([] : List (List UInt8)).length ≤ _;simp,by show ([] : List Sm).length ≤ _;simp,by show b.length ≤ _;omega, .inr ⟨rfl,rfl⟩⟩
 have hall := hS_lt (σ := (⟨[],7,bd,[]⟩ : Sg)) hA1 hW (n := H0.length + 9) (by rw [hl];omega)
 have hl8 : (hS (H0 ++ [scX tx b sd]) (⟨[],7,bd,[]⟩ : Sg) (scn0 b).2).length = H0.length + 9 := by rw [zoS,hl]
 refine ⟨bd,?_⟩
 have hrp : ∀ H,ro1 H (V (.pointer none)) = V (.pointer none) := fun _=>rfl
 have hlp : ∀ n,ltA n (V (.pointer none)) = true := fun _=>rfl
 rw [z9R,h1,zpq,hl]
 have hH : H0 ++ [scX tx b sd] ++ [tmO [],ttO (H0.length + 1) [],trO []] = H0 ++ [scX tx b sd,tmO [],ttO (H0.length + 1) [],trO []] := by
  rw [List.append_assoc];rfl
 have n0 : ∀ {K : AObj → RO},nthOE (H0 ++ [scX tx b sd,tmO [],ttO (H0.length + 1) [],trO []]) H0.length K = K (scX tx b sd) := fun {K}=>(nthOA H0 (k := 0))
 have n1 : ∀ {K : AObj → RO},nthOE (sc (H0 ++ [scX tx b sd]) [] (⟨[],7,bd,[]⟩ : Sg)) H0.length K = K (scX tx b sd) := fun {K}=>by
  unfold sc scM
  rw [List.append_assoc];exact (nthOA H0 (k := 0))
 have hro : ro (H0 ++ [scX tx b sd,tmO [],ttO (H0.length + 1) [],trO []]) (SL (b.map nA)) = SL (b.map nA) := rfl
 have hsl2 : (sc (H0 ++ [scX tx b sd]) [] (⟨[],7,bd,[]⟩ : Sg)).length = H0.length + 7 := by rw [z8K];unfold nAB;rw [hl];rfl
 simp only [List.length_append,List.length_cons,List.length_nil] at h2
 rw [hH] at h2
 have b1 : ∀ {K : AV → RO},z49 (some z83) (some zc_plenumref04_Ring) [(0,nA 7),(1,SL (b.map nA))] K = K (.agg [nA 7,SL (b.map nA),V (.slice none 0 0)]) := fun {K}=>rfl
 have b2 : ∀ {K : AV → RO},z49 (some z7v) (some z7o) [(1, .agg [nA 7,SL (b.map nA),V (.slice none 0 0)])] K = K (.agg [V (.slice none 0 0),nA 7,SL (b.map nA),V (.slice none 0 0)]) := fun {K}=>rfl
 have b3 : ∀ {K : AV → List AObj → RO} {H : List AObj},boxE z0q H (.agg [V (.slice none 0 0),nA 7,SL (b.map nA),V (.slice none 0 0)]) K = K (OP H.length 0) (H ++ [⟨1,z0q,0,[V (.slice none 0 0),nA 7,SL (b.map nA),V (.slice none 0 0)]⟩]) := fun {K H}=>rfl
 simp (config := {maxSteps := 4000000,implicitDefEqProofs := false}) (disch := omega) only [go_sem,n0,n1,z55,sc_f1,hro,h2,b1,b2,b3,hsl2]
 rw [show H0.length + 1 + 1 = H0.length + 2 from rfl,zxj]
 simp (config := {maxSteps := 4000000,implicitDefEqProofs := false}) (disch := omega) only [go_sem,z9V,z9N,u_pe0,zlH,hl8,hall,hrp,hlp]
end Go.Proofs.Ytaaogcnjfkgnoaa

namespace Go.Proofs.Ytaaogcnjfkgnoaa
open Go.RowKit
set_option maxHeartbeats 4000000
attribute [local go_sem] Nat.zero_add Nat.add_zero Nat.mul_one Int.toNat_natCast Int.natCast_zero Int.cast_ofNat_Int or_false false_or or_true true_or Nat.sub_zero Int.natCast_nonneg Int.toNat_zero Bool.true_and Bool.and_true Bool.false_and Bool.and_false Bool.true_or Bool.or_true Bool.false_or Bool.or_false Bool.not_true Bool.not_false Bool.not_not true_and and_true false_and and_false not_true_eq_false not_false_eq_true eq_self decide_true decide_false ne_eq implies_true forall_const true_implies false_implies Bool.true_eq_false Bool.false_eq_true List.map_cons List.map_nil List.all_cons List.all_nil List.length_cons List.length_nil List.length_map List.length_append List.nil_append List.cons_append List.set_cons_zero List.set_cons_succ List.set_nil List.drop_zero List.drop_succ_cons List.drop_nil List.take_zero List.take_succ_cons List.take_nil Option.map_some Option.map_none Option.isSome_some List.all_append List.all_map Function.comp_def decide_eq_true_eq Bool.and_eq_true beq_self_eq_true or_self and_self ite_true ite_false Nat.le_refl Bool.not_eq_true decide_not Bool.not_eq_true' decide_eq_false_iff_not Bool.not_eq_false Bool.or_eq_true if_true if_false ite_self u_roF u_cvF u_cvC u_ceT u_ceK z2m sm_it z6A z37 z5m z6p z3d sm_ro z3i sm_sl z6a z69 sm_fr z1F z13 sm_kd z28 z12 sm_vw z1u z0P sm_sq z1R z0S sm_tm z1q z0L z2R z2b z3k z63 z64 z29 z3g z1p z1y z2F z39 ce_it z6J z31 z4Z z6x z3A ce_ro z3t ce_sl z6d z6g ce_sq z1X z14 ce_vw z1C z0H ce_tm z1U z0W z33 z0v z0n ce_vs z1P z0X z36 z1t z3r z6F z6H z1T z2X z1z z2c z2M z2V cg_it z67 z3s z61 z6n z2U cg_ro z3E cg_sl z6b z6u cg_fr z1J z0N cg_vw z1Q z11 cg_st z1M z0G cg_rt z1H z17 cg_pf z1Z z0E cg_cs z1N z0I z32 z1I z3b z6y z6c z1V z3v z23 z1L z35 z3p ms_it z6o z3n z6C z6h z3h ms_ro z3e ms_sl z6E z6r ms_kd z1S z0R ms_fr z1v z0O ms_vw z25 z0U ms_sq z1s z0Z ms_tm z1G z0F z3c z0u z0o ms_vs z1E z0Y z68 z0Q z0x z3C z1W z3x z65 z6K z20 z3D z24 z27 z3q z2Y co_it z6M z2W z6D z6m z3m co_ro z3o co_sl z6w z66 co_sq z26 z0V co_tm z1B z0K z3z z0y z0p co_nl z1w z0M z3y z1o z3l z6N z6v z1K z3j z1Y z1O z2N z2Z sd_it z6e z3B z6z z6G z3a sd_ro z2T sd_sl z6I z6i sd_wh z21 z15 sd_fr z1x z0T sd_kd z1D z18 sd_vw z1A z0J sd_sq z22 z16 sd_tm z1r z10 z30 z38 z6f z5O u_bz u_bi1 u_bi2 u_bi3 u_bi4 u_bi5 u_bi6 u_bi7 s_B0 s_Bk s_Bs0 s_Bsk zas zge z8d z8K z92 w_0 w_Y0 w_B0 w_Bk w_Bs0 w_Bsk zfn z78 zaz zb2 z5M ltO_o ltO_r u_eqE zbl Nat.le_add_right List.append_assoc
attribute [local go_sem_proc] Nat.reduceAdd Nat.reduceSub Nat.reduceMul Nat.reduceLeDiff Nat.reduceLT Int.reduceEq Int.reduceNe Int.reduceLT Int.reduceLE Int.reduceAdd Int.reduceSub Int.reduceMul Int.reduceNeg Int.reduceToNat reduceCtorEq Nat.reduceEqDiff Nat.reduceBEq Nat.reduceGT
attribute [local go_sem_proc ↓] reduceIte
def badL (l : List Int) : Bool := !l.all (inN 7)
theorem badL_iff {l : List Int} : badL l = true ↔ ¬ ∀ p ∈ l,inN 7 p = true := by
 unfold badL
 rw [← List.all_eq_true]
 cases l.all (inN 7) <;> simp
theorem zqg {l : List Int} {k : Nat} (hk : k < l.length) : badL (l.take (k + 1)) = (badL (l.take k) || !inN 7 l[k]) := by
 unfold badL
 rw [List.take_succ_eq_append_getElem hk,List.all_append]
 simp
theorem bad_s (m : Nat) (tx : List (List UInt8)) (bad : List Int) (sd : List Sd) (hm : 1000001 < m) (hbl : bad.length ≤ 9223372036854775807) :
  z9i m (.agg (scC tx bad sd)) = some (bA (badL (bad.take 10)),[]) := by
 rw [zh7]
 have hb : ∀ {K : AV → List AObj → RO},boxE z2h [] (.agg (scC tx bad sd)) K = K (OP 0 0) [scX tx bad sd] := fun {K}=>by
  rfl
 have n0 : ∀ {K : AObj → RO},nthOE [scX tx bad sd] 0 K = K (scX tx bad sd) := fun {K}=>rfl
 rw [hb]
 refine z4a (m := m) (ι := {k : Nat // k ≤ (bad.take 10).length ∧ badL ((bad.take 10).take k) = false}) (fun k=>⟨[scX tx bad sd],[(1,OP 0 0),(3,nA k.1)]⟩) (fun k=>(bad.take 10).length - k.1) (fun _=>some (bA (badL (bad.take 10)),[])) ?_ ⟨0,Nat.zero_le _,rfl⟩ (by dsimp only;simp;omega)
 rintro kx hkx ⟨k,hk,hq⟩ kc hkc
 dsimp only at hkc ⊢
 rw [zeC]
 rw [List.length_take] at hk
 by_cases hc : k < (bad.take 10).length
 ·have hc' := hc
  rw [List.length_take] at hc'
  have h1 : k < bad.length := by omega
  have h1' : (k : Int) < (bad.length : Int) := by omega
  have h2 : (k : Int) < 10 := by omega
  have hw1 : IntKind.i64.wrap ((k : Int) + 1) = (k : Int) + 1 := w_i64 (by omega) (by omega)
  have he := zqg hc
  rw [hq,Bool.false_or,List.getElem_take] at he
  have hfull : inN 7 bad[k] = false → badL (bad.take 10) = true := fun h=>by
   rw [badL_iff]
   intro hall
   have := hall _ (List.getElem_mem hc)
   rw [List.getElem_take,h] at this
   cases this
  by_cases h3 : bad[k] < 0
  ·have hin : inN 7 bad[k] = false := by unfold inN;simp;omega
   rw [hfull hin]
   simp (config := {maxSteps := 4000000,implicitDefEqProofs := false}) (disch := omega) only [go_sem,n0,z55,sc_f1,h1,h1',h2,h3,hkx,z3J,z6U,z71,z3L]
  ·have h3' : ¬ bad[k] < 0 := h3
   by_cases h4 : 6 < bad[k]
   ·have hin : inN 7 bad[k] = false := by unfold inN;simp;omega
    rw [hfull hin]
    simp (config := {maxSteps := 4000000,implicitDefEqProofs := false}) (disch := omega) only [go_sem,n0,z55,sc_f1,h1,h1',h2,h3,h4,hkx,z3J,z6U,z71,z3L]
   ·have hin : inN 7 bad[k] = true := by unfold inN;simp;omega
    have step := hkc ⟨k + 1,by rw [List.length_take];omega,by rw [he,hin];rfl⟩ (by dsimp only;omega)
    dsimp only at step
    simp (config := {maxSteps := 4000000,implicitDefEqProofs := false}) (disch := omega) only [go_sem,n0,z55,sc_f1,h1,h1',h2,h3,h4,hkx,hw1,z3J,z6U,z71,zey,z3L]
    exact step
 ·have hk2 : k = (bad.take 10).length := by rw [List.length_take] at hc ⊢;omega
  rw [hk2,List.take_length] at hq
  rw [hq]
  by_cases h1 : k < bad.length
  ·have h1' : (k : Int) < (bad.length : Int) := by omega
   have h2 : ¬ (k : Int) < 10 := by rw [List.length_take] at hk2;omega
   simp (config := {maxSteps := 4000000,implicitDefEqProofs := false}) (disch := omega) only [go_sem,n0,z55,sc_f1,h1',h2,hkx,z3J,z3L]
  ·have h1' : ¬ (k : Int) < (bad.length : Int) := by omega
   simp (config := {maxSteps := 4000000,implicitDefEqProofs := false}) (disch := omega) only [go_sem,n0,z55,sc_f1,h1',hkx,z3J,z3L]
end Go.Proofs.Ytaaogcnjfkgnoaa

namespace Go.Proofs.Ytaaogcnjfkgnoaa
open Go.RowKit
set_option maxHeartbeats 4000000
attribute [local go_sem] Nat.zero_add Nat.add_zero Nat.mul_one Int.toNat_natCast Int.natCast_zero Int.cast_ofNat_Int or_false false_or or_true true_or Nat.sub_zero Int.natCast_nonneg Int.toNat_zero Bool.true_and Bool.and_true Bool.false_and Bool.and_false Bool.true_or Bool.or_true Bool.false_or Bool.or_false Bool.not_true Bool.not_false Bool.not_not true_and and_true false_and and_false not_true_eq_false not_false_eq_true eq_self decide_true decide_false ne_eq implies_true forall_const true_implies false_implies Bool.true_eq_false Bool.false_eq_true List.map_cons List.map_nil List.all_cons List.all_nil List.length_cons List.length_nil List.length_map List.length_append List.nil_append List.cons_append List.set_cons_zero List.set_cons_succ List.set_nil List.drop_zero List.drop_succ_cons List.drop_nil List.take_zero List.take_succ_cons List.take_nil Option.map_some Option.map_none Option.isSome_some List.all_append List.all_map Function.comp_def decide_eq_true_eq Bool.and_eq_true beq_self_eq_true or_self and_self ite_true ite_false Nat.le_refl Bool.not_eq_true decide_not Bool.not_eq_true' decide_eq_false_iff_not Bool.not_eq_false Bool.or_eq_true if_true if_false ite_self u_roF u_cvF u_cvC u_ceT u_ceK z2m sm_it z6A z37 z5m z6p z3d sm_ro z3i sm_sl z6a z69 sm_fr z1F z13 sm_kd z28 z12 sm_vw z1u z0P sm_sq z1R z0S sm_tm z1q z0L z2R z2b z3k z63 z64 z29 z3g z1p z1y z2F z39 ce_it z6J z31 z4Z z6x z3A ce_ro z3t ce_sl z6d z6g ce_sq z1X z14 ce_vw z1C z0H ce_tm z1U z0W z33 z0v z0n ce_vs z1P z0X z36 z1t z3r z6F z6H z1T z2X z1z z2c z2M z2V cg_it z67 z3s z61 z6n z2U cg_ro z3E cg_sl z6b z6u cg_fr z1J z0N cg_vw z1Q z11 cg_st z1M z0G cg_rt z1H z17 cg_pf z1Z z0E cg_cs z1N z0I z32 z1I z3b z6y z6c z1V z3v z23 z1L z35 z3p ms_it z6o z3n z6C z6h z3h ms_ro z3e ms_sl z6E z6r ms_kd z1S z0R ms_fr z1v z0O ms_vw z25 z0U ms_sq z1s z0Z ms_tm z1G z0F z3c z0u z0o ms_vs z1E z0Y z68 z0Q z0x z3C z1W z3x z65 z6K z20 z3D z24 z27 z3q z2Y co_it z6M z2W z6D z6m z3m co_ro z3o co_sl z6w z66 co_sq z26 z0V co_tm z1B z0K z3z z0y z0p co_nl z1w z0M z3y z1o z3l z6N z6v z1K z3j z1Y z1O z2N z2Z sd_it z6e z3B z6z z6G z3a sd_ro z2T sd_sl z6I z6i sd_wh z21 z15 sd_fr z1x z0T sd_kd z1D z18 sd_vw z1A z0J sd_sq z22 z16 sd_tm z1r z10 z30 z38 z6f z5O u_bz u_bi1 u_bi2 u_bi3 u_bi4 u_bi5 u_bi6 u_bi7 s_B0 s_Bk s_Bs0 s_Bsk zas zge z8d z8K z92 w_0 w_Y0 w_B0 w_Bk w_Bs0 w_Bsk zfn z78 zaz zb2 z5M ltO_o ltO_r u_eqE zbl Nat.le_add_right List.append_assoc
attribute [local go_sem_proc] Nat.reduceAdd Nat.reduceSub Nat.reduceMul Nat.reduceLeDiff Nat.reduceLT Int.reduceEq Int.reduceNe Int.reduceLT Int.reduceLE Int.reduceAdd Int.reduceSub Int.reduceMul Int.reduceNeg Int.reduceToNat reduceCtorEq Nat.reduceEqDiff Nat.reduceBEq Nat.reduceGT
attribute [local go_sem_proc ↓] reduceIte
def cA : Ch := ⟨0,1,0,0,[],[]⟩
def sA1 : Sm := ⟨0,6,1,0,1⟩
def σA (T : List (List UInt8)) (R : List Sm) : Sg := ⟨T,4,bdL [],R⟩
theorem aw_lt {n : Nat} : ltO n ⟨1,z00,0,[nA 0,nA 1,nA 0,nA 0,V (.slice none 0 0),V (.slice none 0 0)]⟩ = true := _root_.id rfl
theorem cA_ok : cgB cA = true := by decide
theorem awe1 : chF [] [] cA 4 = (false,[encCg cA]) := by
 unfold chF
 have e : csF [] 4 cA.st cA.vw [] cA.st cA.cs = (true,[]) := rfl
 rw [if_pos (by decide),e,if_pos rfl]
 rfl
theorem zuF : oqT [encCg cA] (encCg cA) = [encCg cA] := by unfold oqT;rw [if_pos (List.mem_singleton.2 rfl)]
theorem zwo : ofE [encCg cA] (encCg cA) = 0 := by unfold ofE;rw [if_pos (List.mem_singleton.2 rfl)]
theorem zzr : ofN [encCg cA] (encCg cA) = 1 := by
 unfold ofN posL
 rw [if_pos (List.mem_singleton.2 rfl),if_pos (List.mem_singleton.2 rfl)]
 simp
theorem zuo : csSm [encCg cA] cA = sA1 := by
 unfold csSm
 rw [zzr]
 rfl
theorem awe2 : csS [encCg cA] cA = (sA1,0,[encCg cA]) := by
 unfold csS
 rw [if_pos cA_ok,zwo,if_pos rfl,zuF,zuo]
theorem awe3 {T : List (List UInt8)} : sayR (σA T []) 0 sA1 = [sA1] := by
 unfold sayR
 rw [if_pos ⟨rfl,by simp [σA],by simp [σA]⟩]
 rfl
theorem awe4 : chF [encCg cA] [sA1] cA 4 = (true,[encCg cA]) := by
 unfold chF
 have e : csF [sA1] 4 cA.st cA.vw [encCg cA] cA.st cA.cs = (true,[encCg cA]) := rfl
 rw [if_pos (by decide),e,if_pos rfl]
 show (decide (ofE [encCg cA] (encCg cA) = 0) && decide (csSm [encCg cA] cA ∈ [sA1]),oqT [encCg cA] (encCg cA)) = _
 rw [zwo,zuo,zuF]
 simp
theorem σA_ok {T : List (List UInt8)} {R : List Sm} (hT : T = [] ∨ T = [encCg cA]) (hR : R = [] ∨ R = [sA1]) : SgOk (σA T R) := by
 have he : (encCg cA).length ≤ 9223372036854775807 := Nat.le_trans (zfE cA_ok) (by decide)
 refine ⟨?_,?_,?_,by show (1 : Int) ≤ 4;omega,by show (4 : Int) ≤ 64;omega,zs0,?_,?_,?_,?_⟩
 ·rcases hT with rfl|rfl <;> simp [σA]
 ·rcases hT with rfl|rfl <;> simp [σA]
 ·intro s hs;rcases hT with rfl|rfl <;> simp [σA] at hs;subst hs;exact he
 ·rcases hR with rfl|rfl <;> simp [σA]
 ·rcases hR with rfl|rfl <;> simp [σA]
 ·intro s hs;rcases hR with rfl|rfl <;> simp [σA] at hs;subst hs;exact zqa (by decide)
 ·intro s hs;rcases hR with rfl|rfl <;> simp [σA] at hs;subst hs;exact ⟨by decide,by show (0 : Int) < 4;omega⟩
theorem zvx (m : Nat) (hm : 1000001 < m) : z5e m = some (bA true,[]) := by
 have ht : zh3 m [] = some (OP 1 0,[tmO [],ttO 0 [],trO []]) := ztn m [] fun n _=>rfl
 have hr : ze4 m (nA 4) (SL []) [tmO [],ttO 0 [],trO []] = some (TU [OP 4 0,nA 0],sc [] [] (σA [] [])) := zrE m [] [] 4 [] (by omega) (by omega) (by simp;omega) (by simp) (fun n _=>rfl) (fun p hp=>by simp at hp)
 have hG1 : GB [] [⟨1,z00,0,[nA 0,nA 1,nA 0,nA 0,V (.slice none 0 0),V (.slice none 0 0)]⟩] := fun n hn=>⟨rfl,by simp [aw_lt]⟩
 have hG2 : GB [] [⟨1,z00,0,[nA 0,nA 1,nA 0,nA 0,V (.slice none 0 0),V (.slice none 0 0)]⟩,⟨1,z01,0,smC sA1⟩] := fun n hn=>⟨rfl,by simp [aw_lt,z92]⟩
 have h1 : z6j m (OP 4 0) (OP 1 0) (.agg [nA 0,nA 1,nA 0,nA 0,SL [],SL []]) (nA 4) (sc [] [] (σA [] []) ++ [⟨1,z00,0,[nA 0,nA 1,nA 0,nA 0,V (.slice none 0 0),V (.slice none 0 0)]⟩]) = some (bA false,sc [] [] (σA [encCg cA] []) ++ [⟨1,z00,0,[nA 0,nA 1,nA 0,nA 0,V (.slice none 0 0),V (.slice none 0 0)]⟩]) := by
  have := zkn m [] [⟨1,z00,0,[nA 0,nA 1,nA 0,nA 0,V (.slice none 0 0),V (.slice none 0 0)]⟩] (σA [] []) cA 4 hG1 (σA_ok (.inl rfl) (.inl rfl)) hm
  rw [show (σA [] []).T = [] from rfl,show (σA [] []).R = [] from rfl,awe1] at this
  exact this
 have h2 : z3T m (OP 1 0) (.agg [nA 0,nA 1,nA 0,nA 0,SL [],SL []]) (sc [] [] (σA [encCg cA] []) ++ [⟨1,z00,0,[nA 0,nA 1,nA 0,nA 0,V (.slice none 0 0),V (.slice none 0 0)]⟩]) = some (TU [.agg (smC sA1),nA 0],sc [] [] (σA [encCg cA] []) ++ [⟨1,z00,0,[nA 0,nA 1,nA 0,nA 0,V (.slice none 0 0),V (.slice none 0 0)]⟩]) := by
  have := zfa m [] [⟨1,z00,0,[nA 0,nA 1,nA 0,nA 0,V (.slice none 0 0),V (.slice none 0 0)]⟩] (σA [encCg cA] []) cA hG1 (σA_ok (.inr rfl) (.inl rfl)) hm
  rw [show (σA [encCg cA] []).T = [encCg cA] from rfl,awe2] at this
  exact this
 have h3 : ∃ x,z7E m (OP 4 0) (nA 0) (.agg (smC sA1)) (sc [] [] (σA [encCg cA] []) ++ [⟨1,z00,0,[nA 0,nA 1,nA 0,nA 0,V (.slice none 0 0),V (.slice none 0 0)]⟩,⟨1,z01,0,smC sA1⟩]) = some (nA x,sc [] [] (σA [encCg cA] [sA1]) ++ [⟨1,z00,0,[nA 0,nA 1,nA 0,nA 0,V (.slice none 0 0),V (.slice none 0 0)]⟩,⟨1,z01,0,smC sA1⟩]) := by
  have := zu8 m [] [⟨1,z00,0,[nA 0,nA 1,nA 0,nA 0,V (.slice none 0 0),V (.slice none 0 0)]⟩,⟨1,z01,0,smC sA1⟩] (σA [encCg cA] []) 0 sA1 hG2 (σA_ok (.inr rfl) (.inl rfl)) (zqa (by decide))
  rw [awe3] at this
  exact ⟨_,this⟩
 obtain ⟨x3,h3⟩ := h3
 have h4 : z6j m (OP 4 0) (OP 1 0) (.agg [nA 0,nA 1,nA 0,nA 0,SL [],SL []]) (nA 4) (sc [] [] (σA [encCg cA] [sA1]) ++ [⟨1,z00,0,[nA 0,nA 1,nA 0,nA 0,V (.slice none 0 0),V (.slice none 0 0)]⟩,⟨1,z01,0,smC sA1⟩]) = some (bA true,sc [] [] (σA [encCg cA] [sA1]) ++ [⟨1,z00,0,[nA 0,nA 1,nA 0,nA 0,V (.slice none 0 0),V (.slice none 0 0)]⟩,⟨1,z01,0,smC sA1⟩]) := by
  have := zkn m [] [⟨1,z00,0,[nA 0,nA 1,nA 0,nA 0,V (.slice none 0 0),V (.slice none 0 0)]⟩,⟨1,z01,0,smC sA1⟩] (σA [encCg cA] [sA1]) cA 4 hG2 (σA_ok (.inr rfl) (.inr rfl)) hm
  rw [show (σA [encCg cA] [sA1]).T = [encCg cA] from rfl,show (σA [encCg cA] [sA1]).R = [sA1] from rfl,awe4] at this
  exact this
 have hsc : z06 zc_api_Change 0 [nA 0,nA 1,nA 0,nA 0,V (.slice none 0 0),V (.slice none 0 0)] = [nA 0,nA 1,nA 0,nA 0,V (.slice none 0 0),V (.slice none 0 0)] := rfl
 have hss : z06 zc_api_Stmt 0 (smC sA1) = smC sA1 := rfl
 have hlt := fun {T R}=>sc_lt (A := []) (B := []) (fun n hn=>⟨rfl,rfl⟩) (σ := σA T R) (n := nAB [] [] + 2) (by omega)
 have hk : sA1.kd = 6 := rfl
 have h5 : zcJ m (OP 4 0) (OP 1 0) (.agg [nA 7,nA 0,nA 1,nA 0,nA 0,V (.string ⟨#[]⟩),SL [],SL []]) (nA 4) (sc [] [] (σA [encCg cA] [sA1]) ++ [⟨1,z00,0,[nA 0,nA 1,nA 0,nA 0,V (.slice none 0 0),V (.slice none 0 0)]⟩,⟨1,z01,0,smC sA1⟩]) = some (TU [SL [],nA 21],sc [] [] (σA [encCg cA] [sA1]) ++ [⟨1,z00,0,[nA 0,nA 1,nA 0,nA 0,V (.slice none 0 0),V (.slice none 0 0)]⟩,⟨1,z01,0,smC sA1⟩]) := by
  have hf := ziy m 4
  have hp := zn6 m 1 4 (by omega) (by omega)
  rw [show okN 4 = true from rfl,if_pos rfl] at hf
  rw [show (if (4 : Int) < 1 then 0 else 1 % 4) = (1 : Int) from rfl] at hp
  rw [zjA]
  simp (config := {maxSteps := 4000000,implicitDefEqProofs := false}) (disch := omega) only [go_sem,hf,hp,hlt,aw_lt,zgx]
 have bC : ∀ {K : AV → RO},z49 (some zhs) (some zc_api_Change) [(1,nA 1)] K = K (.agg [nA 0,nA 1,nA 0,nA 0,V (.slice none 0 0),V (.slice none 0 0)]) := fun {K}=>rfl
 have bM : ∀ {K : AV → RO},z49 (some zlA) (some zc_api_Msg) [(0,nA 7),(2,nA 1)] K = K (.agg [nA 7,nA 0,nA 1,nA 0,nA 0,V (.string ⟨#[]⟩),V (.slice none 0 0),V (.slice none 0 0)]) := fun {K}=>rfl
 rw [zfg,ht,zpq]
 simp (config := {maxSteps := 4000000,implicitDefEqProofs := false}) (disch := omega) only [go_sem,hsc,hss,zsmO,hr,h1,h2,h3,h4,h5,bC,bM,hk,u_pe0,hlt,zdn,zdh]
end Go.Proofs.Ytaaogcnjfkgnoaa

namespace Go.Proofs.Ytaaogcnjfkgnoaa
open Go.RowKit
set_option maxHeartbeats 4000000
attribute [local go_sem] Nat.zero_add Nat.add_zero Nat.mul_one Int.toNat_natCast Int.natCast_zero Int.cast_ofNat_Int or_false false_or or_true true_or Nat.sub_zero Int.natCast_nonneg Int.toNat_zero Bool.true_and Bool.and_true Bool.false_and Bool.and_false Bool.true_or Bool.or_true Bool.false_or Bool.or_false Bool.not_true Bool.not_false Bool.not_not true_and and_true false_and and_false not_true_eq_false not_false_eq_true eq_self decide_true decide_false ne_eq implies_true forall_const true_implies false_implies Bool.true_eq_false Bool.false_eq_true List.map_cons List.map_nil List.all_cons List.all_nil List.length_cons List.length_nil List.length_map List.length_append List.nil_append List.cons_append List.set_cons_zero List.set_cons_succ List.set_nil List.drop_zero List.drop_succ_cons List.drop_nil List.take_zero List.take_succ_cons List.take_nil Option.map_some Option.map_none Option.isSome_some List.all_append List.all_map Function.comp_def decide_eq_true_eq Bool.and_eq_true beq_self_eq_true or_self and_self ite_true ite_false Nat.le_refl Bool.not_eq_true decide_not Bool.not_eq_true' decide_eq_false_iff_not Bool.not_eq_false Bool.or_eq_true if_true if_false ite_self u_roF u_cvF u_cvC u_ceT u_ceK z2m sm_it z6A z37 z5m z6p z3d sm_ro z3i sm_sl z6a z69 sm_fr z1F z13 sm_kd z28 z12 sm_vw z1u z0P sm_sq z1R z0S sm_tm z1q z0L z2R z2b z3k z63 z64 z29 z3g z1p z1y z2F z39 ce_it z6J z31 z4Z z6x z3A ce_ro z3t ce_sl z6d z6g ce_sq z1X z14 ce_vw z1C z0H ce_tm z1U z0W z33 z0v z0n ce_vs z1P z0X z36 z1t z3r z6F z6H z1T z2X z1z z2c z2M z2V cg_it z67 z3s z61 z6n z2U cg_ro z3E cg_sl z6b z6u cg_fr z1J z0N cg_vw z1Q z11 cg_st z1M z0G cg_rt z1H z17 cg_pf z1Z z0E cg_cs z1N z0I z32 z1I z3b z6y z6c z1V z3v z23 z1L z35 z3p ms_it z6o z3n z6C z6h z3h ms_ro z3e ms_sl z6E z6r ms_kd z1S z0R ms_fr z1v z0O ms_vw z25 z0U ms_sq z1s z0Z ms_tm z1G z0F z3c z0u z0o ms_vs z1E z0Y z68 z0Q z0x z3C z1W z3x z65 z6K z20 z3D z24 z27 z3q z2Y co_it z6M z2W z6D z6m z3m co_ro z3o co_sl z6w z66 co_sq z26 z0V co_tm z1B z0K z3z z0y z0p co_nl z1w z0M z3y z1o z3l z6N z6v z1K z3j z1Y z1O z2N z2Z sd_it z6e z3B z6z z6G z3a sd_ro z2T sd_sl z6I z6i sd_wh z21 z15 sd_fr z1x z0T sd_kd z1D z18 sd_vw z1A z0J sd_sq z22 z16 sd_tm z1r z10 z30 z38 z6f z5O u_bz u_bi1 u_bi2 u_bi3 u_bi4 u_bi5 u_bi6 u_bi7 s_B0 s_Bk s_Bs0 s_Bsk zas zge z8d z8K z92 w_0 w_Y0 w_B0 w_Bk w_Bs0 w_Bsk zfn z78 zaz zb2 z5M ltO_o ltO_r u_eqE zbl Nat.le_add_right List.append_assoc
attribute [local go_sem_proc] Nat.reduceAdd Nat.reduceSub Nat.reduceMul Nat.reduceLeDiff Nat.reduceLT Int.reduceEq Int.reduceNe Int.reduceLT Int.reduceLE Int.reduceAdd Int.reduceSub Int.reduceMul Int.reduceNeg Int.reduceToNat reduceCtorEq Nat.reduceEqDiff Nat.reduceBEq Nat.reduceGT
attribute [local go_sem_proc ↓] reduceIte
section
variable {R : Type} {a b x : AObj} {σ : Sg} {ω : Wg} {K : AObj → Option R} {Y : List AObj}
theorem q_0 : nthOE (hS [a,b,x] σ ω) 0 K = K a := _root_.id rfl
theorem q_1 : nthOE (hS [a,b,x] σ ω) 1 K = K b := _root_.id rfl
theorem q_9 : nthOE (hS [a,b,x] σ ω) 9 K = K (woO 9 ω) := _root_.id rfl
theorem q_Y0 : nthOE (hS [a,b,x] σ ω ++ Y) 0 K = K a := _root_.id rfl
theorem q_Y1 : nthOE (hS [a,b,x] σ ω ++ Y) 1 K = K b := _root_.id rfl
theorem q_Y9 : nthOE (hS [a,b,x] σ ω ++ Y) 9 K = K (woO 9 ω) := _root_.id rfl
theorem q_B0 : nthOE (hS [a,b,x] σ ω ++ Y) 11 K = nthOE Y 0 K := _root_.id rfl
theorem q_B1 : nthOE (hS [a,b,x] σ ω ++ Y) 12 K = nthOE Y 1 K := _root_.id rfl
theorem q_Bs0 {o : AObj} : (hS [a,b,x] σ ω ++ Y).set 11 o = hS [a,b,x] σ ω ++ Y.set 0 o := _root_.id rfl
theorem q_Bs1 {o : AObj} : (hS [a,b,x] σ ω ++ Y).set 12 o = hS [a,b,x] σ ω ++ Y.set 1 o := _root_.id rfl
theorem q_len : (hS [a,b,x] σ ω).length = 11 := _root_.id rfl
end
section
variable (m : Nat) (a b x : AObj) (σ : Sg) (ω : Wg) (Y : List AObj) (hm : 1000001 < m) (hA : GA [a,b,x]) (hY : ∀ n,Y.all (ltO n) = true) (hσ : SgOk σ) (hω : WgOk ω)
theorem hY_sc : hS [a,b,x] σ ω ++ Y = sc [a,b,x] ([woO 9 ω,trO ω.T] ++ Y) σ := by rw [zcj];rfl
theorem hY_sw : hS [a,b,x] σ ω ++ Y = sw (sixO [a,b,x] σ) Y ω := by rw [show Y = [] ++ Y from rfl,zio,← hS_sw];rfl
include hm hA hY hσ hω
theorem zz8 : z5G m (OP 4 0) (hS [a,b,x] σ ω ++ Y) = some (nA σ.T.length,hS [a,b,x] σ ω ++ Y) := by
 have _ := hm
 have _ := hσ
 rw [hY_sc]
 exact zsX m [a,b,x] _ σ ((hA.gb hω).app hY)
theorem zuv (c : Ch) (n : Int) : z6j m (OP 7 0) (OP 4 0) (cgE c) (nA n) (hS [a,b,x] σ ω ++ Y) = some (bA (chF σ.T σ.R c n).1,hS [a,b,x] { σ with T := (chF σ.T σ.R c n).2 } ω ++ Y) := by
 rw [hY_sc,hY_sc]
 exact zkn m [a,b,x] _ σ c n ((hA.gb hω).app hY) hσ hm
theorem ztO (c : Ch) (n : Int) (hc : ChS c) : z2o m (OP 9 0) (cgE c) (nA n) (hS [a,b,x] σ ω ++ Y) = some (bA (chF ω.T ω.L c n).1,hS [a,b,x] σ { ω with T := (chF ω.T ω.L c n).2 } ++ Y) := by
 have _ := hσ
 rw [hY_sw,hY_sw]
 exact rchangeW_s m (sixO [a,b,x] σ) Y ω c n ((hA.gw σ).app (B := []) hY) hω hm hc
theorem stmt3 (c : Ch) : z3T m (OP 4 0) (cgE c) (hS [a,b,x] σ ω ++ Y) = some (TU [smE (csS σ.T c).1,nA (csS σ.T c).2.1],hS [a,b,x] { σ with T := (csS σ.T c).2.2 } ω ++ Y) := by
 rw [hY_sc,hY_sc]
 exact zfa m [a,b,x] _ σ c ((hA.gb hω).app hY) hσ hm
theorem zzd (c : Ch) (hc : ChS c) : z19 m (OP 9 0) (cgE c) (hS [a,b,x] σ ω ++ Y) = some (TU [smE (csS ω.T c).1,nA (csS ω.T c).2.1],hS [a,b,x] σ { ω with T := (csS ω.T c).2.2 } ++ Y) := by
 have _ := hσ
 rw [hY_sw,hY_sw]
 exact zhv m (sixO [a,b,x] σ) Y ω c ((hA.gw σ).app (B := []) hY) hω hm hc
end
structure ScI (tx : List (List UInt8)) (bad : List Int) (sd : List Sd) : Prop where
 bl : bad.length ≤ 9223372036854775807
 tl : tx.length ≤ 9223372036854775807
 sl : sd.length ≤ 9223372036854775807
 t : ∀ x ∈ tx,x.length ≤ 9223372036854775807
 s : ∀ x ∈ sd,SmI (sdS x)
theorem zrS {tx : List (List UInt8)} {bad : List Int} {sd : List Sd} : (scC tx bad sd).length = 3 := _root_.id rfl
theorem zou {tx : List (List UInt8)} {bad : List Int} {sd : List Sd} : (scC tx bad sd).take 3 = scC tx bad sd := _root_.id rfl
theorem zvG {H : List AObj} {tx : List (List UInt8)} {bad : List Int} {sd : List Sd} : (scC tx bad sd).map (ro1 H) = scC tx bad sd := _root_.id rfl
theorem zrz {n : Nat} {tx : List (List UInt8)} {bad : List Int} {sd : List Sd} : (scC tx bad sd).all (lt1 n) = true := _root_.id rfl
theorem scB {tx : List (List UInt8)} {bad : List Int} {sd : List Sd} {K : AV → List AObj → RO} : boxE z2h [] (.agg (scC tx bad sd)) K = K (OP 0 0) [scX tx bad sd] := _root_.id rfl
theorem r_0 {tx : List (List UInt8)} {bad : List Int} {sd : List Sd} {b : AObj} {K : AObj → RO} : nthOE [scX tx bad sd,b] 0 K = K (scX tx bad sd) := _root_.id rfl
theorem r_1 {a b : AObj} {K : AObj → RO} : nthOE [a,b] 1 K = K b := _root_.id rfl
theorem GA_2 {b : AObj} {tx : List (List UInt8)} {bad : List Int} {sd : List Sd} (hb : ∀ n,ltO n b = true) : GA [scX tx bad sd,b] := fun n hn=>by simp [zuk,hb]
theorem GA_3 {b : AObj} {tx : List (List UInt8)} {bad bad' : List Int} {sd : List Sd} (hb : ∀ n,ltO n b = true) : GA [scX tx bad sd,b,scX tx bad' sd] := fun n hn=>by simp [zuk,hb]
theorem set2 (m : Nat) (b : AObj) (tx : List (List UInt8)) (bad : List Int) (sd : List Sd) (hm : 1000001 < m) (hb : ∀ n,ltO n b = true) (h : ScI tx bad sd) (ho : badL (bad.take 10) = false) :
  z3S m (.agg (scC tx bad sd)) [scX tx bad sd,b] = some (TU [OP 4 0,OP 7 0,OP 9 0,bA true],hS [scX tx bad sd,b,scX tx (bad.take 10) sd] (scn (bad.take 10) tx sd).1 (scn (bad.take 10) tx sd).2) := by
 refine set_s m [scX tx bad sd,b] tx bad sd hm (GA_2 hb) h.bl h.tl h.sl h.t h.s ?_
 refine Classical.byContradiction fun q=>?_
 rw [badL_iff.2 q] at ho
 cases ho
theorem ztS (m : Nat) (b : AObj) (tx : List (List UInt8)) (bad : List Int) (sd : List Sd) (hm : 1000001 < m) (hb : ∀ n,ltO n b = true) (h : ScI tx bad sd) (ho : badL (bad.take 10) = true) :
 ∃ bd,z3S m (.agg (scC tx bad sd)) [scX tx bad sd,b] = some (TU [V (.pointer none),V (.pointer none),V (.pointer none),bA false],hS [scX tx bad sd,b,scX tx (bad.take 10) sd] (⟨[],7,bd,[]⟩ : Sg) (scn0 (bad.take 10)).2) := zyf m [scX tx bad sd,b] tx bad sd hm (GA_2 hb) h.bl h.tl h.sl h.t h.s (badL_iff.1 ho)
theorem zwg {tx : List (List UInt8)} {bad : List Int} {sd : List Sd} (h : ScI tx bad sd) (ho : badL (bad.take 10) = false) : Scn (scn (bad.take 10) tx sd).1 (scn (bad.take 10) tx sd).2 := by
 refine zyK ?_ (by simp;omega) h.t h.s
 refine Classical.byContradiction fun q=>?_
 rw [badL_iff.2 q] at ho
 cases ho
end Go.Proofs.Ytaaogcnjfkgnoaa

namespace Go.Proofs.Ytaaogcnjfkgnoaa
open Go.RowKit
def OpSm (x : Sm) : Prop := (-9223372036854775808 ≤ x.fr ∧ x.fr < 9223372036854775808) ∧ (-9223372036854775808 ≤ x.kd ∧ x.kd < 9223372036854775808) ∧ (-9223372036854775808 ≤ x.vw ∧ x.vw < 9223372036854775808) ∧ (-9223372036854775808 ≤ x.sq ∧ x.sq < 9223372036854775808) ∧ (-9223372036854775808 ≤ x.tm ∧ x.tm < 9223372036854775808)
theorem zwf {n : Nat} {ds : List AV} (h : ofT Try.prog n 41 ds) : ∃ x : Sm,ds = smC x ∧ OpSm x := by
 obtain ⟨m,a0,b0,rfl,h0,a1,b1,rfl,h1,a2,b2,rfl,h2,a3,b3,rfl,h3,a4,b4,rfl,h4,rfl⟩ := zds Try.underlying41 h
 obtain ⟨x0,rfl,q0⟩ := zay Try.underlying3 h0
 obtain ⟨x1,rfl,q1⟩ := zay Try.underlying3 h1
 obtain ⟨x2,rfl,q2⟩ := zay Try.underlying3 h2
 obtain ⟨x3,rfl,q3⟩ := zay Try.underlying3 h3
 obtain ⟨x4,rfl,q4⟩ := zay Try.underlying3 h4
 exact ⟨⟨x0,x1,x2,x3,x4⟩,rfl,q0,q1,q2,q3,q4⟩
theorem zrD {n : Nat} {ds : List AV} (h : ofT Try.prog n 27 ds) : ∃ l : List Sm,ds = [SL (l.map smE)] ∧ l.length ≤ 9223372036854775807 ∧ ∀ x ∈ l,OpSm x := by
 obtain ⟨m,es,rfl,hl,he⟩ := zgb Try.underlying27 h
 obtain ⟨l,rfl,hi⟩ := zjF (f := smE) (Q := OpSm) fun x hx=>by
  obtain ⟨q1,q2⟩ := he x hx
  obtain ⟨y,hy,hi⟩ := zwf q1
  exact ⟨y,by rw [zkH (q2.trans (by kernel_rfl)),hy];rfl,hi⟩
 exact ⟨l,rfl,by rw [List.length_map] at hl;exact hl,hi⟩
def OpCe (x : Ce) : Prop := (-9223372036854775808 ≤ x.sq ∧ x.sq < 9223372036854775808) ∧ (-9223372036854775808 ≤ x.vw ∧ x.vw < 9223372036854775808) ∧ (-9223372036854775808 ≤ x.tm ∧ x.tm < 9223372036854775808) ∧ x.body.length ≤ 9223372036854775807 ∧ x.vs.length ≤ 9223372036854775807 ∧ (∀ y ∈ x.vs,OpSm y)
theorem zz9 {n : Nat} {ds : List AV} (h : ofT Try.prog n 54 ds) : ∃ x : Ce,ds = ceC x ∧ OpCe x := by
 obtain ⟨m,a0,b0,rfl,h0,a1,b1,rfl,h1,a2,b2,rfl,h2,a3,b3,rfl,h3,a4,b4,rfl,h4,rfl⟩ := zds Try.underlying54 h
 obtain ⟨x0,rfl,q0⟩ := zay Try.underlying3 h0
 obtain ⟨x1,rfl,q1⟩ := zay Try.underlying3 h1
 obtain ⟨x2,rfl,q2⟩ := zay Try.underlying3 h2
 obtain ⟨x3,rfl,q3⟩ := zr3 Try.underlying9 h3
 obtain ⟨x4,rfl,q4,r4⟩ := zrD h4
 exact ⟨⟨x0,x1,x2,x3,x4⟩,rfl,q0,q1,q2,q3,q4,r4⟩
theorem zxg {n : Nat} {ds : List AV} (h : ofT Try.prog n 28 ds) : ∃ l : List Ce,ds = [SL (l.map ceE)] ∧ l.length ≤ 9223372036854775807 ∧ ∀ x ∈ l,OpCe x := by
 obtain ⟨m,es,rfl,hl,he⟩ := zgb Try.underlying28 h
 obtain ⟨l,rfl,hi⟩ := zjF (f := ceE) (Q := OpCe) fun x hx=>by
  obtain ⟨q1,q2⟩ := he x hx
  obtain ⟨y,hy,hi⟩ := zz9 q1
  exact ⟨y,by rw [zkH (q2.trans (by kernel_rfl)),hy];rfl,hi⟩
 exact ⟨l,rfl,by rw [List.length_map] at hl;exact hl,hi⟩
def OpCh (x : Ch) : Prop := (-9223372036854775808 ≤ x.fr ∧ x.fr < 9223372036854775808) ∧ (-9223372036854775808 ≤ x.vw ∧ x.vw < 9223372036854775808) ∧ (-9223372036854775808 ≤ x.st ∧ x.st < 9223372036854775808) ∧ (-9223372036854775808 ≤ x.rt ∧ x.rt < 9223372036854775808) ∧ x.pf.length ≤ 9223372036854775807 ∧ (∀ y ∈ x.pf,OpSm y) ∧ x.cs.length ≤ 9223372036854775807 ∧ (∀ y ∈ x.cs,OpCe y)
theorem zz2 {n : Nat} {ds : List AV} (h : ofT Try.prog n 30 ds) : ∃ x : Ch,ds = cgC x ∧ OpCh x := by
 obtain ⟨m,a0,b0,rfl,h0,a1,b1,rfl,h1,a2,b2,rfl,h2,a3,b3,rfl,h3,a4,b4,rfl,h4,a5,b5,rfl,h5,rfl⟩ := zds Try.underlying30 h
 obtain ⟨x0,rfl,q0⟩ := zay Try.underlying3 h0
 obtain ⟨x1,rfl,q1⟩ := zay Try.underlying3 h1
 obtain ⟨x2,rfl,q2⟩ := zay Try.underlying3 h2
 obtain ⟨x3,rfl,q3⟩ := zay Try.underlying3 h3
 obtain ⟨x4,rfl,q4,r4⟩ := zrD h4
 obtain ⟨x5,rfl,q5,r5⟩ := zxg h5
 exact ⟨⟨x0,x1,x2,x3,x4,x5⟩,rfl,q0,q1,q2,q3,q4,r4,q5,r5⟩
theorem zzy {W : World} {v : Value} (h : Arg Try.prog W 30 v) : ∃ x : Ch,OpCh x ∧ rep (SW W) [] (cgE x) v := by
 obtain ⟨n,ds,h1,h2⟩ := h
 obtain ⟨t,rfl,ht⟩ := zz2 h1
 rw [zqV (by kernel_rfl)] at h2
 exact ⟨t,ht,h2⟩
def OpMs (x : Ms) : Prop := (-9223372036854775808 ≤ x.kd ∧ x.kd < 9223372036854775808) ∧ (-9223372036854775808 ≤ x.fr ∧ x.fr < 9223372036854775808) ∧ (-9223372036854775808 ≤ x.vw ∧ x.vw < 9223372036854775808) ∧ (-9223372036854775808 ≤ x.sq ∧ x.sq < 9223372036854775808) ∧ (-9223372036854775808 ≤ x.tm ∧ x.tm < 9223372036854775808) ∧ x.body.length ≤ 9223372036854775807 ∧ x.vs.length ≤ 9223372036854775807 ∧ (∀ y ∈ x.vs,OpSm y) ∧ x.chs.length ≤ 9223372036854775807 ∧ (∀ y ∈ x.chs,OpCh y)
theorem OpCh.big {x : Ch} (h : OpCh x) : BigC x := ⟨h.2.2.2.2.1,h.2.2.2.2.2.2.1,fun y hy=>⟨(h.2.2.2.2.2.2.2 y hy).2.2.2.1,(h.2.2.2.2.2.2.2 y hy).2.2.2.2.1⟩⟩
theorem OpMs.big {x : Ms} (h : OpMs x) : BigM x := ⟨h.2.2.2.2.2.1,h.2.2.2.2.2.2.1,h.2.2.2.2.2.2.2.2.1,fun y hy=>(h.2.2.2.2.2.2.2.2.2 y hy).big⟩
theorem zp7 {i : Int} (h : -9223372036854775808 ≤ i ∧ i < 9223372036854775808) : I64 i := ⟨h.1,by omega⟩
theorem OpSm.i {x : Sm} (h : OpSm x) : SmI x := ⟨zp7 h.1,zp7 h.2.1,zp7 h.2.2.1,zp7 h.2.2.2.1,zp7 h.2.2.2.2⟩
theorem zxC {n : Nat} {ds : List AV} (h : ofT Try.prog n 51 ds) : ∃ x : Sd,ds = sdC x ∧ SmI (sdS x) := by
 obtain ⟨m,a0,b0,rfl,h0,a1,b1,rfl,h1,rfl⟩ := zds Try.underlying51 h
 obtain ⟨x0,rfl,q0⟩ := zay Try.underlying3 h0
 obtain ⟨x1,rfl,q1⟩ := zwf h1
 exact ⟨⟨x0,x1.fr,x1.kd,x1.vw,x1.sq,x1.tm⟩,rfl,q1.i⟩
theorem zqs {W : World} {v : Value} (h : Arg Try.prog W 26 v) : ∃ tx bad sd,ScI tx bad sd ∧ rep (SW W) [] (.agg (scC tx bad sd)) v := by
 obtain ⟨n,ds,h1,h2⟩ := h
 obtain ⟨m,a0,b0,rfl,h0,a1,b1,rfl,h3,a2,b2,rfl,h4,rfl⟩ := zds Try.underlying26 h1
 obtain ⟨m0,es0,rfl,hl0,he0⟩ := zgb Try.underlying22 h0
 obtain ⟨tx,rfl,ht⟩ := zjF (f := sA) (Q := fun s : List UInt8=>s.length ≤ 9223372036854775807) fun x hx=>by
  obtain ⟨q1,q2⟩ := he0 x hx
  obtain ⟨s,hs,hi⟩ := zr3 Try.underlying9 q1
  exact ⟨s,zlt hs (q2.trans (by kernel_rfl)),hi⟩
 obtain ⟨m1,es1,rfl,hl1,he1⟩ := zgb Try.underlying23 h3
 obtain ⟨bad,rfl,hb⟩ := zjF (f := nA) (Q := fun _ : Int=>True) fun x hx=>by
  obtain ⟨q1,q2⟩ := he1 x hx
  obtain ⟨i,hi,_⟩ := zay Try.underlying3 q1
  exact ⟨i,zlt hi (q2.trans (by kernel_rfl)),trivial⟩
 obtain ⟨m2,es2,rfl,hl2,he2⟩ := zgb Try.underlying24 h4
 obtain ⟨sd,rfl,hs⟩ := zjF (f := sdE) (Q := fun x : Sd=>SmI (sdS x)) fun x hx=>by
  obtain ⟨q1,q2⟩ := he2 x hx
  obtain ⟨y,hy,hi⟩ := zxC q1
  exact ⟨y,by rw [zkH (q2.trans (by kernel_rfl)),hy];rfl,hi⟩
 rw [zqV (by kernel_rfl)] at h2
 rw [List.length_map] at hl0 hl1 hl2
 exact ⟨tx,bad,sd,⟨hl1,hl0,hl2,ht,hs⟩,h2⟩
end Go.Proofs.Ytaaogcnjfkgnoaa

namespace Go.Proofs.Ytaaogcnjfkgnoaa
open Go.RowKit
set_option maxHeartbeats 4000000
attribute [local go_sem] Nat.zero_add Nat.add_zero Nat.mul_one Int.toNat_natCast Int.natCast_zero Int.cast_ofNat_Int or_false false_or or_true true_or Nat.sub_zero Int.natCast_nonneg Int.toNat_zero Bool.true_and Bool.and_true Bool.false_and Bool.and_false Bool.true_or Bool.or_true Bool.false_or Bool.or_false Bool.not_true Bool.not_false Bool.not_not true_and and_true false_and and_false not_true_eq_false not_false_eq_true eq_self decide_true decide_false ne_eq implies_true forall_const true_implies false_implies Bool.true_eq_false Bool.false_eq_true List.map_cons List.map_nil List.all_cons List.all_nil List.length_cons List.length_nil List.length_map List.length_append List.nil_append List.cons_append List.set_cons_zero List.set_cons_succ List.set_nil List.drop_zero List.drop_succ_cons List.drop_nil List.take_zero List.take_succ_cons List.take_nil Option.map_some Option.map_none Option.isSome_some List.all_append List.all_map Function.comp_def decide_eq_true_eq Bool.and_eq_true beq_self_eq_true or_self and_self ite_true ite_false Nat.le_refl Bool.not_eq_true decide_not Bool.not_eq_true' decide_eq_false_iff_not Bool.not_eq_false Bool.or_eq_true if_true if_false ite_self u_roF u_cvF u_cvC u_ceT u_ceK z2m sm_it z6A z37 z5m z6p z3d sm_ro z3i sm_sl z6a z69 sm_fr z1F z13 sm_kd z28 z12 sm_vw z1u z0P sm_sq z1R z0S sm_tm z1q z0L z2R z2b z3k z63 z64 z29 z3g z1p z1y z2F z39 ce_it z6J z31 z4Z z6x z3A ce_ro z3t ce_sl z6d z6g ce_sq z1X z14 ce_vw z1C z0H ce_tm z1U z0W z33 z0v z0n ce_vs z1P z0X z36 z1t z3r z6F z6H z1T z2X z1z z2c z2M z2V cg_it z67 z3s z61 z6n z2U cg_ro z3E cg_sl z6b z6u cg_fr z1J z0N cg_vw z1Q z11 cg_st z1M z0G cg_rt z1H z17 cg_pf z1Z z0E cg_cs z1N z0I z32 z1I z3b z6y z6c z1V z3v z23 z1L z35 z3p ms_it z6o z3n z6C z6h z3h ms_ro z3e ms_sl z6E z6r ms_kd z1S z0R ms_fr z1v z0O ms_vw z25 z0U ms_sq z1s z0Z ms_tm z1G z0F z3c z0u z0o ms_vs z1E z0Y z68 z0Q z0x z3C z1W z3x z65 z6K z20 z3D z24 z27 z3q z2Y co_it z6M z2W z6D z6m z3m co_ro z3o co_sl z6w z66 co_sq z26 z0V co_tm z1B z0K z3z z0y z0p co_nl z1w z0M z3y z1o z3l z6N z6v z1K z3j z1Y z1O z2N z2Z sd_it z6e z3B z6z z6G z3a sd_ro z2T sd_sl z6I z6i sd_wh z21 z15 sd_fr z1x z0T sd_kd z1D z18 sd_vw z1A z0J sd_sq z22 z16 sd_tm z1r z10 z30 z38 z6f z5O u_bz u_bi1 u_bi2 u_bi3 u_bi4 u_bi5 u_bi6 u_bi7 s_B0 s_Bk s_Bs0 s_Bsk zas zge z8d z8K z92 w_0 w_Y0 w_B0 w_Bk w_Bs0 w_Bsk zfn z78 zaz zb2 z5M ltO_o ltO_r u_eqE zbl Nat.le_add_right List.append_assoc
attribute [local go_sem_proc] Nat.reduceAdd Nat.reduceSub Nat.reduceMul Nat.reduceLeDiff Nat.reduceLT Int.reduceEq Int.reduceNe Int.reduceLT Int.reduceLE Int.reduceAdd Int.reduceSub Int.reduceMul Int.reduceNeg Int.reduceToNat reduceCtorEq Nat.reduceEqDiff Nat.reduceBEq Nat.reduceGT
attribute [local go_sem_proc ↓] reduceIte
structure CeJ (c : Ce) : Prop where
 vw : I64 c.vw
 body : c.body.length ≤ 9223372036854775807
 vl : c.vs.length ≤ 9223372036854775807
 vs : ∀ x ∈ c.vs,SmI x
end Go.Proofs.Ytaaogcnjfkgnoaa

namespace Go.Proofs.Ytaaogcnjfkgnoaa
open Go.RowKit
set_option maxHeartbeats 4000000
attribute [local go_sem] Nat.zero_add Nat.add_zero Nat.mul_one Int.toNat_natCast Int.natCast_zero Int.cast_ofNat_Int or_false false_or or_true true_or Nat.sub_zero Int.natCast_nonneg Int.toNat_zero Bool.true_and Bool.and_true Bool.false_and Bool.and_false Bool.true_or Bool.or_true Bool.false_or Bool.or_false Bool.not_true Bool.not_false Bool.not_not true_and and_true false_and and_false not_true_eq_false not_false_eq_true eq_self decide_true decide_false ne_eq implies_true forall_const true_implies false_implies Bool.true_eq_false Bool.false_eq_true List.map_cons List.map_nil List.all_cons List.all_nil List.length_cons List.length_nil List.length_map List.length_append List.nil_append List.cons_append List.set_cons_zero List.set_cons_succ List.set_nil List.drop_zero List.drop_succ_cons List.drop_nil List.take_zero List.take_succ_cons List.take_nil Option.map_some Option.map_none Option.isSome_some List.all_append List.all_map Function.comp_def decide_eq_true_eq Bool.and_eq_true beq_self_eq_true or_self and_self ite_true ite_false Nat.le_refl Bool.not_eq_true decide_not Bool.not_eq_true' decide_eq_false_iff_not Bool.not_eq_false Bool.or_eq_true if_true if_false ite_self u_roF u_cvF u_cvC u_ceT u_ceK z2m sm_it z6A z37 z5m z6p z3d sm_ro z3i sm_sl z6a z69 sm_fr z1F z13 sm_kd z28 z12 sm_vw z1u z0P sm_sq z1R z0S sm_tm z1q z0L z2R z2b z3k z63 z64 z29 z3g z1p z1y z2F z39 ce_it z6J z31 z4Z z6x z3A ce_ro z3t ce_sl z6d z6g ce_sq z1X z14 ce_vw z1C z0H ce_tm z1U z0W z33 z0v z0n ce_vs z1P z0X z36 z1t z3r z6F z6H z1T z2X z1z z2c z2M z2V cg_it z67 z3s z61 z6n z2U cg_ro z3E cg_sl z6b z6u cg_fr z1J z0N cg_vw z1Q z11 cg_st z1M z0G cg_rt z1H z17 cg_pf z1Z z0E cg_cs z1N z0I z32 z1I z3b z6y z6c z1V z3v z23 z1L z35 z3p ms_it z6o z3n z6C z6h z3h ms_ro z3e ms_sl z6E z6r ms_kd z1S z0R ms_fr z1v z0O ms_vw z25 z0U ms_sq z1s z0Z ms_tm z1G z0F z3c z0u z0o ms_vs z1E z0Y z68 z0Q z0x z3C z1W z3x z65 z6K z20 z3D z24 z27 z3q z2Y co_it z6M z2W z6D z6m z3m co_ro z3o co_sl z6w z66 co_sq z26 z0V co_tm z1B z0K z3z z0y z0p co_nl z1w z0M z3y z1o z3l z6N z6v z1K z3j z1Y z1O z2N z2Z sd_it z6e z3B z6z z6G z3a sd_ro z2T sd_sl z6I z6i sd_wh z21 z15 sd_fr z1x z0T sd_kd z1D z18 sd_vw z1A z0J sd_sq z22 z16 sd_tm z1r z10 z30 z38 z6f z5O u_bz u_bi1 u_bi2 u_bi3 u_bi4 u_bi5 u_bi6 u_bi7 s_B0 s_Bk s_Bs0 s_Bsk zas zge z8d z8K z92 w_0 w_Y0 w_B0 w_Bk w_Bs0 w_Bsk zfn z78 zaz zb2 z5M ltO_o ltO_r u_eqE zbl Nat.le_add_right List.append_assoc
attribute [local go_sem_proc] Nat.reduceAdd Nat.reduceSub Nat.reduceMul Nat.reduceLeDiff Nat.reduceLT Int.reduceEq Int.reduceNe Int.reduceLT Int.reduceLE Int.reduceAdd Int.reduceSub Int.reduceMul Int.reduceNeg Int.reduceToNat reduceCtorEq Nat.reduceEqDiff Nat.reduceBEq Nat.reduceGT
attribute [local go_sem_proc ↓] reduceIte
theorem zms {c : Ch} (h : cgB c = true) : (encCg c).length ≤ 9223372036854775807 := Nat.le_trans (zfE h) (by decide)
theorem zzv {σ : Sg} {c : Ch} {n : Int} (h : SgOk σ) : SgOk { σ with T := (chF σ.T σ.R c n).2 } := by
 unfold chF
 split
 ·rename_i hc
  simp only [Bool.and_eq_true] at hc
  have hC := zoy hc.2.1
  have h3 := zsA (σ := σ) (n := n) (st := c.st) (vw := c.vw) c.cs σ.T c.st h fun x hx=>(hC.cs x hx).1
  split
  ·exact h3.of (zms hc.2.1)
  ·exact h3
 ·exact h
theorem zxf {ω : Wg} {c : Ch} {n : Int} (h : WgOk ω) : WgOk { ω with T := (chF ω.T ω.L c n).2 } := by
 unfold chF
 split
 ·have h3 := zqJ (ω := ω) (n := n) (st := c.st) (vw := c.vw) c.cs ω.T c.st h
  split
  ·exact h3.of
  ·exact h3
 ·exact h
theorem zzm {σ : Sg} {c : Ch} (h : SgOk σ) : SgOk { σ with T := (csS σ.T c).2.2 } := by
 unfold csS
 split
 ·rename_i hc
  split
  ·exact h.of (zms hc)
  ·exact h.of (zms hc)
 ·exact h
theorem zwc {ω : Wg} {c : Ch} (h : WgOk ω) : WgOk { ω with T := (csS ω.T c).2.2 } := by
 unfold csS
 split
 ·split
  ·exact h.of
  ·exact h.of
 ·exact h
theorem cgF_S (c : Ch) : ChS (cgF c) := by
 refine ⟨?_,?_,fun y hy=>?_⟩
 ·show (c.pf.take 66).length ≤ _
  simp;omega
 ·show ((c.cs.take 66).map ceF).length ≤ _
  simp;omega
 ·obtain ⟨z,_,rfl⟩ := List.mem_map.1 hy
  show (z.vs.take 66).length ≤ _
  simp;omega
theorem zoQ (c : Ch) (n : Nat) : ltO n ⟨1,z00,0,cgC c⟩ = true := zfu
theorem zkY (m : Nat) (tx : List (List UInt8)) (bad : List Int) (sd : List Sd) (c : Ch) (n : Int) (hm : 1000001 < m) (h : ScI tx bad sd) (hc : BigC c) :
  z5o m (.agg (scC tx bad sd)) (cgE c) (nA n) = some (bA true,[]) := by
 have hf := znB m c (by omega) hc.1 hc.2.1 hc.2.2
 have hci := cgF_S c
 have haw := zvx m hm
 rw [zbb,scB,cg_it]
 rw [cg_it,cg_it] at hf
 generalize cgF c = d at *
 cases ho : badL (bad.take 10) with
 |true =>
  obtain ⟨bd,hs⟩ := ztS m ⟨1,z00,0,cgC d⟩ tx bad sd hm (zoQ d) h ho
  have hb := bad_s m tx bad sd hm h.bl
  rw [ho] at hb
  simp (config := {maxSteps := 4000000,implicitDefEqProofs := false}) (disch := omega) only [go_sem,hf,hs,hb,haw,q_0,r_0,r_1,z55,zrS,zou,zvG,zrz]
 |false =>
  have hs := set2 m ⟨1,z00,0,cgC d⟩ tx bad sd hm (zoQ d) h ho
  have hok := zwg h ho
  have hA : GA [scX tx bad sd,⟨1,z00,0,cgC d⟩,scX tx (bad.take 10) sd] := GA_3 (zoQ d)
  generalize scn (bad.take 10) tx sd = q at *
  obtain ⟨⟨T,n7,bd,L⟩,ω⟩ := q
  dsimp only at *
  have e1 : T = ω.T := hok.t
  have e2 : L = ω.L := hok.l
  subst e1 e2
  have h1 := zuv m _ _ _ ⟨ω.T,n7,bd,ω.L⟩ ω [] hm hA (fun _=>rfl) hok.so hok.wo d n
  have hσ1 : SgOk ⟨(chF ω.T ω.L d n).2,n7,bd,ω.L⟩ := zzv (σ := ⟨ω.T,n7,bd,ω.L⟩) (c := d) (n := n) hok.so
  have hω1 : WgOk { ω with T := (chF ω.T ω.L d n).2 } := zxf (ω := ω) (c := d) (n := n) hok.wo
  have h2 := ztO m _ _ _ ⟨(chF ω.T ω.L d n).2,n7,bd,ω.L⟩ ω [] hm hA (fun _=>rfl) hσ1 hok.wo d n hci
  have h3 := stmt3 m _ _ _ ⟨(chF ω.T ω.L d n).2,n7,bd,ω.L⟩ { ω with T := (chF ω.T ω.L d n).2 } [] hm hA (fun _=>rfl) hσ1 hω1 d
  have hσ2 : SgOk ⟨(csS (chF ω.T ω.L d n).2 d).2.2,n7,bd,ω.L⟩ := zzm (σ := ⟨(chF ω.T ω.L d n).2,n7,bd,ω.L⟩) (c := d) hσ1
  have hω2 : WgOk { ω with T := (csS (chF ω.T ω.L d n).2 d).2.2 } := zwc (ω := { ω with T := (chF ω.T ω.L d n).2 }) (c := d) hω1
  have h4 := zzd m _ _ _ ⟨(csS (chF ω.T ω.L d n).2 d).2.2,n7,bd,ω.L⟩ { ω with T := (chF ω.T ω.L d n).2 } [⟨1,z01,0,smC (csS (chF ω.T ω.L d n).2 d).1⟩] hm hA (fun _=>by simp [z92]) hσ2 hω1 d hci
  have h5 := zz8 m _ _ _ ⟨(csS (chF ω.T ω.L d n).2 d).2.2,n7,bd,ω.L⟩ { ω with T := (csS (chF ω.T ω.L d n).2 d).2.2 } [⟨1,z01,0,smC (csS (chF ω.T ω.L d n).2 d).1⟩,⟨1,z01,0,smC (csS (chF ω.T ω.L d n).2 d).1⟩] hm hA (fun _=>by simp [z92]) hσ2 hω2
  simp only [List.append_nil] at h1 h2 h3
  rw [cg_it] at h1 h2 h3 h4
  rw [sm_it] at h3 h4
  simp (config := {maxSteps := 4000000,implicitDefEqProofs := false}) (disch := omega) only [go_sem,zsmO,hf,hs,haw,h1,h2,h3,h4,h5,q_0,q_1,q_9,q_Y0,q_Y1,q_Y9,q_B0,q_B1,q_Bs0,q_Bs1,q_len,r_0,r_1,z55,zrS,zou,zvG,zrz]
end Go.Proofs.Ytaaogcnjfkgnoaa

namespace Go.Proofs.Ytaaogcnjfkgnoaa
open Go.RowKit
theorem walk_ViewChanges (W : World) (v0 : Value) (h0 : Arg Try.prog W 26 v0) (v1 : Value) (h1 : Arg Try.prog W 30 v1) (v2 : Value) (h2 : Arg Try.prog W 3 v2) :
  Calls Try.prog 5 #[v0,v1,v2] W fun e W'=>e = .returned (.bool true) ∧ Below W.heap.size W W' := by
 obtain ⟨tx,bad,sd,hs,r0⟩ := zqs h0
 obtain ⟨c,hc,r1⟩ := zzy h1
 obtain ⟨n,hn,r2⟩ := zvZ h2
 exact zqI (zbp 1000002 [_,_,_] _ _ (zkY 1000002 tx bad sd c n (by omega) hs hc.big)) zuV (vs := [v0,v1,v2]) rfl (reps3 r0 r1 r2)
end Go.Proofs.Ytaaogcnjfkgnoaa

