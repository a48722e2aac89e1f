/-
  Texts laid together, part 6 of 7: laws of a walk over data, contracts of functions, each whole by itself.
-/
import Derived.Test.YtaaogcnjfkgnoaaMgd
import Derived.Test.YtaaogcnjfkgnoaaMge
import Derived.Test.YtaaogcnjfkgnoaaMgc
import Derived.Maps.Views
import Derived.DeepKeys4
set_option maxRecDepth 100000
set_option linter.unusedVariables false
set_option linter.unusedSimpArgs false
namespace Go.Proofs.Ytaaogcnjfkgnoaa
open Go.RowKit
def regO : Code → List Oper|.region _ ops _=>ops.toList|_=>[]
def opAt (k : Nat) (c : Code) : Oper := (regO c).getD k ⟨none, .move (.tmp 0), 0, "", #[], none⟩
noncomputable def itC : Code := (Try.f93.body).getD .skip
noncomputable def itR : Code := cdL (cdR (cdL (cdL (cdR (cdR (cdL (cdL (cdR (cdR (cdL (cdL (cdR (cdR (cdL (cdL (endC 1 itC))))))))))))))))
noncomputable def itIn : Code := .seq ItF_c (.seq (.region 6 (regO ItG_c ++ opAt 2 itR :: regO ItH_c).toArray false) (.cond (.tmp 23) .ret .skip))
noncomputable def itLp : Code := .seq ItE_c (.seq (.cond (.tmp 17) .skip (.exit 2)) (.seq (.block 3 itIn) ItI_c))
noncomputable def itOut : Code := .seq ItB_c (.seq (.cond (.tmp 10) .skip (.exit 0)) (.seq (.block 1 (.seq ItC_c (.seq ItD_c (.block 2 (.loop itLp))))) ItJ_c))
theorem ztb : endC 1 itC = .block 0 (.loop itOut) := by kernel_rfl
theorem zqR : ItG_c = .region 6 (regO ItG_c).toArray false := by kernel_rfl
theorem zr9 : ItH_c = .region 6 (regO ItH_c).toArray false := by kernel_rfl
theorem zA2 : (opAt 2 itR).op = .call { callee := .value (.tmp 20),args := #[.tmp 21],argTypes := #[54] } := by kernel_rfl
theorem zx2 : (opAt 2 itR).dst = some 22 := by kernel_rfl
theorem zzc : (opAt 2 itR).guard = none := by kernel_rfl
theorem gdG : ((regO ItG_c).all fun o=>o.guard.isNone) = true := by kernel_rfl
theorem gdH : ((regO ItH_c).all fun o=>o.guard.isNone) = true := by kernel_rfl
def numV : Value → Nat|.int _ i=>i.toNat|_=>0
theorem slotV {S : SS} {μ : List Value} {T : Tm} {N : FS} {a : Act} {i : Nat} {v : Value} (hf : Fr S μ N T a) (h : get T i = V v) : a.tmps.getD i undef = v := by
 have := hf.slot i
 rw [h] at this
 exact this.1
theorem zpC {S : SS} {μ : List Value} {N : Nat} {args : List AV} {vs : List Value} (hl : vs.length = args.length) (hargs : args.length ≤ N) (hv : ∀ (j : Nat) (d : AV) (v : Value),args[j]? = some d → vs[j]? = some v → rep S μ d v) :
  Fr S μ (F0 N) (argsT 0 args) { tmps := vs.toArray ++ Array.replicate (N - vs.toArray.size) undef,defers := [] } := by
 refine ⟨by simp;omega,rfl,fun i=>?_⟩
 rw [zj1]
 simp only [Nat.zero_le,if_true,Nat.sub_zero]
 cases hd : args[i]? with
 |none=>trivial
 |some d =>
  have hi : i < vs.length := by rw [hl];exact (List.getElem?_eq_some_iff.1 hd).1
  have := hv i d vs[i] hd (List.getElem?_eq_getElem hi)
  simp only [Option.getD_some]
  have e : (vs.toArray ++ Array.replicate (N - vs.toArray.size) undef).getD i undef = vs[i] := by
   rw [Array.getD_eq_getD_getElem?,Array.getElem?_append_left (by simpa using hi)]
   simp [hi]
  rw [e];exact this
theorem zs0 {H : List AObj} {o : AObj} : HLe (H ++ [o]) H := by
 have := HLe.take (H ++ [o]) H.length
 rwa [List.take_left' rfl] at this
section
variable {β : Type} {C : β → List AObj} {R : β → Ce → β} {b0 : β} {l : List Ch}
def foldC (R : β → Ce → β) (b : β) (cs : List Ce) : β := cs.foldl R b
def foldL (R : β → Ce → β) (b : β) (l : List Ch) : β := l.foldl (fun a c=>foldC R a c.cs) b
abbrev TO (lp : Nat) (l : List Ch) (k : Nat) : Tm := [(0,V (.func (.yield lp) #[] #[])),(7,chsA l),(8,nA l.length),(9,nA k)]
abbrev TJ (lp : Nat) (l : List Ch) (k : Nat) (cs : List Ce) (j : Nat) : Tm := [(0,V (.func (.yield lp) #[] #[])),(7,chsA l),(8,nA l.length),(9,nA k),(14,cesA cs),(15,nA cs.length),(16,nA j)]
def ItO (C : β → List AObj) (R : β → Ce → β) (b0 : β) (l : List Ch) (lp : Nat) (r : Loop) (w1 : World) (S1 : SS) (μ1 : List Value) (a : Act) (w : World) : Prop :=
 ∃ (k : Nat) (S : SS) (μ : List Value),k ≤ l.length ∧ Rel w S μ (C (foldL R b0 (l.take k))) ∧ Fr S μ (F0 26) (TO lp l k) a ∧ GOk GG S ∧ Step (C b0).length w1 S1 μ1 (C b0) w S μ (C (foldL R b0 (l.take k))) ∧ w.heap[lp]? = some (.loop r)
def ItJn (C : β → List AObj) (R : β → Ce → β) (b0 : β) (l : List Ch) (k : Nat) (b : β) (cs : List Ce) (lp : Nat) (r : Loop) (w1 : World) (S1 : SS) (μ1 : List Value) (a : Act) (w : World) : Prop :=
 ∃ (j : Nat) (S : SS) (μ : List Value),j ≤ cs.length ∧ Rel w S μ (C (foldC R b (cs.take j))) ∧ Fr S μ (F0 26) (TJ lp l k cs j) a ∧ GOk GG S ∧ Step (C b0).length w1 S1 μ1 (C b0) w S μ (C (foldC R b (cs.take j))) ∧ w.heap[lp]? = some (.loop r)
theorem zpz {b : β} {cs : List Ce} {j : Nat} (h : j < cs.length) : foldC R b (cs.take (j + 1)) = R (foldC R b (cs.take j)) cs[j] := by
 unfold foldC
 rw [List.take_succ_eq_append_getElem h,List.foldl_append]
 rfl
theorem zpY {b : β} {k : Nat} (h : k < l.length) : foldL R b (l.take (k + 1)) = foldC R (foldL R b (l.take k)) l[k].cs := by
 unfold foldL
 rw [List.take_succ_eq_append_getElem h,List.foldl_append]
 rfl
theorem zxp {n : Nat} (cs : List Ce) : ltT n (cesA cs) = true := rfl
theorem zwK {n : Nat} (l : List Ch) : ltT n (chsA l) = true := rfl
variable {w1 : World} {S1 : SS} {μ1 : List Value} {lp K d b : Nat} {r : Loop} {T0 : Tm} {tm : Array Value}
theorem zq6 (hn : ∀ a, (C a).length = (C b0).length) (ho : ∀ a, (C a).all (ltO (C b0).length) = true) (hb : ∀ a, (C a)[b]? = some ⟨1, z4p, 0, [chsA l]⟩) (hl : l.length ≤ 1000) (hc : ∀ c ∈ l, c.cs.length ≤ 1000)
    (hround : ∀ (a : β) (x : Ce) (vs : List Value) (w : World) (S : SS) (μ : List Value), Rel w S μ (C a) → Fr S μ (F0 K) T0 ⟨tm, []⟩ → GOk GG S → w.heap[lp]? = some (.loop r) → vs.length = 1 → (∀ (j : Nat) (d : AV) (v : Value), [ceE x][j]? = some d → vs[j]? = some v → rep S μ d v) →
      YieldAt Fence.wide (d - 1) Try.prog lp vs.toArray w (YPost lp r w S μ (C a) fun e H2 => e = .normal ∧ H2 = C (R a x)))
    (hm : 0 < d) {us : List Value} (hr : Rel w1 S1 μ1 (C b0)) (hf : Fr S1 μ1 (F0 K) T0 ⟨tm, []⟩) (hg : GOk GG S1) (hlp : w1.heap[lp]? = some (.loop r)) (hus : us.length = 1)
    (hu : ∀ (j : Nat) (x : AV) (v : Value), [OP b 0][j]? = some x → us[j]? = some v → rep S1 μ1 x v) :
    CallsIn Fence.wide d Try.prog 93 (.func (.yield lp) #[] #[] :: us).toArray w1 fun e w' => ∃ v, e = .returned v ∧ IPost lp r w1 S1 μ1 (C b0) (fun e H2 => e = .normal ∧ H2 = C (foldL R b0 l)) w' := by
  have hnl : ∀ r cs t p, (Obj.loop r) ≠ .cells cs t p := fun _ _ _ _ e => by cases e
  refine callsIn_of_wp Try.func93 rfl trivial ?_
  have hfr0 : Fr S1 μ1 (F0 26) (argsT 0 [V (.func (.yield lp) #[] #[]), OP b 0]) { tmps := (.func (.yield lp) #[] #[] :: us).toArray ++ Array.replicate (26 - (.func (.yield lp) #[] #[] :: us).toArray.size) undef, defers := [] } :=
    zpC (by simp [hus]) (by simp) (by
      intro j x v hx hv
      cases j with
      | zero => simp at hx hv; subst hx hv; exact ⟨rfl, rfl⟩
      | succ j => exact hu j x v (by simpa using hx) (by simpa using hv))
  rw [Try.ntmps93]
  have hA := itA_s (H := C b0) (l := l) (Y := V (.func (.yield lp) #[] #[])) 1000 b (hb b0)
  refine ziQ (n := (C b0).length) MIX (zzu 1000) 1 itC ItA_h ⟨C b0, argsT 0 [V (.func (.yield lp) #[] #[]), OP b 0]⟩ (by kernel_rfl) hA hr hfr0 hg ?_ (Nat.le_refl _)
  rintro a w ⟨S, μ, _, hrA, hfA, hgA, hstA⟩
  rw [ztb]
  refine wpIn_block ?_
  refine wpIn_loop (ItO C R b0 l lp r w1 S1 μ1) (fun a _ => l.length - numV (a.tmps.getD 9 undef)) ⟨0, S, μ, Nat.zero_le _, hrA, hfA, hgA, hstA, hstA.keeps hr hlp (hnl _)⟩ ?_
  rintro a w ⟨k, S, μ, hk, hr2, hf2, hg2, hst2, hl2⟩
  have h9 : a.tmps.getD 9 undef = .int .i64 k := slotV hf2 rfl
  unfold itOut
  refine wpIn_seq (wpIn_mono (zl5 (rs := [0, 7, 8, 9, 10]) MIX (zA8 1000) (itB_s 1000 (k : Int) (l.length : Int)) hr2 hf2 hg2) ?_)
  rintro e a3 w3 ⟨rfl, S3, μ3, hr3, hf3, hg3, hst3⟩
  have hl3 := hst3.keeps hr2 hl2 (hnl _)
  have hst3' := hst2.trans (hst3.less (Nat.le_of_eq (hn _).symm))
  have h10 : a3.eval (.tmp 10) = .bool (decide ((k : Int) < l.length)) := slotV hf3 rfl
  simp only [Exit.then]
  refine wpIn_seq (wpIn_cond (t := decide ((k : Int) < l.length)) h10 ?_)
  by_cases hlt : k < l.length
  · rw [decide_eq_true (by omega), if_pos rfl]
    refine wpIn_skip ?_
    simp only [Exit.then]
    refine wpIn_seq (wpIn_block ?_)
    refine wpIn_seq (wpIn_mono (zl5 (rs := [0, 4, 7, 8, 9]) MIX (zzC 1000) (itC_s (Y := V (.func (.yield lp) #[] #[])) (a8 := nA l.length) (H := C (foldL R b0 (l.take k))) 1000 k hlt) hr3 (hf3.some (by simp [_root_.Go.Proofs.Ytaaogcnjfkgnoaa.get])) hg3) ?_)
    rintro e a4 w4 ⟨rfl, S4, μ4, hr4, hf4, hg4, hst4⟩
    have hl4 := hst4.keeps hr3 hl3 (hnl _)
    have hst4' := hst3'.trans (hst4.less (Nat.le_of_eq (hn _).symm))
    simp only [Exit.then]
    have hf4' : Fr S4 μ4 (F0 26) [(0, V (.func (.yield lp) #[] #[])), (4, OP (C (foldL R b0 (l.take k))).length 0), (7, chsA l), (8, nA l.length), (9, nA k)] a4 := hf4
    refine wpIn_seq (wpIn_mono (zl5 (rs := [0, 7, 8, 9, 14, 15, 16]) MIX (zyC 1000) (itD_s (Y := V (.func (.yield lp) #[] #[])) (a7 := chsA l) (a8 := nA l.length) (a9 := nA k) (H := C (foldL R b0 (l.take k))) 1000 l[k]) hr4 hf4' hg4) ?_)
    rintro e a5 w5 ⟨rfl, S5, μ5, hr5, hf5, hg5, hst5⟩
    have hl5 := hst5.keeps hr4 hl4 (hnl _)
    have hst5' := hst4'.trans (hst5.less (by have := hn (foldL R b0 (l.take k)); simp only [List.length_append]; omega))
    simp only [Exit.then]
    have hle : Le ⟨C (foldL R b0 (l.take k)) ++ [chO l[k]], [(0, V (.func (.yield lp) #[] #[])), (7, chsA l), (8, nA l.length), (9, nA k), (14, cesA l[k].cs), (15, nA l[k].cs.length), (16, nA 0)]⟩ ⟨C (foldL R b0 (l.take k)), TJ lp l k l[k].cs 0⟩ :=
      ⟨zs0, by rw [hn]; exact ho _, ⟨rfl, rfl, rfl, zwK l, rfl, rfl, rfl, rfl, rfl, zxp _, rfl, rfl, rfl, rfl, trivial⟩⟩
    refine wpIn_block ?_
    refine wpIn_loop (ItJn C R b0 l k (foldL R b0 (l.take k)) l[k].cs lp r w1 S1 μ1) (fun a _ => l[k].cs.length - numV (a.tmps.getD 16 undef)) ⟨0, S5, _, Nat.zero_le _, hle.rel hr5, hle.fr hf5, hg5, hst5'.trans ((hle.step (Nat.le_of_eq (hn _).symm) _ _ _)), hl5⟩ ?_
    rintro a w ⟨j, S, μ, hj, hr2, hf2, hg2, hst2, hl2⟩
    have h16 : a.tmps.getD 16 undef = .int .i64 j := slotV hf2 rfl
    obtain ⟨x0, hx0⟩ : ∃ x0, foldC R (foldL R b0 (l.take k)) (l[k].cs.take j) = x0 := ⟨_, rfl⟩
    have hck := hc l[k] (List.getElem_mem hlt)
    unfold itLp
    refine wpIn_seq (wpIn_mono (zl5 (rs := [0, 7, 8, 9, 14, 15, 16, 17]) MIX (zzn 1000) (itE_s (Y := V (.func (.yield lp) #[] #[])) (a7 := chsA l) (a8 := nA l.length) (a9 := nA k) (a14 := cesA l[k].cs) 1000 (j : Int) (l[k].cs.length : Int)) hr2 hf2 hg2) ?_)
    rintro e a3 w3 ⟨rfl, S3, μ3, hr3, hf3, hg3, hst3⟩
    have hl3 := hst3.keeps hr2 hl2 (hnl _)
    have hst3' := hst2.trans (hst3.less (Nat.le_of_eq (hn _).symm))
    have h17 : a3.eval (.tmp 17) = .bool (decide ((j : Int) < l[k].cs.length)) := slotV hf3 rfl
    simp only [Exit.then]
    refine wpIn_seq (wpIn_cond (t := decide ((j : Int) < l[k].cs.length)) h17 ?_)
    by_cases hjt : j < l[k].cs.length
    · rw [decide_eq_true (by omega), if_pos rfl]
      refine wpIn_skip ?_
      simp only [Exit.then]
      refine wpIn_seq (wpIn_block ?_)
      unfold itIn
      refine wpIn_seq (wpIn_mono (zl5 (rs := [0, 6, 7, 8, 9, 14, 15, 16]) MIX (zAw 1000) (itF_s (Y := V (.func (.yield lp) #[] #[])) (a7 := chsA l) (a8 := nA l.length) (a9 := nA k) (a15 := nA l[k].cs.length) (H := C (foldC R (foldL R b0 (l.take k)) (l[k].cs.take j))) 1000 j hjt) hr3 (hf3.some (by simp [_root_.Go.Proofs.Ytaaogcnjfkgnoaa.get])) hg3) ?_)
      rintro e a4 w4 ⟨rfl, S4, μ4, hr4, hf4, hg4, hst4⟩
      have hl4 := hst4.keeps hr3 hl3 (hnl _)
      have hst4' := hst3'.trans (hst4.less (Nat.le_of_eq (hn _).symm))
      simp only [Exit.then]
      have hf4' : Fr S4 μ4 (F0 26) [(0, V (.func (.yield lp) #[] #[])), (6, OP (C (foldC R (foldL R b0 (l.take k)) (l[k].cs.take j))).length 0), (7, chsA l), (8, nA l.length), (9, nA k), (14, cesA l[k].cs), (15, nA l[k].cs.length), (16, nA j)] a4 := hf4
      have hG := itG_s (Y := V (.func (.yield lp) #[] #[])) (a7 := chsA l) (a8 := nA l.length) (a9 := nA k) (a14 := cesA l[k].cs) (a15 := nA l[k].cs.length) (H := C (foldC R (foldL R b0 (l.take k)) (l[k].cs.take j))) 1000 l[k].cs[j] (nA j)
      unfold ItG at hG
      rw [zqR] at hG
      refine wpIn_seq (wpIn_region_lit ?_)
      refine zqn (rs := [0, 7, 8, 9, 14, 15, 16, 20, 21]) (zyJ 1000) rfl gdG hG hr4 hf4' hg4 ?_
      rintro a5 w5 ⟨S5, μ5, hr5, hf5, hg5, hst5⟩
      have hl5 := hst5.keeps hr4 hl4 (hnl _)
      have hst5' := hst4'.trans (hst5.less (by have := hn (foldC R (foldL R b0 (l.take k)) (l[k].cs.take j)); simp only [List.length_append]; omega))
      have hle : Le ⟨C (foldC R (foldL R b0 (l.take k)) (l[k].cs.take j)) ++ [ceO l[k].cs[j]], [(0, V (.func (.yield lp) #[] #[])), (7, chsA l), (8, nA l.length), (9, nA k), (14, cesA l[k].cs), (15, nA l[k].cs.length), (16, nA j), (20, V (.func (.yield lp) #[] #[])), (21, ceE l[k].cs[j])]⟩ ⟨C (foldC R (foldL R b0 (l.take k)) (l[k].cs.take j)), [(0, V (.func (.yield lp) #[] #[])), (7, chsA l), (8, nA l.length), (9, nA k), (14, cesA l[k].cs), (15, nA l[k].cs.length), (16, nA j), (20, V (.func (.yield lp) #[] #[])), (21, ceE l[k].cs[j])]⟩ :=
        ⟨zs0, by rw [hn]; exact ho _, ⟨rfl, rfl, rfl, zwK l, rfl, rfl, rfl, rfl, rfl, zxp _, rfl, rfl, rfl, rfl, rfl, rfl, rfl, rfl, trivial⟩⟩
      have hr5 := hle.rel hr5
      have hf5 := hle.fr hf5
      have hst5' := hst5'.trans (hle.step (Nat.le_of_eq (hn _).symm) _ _ _)
      generalize μ5.take (C (foldC R (foldL R b0 (l.take k)) (l[k].cs.take j))).length = μ6 at *
      have hfc := hf.ext (Step.toExt hr hst5')
      unfold wpListIn
      rw [if_pos (by simp [Region.wanted, zzc])]
      have e21 := hf5.slot 21
      have hy := hround (foldC R (foldL R b0 (l.take k)) (l[k].cs.take j)) l[k].cs[j] [a5.tmps.getD 21 undef] w5 S5 μ6 hr5 hfc hg5 hl5 rfl (by
        intro i x v hx hv
        match i, hx, hv with
        | 0, hx, hv => simp at hx hv; subst hx hv; simpa [_root_.Go.Proofs.Ytaaogcnjfkgnoaa.get] using e21)
      refine ztG (R := YPost lp r w5 S5 μ6 (C (foldC R (foldL R b0 (l.take k)) (l[k].cs.take j))) _) zA2 (slotV hf5 rfl) (by simpa [Act.eval] using hy) ?_
      rintro e w' ⟨w7, S7, μ7, H7, x, ⟨rfl, rfl⟩, hr7, hst7, hl7, hx7⟩
      rw [← zpz (R := R) (b := foldL R b0 (l.take k)) hjt] at hr7 hst7
      have hst7' := hst5'.trans (hst7.less (Nat.le_of_eq (hn _).symm))
      have hg7 := hg5.ext hst7.still
      have hf7 := hf5.ext (Step.toExt hr5 hst7)
      rw [zx2]
      obtain ⟨rfl, rfl⟩ : e = .returned (.bool true) ∧ w' = w7 := by
        rcases hx7 with ⟨_, q1, q2⟩ | ⟨c, q, _⟩
        · exact ⟨q1, q2⟩
        · cases q
      refine ⟨_, rfl, ?_⟩
      have hput := hf7.put (some 22) (fun i e => by cases e; decide) (v := bA true) (u := .bool true) ⟨rfl, rfl⟩
      have hH := itH_s (Y := V (.func (.yield lp) #[] #[])) (a7 := chsA l) (a8 := nA l.length) (a9 := nA k) (a14 := cesA l[k].cs) (a15 := nA l[k].cs.length) (H := C (foldC R (foldL R b0 (l.take k)) (l[k].cs.take (j + 1)))) 1000 (nA j) true
      unfold ItH at hH
      rw [zr9] at hH
      refine ztn (rs := [0, 7, 8, 9, 14, 15, 16, 23]) (zzj 1000) rfl gdH hH hr7 (hput.some (by simp [_root_.Go.Proofs.Ytaaogcnjfkgnoaa.get, ASt.set, tput])) hg7 ?_
      rintro a8 w8 ⟨S8, μ8, hr8, hf8, hg8, hst8⟩
      have hl8 := hst8.keeps hr7 hl7 (hnl _)
      have hst8' := hst7'.trans (hst8.less (Nat.le_of_eq (hn _).symm))
      simp only [Exit.then]
      refine wpIn_cond (t := false) (slotV hf8 rfl) ?_
      rw [if_neg (by decide)]
      refine wpIn_skip ?_
      simp only [Exit.inBlock, Exit.then]
      refine wpIn_mono (zl5 (rs := [0, 7, 8, 9, 14, 15, 16]) MIX (zze 1000) (itI_s (Y := V (.func (.yield lp) #[] #[])) (a7 := chsA l) (a8 := nA l.length) (a9 := nA k) (a14 := cesA l[k].cs) (a15 := nA l[k].cs.length) 1000 (j : Int) (by omega) (by omega)) hr8 (hf8.some (by simp [_root_.Go.Proofs.Ytaaogcnjfkgnoaa.get])) hg8) ?_
      rintro e a9 w9 ⟨rfl, S9, μ9, hr9, hf9, hg9, hst9⟩
      have hl9 := hst9.keeps hr8 hl8 (hnl _)
      have e9 := hst8'.trans (hst9.less (Nat.le_of_eq (hn _).symm))
      have h49 : a9.tmps.getD 16 undef = .int .i64 ((j : Int) + 1) := slotV hf9 rfl
      refine ⟨⟨j + 1, S9, μ9, hjt, hr9, hf9.some (by simp [_root_.Go.Proofs.Ytaaogcnjfkgnoaa.get]), hg9, e9, hl9⟩, ?_⟩
      rw [h49, h16]
      simp only [numV]
      omega
    · rw [decide_eq_false (by omega)]
      refine wpIn_exit ?_
      simp only [Exit.then, Exit.inBlock, ↓reduceIte]
      obtain rfl : j = l[k].cs.length := by omega
      rw [List.take_length] at hr3 hst3'
      rw [← zpY hlt] at hr3 hst3'
      refine wpIn_mono (zl5 (rs := [0, 7, 8, 9]) MIX (zAE 1000) (itJ_s (Y := V (.func (.yield lp) #[] #[])) (a7 := chsA l) (a8 := nA l.length) 1000 (k : Int) (by omega) (by omega)) hr3 (hf3.some (by simp [_root_.Go.Proofs.Ytaaogcnjfkgnoaa.get])) hg3) ?_
      rintro e a9 w9 ⟨rfl, S9, μ9, hr9, hf9, hg9, hst9⟩
      have hl9 := hst9.keeps hr3 hl3 (hnl _)
      have e9 := hst3'.trans (hst9.less (Nat.le_of_eq (hn _).symm))
      have h49 : a9.tmps.getD 9 undef = .int .i64 ((k : Int) + 1) := slotV hf9 rfl
      refine ⟨⟨k + 1, S9, μ9, hlt, hr9, hf9.some (by simp [_root_.Go.Proofs.Ytaaogcnjfkgnoaa.get]), hg9, e9, hl9⟩, ?_⟩
      rw [h49, h9]
      simp only [numV]
      omega
  · rw [decide_eq_false (by omega)]
    refine wpIn_exit ?_
    simp only [Exit.then, Exit.inBlock, ↓reduceIte]
    obtain rfl : k = l.length := by omega
    rw [List.take_length] at hr3 hst3'
    exact ⟨hf3.nodef, _, results_none rfl _ _ _, _, rfl, w3, S3, _, _, .normal, ⟨rfl, rfl⟩, hr3, hst3', hl3, .inl ⟨rfl, rfl⟩⟩
end
end Go.Proofs.Ytaaogcnjfkgnoaa

namespace Go.Proofs.Ytaaogcnjfkgnoaa
open Go.RowKit
section
variable {P : Program} {G : Gl} {n d : Nat} {w w0 : World} {S S0 : SS} {μ : List Value} {H : List AObj}
theorem zo9 {fnn : Func} {rs : List ResultVar} {X : AV} {T : Tm} {a : Act} {D K : Nat} (hrs : fnn.results.toList = rs) (hr : Rel w S μ H) (hf : Fr S μ ⟨K,[⟨.collected D,#[]⟩]⟩ T a) (hD : w.heap[D]? = some (.deferred (some []))) (hX : resC P H T rs fun ds=>ro H (oneOf ds) = X) (hl : ltT 0 X = true)
  (hst : Step 0 w0 S0 [] [] w S μ H) (h0 : w0.heap.size ≤ D) : LeavesInM Fence.wide d P fnn a.tmps (CPost w0 S0 [] [] fun r H'=>r = X ∧ H' = []) a.defers .returning w := by
 have hnd : ∀ r cs t p,(Obj.deferred r) ≠ .cells cs t p := fun _ _ _ _ e=>by cases e
 rw [hf.nodef]
 refine ⟨by simp, .inl ⟨D,_,rfl,run_takeDeferred hD,?_⟩⟩
 have hr2 := hr.touch (w' := w.putObj D (.deferred none)) D (zcy.of hD (hnd _)) (z9N _ _ _)
 obtain ⟨v,r,hrun,hrep,hk⟩ := zg3 (P := P) hrs hr2 hf (K := fun r=>ro H r = X) hX
 have hrepX : rep S μ X v := by rw [← hk];exact hrep.toRo hr2
 have hle : HLe H [] := by cases H <;> trivial
 refine ⟨v,hrun,v,X,[],S,μ.take 0,rfl,⟨rfl,rfl⟩,hr2.le hle rfl,hrepX.take hl,?_⟩
 exact (hst.touch (w' := w.putObj D (.deferred none)) (l := D) h0 rfl rfl rfl (Nat.le_of_eq (z8d w D _).symm) (z9N _ _ _)).trans (Le.step (s := ⟨H,[]⟩) (s' := ⟨[],[]⟩) ⟨hle,rfl,trivial⟩ (Nat.le_refl _) _ _ _)
theorem zoc {rs : List ResultVar} {e : Exit} {s : ASt} {X : AV} {H' : List AObj} (h : rawFK P n rs e s = some (X,H')) (hp : ∀ u,X ≠ PN u) : (e = .normal ∨ e = .ret) ∧ (resC P s.H s.T rs fun ds=>ro s.H (oneOf ds) = X) := by
 have key : (resEK P s.H s.T rs fun ds=>some (ro s.H (oneOf ds),s.H)) = some (X,H') → resC P s.H s.T rs fun ds=>ro s.H (oneOf ds) = X := fun q=>by
  rw [zfQ] at q
  exact z9W (fun ds w=>by cases w;rfl) (zjX q)
 cases e with
 |normal=>exact ⟨.inl rfl,key h⟩
 |ret=>exact ⟨.inr rfl,key h⟩
 |exit id=>cases h
 |goto l=>cases h
 |panic ch =>
  exfalso
  have h : chE ch (fun u=>some (PN u,s.H)) = some (X,H') := h
  unfold chE at h
  split at h <;> cases h
  exact hp _ rfl
 |outgrown=>cases h
end
noncomputable def atC : Code := (Try.f78.body).getD .skip
theorem zt9 : endC 4 atC = .seq (.seq AtB_c (.block 0 (.rangeFunc (.tmp 13) #[14] (.region 5 (regO (cdL AtR_c)).toArray false) (cdR AtR_c)))) AtC_c := by kernel_rfl
theorem zqT : AtR_c = .seq (.region 5 (regO (cdL AtR_c)).toArray false) (cdR AtR_c) := by kernel_rfl
theorem ztf : flatC (cdR AtR_c) = true := by kernel_rfl
abbrev T0a : Tm := [(3,OP 0 0),(4,OP 1 0),(5,OP 2 0),(6,OP 3 0),(7,OP 4 0)]
noncomputable abbrev recA (fn D : Nat) (tm : Array Value) : Loop := ⟨.ready,none,fn,tm,[14].toArray, .region 5 (regO (cdL AtR_c)).toArray false,cdR AtR_c,D⟩
theorem zrZ {d l : Nat} {r : Loop} {vs : Array Value} {w : World} {S : SS} {μ : List Value} {H : List AObj} {Q Q' : Exit → List AObj → Prop} (hq : ∀ e H2,Q e H2 → Q' e H2) (h : YieldAt Fence.wide d Try.prog l vs w (YPost l r w S μ H Q)) : YieldAt Fence.wide d Try.prog l vs w (YPost l r w S μ H Q') := by
 obtain ⟨fn,tmps,asg,bd,y1,y2⟩ := h
 refine ⟨fn,tmps,asg,bd,y1,y2.mono ?_⟩
 rintro e w' ⟨w2,S',μ',H',x,q,rest⟩
 exact ⟨w2,S',μ',H',x,hq _ _ q,rest⟩
theorem zrQ {e : Exit} (h : bA true = xA e) : e = .normal := by
 cases e <;> simp [xA] at h
 rfl
theorem zu1 {q : Int} {l : List Ch} {lp fn D d : Nat} {tm : Array Value} (a : Int × Co) (x : Ce) (vs : List Value) (w : World) (S : SS) (μ : List Value) (hr : Rel w S μ (atH q l a.1 a.2)) (hf : Fr S μ (F0 19) T0a ⟨tm,[]⟩) (hg : GOk GG S) (hl : w.heap[lp]? = some (.loop (recA fn D tm))) (h1 : vs.length = 1)
  (hv : ∀ (j : Nat) (d : AV) (v : Value),[ceE x][j]? = some d → vs[j]? = some v → rep S μ d v) :
  YieldAt Fence.wide d Try.prog lp vs.toArray w (YPost lp (recA fn D tm) w S μ (atH q l a.1 a.2) fun e H2=>e = .normal ∧ H2 = atH q l (keepC q a x).1 (keepC q a x).2) := by
 have hx := atR_s 1000 q a.1 a.2 l x
 unfold AtR at hx
 rw [zqT] at hx
 refine zrZ ?_ (zm2 (ps := [14]) (xs := [ceE x]) (T := T0a) (zAa 1000) rfl hr hf hg (by decide) hl (by rw [h1];rfl) rfl hv ztf rfl hx)
 rintro e H2 ⟨q1,q2⟩
 exact ⟨zrQ q1,q2⟩
def atF (q : Int) (l : List Ch) : Co := (foldL (keepC q) (-1,co0 q) l).2
theorem at_c (q : Int) (l : List Ch) (hl : l.length ≤ 1000) (hc : ∀ c ∈ l,c.cs.length ≤ 1000) : ACp Try.prog GG 78 [chsA l,nA q] (.agg (coC (atF q l))) := by
 have hnd : ∀ r cs t p,(Obj.deferred r) ≠ .cells cs t p := fun _ _ _ _ e=>by cases e
 refine ⟨by kernel_rfl,?_⟩
 intro w S μ vs hr hg hlen hv
 have hμ : μ = [] := List.eq_nil_of_length_eq_zero hr.len
 subst hμ
 refine (callsIn_wide (n := 5)).1 ?_
 refine callsIn_of_wp_marks Try.func78 rfl trivial ?_
 rw [Try.ntmps78]
 have hfr := zpC (S := S) (μ := []) (N := 19) (args := [chsA l,nA q]) (vs := vs) hlen (by simp) hv
 refine ziQ (n := 0) MIX (zyX 1000) 4 atC AtA_h ⟨[],argsT 0 [chsA l,nA q]⟩ (by kernel_rfl) (atA_s 1000 q (chsA l)) hr hfr hg ?_ (Nat.le_refl _)
 rintro a2 w2 ⟨S2,μ2,_,hr2,hf2,hg2,hst2⟩
 rw [zt9]
 refine wpIn_seq (wpIn_seq (wpIn_mono (zl5 (rs := [3,4,5,6,7,13]) MIX (zyN 1000) (atB_s 1000 q (-1) (co0 q) l) hr2 hf2 hg2) ?_))
 rintro e a3 w3 ⟨rfl,S3,μ3,hr3,hf3,hg3,hst3⟩
 simp only [Exit.then]
 have hst3' : Step 0 w S [] [] w3 S3 μ3 (atH q l (-1) (co0 q)) := hst2.trans (hst3.less (Nat.zero_le _))
 refine wpIn_block ?_
 have hlaw := znY (d := 4) (P := Try.prog) (G := GG) (g := .tmp 13) (ps := [14]) (assign := .region 5 (regO (cdL AtR_c)).toArray false) (body := cdR AtR_c) (N := 19) (f := 93) (caps := [OP 5 0]) (q2 := 0) (Q := fun e H2=>e = .normal ∧ H2 = atH q l (foldL (keepC q) (-1,co0 q) l).1 (atF q l)) hr3 hf3 hg3 rfl (by kernel_rfl) ?_
 refine wpIn_mono hlaw ?_
 ·rintro e a5 w5 ⟨S5,μ5,H5,⟨rfl,rfl⟩,hr5,hst5,hf5,hD5,hsz⟩
  simp only [Exit.inBlock,Exit.then]
  have hst5' := hst3'.trans (hst5.less (Nat.zero_le _))
  have hx := atC_s 1000 q (foldL (keepC q) (-1,co0 q) l).1 (atF q l) l [⟨.collected w3.heap.size,#[]⟩]
  refine wpIn_wide.2 (wp_mono (zb0 (n := 6) MIX (zzV 1000) AtC_c AtC_h ⟨atH q l (foldL (keepC q) (-1,co0 q) l).1 (atF q l),[(4,OP 1 0),(5,OP 2 0)]⟩ _ (Nat.le_refl _) hx w5 S5 μ5 a5 hr5 (hf5.some (by simp [_root_.Go.Proofs.Ytaaogcnjfkgnoaa.get])) (hg3.ext hst5.still)) ?_)
  rintro e a6 w6 ⟨s6,S6,μ6,hq6,hr6,hf6,hst6⟩
  obtain ⟨he6,hX6⟩ := zoc (rs := [.cell 4 73]) hq6 (fun u h=>by cases h)
  have hend := zo9 (P := Try.prog) (d := 5) (fnn := Try.f78) (rs := [.cell 4 73]) (X := .agg (coC (atF q l))) rfl hr6 hf6 (hst6.keeps hr5 hD5 (hnd _)) hX6 rfl (hst5'.trans (hst6.less (Nat.zero_le _))) hst3'.size
  rcases he6 with rfl|rfl
  ·exact hend
  ·exact hend
 ·intro lp D fn w1 us hr1 hl1 hus hu
  exact zq6 (β := Int × Co) (C := fun a=>atH q l a.1 a.2) (R := keepC q) (b0 := (-1,co0 q)) (b := 5) (r := recA fn D a3.tmps) (T0 := T0a) (tm := a3.tmps) (K := 19) (fun a=>rfl) (fun a=>rfl) (fun a=>rfl) hl hc (fun a x vs w S μ h1 h2 h3 h4 h5 h6=>zu1 a x vs w S μ h1 h2 h3 h4 h5 h6) (by decide) hr1 ⟨hf3.size,rfl,(hf3.some (T' := T0a) (by simp [_root_.Go.Proofs.Ytaaogcnjfkgnoaa.get])).slot⟩ hg3 hl1 hus hu
end Go.Proofs.Ytaaogcnjfkgnoaa

namespace Go.Proofs.Ytaaogcnjfkgnoaa
open Go.RowKit
def FitL (l : List Ch) : Prop := l.length ≤ 1000 ∧ ∀ c ∈ l,c.cs.length ≤ 1000
noncomputable def zf4 (m : Nat) : List AV → RO := orac (ι := List Ch × Int) (fun p=>[chsA p.1,nA p.2]) (fun p=>.agg (coC (atF p.2 p.1))) (fun p=>FitL p.1)
theorem zna (m : Nat) : ∀ args X H',zf4 m args = some (X,H') → ACp Try.prog GG 78 args X := zpF (by
 rintro ⟨l,q⟩ h
 exact at_c q l h.1 h.2)
theorem zsP {x y : Sm} (h : smE x = smE y) : x = y := by
 cases x;cases y
 unfold smE smC at h
 injection h with h
 simp only [List.cons.injEq,and_true] at h
 obtain ⟨a,b,c,d,e⟩ := h
 rw [zhJ a,zhJ b,zhJ c,zhJ d,zhJ e]
theorem zjv {α : Type} {f : α → AV} (hf : ∀ {x y},f x = f y → x = y) : ∀ {l k : List α},l.map f = k.map f → l = k
 |[],[],_=>rfl
 |[],_ :: _,h=>by cases h
 |_ :: _,[],h=>by cases h
 |a :: l,b :: k,h=>by
  simp only [List.map_cons,List.cons.injEq] at h
  rw [hf h.1,zjv hf h.2]
theorem zyk {x y : Ce} (h : ceE x = ceE y) : x = y := by
 cases x;cases y
 unfold ceE ceC at h
 injection h with h
 simp only [List.cons.injEq,and_true] at h
 obtain ⟨a,b,c,d,e⟩ := h
 injection e with e
 rw [zhJ a,zhJ b,zhJ c,zzF d,zjv zsP e]
theorem zx0 {x y : Ch} (h : cgE x = cgE y) : x = y := by
 cases x;cases y
 unfold cgE cgC at h
 injection h with h
 simp only [List.cons.injEq,and_true] at h
 obtain ⟨a,b,c,d,e,f⟩ := h
 injection e with e
 injection f with f
 rw [zhJ a,zhJ b,zhJ c,zhJ d,zjv zsP e,zjv zyk f]
theorem zoF (m : Nat) (l : List Ch) (q : Int) (h : FitL l) : zf4 m [chsA l,nA q] = some (.agg (coC (atF q l)),[]) := zsO (ι := List Ch × Int) (by
 rintro ⟨l,q⟩ ⟨k,q'⟩ e
 dsimp only at e ⊢
 simp only [List.cons.injEq,and_true] at e
 obtain ⟨e1,e2⟩ := e
 unfold chsA at e1
 injection e1 with e1
 rw [zhJ e2,zjv zx0 e1]) (i := (l,q)) h
end Go.Proofs.Ytaaogcnjfkgnoaa

namespace Go.Proofs.Ytaaogcnjfkgnoaa
open Go.RowKit
def cP (p : Nat → Bool) : Nat := ((List.range 64).filter p).length
theorem zsK {p q : Nat → Bool} (h : ∀ i,i < 64 → p i = true → q i = true) : cP p ≤ cP q := by
 unfold cP
 have key : ∀ l : List Nat,(∀ i ∈ l,p i = true → q i = true) → (l.filter p).length ≤ (l.filter q).length := by
  intro l
  induction l with
  |nil=>intro _;exact Nat.le_refl _
  |cons a l ih =>
   intro h
   have h1 := ih fun i hi=>h i (List.mem_cons_of_mem _ hi)
   have h2 := h a (List.mem_cons_self ..)
   simp only [List.filter_cons]
   cases hp : p a with
   |true=>rw [h2 hp];simp;omega
   |false=>cases q a <;> simp <;> omega
 exact key _ fun i hi=>h i (List.mem_range.1 hi)
theorem zzH (p q : Nat → Bool) : cP p + cP q = cP (fun i=>p i && q i) + cP (fun i=>p i || q i) := by
 unfold cP
 have key : ∀ l : List Nat,(l.filter p).length + (l.filter q).length = (l.filter fun i=>p i && q i).length + (l.filter fun i=>p i || q i).length := by
  intro l
  induction l with
  |nil=>rfl
  |cons a l ih =>
   simp only [List.filter_cons]
   cases hp : p a <;> cases hq : q a <;> simp <;> omega
 exact key _
theorem cnt_P (s : Nat) : cntS s = cP s.testBit := rfl
theorem zqP {p q : Nat → Bool} (h : ∀ i,i < 64 → p i = q i) : cP p = cP q :=
 Nat.le_antisymm (zsK fun i hi k=>by rw [← h i hi];exact k) (zsK fun i hi k=>by rw [h i hi];exact k)
theorem fN_ok {n : Int} (h : okN n = true) : n = 3 * (fN n : Int) + 1 := by
 unfold fN;rw [h]
 rcases zkH.1 h with rfl|rfl|rfl|rfl|rfl <;> decide
theorem zxu {t i : Nat} (ht : t < 2 ^ 64) (hi : i < 64) : (18446744073709551615 - t).testBit i = !t.testBit i := by
 have e : 18446744073709551615 - t = 2 ^ 64 - (t + 1) := by omega
 rw [e,Nat.testBit_two_pow_sub_succ ht]
 simp [hi]
theorem zqh {s : Nat} {n : Int} : cntS (s &&& allN n) = cP fun i=>s.testBit i && decide ((i : Int) < n) := by
 rw [cnt_P]
 exact zqP fun i hi=>by rw [Nat.testBit_and,zqf hi]
theorem znD (m : Nat) (n : Int) (hm : 6 < m) : z55 m (nA n) = some (nA (fN n),[]) := by
 rw [zfv]
 refine znm (ι := {k : Nat // 1 ≤ k ∧ k ≤ 6 ∧ ∀ j : Nat,1 ≤ j → j < k → ¬ n = 3 * (j : Int) + 1}) (fun k=>⟨[],[(0,nA n),(3,nA k.1)]⟩) (fun k=>6 - k.1) (fun _=>some (nA (fN n),[])) ?_ ⟨1,by omega,by omega,fun j h1 h2=>by omega⟩ (by dsimp only;omega)
 rintro ⟨k,hk1,hk,hall⟩ kc hkc
 dsimp only at hkc ⊢
 rw [zdb]
 by_cases hlt : k ≤ 5
 ·have hlt' : (k : Int) ≤ 5 := by omega
  by_cases he : n = 3 * (k : Int) + 1
  ·have hf : (fN n : Int) = k := by
    have ho : okN n = true := zkH.2 (by omega)
    have := fN_ok ho
    omega
   simp (config := {maxSteps := 4000000,implicitDefEqProofs := false}) (disch := omega) only [go_sem,↓reduceIte,Nat.reduceAdd,Nat.reduceSub,Nat.reduceMul,Nat.reduceLeDiff,Nat.reduceLT,Int.reduceEq,Int.reduceNe,Int.reduceLT,Int.reduceLE,Int.reduceAdd,Int.reduceSub,Int.reduceMul,Int.reduceNeg,Nat.zero_add,Nat.add_zero,Nat.mul_one,Int.toNat_natCast,Int.natCast_zero,Int.cast_ofNat_Int,or_false,false_or,or_true,true_or,Int.reduceToNat,Nat.sub_zero,Int.natCast_nonneg,Int.toNat_zero,Bool.true_and,Bool.and_true,Bool.false_and,Bool.and_false,Bool.true_or,Bool.or_true,Bool.false_or,Bool.or_false,Bool.not_true,Bool.not_false,Bool.not_not,true_and,and_true,false_and,and_false,not_true_eq_false,not_false_eq_true,eq_self,decide_true,decide_false,ne_eq,implies_true,forall_const,true_implies,false_implies,Bool.true_eq_false,Bool.false_eq_true,reduceCtorEq,List.map_cons,List.map_nil,List.all_cons,List.all_nil,List.length_cons,List.length_nil,List.length_map,List.length_append,List.nil_append,List.cons_append,List.set_cons_zero,List.set_cons_succ,List.set_nil,List.drop_zero,List.drop_succ_cons,List.drop_nil,List.take_zero,List.take_succ_cons,List.take_nil,Option.map_some,Option.map_none,Option.isSome_some,Nat.reduceEqDiff,Nat.reduceBEq,Nat.reduceGT,List.all_append,List.all_map,Function.comp_def,decide_eq_true_eq,Bool.and_eq_true,beq_self_eq_true,or_self,and_self,ite_true,ite_false,Nat.le_refl,Bool.not_eq_true,decide_not,Bool.not_eq_true',decide_eq_false_iff_not,Bool.not_eq_false,Bool.or_eq_true,if_true,if_false,ite_self,u_roF,u_cvF,u_cvC,u_ceT,u_ceK,z2x,hlt',w_i64,he]
   rw [← he,hf]
  ·have hs := hkc ⟨k + 1,by omega,by omega,fun j h1 h2=>by
    by_cases e : j = k
    ·subst e;exact he
    ·exact hall j h1 (by omega)⟩ (by dsimp only;omega)
   simp (config := {maxSteps := 4000000,implicitDefEqProofs := false}) (disch := omega) only [go_sem,↓reduceIte,Nat.reduceAdd,Nat.reduceSub,Nat.reduceMul,Nat.reduceLeDiff,Nat.reduceLT,Int.reduceEq,Int.reduceNe,Int.reduceLT,Int.reduceLE,Int.reduceAdd,Int.reduceSub,Int.reduceMul,Int.reduceNeg,Nat.zero_add,Nat.add_zero,Nat.mul_one,Int.toNat_natCast,Int.natCast_zero,Int.cast_ofNat_Int,or_false,false_or,or_true,true_or,Int.reduceToNat,Nat.sub_zero,Int.natCast_nonneg,Int.toNat_zero,Bool.true_and,Bool.and_true,Bool.false_and,Bool.and_false,Bool.true_or,Bool.or_true,Bool.false_or,Bool.or_false,Bool.not_true,Bool.not_false,Bool.not_not,true_and,and_true,false_and,and_false,not_true_eq_false,not_false_eq_true,eq_self,decide_true,decide_false,ne_eq,implies_true,forall_const,true_implies,false_implies,Bool.true_eq_false,Bool.false_eq_true,reduceCtorEq,List.map_cons,List.map_nil,List.all_cons,List.all_nil,List.length_cons,List.length_nil,List.length_map,List.length_append,List.nil_append,List.cons_append,List.set_cons_zero,List.set_cons_succ,List.set_nil,List.drop_zero,List.drop_succ_cons,List.drop_nil,List.take_zero,List.take_succ_cons,List.take_nil,Option.map_some,Option.map_none,Option.isSome_some,Nat.reduceEqDiff,Nat.reduceBEq,Nat.reduceGT,List.all_append,List.all_map,Function.comp_def,decide_eq_true_eq,Bool.and_eq_true,beq_self_eq_true,or_self,and_self,ite_true,ite_false,Nat.le_refl,Bool.not_eq_true,decide_not,Bool.not_eq_true',decide_eq_false_iff_not,Bool.not_eq_false,Bool.or_eq_true,if_true,if_false,ite_self,u_roF,u_cvF,u_cvC,u_ceT,u_ceK,z2x,hlt',w_i64,he]
   exact hs
 ·have hlt' : ¬ (k : Int) ≤ 5 := by omega
  have hf : fN n = 0 := by
   unfold fN
   rw [if_neg]
   intro ho
   have h1 := hall 1 (by omega) (by omega)
   have h2 := hall 2 (by omega) (by omega)
   have h3 := hall 3 (by omega) (by omega)
   have h4 := hall 4 (by omega) (by omega)
   have h5 := hall 5 (by omega) (by omega)
   rcases zkH.1 ho with q|q|q|q|q <;> omega
  simp (config := {maxSteps := 4000000,implicitDefEqProofs := false}) only [go_sem,↓reduceIte,Nat.reduceAdd,Nat.reduceSub,Nat.reduceMul,Nat.reduceLeDiff,Nat.reduceLT,Int.reduceEq,Int.reduceNe,Int.reduceLT,Int.reduceLE,Int.reduceAdd,Int.reduceSub,Int.reduceMul,Int.reduceNeg,Nat.zero_add,Nat.add_zero,Nat.mul_one,Int.toNat_natCast,Int.natCast_zero,Int.cast_ofNat_Int,or_false,false_or,or_true,true_or,Int.reduceToNat,Nat.sub_zero,Int.natCast_nonneg,Int.toNat_zero,Bool.true_and,Bool.and_true,Bool.false_and,Bool.and_false,Bool.true_or,Bool.or_true,Bool.false_or,Bool.or_false,Bool.not_true,Bool.not_false,Bool.not_not,true_and,and_true,false_and,and_false,not_true_eq_false,not_false_eq_true,eq_self,decide_true,decide_false,ne_eq,implies_true,forall_const,true_implies,false_implies,Bool.true_eq_false,Bool.false_eq_true,reduceCtorEq,List.map_cons,List.map_nil,List.all_cons,List.all_nil,List.length_cons,List.length_nil,List.length_map,List.length_append,List.nil_append,List.cons_append,List.set_cons_zero,List.set_cons_succ,List.set_nil,List.drop_zero,List.drop_succ_cons,List.drop_nil,List.take_zero,List.take_succ_cons,List.take_nil,Option.map_some,Option.map_none,Option.isSome_some,Nat.reduceEqDiff,Nat.reduceBEq,Nat.reduceGT,List.all_append,List.all_map,Function.comp_def,decide_eq_true_eq,Bool.and_eq_true,beq_self_eq_true,or_self,and_self,ite_true,ite_false,Nat.le_refl,Bool.not_eq_true,decide_not,Bool.not_eq_true',decide_eq_false_iff_not,Bool.not_eq_false,Bool.or_eq_true,if_true,if_false,ite_self,u_roF,u_cvF,u_cvC,u_ceT,u_ceK,z2x,hlt']
  rw [zd9,hf]
  simp (config := {maxSteps := 4000000,implicitDefEqProofs := false}) only [go_sem,↓reduceIte,Nat.reduceAdd,Nat.reduceSub,Nat.reduceMul,Nat.reduceLeDiff,Nat.reduceLT,Int.reduceEq,Int.reduceNe,Int.reduceLT,Int.reduceLE,Int.reduceAdd,Int.reduceSub,Int.reduceMul,Int.reduceNeg,Nat.zero_add,Nat.add_zero,Nat.mul_one,Int.toNat_natCast,Int.natCast_zero,Int.cast_ofNat_Int,or_false,false_or,or_true,true_or,Int.reduceToNat,Nat.sub_zero,Int.natCast_nonneg,Int.toNat_zero,Bool.true_and,Bool.and_true,Bool.false_and,Bool.and_false,Bool.true_or,Bool.or_true,Bool.false_or,Bool.or_false,Bool.not_true,Bool.not_false,Bool.not_not,true_and,and_true,false_and,and_false,not_true_eq_false,not_false_eq_true,eq_self,decide_true,decide_false,ne_eq,implies_true,forall_const,true_implies,false_implies,Bool.true_eq_false,Bool.false_eq_true,reduceCtorEq,List.map_cons,List.map_nil,List.all_cons,List.all_nil,List.length_cons,List.length_nil,List.length_map,List.length_append,List.nil_append,List.cons_append,List.set_cons_zero,List.set_cons_succ,List.set_nil,List.drop_zero,List.drop_succ_cons,List.drop_nil,List.take_zero,List.take_succ_cons,List.take_nil,Option.map_some,Option.map_none,Option.isSome_some,Nat.reduceEqDiff,Nat.reduceBEq,Nat.reduceGT,List.all_append,List.all_map,Function.comp_def,decide_eq_true_eq,Bool.and_eq_true,beq_self_eq_true,or_self,and_self,ite_true,ite_false,Nat.le_refl,Bool.not_eq_true,decide_not,Bool.not_eq_true',decide_eq_false_iff_not,Bool.not_eq_false,Bool.or_eq_true,if_true,if_false,ite_self,u_roF,u_cvF,u_cvC,u_ceT,u_ceK,z2x]
theorem has_s (m s : Nat) (n : Int) (h : s < 2 ^ 64) : zeY m (qA s) (nA n) = some (bA (!decide ((s &&& qb n : Nat) = 0)),[]) := by
 have hb := bit_s m n
 have ha := bits_and_u64_nat s (qb n) h (qb_lt n)
 have e : decide (((s &&& qb n : Nat) : Int) = 0) = decide ((s &&& qb n : Nat) = 0) := by rw [decide_eq_decide];omega
 rw [zmD]
 simp (config := {maxSteps := 4000000,implicitDefEqProofs := false}) only [go_sem,↓reduceIte,Nat.reduceAdd,Nat.reduceSub,Nat.reduceMul,Nat.reduceLeDiff,Nat.reduceLT,Int.reduceEq,Int.reduceNe,Int.reduceLT,Int.reduceLE,Int.reduceAdd,Int.reduceSub,Int.reduceMul,Int.reduceNeg,Nat.zero_add,Nat.add_zero,Nat.mul_one,Int.toNat_natCast,Int.natCast_zero,Int.cast_ofNat_Int,or_false,false_or,or_true,true_or,Int.reduceToNat,Nat.sub_zero,Int.natCast_nonneg,Int.toNat_zero,Bool.true_and,Bool.and_true,Bool.false_and,Bool.and_false,Bool.true_or,Bool.or_true,Bool.false_or,Bool.or_false,Bool.not_true,Bool.not_false,Bool.not_not,true_and,and_true,false_and,and_false,not_true_eq_false,not_false_eq_true,eq_self,decide_true,decide_false,ne_eq,implies_true,forall_const,true_implies,false_implies,Bool.true_eq_false,Bool.false_eq_true,reduceCtorEq,List.map_cons,List.map_nil,List.all_cons,List.all_nil,List.length_cons,List.length_nil,List.length_map,List.length_append,List.nil_append,List.cons_append,List.set_cons_zero,List.set_cons_succ,List.set_nil,List.drop_zero,List.drop_succ_cons,List.drop_nil,List.take_zero,List.take_succ_cons,List.take_nil,Option.map_some,Option.map_none,Option.isSome_some,Nat.reduceEqDiff,Nat.reduceBEq,Nat.reduceGT,List.all_append,List.all_map,Function.comp_def,decide_eq_true_eq,Bool.and_eq_true,beq_self_eq_true,or_self,and_self,ite_true,ite_false,Nat.le_refl,Bool.not_eq_true,decide_not,Bool.not_eq_true',decide_eq_false_iff_not,Bool.not_eq_false,Bool.or_eq_true,if_true,if_false,ite_self,u_roF,u_cvF,u_cvC,u_ceT,u_ceK,z2x,hb,ha,e]
theorem zvz {a : Nat} (h : a < 64) : cP (fun i=>decide (i = a)) = 1 := by
 have : ∀ a,a < 64 → cP (fun i=>decide (i = a)) = 1 := by decide +kernel
 exact this a h
theorem zzw {p q : Nat → Bool} {a : Nat} (h : a < 64) (hp : p a = false) (hq : ∀ i,i < 64 → q i = (p i || decide (i = a))) : cP q = cP p + 1 := by
 have h1 := zzH p (fun i=>decide (i = a))
 have h2 : cP (fun i=>p i && decide (i = a)) = 0 := by
  unfold cP
  rw [List.length_eq_zero_iff,List.filter_eq_nil_iff]
  intro i _
  by_cases e : i = a
  ·subst e;simp [hp]
  ·simp [e]
 rw [zvz h,h2,← zqP hq] at h1
 omega
end Go.Proofs.Ytaaogcnjfkgnoaa

namespace Go.Proofs.Ytaaogcnjfkgnoaa
open Go.RowKit
attribute [local go_sem] Nat.zero_add Nat.add_zero Nat.mul_one Int.toNat_natCast Int.natCast_zero Int.cast_ofNat_Int or_false false_or or_true true_or Nat.sub_zero Int.natCast_nonneg Int.toNat_zero Bool.true_and Bool.and_true Bool.false_and Bool.and_false Bool.true_or Bool.or_true Bool.false_or Bool.or_false Bool.not_true Bool.not_false Bool.not_not true_and and_true false_and and_false not_true_eq_false not_false_eq_true eq_self decide_true decide_false ne_eq implies_true forall_const true_implies false_implies Bool.true_eq_false Bool.false_eq_true List.map_cons List.map_nil List.all_cons List.all_nil List.length_cons List.length_nil List.length_map List.length_append List.nil_append List.cons_append List.set_cons_zero List.set_cons_succ List.set_nil List.drop_zero List.drop_succ_cons List.drop_nil List.take_zero List.take_succ_cons List.take_nil Option.map_some Option.map_none Option.isSome_some List.all_append List.all_map Function.comp_def decide_eq_true_eq Bool.and_eq_true beq_self_eq_true or_self and_self ite_true ite_false Nat.le_refl Bool.not_eq_true decide_not Bool.not_eq_true' decide_eq_false_iff_not Bool.not_eq_false Bool.or_eq_true if_true if_false ite_self u_roF u_cvF u_cvC u_ceT u_ceK z2x sm_it z6G z38 z5L z7e z3a sm_ro z37 sm_sl z74 z7a sm_fr z23 z0Z sm_kd z1T z19 sm_vw z1X z0T sm_sq z1N z0J sm_tm z24 z15 z3x z1H z3M z7d z6R z1O z3r z1W z1Z z2T z3i ce_it z72 z3E z5i z73 z3N ce_ro z3z ce_sl z70 z6Y ce_sq z2j z1a ce_vw z2f z1b ce_tm z1z z0P z3U z0B z0r ce_vs z28 z10 z3S z1C z3T z75 z7g z2e z3I z1Q z1V z33 z3o cg_it z6F z3H z63 z6T z3m cg_ro z3R cg_sl z79 z6B cg_fr z1F z0M cg_vw z2g z16 cg_st z1y z0R cg_rt z26 z11 cg_pf z1R z0L cg_cs z1D z1e z3f z1A z3j z6L z77 z1K z3q z2c z1I z3Q z36 ms_it z6y z3P z7b z6M z3B ms_ro z3C ms_sl z76 z6Q ms_kd z1E z12 ms_fr z2h z0W ms_vw z1Y z0O ms_sq z2m z1c ms_tm z2a z18 z3L z0y z0q ms_vs z22 z0V z6x z0N z0C z3c z2b z3s z6N z6V z29 z3v z1B z2l z3J z3e co_it z6u z3w z6E z6K z3y co_ro z39 co_sl z71 z6z co_sq z2k z13 co_tm z1P z0S z3n z0A z0p co_nl z1M z14 z3k z1U z3A z7h z78 z20 z3h z21 z1G z2Z z3D sd_it z6H z3p z7c z6U z3K sd_ro z3l sd_sl z6C z6W sd_wh z2i z1d sd_fr z27 z17 sd_kd z1L z0X sd_vw z25 z0Y sd_sq z1J z0K sd_tm z1S z0Q z3b z3O z6Z z64 u_bz u_bi1 u_bi2 u_bi3 u_bi4 u_bi5 u_bi6 u_bi7 ltO_o ltO_r u_eqE
attribute [local go_sem_proc] Nat.reduceAdd Nat.reduceSub Nat.reduceMul Nat.reduceLeDiff Nat.reduceLT Int.reduceEq Int.reduceNe Int.reduceLT Int.reduceLE Int.reduceAdd Int.reduceSub Int.reduceMul Int.reduceNeg Int.reduceToNat reduceCtorEq Nat.reduceEqDiff Nat.reduceBEq Nat.reduceGT
attribute [local go_sem_proc ↓] reduceIte
def dueB (q : Int) : Bool := decide (0 < q) && decide (q % 4 = 0)
theorem due_s (m : Nat) (q : Int) : zh9 m (nA q) = some (bA (dueB q),[]) := by
 rw [zn7]
 unfold dueB
 by_cases h1 : 0 < q
 ·have h2 : q.tmod 4 = q % 4 := zpX (by omega)
  simp (config := {maxSteps := 4000000,implicitDefEqProofs := false}) (disch := omega) only [go_sem,h1,h2]
 ·simp (config := {maxSteps := 4000000,implicitDefEqProofs := false}) (disch := omega) only [go_sem,h1]
theorem zzQ (m : Nat) (q : Int) : z9V m (nA q) = some (bA (dueB q),[]) := by
 rw [zhp]
 unfold dueB
 by_cases h1 : 0 < q
 ·have h2 : q.tmod 4 = q % 4 := zpX (by omega)
  simp (config := {maxSteps := 4000000,implicitDefEqProofs := false}) (disch := omega) only [go_sem,h1,h2]
 ·simp (config := {maxSteps := 4000000,implicitDefEqProofs := false}) (disch := omega) only [go_sem,h1]
def lastQ (st : Int) (cs : List Ce) : Nat → Int
 |0=>st
 |j + 1=>(cs.getD j Ce.zero).sq
theorem zh7 {st : Int} {cs : List Ce} {j : Nat} (h : j < cs.length) : lastQ st cs (j + 1) = cs[j].sq := by
 simp [lastQ,List.getD,h]
structure CeOk (st : Int) (cs : List Ce) (j : Nat) (x : Ce) : Prop where
 lo : lastQ st cs j < x.sq
 hi : x.sq ≤ st + 16
 vw : 0 ≤ x.vw
 bd : x.body.length ≤ 65536
def CsOk (st : Int) (cs : List Ce) : Prop := ∀ (j : Nat) (h : j < cs.length),CeOk st cs j cs[j]
theorem CsOk.last {st : Int} {cs : List Ce} (h : CsOk st cs) : ∀ j,j ≤ cs.length → st ≤ lastQ st cs j
 |0,_=>Int.le_refl _
 |j + 1,hj=>by
  have h1 := CsOk.last h j (by omega)
  have h2 := (h j (by omega)).lo
  rw [zh7 (by omega)]
  omega
theorem CsOk.st {st : Int} {cs : List Ce} (h : CsOk st cs) {j : Nat} (hj : j < cs.length) : st < cs[j].sq := by
 have h1 := h.last j (by omega)
 have h2 := (h j hj).lo
 omega
theorem zwA (m : Nat) (x : Ch) (hm : x.cs.length < m) (h0 : 0 ≤ x.st) (h1 : x.st ≤ 2147483647) (hl : x.cs.length ≤ 1000) (hcs : CsOk x.st x.cs) : zbb m (cgE x) = some (bA true,[]) := by
 rw [zkd,cg_it]
 simp (config := {maxSteps := 4000000,implicitDefEqProofs := false}) (disch := omega) only [go_sem,]
 refine z4t (m := m) (ι := {k : Nat // k ≤ x.cs.length}) (fun k=>⟨[⟨1,z00,0,cgC x⟩],[(1,OP 0 0),(3,nA (lastQ x.st x.cs k.1)),(9,cesA x.cs),(10,nA x.cs.length),(11,nA k.1)]⟩) (fun k=>x.cs.length - k.1) (fun _=>some (bA true,[])) ?_ ⟨0,Nat.zero_le _⟩ (by dsimp only;omega)
 rintro kx hkx ⟨k,hk⟩ kc hkc
 dsimp only at hkc ⊢
 rw [zhu]
 unfold cesA at hkc ⊢
 by_cases hlt : k < x.cs.length
 ·have hlt' : (k : Int) < (x.cs.length : Int) := by omega
  obtain ⟨c1,c2,c3,c4⟩ := hcs k hlt
  have c5 := hcs.st hlt
  have step := hkc ⟨k + 1,by omega⟩ (by dsimp only;omega)
  dsimp only at step
  rw [zh7 hlt] at step
  have d1 : ¬ x.cs[k].sq ≤ lastQ x.st x.cs k := by omega
  have d2 : ¬ (16 : Int) < x.cs[k].sq - x.st := by omega
  have d3 : ¬ x.cs[k].vw < 0 := by omega
  have d4 : ¬ (65536 : Int) < (x.cs[k].body.length : Int) := by omega
  have d5 : IntKind.i64.wrap (x.cs[k].sq - x.st) = x.cs[k].sq - x.st := w_i64 (by omega) (by omega)
  simp (config := {maxSteps := 4000000,implicitDefEqProofs := false}) (disch := omega) only [go_sem,hlt',hlt,d1,d2,d3,d4,d5,w_i64,zhU,zhL,zhH]
  exact step
 ·obtain rfl : k = x.cs.length := by omega
  have hlt' : ¬ (x.cs.length : Int) < (x.cs.length : Int) := Int.lt_irrefl _
  simp (config := {maxSteps := 4000000,implicitDefEqProofs := false}) (disch := omega) only [go_sem,hlt',hkx,zhx]
def setN (l : List Ch) (k : Nat) : Nat := (l.take k).foldl (fun s c=>s ||| qb c.fr) 0
theorem zj0 {l : List Ch} {k : Nat} (h : k < l.length) : setN l (k + 1) = setN l k ||| qb l[k].fr := by
 unfold setN
 rw [List.take_succ_eq_append_getElem h,List.foldl_append]
 rfl
theorem zoU (l : List Ch) : ∀ k,k ≤ l.length → setN l k < 2 ^ 64
 |0,_=>by unfold setN;simp
 |k + 1,hk=>by
  rw [zj0 (by omega)]
  exact Nat.or_lt_two_pow (zoU l k (by omega)) (qb_lt _)
structure ChOk (n : Int) (c : Ch) : Prop where
 f0 : 0 ≤ c.fr
 fn : c.fr < n
 sd : c.st = 0 ∨ dueB c.st = true
 sl : c.st ≤ 2147483647
 cs : CsOk c.st c.cs
theorem ChOk.s0 {n : Int} {c : Ch} (h : ChOk n c) : 0 ≤ c.st := by
 rcases h.sd with q|q
 ·omega
 ·unfold dueB at q
  simp only [Bool.and_eq_true,decide_eq_true_eq] at q
  omega
structure LOk (n : Int) (l : List Ch) : Prop where
 nn : okN n = true
 len : 2 * fN n + 1 ≤ l.length
 all : ∀ c ∈ l,ChOk n c
 one : (l.map Ch.fr).Nodup
theorem zpg {n : Int} {l : List Ch} (hn : okN n = true) (h : ∀ c ∈ l,ChOk n c) : ∀ k,k ≤ l.length → ∀ j,j < 64 → ((setN l k).testBit j = true ↔ ∃ i,∃ h : i < l.length,i < k ∧ l[i].fr = j)
 |0,_,j,hj=>by
  have : setN l 0 = 0 := rfl
  rw [this]
  simp
 |k + 1,hk,j,hj=>by
  rw [zj0 (by omega),bitw hj,Bool.or_eq_true,zpg hn h k (by omega) j hj,decide_eq_true_eq]
  constructor
  ·rintro (⟨i,h1,h2,h3⟩|h3)
   ·exact ⟨i,h1,by omega,h3⟩
   ·exact ⟨k,by omega,by omega,h3⟩
  ·rintro ⟨i,h1,h2,h3⟩
   by_cases e : i = k
   ·subst e;exact .inr h3
   ·exact .inl ⟨i,h1,by omega,h3⟩
theorem zyS {a : Nat} (h : a ≤ 63) : qb a = 2 ^ a := by unfold qb;rw [if_pos (by omega)];simp
theorem zAc {s a : Nat} (h : a ≤ 63) : (s &&& qb a = 0) ↔ s.testBit a = false := by
 rw [zyS h]
 constructor
 ·intro q
  have : (s &&& 2 ^ a).testBit a = false := by rw [q];exact Nat.zero_testBit a
  rwa [Nat.testBit_and,Nat.testBit_two_pow_self,Bool.and_true] at this
 ·intro q
  apply Nat.eq_of_testBit_eq
  intro j
  rw [Nat.testBit_and,Nat.testBit_two_pow,Nat.zero_testBit]
  by_cases e : a = j
  ·subst e;simp [q]
  ·simp [e]
section
variable {n : Int} {l : List Ch}
theorem LOk.n64 (h : LOk n l) : n ≤ 16 := by
 rcases zkH.1 h.nn with q|q|q|q|q <;> omega
theorem LOk.fresh (h : LOk n l) {k : Nat} (hk : k < l.length) : (setN l k).testBit l[k].fr.toNat = false := by
 have hc := h.all l[k] (List.getElem_mem hk)
 have h1 := hc.f0
 have h2 := hc.fn
 have h3 := h.n64
 have hj : l[k].fr.toNat < 64 := by omega
 have key := zpg h.nn h.all k (by omega) l[k].fr.toNat hj
 cases hb : (setN l k).testBit l[k].fr.toNat with
 |false=>rfl
 |true =>
  exfalso
  obtain ⟨i,hi,hik,he⟩ := key.1 hb
  have h4 : l[i].fr = l[k].fr := by rw [he,Int.toNat_of_nonneg h1]
  have h5 := (List.pairwise_iff_getElem.1 h.one) i k (by simpa using hi) (by simpa using hk) hik
  rw [List.getElem_map,List.getElem_map] at h5
  exact h5 h4
theorem LOk.has (h : LOk n l) {k : Nat} (hk : k < l.length) : (setN l k &&& qb l[k].fr : Nat) = 0 := by
 have hc := h.all l[k] (List.getElem_mem hk)
 have h1 := hc.f0
 have h2 := hc.fn
 have h3 := h.n64
 have h4 := h.fresh hk
 obtain ⟨a,ha⟩ : ∃ a : Nat,l[k].fr = a := ⟨l[k].fr.toNat,by omega⟩
 rw [ha] at h4 ⊢
 exact (zAc (by omega)).2 (by simpa using h4)
theorem LOk.cnt (h : LOk n l) : ∀ k,k ≤ l.length → cntS (setN l k &&& allN n) = k
 |0,_=>by
  rw [zqh]
  have : setN l 0 = 0 := rfl
  rw [this]
  unfold cP
  rw [List.length_eq_zero_iff,List.filter_eq_nil_iff]
  intro i _
  simp
 |k + 1,hk=>by
  have ih := LOk.cnt h k (by omega)
  have hk' : k < l.length := by omega
  have hc := h.all l[k] (List.getElem_mem hk')
  have h1 := hc.f0
  have h2 := hc.fn
  have h3 := h.n64
  have h4 := h.fresh hk'
  rw [zqh] at ih ⊢
  rw [zzw (p := fun i=>(setN l k).testBit i && decide ((i : Int) < n)) (a := l[k].fr.toNat) (by omega) (by simp [h4]) (fun i hi=>by
   rw [zj0 hk',bitw hi]
   have e : decide (l[k].fr = (i : Int)) = decide (i = l[k].fr.toNat) := by rw [decide_eq_decide];omega
   rw [e]
   by_cases q : i = l[k].fr.toNat
   ·have : (i : Int) < n := by omega
    simp [q,this]
    omega
   ·simp [q]),ih]
end
end Go.Proofs.Ytaaogcnjfkgnoaa

namespace Go.Proofs.Ytaaogcnjfkgnoaa
open Go.RowKit
attribute [local go_sem] Nat.zero_add Nat.add_zero Nat.mul_one Int.toNat_natCast Int.natCast_zero Int.cast_ofNat_Int or_false false_or or_true true_or Nat.sub_zero Int.natCast_nonneg Int.toNat_zero Bool.true_and Bool.and_true Bool.false_and Bool.and_false Bool.true_or Bool.or_true Bool.false_or Bool.or_false Bool.not_true Bool.not_false Bool.not_not true_and and_true false_and and_false not_true_eq_false not_false_eq_true eq_self decide_true decide_false ne_eq implies_true forall_const true_implies false_implies Bool.true_eq_false Bool.false_eq_true List.map_cons List.map_nil List.all_cons List.all_nil List.length_cons List.length_nil List.length_map List.length_append List.nil_append List.cons_append List.set_cons_zero List.set_cons_succ List.set_nil List.drop_zero List.drop_succ_cons List.drop_nil List.take_zero List.take_succ_cons List.take_nil Option.map_some Option.map_none Option.isSome_some List.all_append List.all_map Function.comp_def decide_eq_true_eq Bool.and_eq_true beq_self_eq_true or_self and_self ite_true ite_false Nat.le_refl Bool.not_eq_true decide_not Bool.not_eq_true' decide_eq_false_iff_not Bool.not_eq_false Bool.or_eq_true if_true if_false ite_self u_roF u_cvF u_cvC u_ceT u_ceK z2x sm_it z6G z38 z5L z7e z3a sm_ro z37 sm_sl z74 z7a sm_fr z23 z0Z sm_kd z1T z19 sm_vw z1X z0T sm_sq z1N z0J sm_tm z24 z15 z3x z1H z3M z7d z6R z1O z3r z1W z1Z z2T z3i ce_it z72 z3E z5i z73 z3N ce_ro z3z ce_sl z70 z6Y ce_sq z2j z1a ce_vw z2f z1b ce_tm z1z z0P z3U z0B z0r ce_vs z28 z10 z3S z1C z3T z75 z7g z2e z3I z1Q z1V z33 z3o cg_it z6F z3H z63 z6T z3m cg_ro z3R cg_sl z79 z6B cg_fr z1F z0M cg_vw z2g z16 cg_st z1y z0R cg_rt z26 z11 cg_pf z1R z0L cg_cs z1D z1e z3f z1A z3j z6L z77 z1K z3q z2c z1I z3Q z36 ms_it z6y z3P z7b z6M z3B ms_ro z3C ms_sl z76 z6Q ms_kd z1E z12 ms_fr z2h z0W ms_vw z1Y z0O ms_sq z2m z1c ms_tm z2a z18 z3L z0y z0q ms_vs z22 z0V z6x z0N z0C z3c z2b z3s z6N z6V z29 z3v z1B z2l z3J z3e co_it z6u z3w z6E z6K z3y co_ro z39 co_sl z71 z6z co_sq z2k z13 co_tm z1P z0S z3n z0A z0p co_nl z1M z14 z3k z1U z3A z7h z78 z20 z3h z21 z1G z2Z z3D sd_it z6H z3p z7c z6U z3K sd_ro z3l sd_sl z6C z6W sd_wh z2i z1d sd_fr z27 z17 sd_kd z1L z0X sd_vw z25 z0Y sd_sq z1J z0K sd_tm z1S z0Q z3b z3O z6Z z64 u_bz u_bi1 u_bi2 u_bi3 u_bi4 u_bi5 u_bi6 u_bi7 ltO_o ltO_r u_eqE
attribute [local go_sem_proc] Nat.reduceAdd Nat.reduceSub Nat.reduceMul Nat.reduceLeDiff Nat.reduceLT Int.reduceEq Int.reduceNe Int.reduceLT Int.reduceLE Int.reduceAdd Int.reduceSub Int.reduceMul Int.reduceNeg Int.reduceToNat reduceCtorEq Nat.reduceEqDiff Nat.reduceBEq Nat.reduceGT
attribute [local go_sem_proc ↓] reduceIte
section
variable {n : Int} {l : List Ch}
theorem may_s (m : Nat) (h : LOk n l) (hf : FitL l) (hm : 1000 < m) : zgP m (chsA l) (nA n) = some (bA true,[]) := by
 have hF := zjB m n
 rw [h.nn] at hF
 rw [zmh]
 have hl := hf.1
 unfold chsA
 simp (config := {maxSteps := 4000000,implicitDefEqProofs := false}) (disch := omega) only [go_sem,hF]
 refine z4t (m := m) (ι := {k : Nat // k ≤ l.length}) (fun k=>⟨[],[(1,nA n),(7,qA (setN l k.1)),(17,chsA l),(18,nA l.length),(19,nA k.1)]⟩) (fun k=>l.length - k.1) (fun _=>some (bA true,[])) ?_ ⟨0,Nat.zero_le _⟩ (by dsimp only;omega)
 rintro kx hkx ⟨k,hk⟩ kc hkc
 dsimp only at hkc ⊢
 rw [zjO]
 unfold chsA at hkc ⊢
 by_cases hlt : k < l.length
 ·have hlt' : (k : Int) < (l.length : Int) := by omega
  have hc := h.all l[k] (List.getElem_mem hlt)
  have c0 := hc.s0
  obtain ⟨c1,c2,c3,c4,c5⟩ := hc
  have step := hkc ⟨k + 1,by omega⟩ (by dsimp only;omega)
  dsimp only at step
  have hs := zoU l k (by omega)
  rw [zj0 hlt] at step
  have g1 := has_s m (setN l k) l[k].fr hs
  have hhas := h.has hlt
  rw [hhas] at g1
  have g2 := zwA m l[k] (by have := hf.2 l[k] (List.getElem_mem hlt);omega) c0 c4 (hf.2 l[k] (List.getElem_mem hlt)) c5
  rw [cg_it] at g2
  have g3 := zyg m (setN l k) l[k].fr hs
  have g4 := due_s m l[k].st
  have d1 : ¬ l[k].fr < 0 := by omega
  have d2 : ¬ n ≤ l[k].fr := by omega
  have d3 : ¬ (2147483647 : Int) < l[k].st := by omega
  by_cases hz : l[k].st = 0
  ·simp (config := {maxSteps := 4000000,implicitDefEqProofs := false}) (disch := omega) only [go_sem,hlt',hlt,d1,d2,d3,g1,g2,g3,hz,w_i64,zee,zey,zeN]
   exact step
  ·have hd : dueB l[k].st = true := by
    rcases c3 with q|q
    ·exact absurd q hz
    ·exact q
   rw [hd] at g4
   simp (config := {maxSteps := 4000000,implicitDefEqProofs := false}) (disch := omega) only [go_sem,hlt',hlt,d1,d2,d3,g1,g2,g3,g4,hz,w_i64,zee,zey,zeN]
   exact step
 ·obtain rfl : k = l.length := by omega
  have hlt' : ¬ (l.length : Int) < (l.length : Int) := Int.lt_irrefl _
  have g5 := zlQ m (setN l l.length) n (zoU l _ (Nat.le_refl _))
  have hlen := h.len
  rw [h.cnt l.length (Nat.le_refl _),h.nn,decide_eq_true (show 2 * (fN n : Int) + 1 ≤ (l.length : Int) by omega)] at g5
  simp (config := {maxSteps := 4000000,implicitDefEqProofs := false}) (disch := omega) only [go_sem,hlt',hkx,zjH,g5]
def bestC (l : List Ch) : Nat → Ch
 |0=>l.headD Ch.zero
 |k + 1=>if (bestC l k).st < (l.getD k Ch.zero).st then l.getD k Ch.zero else bestC l k
def lowC (l : List Ch) : Ch := bestC l l.length
theorem znV (h : 0 < l.length) : ∀ k,k ≤ l.length → bestC l k ∈ l
 |0,_=>by
  cases l with
  |nil=>simp at h
  |cons a l=>exact List.mem_cons_self ..
 |k + 1,hk=>by
  unfold bestC
  split
  ·rw [List.getD_eq_getElem?_getD,List.getElem?_eq_getElem (by omega)]
   exact List.getElem_mem _
  ·exact znV h k (by omega)
theorem low_s (m : Nat) (h : LOk n l) (hf : FitL l) (hm : 1000 < m) : zgI m (chsA l) (nA n) = some (TU [nA (lowC l).st,nA (lowC l).rt,nA 0],[]) := by
 have hM := may_s m h hf hm
 have hl := hf.1
 have h0 : 0 < l.length := by have := h.len;omega
 have e0 : l[0] = l.headD Ch.zero := by cases l with|nil=>simp at h0|cons=>rfl
 rw [zmb]
 unfold chsA at hM ⊢
 simp (config := {maxSteps := 4000000,implicitDefEqProofs := false}) (disch := omega) only [go_sem,hM,h0,e0]
 refine z4t (m := m) (ι := {k : Nat // k ≤ l.length}) (fun k=>⟨[⟨1,z00,0,cgC (bestC l k.1)⟩],[(7,OP 0 0),(17,chsA l),(18,nA l.length),(19,nA k.1)]⟩) (fun k=>l.length - k.1) (fun _=>some (TU [nA (lowC l).st,nA (lowC l).rt,nA 0],[])) ?_ ⟨0,Nat.zero_le _⟩ (by dsimp only;omega)
 rintro kx hkx ⟨k,hk⟩ kc hkc
 dsimp only at hkc ⊢
 rw [zjQ]
 unfold chsA at hkc ⊢
 by_cases hlt : k < l.length
 ·have hlt' : (k : Int) < (l.length : Int) := by omega
  have step := hkc ⟨k + 1,by omega⟩ (by dsimp only;omega)
  dsimp only at step
  have eg : l.getD k Ch.zero = l[k] := by simp [List.getD,hlt]
  rw [show bestC l (k + 1) = if (bestC l k).st < (l.getD k Ch.zero).st then l.getD k Ch.zero else bestC l k from rfl,eg] at step
  generalize bestC l k = B at *
  by_cases hb : B.st < l[k].st
  ·rw [if_pos hb] at step
   simp (config := {maxSteps := 4000000,implicitDefEqProofs := false}) (disch := omega) only [go_sem,hlt',hlt,hb,w_i64,zeK]
   exact step
  ·rw [if_neg hb] at step
   simp (config := {maxSteps := 4000000,implicitDefEqProofs := false}) (disch := omega) only [go_sem,hlt',hlt,hb,w_i64,zeK]
   exact step
 ·obtain rfl : k = l.length := by omega
  have hlt' : ¬ (l.length : Int) < (l.length : Int) := Int.lt_irrefl _
  have eL : bestC l l.length = lowC l := rfl
  rw [eL]
  simp (config := {maxSteps := 4000000,implicitDefEqProofs := false}) (disch := omega) only [go_sem,hlt',hkx,zjb]
end
end Go.Proofs.Ytaaogcnjfkgnoaa

namespace Go.Proofs.Ytaaogcnjfkgnoaa
open Go.RowKit
noncomputable def ChA_c : Code := farC 4 (endC 0 ((Try.f52.body).getD .skip)) .skip
def ChA_h : Hint := (.two .n (.two .n (.two (.two .n (.two (.two .n .n) .n)) (.two .n .n))))
noncomputable def zqa (m : Nat) : Env := [(76, .tell (zge m))]
noncomputable abbrev zvs (n0 : Nat) : KO (AV × List AObj) := nslFK [0,6,9]
noncomputable def ChA (m : Nat) (D : List Deferred) (t0 t1 : AV) (H : List AObj) : RO := exec Try.prog GG (zqa m) m ⟨45,D⟩ ChA_c ChA_h ⟨H,[(0,t0),(1,t1)]⟩ (zvs H.length)
theorem zAh (m : Nat) (D : List Deferred) (t0 t1 : AV) (H : List AObj) : ChA m D t0 t1 H =
 tellE (zgI m (ro H t0) (ro H t1)) [(ro H t0),(ro H t1)] fun t16 =>
 extE t16 0 fun t17 =>
 extE t16 1 fun t18 =>
 extE t16 2 fun t19 =>
 binE none false false .neq t19 (V (.int .i64 0)) fun t21 =>
 condE t21 (
  none) (
  z5a (some zwd) z7o H fun t9 H2 =>
  z1p 1 H2 t9 t17 fun H3 =>
  some (TU [t0,t17,t9],H3)) := by
 refine (nslX _ _ _ _ _ _ _ _ _).trans ?_
 kernel_rfl
theorem zAO (m : Nat) : EnvOk Try.prog GG (zqa m) := (by
 intro f e h
 simp only [zqa,Prod.mk.injEq,List.mem_cons,List.not_mem_nil,or_false] at h
 obtain ⟨rfl,rfl⟩ := h
 ·exact zm3 m)
end Go.Proofs.Ytaaogcnjfkgnoaa

namespace Go.Proofs.Ytaaogcnjfkgnoaa
open Go.RowKit
noncomputable def ChB_c : Code := (cdL (cdL (endC 4 ((Try.f52.body).getD .skip))))
def ChB_h : Hint := .n
noncomputable def zpw (m : Nat) : Env := [(77, .keep (zdn m))]
noncomputable abbrev zxK (n0 : Nat) : KO (AV × List AObj) := nslFK [0,6,9,25]
noncomputable def ChB (m : Nat) (D : List Deferred) (t0 t6 t9 : AV) (H : List AObj) : RO := exec Try.prog GG (zpw m) m ⟨45,D⟩ ChB_c ChB_h ⟨H,[(0,t0),(6,t6),(9,t9)]⟩ (zxK H.length)
theorem zzh (m : Nat) (D : List Deferred) (t0 t6 t9 : AV) (H : List AObj) : ChB m D t0 t6 t9 H =
 keepE (zh1 m (ro H t0) H) fun t25 H2 =>
 some (TU [t0,t6,t9,t25],H2) := by
 refine (nslX _ _ _ _ _ _ _ _ _).trans ?_
 kernel_rfl
theorem zAm (m : Nat) : EnvOk Try.prog GG (zpw m) := (by
 intro f e h
 simp only [zpw,Prod.mk.injEq,List.mem_cons,List.not_mem_nil,or_false] at h
 obtain ⟨rfl,rfl⟩ := h
 ·exact zie m)
end Go.Proofs.Ytaaogcnjfkgnoaa

namespace Go.Proofs.Ytaaogcnjfkgnoaa
open Go.RowKit
noncomputable def ChC_c : Code := (endC 5 ((Try.f52.body).getD .skip))
def ChC_h : Hint := (.two .n (.join [11] (.two .n (.one (.lp [(11,z2J,4)] [0,9,11,12] [11] (.two (.two .n (.two .n .n)) (.two (.one .n) .n))))) (.two .n .n)))
noncomputable def zkU (m : Nat) : Env := [(78, .tell (zf4 m))]
noncomputable abbrev zq7 (n0 : Nat) : KO (AV × List AObj) := rawFK Try.prog n0 [.tmp 4, .tmp 5]
noncomputable def zuZ (m : Nat) (D : List Deferred) (n0k : Nat) (s : ASt) : RO := joinW Try.prog GG (zkU m) m ⟨45,D⟩ (cdR (cdR ChC_c)) ChC_h.r.r s (zq7 n0k)
noncomputable def zwN (m : Nat) (D : List Deferred) (s : ASt) (kc : ASt → RO) (kx : KO (AV × List AObj)) : RO := bodyW Try.prog GG (zkU m) m ⟨45,D⟩ (cdL (cdL (cdR (cdL (cdR ChC_c))))) ChC_h.r.l.r.c.c [0,9,11,12] [11] s kc kx
noncomputable def ChC (m : Nat) (D : List Deferred) (t0 t6 t9 : AV) (H : List AObj) : RO := exec Try.prog GG (zkU m) m ⟨45,D⟩ ChC_c ChC_h ⟨H,[(0,t0),(6,t6),(9,t9)]⟩ (zq7 H.length)
theorem zqX (m : Nat) (D : List Deferred) (n0k : Nat) (H : List AObj) (t11 : AV) : zuZ m D n0k ⟨H,[(11,t11)]⟩ =
 some (ro H (TU [noT t11,noT (V (.int .i64 0))]),H) := by
 refine (z04 _ _ _ _ _ _ _ _ _).trans ?_
 kernel_rfl
theorem zrH (m : Nat) (D : List Deferred) (H : List AObj) (t0 t9 t11 t12 : AV) (kc : ASt → RO) (kx : KO (AV × List AObj)) : zwN m D ⟨H,[(0,t0),(9,t9),(11,t11),(12,t12)]⟩ kc kx =
 loadE 1 H t9 fun t34 =>
 binE none false false .leq t12 t34 fun t35 =>
 condE t35 (
  tellE (zf4 m [(ro H t0),(ro H t12)]) [(ro H t0),(ro H t12)] fun t41 =>
  z1g (some (z2J,4)) 1 [(0,t41)] fun t42 =>
  appE (some (z2J,4)) H t11 t42 fun t43 H2 =>
  binE none false false .add t12 (V (.int .i64 1)) fun t37 =>
  backE H.length H2 [(0,t0),(9,t9),(11,t43),(12,t37)] kc) (
  kx (.exit 2) ⟨H,[(11,t11)]⟩) := by
 refine (z2r _ _ _ _ _ _ _ _ _ _ _ _).trans ?_
 kernel_rfl
theorem zAd (m : Nat) (D : List Deferred) (t0 t6 t9 : AV) (H : List AObj) : ChC m D t0 t6 t9 H =
 binE none false false .add t6 (V (.int .i64 1)) fun t32 =>
 rowE (V (.slice none 0 0)) z2J 4 H fun t11 H2 =>
 iterC m (zwN m D) ⟨H2,[(0,t0),(9,t9),(11,t11),(12,t32)]⟩ (z41 2 (seqX (fun s=>zuZ m D H.length ⟨s.H,[(11,gt s.T 11)]⟩) (zq7 H.length))) := by
 refine (rawX Try.prog GG (zkU m) m ⟨45,D⟩ H.length ChC_c ChC_h ⟨H,[(0,t0),(6,t6),(9,t9)]⟩ [.tmp 4, .tmp 5]).trans ?_
 kernel_rfl
theorem zzY (m : Nat) : EnvOk Try.prog GG (zkU m) := (by
 intro f e h
 simp only [zkU,Prod.mk.injEq,List.mem_cons,List.not_mem_nil,or_false] at h
 obtain ⟨rfl,rfl⟩ := h
 ·exact zna m)
end Go.Proofs.Ytaaogcnjfkgnoaa

namespace Go.Proofs.Ytaaogcnjfkgnoaa
open Go.RowKit
noncomputable def ChR_c : Code := (rfS (cdL (cdR (cdL (endC 4 ((Try.f52.body).getD .skip))))))
def ChR_h : Hint := (.two .n (.one .n))
noncomputable def zoR (m : Nat) : Env := []
noncomputable abbrev zxw (n0 : Nat) : KO (AV × List AObj) := rndFK n0
noncomputable def ChR (m : Nat) (D : List Deferred) (t26 t9 : AV) (H : List AObj) : RO := exec Try.prog GG (zoR m) m ⟨45,D⟩ ChR_c ChR_h ⟨H,[(26,t26),(9,t9)]⟩ (zxw H.length)
theorem zA9 (m : Nat) (D : List Deferred) (t26 t9 : AV) (H : List AObj) : ChR m D t26 t9 H =
 z5a (some z0U) z0b H fun t10 H2 =>
 z1p 7 H2 t10 t26 fun H3 =>
 loadE 1 H3 t9 fun t27 =>
 z02 (some (0,1)) t10 fun t28 =>
 loadE 1 H3 t28 fun t29 =>
 mmE true t27 t29 fun t30 =>
 z1p 1 H3 t9 t30 fun H4 =>
 zmU H.length H4 (V (.bool true)) := by
 refine (rndX Try.prog GG (zoR m) m ⟨45,D⟩ H.length ChR_c ChR_h ⟨H,[(26,t26),(9,t9)]⟩ ).trans ?_
 kernel_rfl
theorem zyM (m : Nat) : EnvOk Try.prog GG (zoR m) := (by intro f e h;cases h)
end Go.Proofs.Ytaaogcnjfkgnoaa

namespace Go.Proofs.Ytaaogcnjfkgnoaa
open Go.RowKit
attribute [local go_sem] Nat.zero_add Nat.add_zero Nat.mul_one Int.toNat_natCast Int.natCast_zero Int.cast_ofNat_Int or_false false_or or_true true_or Nat.sub_zero Int.natCast_nonneg Int.toNat_zero Bool.true_and Bool.and_true Bool.false_and Bool.and_false Bool.true_or Bool.or_true Bool.false_or Bool.or_false Bool.not_true Bool.not_false Bool.not_not true_and and_true false_and and_false not_true_eq_false not_false_eq_true eq_self decide_true decide_false ne_eq implies_true forall_const true_implies false_implies Bool.true_eq_false Bool.false_eq_true List.map_cons List.map_nil List.all_cons List.all_nil List.length_cons List.length_nil List.length_map List.length_append List.nil_append List.cons_append List.set_cons_zero List.set_cons_succ List.set_nil List.drop_zero List.drop_succ_cons List.drop_nil List.take_zero List.take_succ_cons List.take_nil Option.map_some Option.map_none Option.isSome_some List.all_append List.all_map Function.comp_def decide_eq_true_eq Bool.and_eq_true beq_self_eq_true or_self and_self ite_true ite_false Nat.le_refl Bool.not_eq_true decide_not Bool.not_eq_true' decide_eq_false_iff_not Bool.not_eq_false Bool.or_eq_true if_true if_false ite_self u_roF u_cvF u_cvC u_ceT u_ceK z2x sm_it z6G z38 z5L z7e z3a sm_ro z37 sm_sl z74 z7a sm_fr z23 z0Z sm_kd z1T z19 sm_vw z1X z0T sm_sq z1N z0J sm_tm z24 z15 z3x z1H z3M z7d z6R z1O z3r z1W z1Z z2T z3i ce_it z72 z3E z5i z73 z3N ce_ro z3z ce_sl z70 z6Y ce_sq z2j z1a ce_vw z2f z1b ce_tm z1z z0P z3U z0B z0r ce_vs z28 z10 z3S z1C z3T z75 z7g z2e z3I z1Q z1V z33 z3o cg_it z6F z3H z63 z6T z3m cg_ro z3R cg_sl z79 z6B cg_fr z1F z0M cg_vw z2g z16 cg_st z1y z0R cg_rt z26 z11 cg_pf z1R z0L cg_cs z1D z1e z3f z1A z3j z6L z77 z1K z3q z2c z1I z3Q z36 ms_it z6y z3P z7b z6M z3B ms_ro z3C ms_sl z76 z6Q ms_kd z1E z12 ms_fr z2h z0W ms_vw z1Y z0O ms_sq z2m z1c ms_tm z2a z18 z3L z0y z0q ms_vs z22 z0V z6x z0N z0C z3c z2b z3s z6N z6V z29 z3v z1B z2l z3J z3e co_it z6u z3w z6E z6K z3y co_ro z39 co_sl z71 z6z co_sq z2k z13 co_tm z1P z0S z3n z0A z0p co_nl z1M z14 z3k z1U z3A z7h z78 z20 z3h z21 z1G z2Z z3D sd_it z6H z3p z7c z6U z3K sd_ro z3l sd_sl z6C z6W sd_wh z2i z1d sd_fr z27 z17 sd_kd z1L z0X sd_vw z25 z0Y sd_sq z1J z0K sd_tm z1S z0Q z3b z3O z6Z z64 u_bz u_bi1 u_bi2 u_bi3 u_bi4 u_bi5 u_bi6 u_bi7 ltO_o ltO_r u_eqE
attribute [local go_sem_proc] Nat.reduceAdd Nat.reduceSub Nat.reduceMul Nat.reduceLeDiff Nat.reduceLT Int.reduceEq Int.reduceNe Int.reduceLT Int.reduceLE Int.reduceAdd Int.reduceSub Int.reduceMul Int.reduceNeg Int.reduceToNat reduceCtorEq Nat.reduceEqDiff Nat.reduceBEq Nat.reduceGT
attribute [local go_sem_proc ↓] reduceIte
def chH (l : List Ch) (hi : Int) : List AObj := [⟨1,z7o,0,[nA hi]⟩,⟨1,z4p,0,[chsA l]⟩]
def maxC (a : Int) (x : Ce) : Int := if x.sq > a then x.sq else a
def choA (l : List Ch) (low : Int) (d : Nat) : List Co := (List.range d).map fun i : Nat=>atF (low + ((i + 1 : Nat) : Int)) l
section
variable {n : Int} {l : List Ch}
theorem chA_s (h : LOk n l) (hf : FitL l) : ChA 1001 [] (chsA l) (nA n) [] = some (TU [chsA l,nA (lowC l).st,OP 0 0],[⟨1,z7o,0,[nA (lowC l).st]⟩]) := by
 have hL := low_s 1001 h hf (by omega)
 rw [zAh]
 unfold chsA at hL ⊢
 simp (config := {maxSteps := 4000000,implicitDefEqProofs := false}) (disch := omega) only [go_sem,hL]
 rfl
theorem chB_s (m : Nat) (low hi : Int) : ChB m [] (chsA l) (nA low) (OP 0 0) [⟨1,z7o,0,[nA hi]⟩] = some (TU [chsA l,nA low,OP 0 0,CL (.func 93) 0 [OP 1 0]],chH l hi) := by
 rw [zzh]
 unfold chH chsA
 simp (config := {maxSteps := 4000000,implicitDefEqProofs := false}) (disch := omega) only [go_sem,zi7]
 rfl
theorem chR_s (m : Nat) (hi : Int) (x : Ce) : ChR m [] (ceE x) (OP 0 0) (chH l hi) = some (bA true,chH l (maxC hi x)) := by
 rw [zA9]
 unfold chH chsA maxC
 simp (config := {maxSteps := 4000000,implicitDefEqProofs := false}) (disch := omega) only [go_sem,]
theorem zrJ {low : Int} {d : Nat} : choA l low (d + 1) = choA l low d ++ [atF (low + ((d + 1 : Nat) : Int)) l] := by
 unfold choA
 rw [List.range_succ,List.map_append]
 rfl
theorem chC_s (m : Nat) (low : Int) (e : Nat) (D : List Deferred) (hf : FitL l) (he : e ≤ 1000) (hm : 1000 < m) (h0 : 0 ≤ low) (h1 : low ≤ 3000000000) : ChC m D (chsA l) (nA low) (OP 0 0) (chH l (low + e)) = some (TU [SL ((choA l low e).map coE),nA 0],chH l (low + e) ++ [⟨2,z2J,4,(choA l low e).map coE⟩]) := by
 rw [zAd]
 unfold chH chsA
 simp (config := {maxSteps := 4000000,implicitDefEqProofs := false}) (disch := omega) only [go_sem,w_i64]
 refine z4t (m := m) (ι := {k : Nat // k ≤ e}) (fun k=>⟨[⟨1,z7o,0,[nA (low + e)]⟩,⟨1,z4p,0,[chsA l]⟩,⟨2,z2J,4,(choA l low k.1).map coE⟩],[(0,chsA l),(9,OP 0 0),(11,OW 2 k.1),(12,nA (low + ((k.1 + 1 : Nat) : Int)))]⟩) (fun k=>e - k.1) (fun _=>some (TU [SL ((choA l low e).map coE),nA 0],([⟨1,z7o,0,[nA (low + e)]⟩,⟨1,z4p,0,[SL (l.map cgE)]⟩,⟨2,z2J,4,(choA l low e).map coE⟩] : List AObj))) ?_ ⟨0,Nat.zero_le _⟩ (by dsimp only;omega)
 rintro kx hkx ⟨k,hk⟩ kc hkc
 dsimp only at hkc ⊢
 rw [zrH]
 have hlen : ((choA l low k).map coE).length = k := by simp [choA]
 have hxs : ∀ n,((choA l low k).map coE).all (ltA n) = true := fun n=>by rw [List.all_map];exact z2Z
 unfold chsA at hkc ⊢
 by_cases hlt : k < e
 ·have hlt' : low + ((k + 1 : Nat) : Int) ≤ low + e := by omega
  have g1 := zoF m l (low + ((k + 1 : Nat) : Int)) hf
  unfold chsA at g1
  have step := hkc ⟨k + 1,by omega⟩ (by dsimp only;omega)
  dsimp only at step
  rw [zrJ,List.map_append,show low + ((k + 1 + 1 : Nat) : Int) = low + ((k + 1 : Nat) : Int) + 1 by omega] at step
  simp only [List.map_cons,List.map_nil,co_it] at step
  generalize (choA l low k).map coE = XS at *
  have hroom : k + 1 ≤ 34359738368 := by omega
  simp (config := {maxSteps := 4000000,implicitDefEqProofs := false}) (disch := omega) only [go_sem,hlt',g1,hxs,hlen,hroom,w_i64]
  exact step
 ·obtain rfl : k = e := by omega
  have hlt' : ¬ low + ((k + 1 : Nat) : Int) ≤ low + k := by omega
  simp (config := {maxSteps := 4000000,implicitDefEqProofs := false}) (disch := omega) only [go_sem,hlt',hkx,hxs,zqX]
  rw [if_pos (by simp [choA])]
end
end Go.Proofs.Ytaaogcnjfkgnoaa

namespace Go.Proofs.Ytaaogcnjfkgnoaa
open Go.RowKit
noncomputable def chC0 : Code := (Try.f52.body).getD .skip
theorem zup : endC 4 chC0 = .seq (.seq ChB_c (.block 0 (.rangeFunc (.tmp 25) #[26] (.region 6 (regO (cdL ChR_c)).toArray false) (cdR ChR_c)))) ChC_c := by kernel_rfl
theorem zqC : ChR_c = .seq (.region 6 (regO (cdL ChR_c)).toArray false) (cdR ChR_c) := by kernel_rfl
theorem zuO : flatC (cdR ChR_c) = true := by kernel_rfl
abbrev T0c : Tm := [(9,OP 0 0)]
noncomputable abbrev recC (fn D : Nat) (tm : Array Value) : Loop := ⟨.ready,none,fn,tm,[26].toArray, .region 6 (regO (cdL ChR_c)).toArray false,cdR ChR_c,D⟩
theorem ztx {l : List Ch} {lp fn D d : Nat} {tm : Array Value} (a : Int) (x : Ce) (vs : List Value) (w : World) (S : SS) (μ : List Value) (hr : Rel w S μ (chH l a)) (hf : Fr S μ (F0 45) T0c ⟨tm,[]⟩) (hg : GOk GG S) (hl : w.heap[lp]? = some (.loop (recC fn D tm))) (h1 : vs.length = 1)
  (hv : ∀ (j : Nat) (d : AV) (v : Value),[ceE x][j]? = some d → vs[j]? = some v → rep S μ d v) :
  YieldAt Fence.wide d Try.prog lp vs.toArray w (YPost lp (recC fn D tm) w S μ (chH l a) fun e H2=>e = .normal ∧ H2 = chH l (maxC a x)) := by
 have hx := chR_s (l := l) 1000 a x
 unfold ChR at hx
 rw [zqC] at hx
 refine zrZ ?_ (zm2 (ps := [26]) (xs := [ceE x]) (T := T0c) (zyM 1000) rfl hr hf hg (by decide) hl (by rw [h1];rfl) rfl hv zuO rfl hx)
 rintro e H2 ⟨q1,q2⟩
 exact ⟨zrQ q1,q2⟩
def highC (l : List Ch) : Int := foldL maxC (lowC l).st l
theorem zr7 {n : Int} {l : List Ch} {e : Nat} (h : LOk n l) (hf : FitL l) (he : e ≤ 1000) (hh : highC l = (lowC l).st + e) : ACp Try.prog GG 52 [chsA l,nA n] (TU [SL ((choA l (lowC l).st e).map coE),nA 0]) := by
 have hnd : ∀ r cs t p,(Obj.deferred r) ≠ .cells cs t p := fun _ _ _ _ e=>by cases e
 have h0 : 0 < l.length := by have := h.len;omega
 have hlo := (h.all _ (znV h0 l.length (Nat.le_refl _)))
 have hl0 : 0 ≤ (lowC l).st := hlo.s0
 have hl1 : (lowC l).st ≤ 2147483647 := hlo.sl
 refine ⟨by kernel_rfl,?_⟩
 intro w S μ vs hr hg hlen hv
 have hμ : μ = [] := List.eq_nil_of_length_eq_zero hr.len
 subst hμ
 refine (callsIn_wide (n := 5)).1 ?_
 refine callsIn_of_wp_marks Try.func52 rfl trivial ?_
 rw [Try.ntmps52]
 have hfr := zpC (S := S) (μ := []) (N := 45) (args := [chsA l,nA n]) (vs := vs) hlen (by simp) hv
 refine ziQ (n := 0) MIX (zAO 1001) 4 chC0 ChA_h ⟨[],argsT 0 [chsA l,nA n]⟩ (by kernel_rfl) (chA_s h hf) hr hfr hg ?_ (Nat.le_refl _)
 rintro a2 w2 ⟨S2,μ2,_,hr2,hf2,hg2,hst2⟩
 rw [zup]
 refine wpIn_seq (wpIn_seq (wpIn_mono (zl5 (rs := [0,6,9,25]) MIX (zAm 1000) (chB_s 1000 (lowC l).st (lowC l).st) hr2 hf2 hg2) ?_))
 rintro e a3 w3 ⟨rfl,S3,μ3,hr3,hf3,hg3,hst3⟩
 simp only [Exit.then]
 have hst3' : Step 0 w S [] [] w3 S3 μ3 (chH l (lowC l).st) := hst2.trans (hst3.less (Nat.zero_le _))
 refine wpIn_block ?_
 have hlaw := znY (d := 4) (P := Try.prog) (G := GG) (g := .tmp 25) (ps := [26]) (assign := .region 6 (regO (cdL ChR_c)).toArray false) (body := cdR ChR_c) (N := 45) (f := 93) (caps := [OP 1 0]) (q2 := 0) (Q := fun e H2=>e = .normal ∧ H2 = chH l (highC l)) hr3 hf3 hg3 rfl (by kernel_rfl) ?_
 refine wpIn_mono hlaw ?_
 ·rintro ex a5 w5 ⟨S5,μ5,H5,⟨rfl,rfl⟩,hr5,hst5,hf5,hD5,hsz⟩
  simp only [Exit.inBlock,Exit.then]
  have hst5' := hst3'.trans (hst5.less (Nat.zero_le _))
  rw [hh] at hr5 hst5 hst5'
  have hx := chC_s (l := l) 1001 (lowC l).st e [⟨.collected w3.heap.size,#[]⟩] hf he (by omega) hl0 (by omega)
  refine wpIn_wide.2 (wp_mono (zb0 (n := 2) MIX (zzY 1001) ChC_c ChC_h ⟨chH l ((lowC l).st + e),[(0,chsA l),(6,nA (lowC l).st),(9,OP 0 0)]⟩ _ (Nat.le_refl _) hx w5 S5 μ5 a5 hr5 (hf5.some (by simp [_root_.Go.Proofs.Ytaaogcnjfkgnoaa.get])) (hg3.ext hst5.still)) ?_)
  rintro ex a6 w6 ⟨s6,S6,μ6,hq6,hr6,hf6,hst6⟩
  obtain ⟨he6,hX6⟩ := zoc (rs := [.tmp 4, .tmp 5]) hq6 (fun u h=>by cases h)
  have hend := zo9 (P := Try.prog) (d := 5) (fnn := Try.f52) (rs := [.tmp 4, .tmp 5]) (X := TU [SL ((choA l (lowC l).st e).map coE),nA 0]) rfl hr6 hf6 (hst6.keeps hr5 hD5 (hnd _)) hX6 rfl (hst5'.trans (hst6.less (Nat.zero_le _))) hst3'.size
  rcases he6 with rfl|rfl
  ·exact hend
  ·exact hend
 ·intro lp D fn w1 us hr1 hl1 hus hu
  exact zq6 (β := Int) (C := fun a=>chH l a) (R := maxC) (b0 := (lowC l).st) (b := 1) (r := recC fn D a3.tmps) (T0 := T0c) (tm := a3.tmps) (K := 45) (fun a=>rfl) (fun a=>rfl) (fun a=>rfl) hf.1 hf.2 (fun a x vs w S μ h1 h2 h3 h4 h5 h6=>ztx a x vs w S μ h1 h2 h3 h4 h5 h6) (by decide) hr1 ⟨hf3.size,rfl,(hf3.some (T' := T0c) (by simp [_root_.Go.Proofs.Ytaaogcnjfkgnoaa.get])).slot⟩ hg3 hl1 hus hu
noncomputable def zeT (m : Nat) : List AV → RO := orac (ι := List Ch × Int × Nat) (fun p=>[chsA p.1,nA p.2.1]) (fun p=>TU [SL ((choA p.1 (lowC p.1).st (highC p.1 - (lowC p.1).st).toNat).map coE),nA 0]) (fun p=>LOk p.2.1 p.1 ∧ FitL p.1 ∧ p.2.2 ≤ 1000 ∧ highC p.1 = (lowC p.1).st + p.2.2)
theorem ziE (m : Nat) : ∀ args X H',zeT m args = some (X,H') → ACp Try.prog GG 52 args X := zpF (by
 rintro ⟨l,n,e⟩ ⟨h1,h2,h3,h4⟩
 have := zr7 h1 h2 h3 h4
 dsimp only at h4 ⊢
 rw [show (highC l - (lowC l).st).toNat = e by omega]
 exact this)
end Go.Proofs.Ytaaogcnjfkgnoaa

namespace Go.Proofs.Ytaaogcnjfkgnoaa
open Go.RowKit
def zih : List (Nat × Nat) := [(0,1),(1,1),(2,1),(3,1),(4,1),(5,1)]
def zlI : List (Nat × Nat) := [(0,1),(1,1),(2,1),(3,1),(4,1),(5,1),(6,1),(7,1)]
noncomputable def z8Y : Code := (Try.f20.body).getD .skip
def z8q : Hint := (.two .n (.two .n (.join [0,1,3,6] (.one (.join [0,1,3,6,21] .n (.two (.two .n .n) (.two .n (.two (.two .n .n) .n))))) (.join [0,1,3,6] (.two .n (.one (.lp [] [0,1,3,6,38,39,40] [0,1,3,6,8,9] (.two .n (.two (.two .n .n) (.join [0,1,3,6,38,39,40] (.one (.two .n (.join [0,1,3,6,38,39,40,56] .n (.two (.two .n .n) .n)))) .n)))))) (.two (.two .n (.two (.two .n .n) .n)) (.join [3,6] (.two .n (.join [3,6,76] .n (.two (.two .n .n) .n))) (.two .n .n)))))))
noncomputable def z6t (m : Nat) : Env := [(32, .tell (z4O m)),(37, .tell (z8R m)),(11, .keep (z9Z m)),(51, .tell (zdu m)),(22, .keep (zdo m)),(36, .keep (z5H m)),(52, .tell (zeT m))]
noncomputable abbrev zb1 (n0 : Nat) : KO (AV × List AObj) := z7z Try.prog n0 [.tmp 8, .tmp 9]
noncomputable def zfz (m : Nat) (n0k : Nat) (s : ASt) : RO := joinW Try.prog GG (z6t m) m ⟨83,[]⟩ (cdR (cdR (cdR z8Y))) z8q.r.r.r s (zb1 n0k)
noncomputable def zbR (m : Nat) (n0k : Nat) (s : ASt) : RO := joinW Try.prog GG (z6t m) m ⟨83,[]⟩ (cdR (cdL (cdL (cdR (cdR z8Y))))) z8q.r.r.l.c.r s (z41 0 (seqX (fun s=>zfz m n0k ⟨s.H,[(0,gt s.T 0),(1,gt s.T 1),(3,gt s.T 3),(6,gt s.T 6)]⟩) (zb1 n0k)))
noncomputable def zd4 (m : Nat) (t0 t1 t2 t3 : AV) (H : List AObj) : RO := exec Try.prog GG (z6t m) m ⟨83,[]⟩ z8Y z8q ⟨H,argsT 0 [t0,t1,t2,t3]⟩ (zb1 H.length)
theorem zhA (m : Nat) (n0k : Nat) (H : List AObj) (t0 t1 t3 t6 t21 : AV) : zbR m n0k ⟨H,[(0,t0),(1,t1),(3,t3),(6,t6),(21,t21)]⟩ =
 condE t21 (
  keepK n0k H (ro H (TU [noT (V (.slice none 0 0)),noT (V (.int .i64 1))]))) (
  z02 (some (1,1)) t6 fun t30 =>
  loadE 1 H t30 fun t31 =>
  z02 (some (2,1)) t6 fun t32 =>
  loadE 1 H t32 fun t33 =>
  tellE (z8w m (ro H t33) (ro H t3)) [(ro H t33),(ro H t3)] fun t35 =>
  binE none false false .neq t31 t35 fun t36 =>
  condE t36 (
   keepK n0k H (ro H (TU [noT (V (.slice none 0 0)),noT (V (.int .i64 21))]))) (
   zfz m n0k ⟨H,[(0,t0),(1,t1),(3,t3),(6,t6)]⟩)) := by
 refine (z04 _ _ _ _ _ _ _ _ _).trans ?_
 kernel_rfl
theorem zk8 (m : Nat) (t0 t1 t2 t3 : AV) (H : List AObj) : zd4 m t0 t1 t2 t3 H =
 boxE zpQ H t2 fun t6 H2 =>
 tellE (z5b m (ro H2 t3)) [(ro H2 t3)] fun t18 =>
 extE t18 0 fun t19 =>
 extE t18 1 fun t20 =>
 z02 (some (0,1)) t6 fun t22 =>
 loadE 1 H2 t22 fun t23 =>
 binE none false false .neq t23 (V (.int .i64 7)) fun t24 =>
 condE t24 (
  zbR m H.length ⟨H2,[(0,t0),(1,t1),(3,t3),(6,t6),(21,(V (.bool true)))]⟩) (
  binE none false false .neq t20 (V (.int .i64 0)) fun t27 =>
  zbR m H.length ⟨H2,[(0,t0),(1,t1),(3,t3),(6,t6),(21,t27)]⟩) := by
 refine (keepX Try.prog GG (z6t m) m ⟨83,[]⟩ H.length z8Y z8q ⟨H,argsT 0 [t0,t1,t2,t3]⟩ [.tmp 8, .tmp 9]).trans ?_
 kernel_rfl
noncomputable def zda (m : Nat) : List AV → List AObj → RO|[t0,t1,t2,t3],H=>zd4 m t0 t1 t2 t3 H|_,_=>none
theorem zk7 (m : Nat) : ∀ args H X H',zda m args H = some (X,H') → AC Try.prog GG 20 args H (Is X H') := by
 intro args H X H' h
 unfold zda at h
 split at h
 ·exact z2K MIX (by
  intro f e h
  simp only [z6t,Prod.mk.injEq,List.mem_cons,List.not_mem_nil,or_false] at h
  rcases h with ⟨rfl,rfl⟩|⟨rfl,rfl⟩|⟨rfl,rfl⟩|⟨rfl,rfl⟩|⟨rfl,rfl⟩|⟨rfl,rfl⟩|⟨rfl,rfl⟩
  ·exact z6f m
  ·exact zdT m
  ·exact zdq m
  ·exact zio m
  ·exact zkj m
  ·exact z8X m
  ·exact ziE m) (f := 20) (c := z8Y) Try.func20 rfl (by kernel_rfl) _ rfl Try.ntmps20 (Nat.le_of_ble_eq_true rfl) z8q h
 ·cases h
noncomputable def z5S : Code := (Try.f10.body).getD .skip
def z5Z : Hint := (.two .n (.two .n (.two .n (.join [1,2] (.join [1,2,25] .n (.two (.two .n .n) .n)) (.two .n (.two .n (.two .n (.two .n (.two .n (.two .n (.two .n .n)))))))))))
noncomputable def z4X (m : Nat) : Env := [(26, .keep (zgN m)),(27, .keep (zgp m)),(11, .keep (z9Z m)),(12, .keep (z5z m)),(30, .keep (z9S m)),(20, .keep (zda m))]
noncomputable abbrev z7r : KO (AV × List AObj) := z3Y Try.prog [.tmp 0]
noncomputable def z7S (m : Nat) (s : ASt) : RO := joinW Try.prog GG (z4X m) m ⟨69,[]⟩ (cdR (cdR (cdR (cdR z5S)))) z5Z.r.r.r.r s (z7r)
noncomputable def z5d (m : Nat) (s : ASt) : RO := joinW Try.prog GG (z4X m) m ⟨69,[]⟩ (cdR (cdL (cdR (cdR (cdR z5S))))) z5Z.r.r.r.l.r s (seqX (fun s=>z7S m ⟨s.H,[(1,gt s.T 1),(2,gt s.T 2)]⟩) (z7r))
noncomputable def z5C (m : Nat) : RO := exec Try.prog GG (z4X m) m ⟨69,[]⟩ z5S z5Z ⟨[],argsT 0 []⟩ (z7r)
theorem zdW (m : Nat) (H : List AObj) (t1 t2 : AV) : z7S m ⟨H,[(1,t1),(2,t2)]⟩ =
 z4r (some zih) (some z0u) [(1,(V (.int .i64 1)))] fun t26 =>
 z5a (some z0u) z00 H fun t4 H2 =>
 z1p 8 H2 t4 t26 fun H3 =>
 loadE 8 H3 t4 fun t29 =>
 keepE (z6P m (ro H3 t2) (ro H3 t1) (ro H3 t29) (V (.int .i64 4)) H3) fun t30 H4 =>
 loadE 8 H4 t4 fun t33 =>
 keepE (z4a m (ro H4 t1) (ro H4 t33) H4) fun t34 H5 =>
 extE t34 0 fun t35 =>
 extE t34 1 fun t36 =>
 z5a (some z09) z01 H5 fun t6 H6 =>
 z1p 7 H6 t6 t35 fun H7 =>
 loadE 7 H7 t6 fun t38 =>
 keepE (z89 m (ro H7 t2) (V (.int .i64 0)) (ro H7 t38) H7) fun t39 H8 =>
 loadE 8 H8 t4 fun t42 =>
 keepE (z6P m (ro H8 t2) (ro H8 t1) (ro H8 t42) (V (.int .i64 4)) H8) fun t43 H9 =>
 z4r (some zlI) (some z4k) [(0,(V (.int .i64 7))),(2,(V (.int .i64 1)))] fun t47 =>
 keepE (zd4 m (ro H9 t2) (ro H9 t1) (ro H9 t47) (V (.int .i64 4)) H9) fun t48 H10 =>
 extE t48 0 fun t49 =>
 extE t48 1 fun t50 =>
 unE .not t30 fun t52 =>
 condE t52 (
  binE none false false .eql t36 (V (.int .i64 0)) fun t55 =>
  condE t55 (
  z02 (some (1,1)) t6 fun t58 =>
  loadE 1 H10 t58 fun t59 =>
  binE none false false .eql t59 (V (.int .i64 6)) fun t60 =>
  condE t60 (
  condE t43 (
  binE none false false .eql t50 (V (.int .i64 21)) fun t67 =>
  tellK H10 (ro H10 t67)) (
  tellK H10 (ro H10 (V (.bool false))))) (
  tellK H10 (ro H10 (V (.bool false))))) (
  tellK H10 (ro H10 (V (.bool false))))) (
  tellK H10 (ro H10 (V (.bool false)))) := by
 refine (z04 _ _ _ _ _ _ _ _ _).trans ?_
 kernel_rfl
theorem zdY (m : Nat) (H : List AObj) (t1 t2 t25 : AV) : z5d m ⟨H,[(1,t1),(2,t2),(25,t25)]⟩ =
 condE t25 (
  tellK H (ro H (V (.bool false)))) (
  z7S m ⟨H,[(1,t1),(2,t2)]⟩) := by
 refine (z04 _ _ _ _ _ _ _ _ _).trans ?_
 kernel_rfl
theorem zgh (m : Nat) : z5C m =
 keepE (zhE m []) fun t11 H1 =>
 keepE (zeA m (V (.int .i64 4)) (ro H1 (V (.slice none 0 0))) H1) fun t13 H2 =>
 extE t13 0 fun t14 =>
 extE t13 1 fun t15 =>
 ptrE .eql t11 (V (.pointer none)) fun t17 =>
 condE t17 (
  z5d m ⟨H2,[(1,t11),(2,t14),(25,(V (.bool true)))]⟩) (
  binE none false false .neq t15 (V (.int .i64 0)) fun t20 =>
  condE t20 (
  z5d m ⟨H2,[(1,t11),(2,t14),(25,(V (.bool true)))]⟩) (
  ptrE .eql t14 (V (.pointer none)) fun t24 =>
  z5d m ⟨H2,[(1,t11),(2,t14),(25,t24)]⟩)) := by
 refine (tellX _ _ _ _ _ _ _ _ _).trans ?_
 kernel_rfl
noncomputable def z8y (m : Nat) : List AV → RO|[]=>z5C m|_=>none
theorem zg0 (m : Nat) : ∀ args X H',z8y m args = some (X,H') → ACp Try.prog GG 10 args X := by
 intro args X H' h
 unfold z8y at h
 split at h
 ·exact z0G MIX (by
  intro f e h
  simp only [z4X,Prod.mk.injEq,List.mem_cons,List.not_mem_nil,or_false] at h
  rcases h with ⟨rfl,rfl⟩|⟨rfl,rfl⟩|⟨rfl,rfl⟩|⟨rfl,rfl⟩|⟨rfl,rfl⟩|⟨rfl,rfl⟩
  ·exact zkM m
  ·exact zkR m
  ·exact zdq m
  ·exact z9w m
  ·exact zec m
  ·exact zk7 m) (f := 10) (c := z5S) Try.func10 rfl (by kernel_rfl) _ rfl Try.ntmps10 (Nat.le_of_ble_eq_true rfl) z5Z h
 ·cases h
noncomputable def z8a : Code := (Try.f5.body).getD .skip
def z8b : Hint := (.two .n (.two .n (.two .n (.two (.two .n (.two (.two .n .n) .n)) (.two (.two .n (.two (.two .n .n) .n)) (.two .n (.two .n (.two .n .n))))))))
noncomputable def z7i (m : Nat) : Env := [(7, .tell (z5M m)),(8, .keep (zal m)),(9, .tell (zam m)),(10, .tell (z8y m)),(11, .keep (z9Z m)),(17, .keep (z4N m)),(12, .keep (z5z m)),(18, .keep (z2q m)),(16, .keep (z9F m))]
noncomputable abbrev zbj : KO (AV × List AObj) := z3Y Try.prog [.tmp 6]
noncomputable def z5K (m : Nat) (t0 t1 t2 : AV) : RO := exec Try.prog GG (z7i m) m ⟨74,[]⟩ z8a z8b ⟨[],argsT 0 [t0,t1,t2]⟩ (zbj)
theorem zbL (m : Nat) (t0 t1 t2 : AV) : z5K m t0 t1 t2 =
 boxE z2s [] t0 fun t3 H1 =>
 boxE z00 H1 t1 fun t4 H2 =>
 loadE 8 H2 t4 fun t15 =>
 tellE (z4Y m (ro H2 t15)) [(ro H2 t15)] fun t16 =>
 z1p 8 H2 t4 t16 fun H3 =>
 loadE 5 H3 t3 fun t18 =>
 keepE (z49 m (ro H3 t18) H3) fun t19 H4 =>
 extE t19 0 fun t20 =>
 extE t19 1 fun t21 =>
 extE t19 2 fun t22 =>
 extE t19 3 fun t23 =>
 unE .not t23 fun t25 =>
 condE t25 (
  loadE 5 H4 t3 fun t26 =>
  tellE (z9R m (ro H4 t26)) [(ro H4 t26)] fun t27 =>
  condE t27 (
   tellE (z5C m) [] fun t29 =>
   tellK H4 (ro H4 t29)) (
   tellK H4 (ro H4 (V (.bool false))))) (
  loadE 8 H4 t4 fun t33 =>
  keepE (z6P m (ro H4 t21) (ro H4 t20) (ro H4 t33) (ro H4 t2) H4) fun t35 H5 =>
  loadE 8 H5 t4 fun t37 =>
  loadE 8 H4 t4 fun t8022 =>
  eqE t37 t8022 (
  keepE (z2A m (ro H5 t22) (ro H5 t37) (ro H5 t2) H5) fun t39 H6 =>
  binE none true false .neq t35 t39 fun t40 =>
  condE t40 (
   tellK H6 (ro H6 (V (.bool false)))) (
   loadE 8 H6 t4 fun t43 =>
   keepE (z4a m (ro H6 t20) (ro H6 t43) H6) fun t44 H7 =>
   extE t44 0 fun t45 =>
   extE t44 1 fun t46 =>
   z5a (some z09) z01 H7 fun t11 H8 =>
   z1p 7 H8 t11 t45 fun H9 =>
   loadE 8 H9 t4 fun t49 =>
   keepE (z1f m (ro H9 t22) (ro H9 t49) H9) fun t50 H10 =>
   extE t50 0 fun t51 =>
   extE t50 1 fun t52 =>
   z5a (some z09) z01 H10 fun t13 H11 =>
   z1p 7 H11 t13 t51 fun H12 =>
   loadE 7 H12 t11 fun t53 =>
   loadE 7 H12 t13 fun t54 =>
   binE (some [.i .i64, .i .i64, .i .i64, .i .i64, .i .i64]) false false .eql t53 t54 fun t55 =>
   condE t55 (
    binE none false false .eql t46 t52 fun t59 =>
    condE t59 (
    keepE (z68 m (ro H12 t20) H12) fun t63 H13 =>
    nilE t22 fun t65 =>
    z02 (some (0,1)) t65 fun t66 =>
    loadE 1 H13 t66 fun t67 =>
    loadE 1 H12 t66 fun t8051 =>
   eqE t67 t8051 (
   lenE false true [] t67 fun t68 =>
    binE none false false .eql t63 t68 fun t69 =>
    condE t69 (
    tellE (z5C m) [] fun t72 =>
    tellK H13 (ro H13 t72)) (
    tellK H13 (ro H13 (V (.bool false)))))) (
    tellK H12 (ro H12 (V (.bool false))))) (
    tellK H12 (ro H12 (V (.bool false))))))) := by
 refine (tellX _ _ _ _ _ _ _ _ _).trans ?_
 kernel_rfl
noncomputable def z8e (m : Nat) : List AV → RO|[t0,t1,t2]=>z5K m t0 t1 t2|_=>none
theorem zc3 (m : Nat) : ∀ args X H',z8e m args = some (X,H') → ACp Try.prog GG 5 args X := by
 intro args X H' h
 unfold z8e at h
 split at h
 ·exact z0G MIX (by
  intro f e h
  simp only [z7i,Prod.mk.injEq,List.mem_cons,List.not_mem_nil,or_false] at h
  rcases h with ⟨rfl,rfl⟩|⟨rfl,rfl⟩|⟨rfl,rfl⟩|⟨rfl,rfl⟩|⟨rfl,rfl⟩|⟨rfl,rfl⟩|⟨rfl,rfl⟩|⟨rfl,rfl⟩|⟨rfl,rfl⟩
  ·exact zcV m
  ·exact zhn m
  ·exact zhI m
  ·exact zg0 m
  ·exact zdq m
  ·exact zbn m
  ·exact z9w m
  ·exact z5c m
  ·exact zgM m) (f := 5) (c := z8a) Try.func5 rfl (by kernel_rfl) _ rfl Try.ntmps5 (Nat.le_of_ble_eq_true rfl) z8b h
 ·cases h
end Go.Proofs.Ytaaogcnjfkgnoaa

namespace Go.Proofs.Ytaaogcnjfkgnoaa
open Go.RowKit
open Go.Maps (Keyed)
def posL {α : Type} [DecidableEq α] (L : List α) (s : α) : Nat := if s ∈ L then L.idxOf s + 1 else 0
def mpF {α : Type} (kb : α → List UInt8) : Nat → List α → List AV
 |_,[]=>[]
 |k,s :: r=>entA (kb s) .i64 ((k + 1 : Nat) : Int) :: mpF kb (k + 1) r
section
variable {α : Type} {kb : α → List UInt8}
theorem zq3 : ∀ (L : List α) (k : Nat),(mpF kb k L).length = L.length
 |[],k=>rfl
 |s :: r,k=>by simp [mpF,zq3 r]
theorem zne (s : α) : ∀ (L : List α) (k : Nat),mpF kb k (L ++ [s]) = mpF kb k L ++ [entA (kb s) .i64 ((k + L.length + 1 : Nat) : Int)]
 |[],k=>rfl
 |x :: r,k=>by
  show entA (kb x) .i64 ((k + 1 : Nat) : Int) :: mpF kb (k + 1) (r ++ [s]) = entA (kb x) .i64 ((k + 1 : Nat) : Int) :: (mpF kb (k + 1) r ++ _)
  rw [zne s r (k + 1),show k + 1 + r.length + 1 = k + (x :: r).length + 1 by simp;omega]
theorem zu0 (n : Nat) : ∀ (L : List α) (k : Nat),(mpF kb k L).all (ltA n) = true
 |[],k=>rfl
 |s :: r,k=>by
  show (ltA n (entA (kb s) .i64 ((k + 1 : Nat) : Int)) && (mpF kb (k + 1) r).all (ltA n)) = true
  rw [zu0 n r];rfl
def putD (D : DataW Unit) (e : AV) : DataW Unit := D.put (.string (entK e)) (entV e)
theorem zxv (k : List UInt8) (q : IntKind) (c : Int) : entK (entA k q c) = k := by simp [entK,entA]
theorem zrP [DecidableEq α] {s : α} : ∀ (L : List α) (k : Nat) (D : DataW Unit),Maps.IsMap D → L.Nodup → (∀ x ∈ L,kb x = kb s → x = s) →
  ((mpF kb k L).foldl putD D).atKey (.string (kb s)) (.lit (.int .i64 0)) = (if s ∈ L then .lit (.int .i64 ((k + L.idxOf s + 1 : Nat) : Int)) else D.atKey (.string (kb s)) (.lit (.int .i64 0))) ∧
  Maps.has ((mpF kb k L).foldl putD D) (.string (kb s)) = (decide (s ∈ L) || Maps.has D (.string (kb s)))
 |[],k,D,hD,_,_=>by simp [mpF]
 |x :: r,k,D,hD,hn,hi=>by
  have hn' := List.nodup_cons.1 hn
  obtain ⟨h1,h2⟩ := zrP r (k + 1) (putD D (entA (kb x) .i64 ((k + 1 : Nat) : Int))) (hD.put _ _) hn'.2 (fun y hy=>hi y (List.mem_cons_of_mem _ hy))
  show ((mpF kb (k + 1) r).foldl putD (putD D _)).atKey _ _ = _ ∧ Maps.has ((mpF kb (k + 1) r).foldl putD (putD D _)) _ = _
  rw [h1,h2]
  by_cases e : x = s
  ·subst e
   rw [if_neg hn'.1,if_pos (List.mem_cons_self ..)]
   have hk : (Lit.string (kb x)) = .string (entK (entA (kb x) .i64 ((k + 1 : Nat) : Int))) := by rw [zxv]
   constructor
   ·unfold putD
    rw [hk,Maps.atKey_put_same hD (show WideAt.IsKeyLit (.string (entK (entA (kb x) .i64 ((k + 1 : Nat) : Int)))) from trivial)]
    simp [entV,entA]
   ·unfold putD
    rw [hk,Maps.has_put_same hD (show WideAt.IsKeyLit (.string (entK (entA (kb x) .i64 ((k + 1 : Nat) : Int)))) from trivial)]
    simp
  ·have hne : (Lit.string (kb s)) ≠ .string (entK (entA (kb x) .i64 ((k + 1 : Nat) : Int))) := fun q=>by
    rw [zxv] at q
    injection q with q
    exact e (hi x (List.mem_cons_self ..) q.symm)
   have hm : (s ∈ x :: r) = (s ∈ r) := by simp [show s ≠ x from fun q=>e q.symm]
   simp only [hm]
   unfold putD
   rw [Maps.atKey_put_other hne,Maps.has_put_other hne]
   refine ⟨?_,rfl⟩
   by_cases hs : s ∈ r
   ·rw [if_pos hs,if_pos hs,List.idxOf_cons,show (x == s) = false by simpa using e,cond_false,show k + 1 + r.idxOf s + 1 = k + (r.idxOf s + 1) + 1 by omega]
   ·rw [if_neg hs,if_neg hs]
theorem zrj (c : List AV) : mapD c = c.foldl putD (.map []) := rfl
theorem mp_at [DecidableEq α] {L : List α} {s : α} (hn : L.Nodup) (hi : ∀ x ∈ L,kb x = kb s → x = s) :
  (mapD (mpF kb 0 L)).atKey (.string (kb s)) (.lit (.int .i64 0)) = .lit (.int .i64 (posL L s)) ∧ Maps.has (mapD (mpF kb 0 L)) (.string (kb s)) = decide (s ∈ L) := by
 obtain ⟨h1,h2⟩ := zrP (kb := kb) (s := s) L 0 (.map []) ⟨[],rfl⟩ hn hi
 rw [zrj,h1,h2]
 constructor
 ·unfold posL
  split
  ·rw [Nat.zero_add]
  ·rfl
 ·rw [Maps.has_eq];simp
end
theorem zxS : Keyed Try.prog 9 := Maps.string_keyed Try.underlying9
theorem keyT {s : List UInt8} (h : s.length ≤ 9223372036854775807) : keyOf Try.prog 9 (.string ⟨s.toArray⟩) = some (.string s) := by
 unfold keyOf mapKey
 simp only [Try.underlying9]
 rw [if_pos (show ByteArray.size ⟨s.toArray⟩ ≤ maxLen by simp only [ByteArray.size,List.size_toArray];unfold maxLen;omega)]
theorem laidOut : laidOutB Try.prog = true := by kernel_rfl
theorem wideS : (match Try.prog.underlying 41 with|some (.array _ _)|some (.struct _)=>true|_=>false) = true := by rw [Try.underlying41]
theorem rowS : (41 : TypeId) < Try.prog.types.size := of_decide_eq_true (by kernel_rfl)
theorem zvZ : Keyed Try.prog 41 := Keyed.of_law (deep_law_laid laidOut (m := 3) (by omega) rowS (by kernel_rfl) wideS)
theorem zrR (w : World) : (zeroValue 3).run Try.prog w = .ok (.int .i64 0) w := by kernel_rfl
def I64 (i : Int) : Prop := -9223372036854775808 ≤ i ∧ i ≤ 9223372036854775807
def SmI (s : Sm) : Prop := I64 s.fr ∧ I64 s.kd ∧ I64 s.vw ∧ I64 s.sq ∧ I64 s.tm
theorem wf64 {i : Int} (h : I64 i) : (Lit.int .i64 i).wf = true := by
 have := h
 simp [I64,Lit.wf,IntKind.min,IntKind.max,IntKind.signed,IntKind.bits] at this ⊢
 omega
def kS (s : Sm) : List UInt8 := keyBytes [.int .i64 s.fr, .int .i64 s.kd, .int .i64 s.vw, .int .i64 s.sq, .int .i64 s.tm]
theorem keyS {s : Sm} (h : SmI s) : keyOf Try.prog 41 (.agg #[.int .i64 s.fr, .int .i64 s.kd, .int .i64 s.vw, .int .i64 s.sq, .int .i64 s.tm]) = some (.string (kS s)) := by
 obtain ⟨h1,h2,h3,h4,h5⟩ := h
 have w1 := wf64 h1;have w2 := wf64 h2;have w3 := wf64 h3;have w4 := wf64 h4;have w5 := wf64 h5
 have hkt : Try.prog.keyType 41 = true := by kernel_rfl
 have hce : Try.prog.cellsOf 41 = 5 := by kernel_rfl
 have hc3 : Try.prog.cellsOf 3 = 1 := by kernel_rfl
 obtain ⟨m,hm⟩ : ∃ m,Try.prog.types.size = m + 1 := Nat.exists_eq_succ_of_ne_zero (Nat.ne_of_gt (Nat.lt_of_le_of_lt (Nat.zero_le _) rowS))
 unfold keyOf
 simp only [Try.underlying41]
 rw [if_pos (by simp [hkt,Value.formed,Try.underlying41,hce]),hm]
 unfold Program.keyLits
 simp only [Try.underlying41,Value.cells]
 rw [if_pos ⟨by rw [hce];rfl,by simp⟩]
 simp [hc3,Program.keyLits,Try.underlying3,w1,w2,w3,w4,w5,kS]
theorem zzv {s t : Sm} (hs : SmI s) (ht : SmI t) (h : kS s = kS t) : s = t := by
 obtain ⟨a1,a2,a3,a4,a5⟩ := hs
 obtain ⟨b1,b2,b3,b4,b5⟩ := ht
 unfold kS at h
 have := keyBytes_inj (by simp [Alike,Lit.sameKind]) (by simp [Lit.keyWf,wf64 a1,wf64 a2,wf64 a3,wf64 a4,wf64 a5]) (by simp [Lit.keyWf,wf64 b1,wf64 b2,wf64 b3,wf64 b4,wf64 b5]) h
 simp at this
 obtain ⟨e1,e2,e3,e4,e5⟩ := this
 cases s;cases t;simp_all
def tmO (L : List (List UInt8)) : AObj := ⟨5,9,3,mpF _root_.id 0 L⟩
def rmO (R : List Sm) : AObj := ⟨5,41,3,mpF kS 0 R⟩
theorem zy9 {R : Type} {H : List AObj} {i : Nat} {L : List (List UInt8)} {s : List UInt8} {K : AV → Option R} (hH : H[i]? = some (tmO L)) (hn : L.Nodup) (hs : s.length ≤ 9223372036854775807) :
  lookE Try.prog 105 H (MP i) (sA s) true K = K (TU [nA (posL L s),bA (decide (s ∈ L))]) := by
 obtain ⟨h1,h2⟩ := mp_at (kb := _root_.id) (L := L) (s := s) hn (fun x _ e=>e)
 refine zss ⟨rfl,i,tmO L, .i64, .string ⟨s.toArray⟩, .string s,posL L s,rfl,hH,rfl,zxS,Try.underlying105,Try.underlying3,zrR,rfl,keyT hs,h1,?_⟩
 rw [if_pos rfl]
 exact congrArg (fun b=>TU [nA (posL L s),bA b]) ((decide_eq_decide.2 Iff.rfl).trans h2.symm)
theorem zy8 {R : Type} {H : List AObj} {i : Nat} {L : List Sm} {s : Sm} {K : AV → Option R} (hH : H[i]? = some (rmO L)) (hn : L.Nodup) (hL : ∀ x ∈ L,SmI x) (hs : SmI s) :
  lookE Try.prog 116 H (MP i) (.agg (smC s)) false K = K (nA (posL L s)) := by
 obtain ⟨h1,h2⟩ := mp_at (kb := kS) (L := L) (s := s) hn (fun x hx e=>zzv (hL x hx) hs e)
 exact zss ⟨rfl,i,rmO L, .i64,_, .string (kS s),posL L s,rfl,hH,rfl,zvZ,Try.underlying116,Try.underlying3,zrR,rfl,keyS hs,h1,rfl⟩
theorem zyI {R : Type} {H : List AObj} {i : Nat} {L : List (List UInt8)} {s : List UInt8} {K : List AObj → Option R} (hH : H[i]? = some (tmO L)) (hs : s.length ≤ 9223372036854775807) (hl : L.length < 100000) :
  putME Try.prog 105 H (MP i) (sA s) (nA ((L.length + 1 : Nat) : Int)) K = K (H.set i (tmO (L ++ [s]))) := by
 refine zrY ⟨rfl,i,tmO L, .i64, .string ⟨s.toArray⟩,s,_,rfl,hH,rfl,zxS,Try.underlying105,Try.underlying3,rfl,keyT hs,rfl,wf64 ⟨by omega,by omega⟩,?_,?_⟩
 ·rw [show (tmO L).c = mpF _root_.id 0 L from rfl,zq3];unfold maxLen;omega
 ·unfold tmO;rw [zne,Nat.zero_add];rfl
theorem zzk {R : Type} {H : List AObj} {i : Nat} {L : List Sm} {s : Sm} {K : List AObj → Option R} (hH : H[i]? = some (rmO L)) (hs : SmI s) (hl : L.length < 100000) :
  putME Try.prog 116 H (MP i) (.agg (smC s)) (nA ((L.length + 1 : Nat) : Int)) K = K (H.set i (rmO (L ++ [s]))) := by
 refine zrY ⟨rfl,i,rmO L, .i64,_,kS s,_,rfl,hH,rfl,zvZ,Try.underlying116,Try.underlying3,rfl,keyS hs,rfl,wf64 ⟨by omega,by omega⟩,?_,?_⟩
 ·rw [show (rmO L).c = mpF kS 0 L from rfl,zq3];unfold maxLen;omega
 ·unfold rmO;rw [zne,Nat.zero_add]
end Go.Proofs.Ytaaogcnjfkgnoaa

namespace Go.Proofs.Ytaaogcnjfkgnoaa
open Go.RowKit
theorem nthOA {R : Type} : ∀ (A : List AObj) {Z : List AObj} {k : Nat} {K : AObj → Option R},nthOE (A ++ Z) (A.length + k) K = nthOE Z k K
 |[],Z,k,K=>by simp
 |a :: A,Z,k,K=>by
  show nthOE (a :: (A ++ Z)) ((A.length + 1) + k) K = _
  rw [show A.length + 1 + k = (A.length + k) + 1 by omega]
  exact nthOA A
theorem setA : ∀ (A : List AObj) {Z : List AObj} {k : Nat} {o : AObj},(A ++ Z).set (A.length + k) o = A ++ Z.set k o
 |[],Z,k,o=>by simp
 |a :: A,Z,k,o=>by
  show (a :: (A ++ Z)).set ((A.length + 1) + k) o = _
  rw [show A.length + 1 + k = (A.length + k) + 1 by omega,List.set_cons_succ,setA A]
  rfl
theorem getA : ∀ (A : List AObj) {Z : List AObj} {k : Nat},(A ++ Z)[A.length + k]? = Z[k]? := fun A {Z k}=>by
 rw [List.getElem?_append_right (by omega)];congr 1;omega
def scM (A B : List AObj) (o0 o1 o2 o3 o4 o5 : AObj) : List AObj := A ++ (o0 :: o1 :: o2 :: o3 :: o4 :: o5 :: B)
def nAB (A B : List AObj) : Nat := A.length + (B.length + 6)
section
variable {R : Type} {A B Y : List AObj} {o0 o1 o2 o3 o4 o5 o : AObj} {K : AObj → Option R} {k : Nat}
theorem za0 : (scM A B o0 o1 o2 o3 o4 o5).length = nAB A B := by simp [scM,nAB]
theorem z8h : scM A (B ++ Y) o0 o1 o2 o3 o4 o5 = scM A B o0 o1 o2 o3 o4 o5 ++ Y := by simp [scM]
theorem zy2 : nAB A (B ++ Y) = nAB A B + Y.length := by simp [nAB];omega
theorem scM_0 : nthOE (scM A B o0 o1 o2 o3 o4 o5) A.length K = K o0 := (nthOA A (k := 0))
theorem scM_1 : nthOE (scM A B o0 o1 o2 o3 o4 o5) (A.length + 1) K = K o1 := (nthOA A (k := 1))
theorem scM_2 : nthOE (scM A B o0 o1 o2 o3 o4 o5) (A.length + 2) K = K o2 := (nthOA A (k := 2))
theorem scM_3 : nthOE (scM A B o0 o1 o2 o3 o4 o5) (A.length + 3) K = K o3 := (nthOA A (k := 3))
theorem scM_4 : nthOE (scM A B o0 o1 o2 o3 o4 o5) (A.length + 4) K = K o4 := (nthOA A (k := 4))
theorem scM_5 : nthOE (scM A B o0 o1 o2 o3 o4 o5) (A.length + 5) K = K o5 := (nthOA A (k := 5))
theorem scY_0 : nthOE (scM A B o0 o1 o2 o3 o4 o5 ++ Y) A.length K = K o0 := by rw [← z8h];exact scM_0
theorem scY_1 : nthOE (scM A B o0 o1 o2 o3 o4 o5 ++ Y) (A.length + 1) K = K o1 := by rw [← z8h];exact scM_1
theorem scY_2 : nthOE (scM A B o0 o1 o2 o3 o4 o5 ++ Y) (A.length + 2) K = K o2 := by rw [← z8h];exact scM_2
theorem scY_3 : nthOE (scM A B o0 o1 o2 o3 o4 o5 ++ Y) (A.length + 3) K = K o3 := by rw [← z8h];exact scM_3
theorem scY_4 : nthOE (scM A B o0 o1 o2 o3 o4 o5 ++ Y) (A.length + 4) K = K o4 := by rw [← z8h];exact scM_4
theorem scY_5 : nthOE (scM A B o0 o1 o2 o3 o4 o5 ++ Y) (A.length + 5) K = K o5 := by rw [← z8h];exact scM_5
theorem scS_0 : (scM A B o0 o1 o2 o3 o4 o5).set A.length o = scM A B o o1 o2 o3 o4 o5 := (setA A (k := 0))
theorem scS_1 : (scM A B o0 o1 o2 o3 o4 o5).set (A.length + 1) o = scM A B o0 o o2 o3 o4 o5 := (setA A (k := 1))
theorem scS_2 : (scM A B o0 o1 o2 o3 o4 o5).set (A.length + 2) o = scM A B o0 o1 o o3 o4 o5 := (setA A (k := 2))
theorem scS_3 : (scM A B o0 o1 o2 o3 o4 o5).set (A.length + 3) o = scM A B o0 o1 o2 o o4 o5 := (setA A (k := 3))
theorem scS_4 : (scM A B o0 o1 o2 o3 o4 o5).set (A.length + 4) o = scM A B o0 o1 o2 o3 o o5 := (setA A (k := 4))
theorem scS_5 : (scM A B o0 o1 o2 o3 o4 o5).set (A.length + 5) o = scM A B o0 o1 o2 o3 o4 o := (setA A (k := 5))
theorem scT_0 : (scM A B o0 o1 o2 o3 o4 o5 ++ Y).set A.length o = scM A B o o1 o2 o3 o4 o5 ++ Y := by rw [← z8h,← z8h];exact scS_0
theorem scT_1 : (scM A B o0 o1 o2 o3 o4 o5 ++ Y).set (A.length + 1) o = scM A B o0 o o2 o3 o4 o5 ++ Y := by rw [← z8h,← z8h];exact scS_1
theorem scT_2 : (scM A B o0 o1 o2 o3 o4 o5 ++ Y).set (A.length + 2) o = scM A B o0 o1 o o3 o4 o5 ++ Y := by rw [← z8h,← z8h];exact scS_2
theorem scT_3 : (scM A B o0 o1 o2 o3 o4 o5 ++ Y).set (A.length + 3) o = scM A B o0 o1 o2 o o4 o5 ++ Y := by rw [← z8h,← z8h];exact scS_3
theorem scT_4 : (scM A B o0 o1 o2 o3 o4 o5 ++ Y).set (A.length + 4) o = scM A B o0 o1 o2 o3 o o5 ++ Y := by rw [← z8h,← z8h];exact scS_4
theorem scT_5 : (scM A B o0 o1 o2 o3 o4 o5 ++ Y).set (A.length + 5) o = scM A B o0 o1 o2 o3 o4 o ++ Y := by rw [← z8h,← z8h];exact scS_5
theorem scB_k : nthOE (scM A B o0 o1 o2 o3 o4 o5 ++ Y) (nAB A B + k) K = nthOE Y k K := by
 rw [← za0 (o0 := o0) (o1 := o1) (o2 := o2) (o3 := o3) (o4 := o4) (o5 := o5)];exact nthOA _
theorem scB_0 : nthOE (scM A B o0 o1 o2 o3 o4 o5 ++ Y) (nAB A B) K = nthOE Y 0 K := scB_k (k := 0)
theorem zmq : (scM A B o0 o1 o2 o3 o4 o5 ++ Y).set (nAB A B + k) o = scM A B o0 o1 o2 o3 o4 o5 ++ Y.set k o := by
 rw [← za0 (o0 := o0) (o1 := o1) (o2 := o2) (o3 := o3) (o4 := o4) (o5 := o5)];exact setA _
theorem zni : (scM A B o0 o1 o2 o3 o4 o5 ++ Y).set (nAB A B) o = scM A B o0 o1 o2 o3 o4 o5 ++ Y.set 0 o := zmq (k := 0)
theorem zfH : (scM A B o0 o1 o2 o3 o4 o5).take (nAB A B) = scM A B o0 o1 o2 o3 o4 o5 := by
 rw [← za0 (o0 := o0) (o1 := o1) (o2 := o2) (o3 := o3) (o4 := o4) (o5 := o5)];exact List.take_length
theorem zg2 : (scM A B o0 o1 o2 o3 o4 o5 ++ Y).take (nAB A B) = scM A B o0 o1 o2 o3 o4 o5 := by
 rw [← za0 (o0 := o0) (o1 := o1) (o2 := o2) (o3 := o3) (o4 := o4) (o5 := o5)];exact List.take_left
end
def GB (A B : List AObj) : Prop := ∀ n,nAB A B ≤ n → A.all (ltO n) = true ∧ B.all (ltO n) = true
theorem GB.app {A B Y : List AObj} (h : GB A B) (hY : ∀ n,Y.all (ltO n) = true) : GB A (B ++ Y) := fun n hn=>by
 rw [zy2] at hn
 obtain ⟨h1,h2⟩ := h n (by omega)
 exact ⟨h1,by rw [List.all_append,h2,hY];rfl⟩
def ttO (a : Nat) (L : List (List UInt8)) : AObj := ⟨1,z4G,0,[MP a,OW (a + 2) L.length]⟩
def trO (L : List (List UInt8)) : AObj := ⟨2,z60,1,L.map sA⟩
def rgC (a : Nat) (n : Int) (bd : List Bool) (R : List Sm) : List AV := nA n :: (bd.map bA ++ [MP a,OW (a + 2) R.length])
def rgO (a : Nat) (n : Int) (bd : List Bool) (R : List Sm) : AObj := ⟨1,z6d,0,rgC a n bd R⟩
def rrO (R : List Sm) : AObj := ⟨2,z01,5,R.map smE⟩
structure Sg where
 T : List (List UInt8)
 n : Int
 bd : List Bool
 R : List Sm
def sc (A B : List AObj) (σ : Sg) : List AObj := scM A B (tmO σ.T) (ttO A.length σ.T) (trO σ.T) (rmO σ.R) (rgO (A.length + 3) σ.n σ.bd σ.R) (rrO σ.R)
structure SgOk (σ : Sg) : Prop where
 tn : σ.T.Nodup
 tl : σ.T.length ≤ 65536
 ts : ∀ s ∈ σ.T,s.length ≤ 9223372036854775807
 n1 : 1 ≤ σ.n
 n2 : σ.n ≤ 64
 bl : σ.bd.length = 64
 rn : σ.R.Nodup
 rl : σ.R.length ≤ 65536
 ri : ∀ s ∈ σ.R,SmI s
 rf : ∀ s ∈ σ.R,0 ≤ s.fr ∧ s.fr < σ.n
theorem ztl {n : Nat} {L : List (List UInt8)} : ltO n (tmO L) = true := zu0 n L 0
theorem zvy {n : Nat} {L : List Sm} : ltO n (rmO L) = true := zu0 n L 0
theorem zuc {n a : Nat} {L : List (List UInt8)} (h : a + 2 < n) : ltO n (ttO a L) = true := by
 simp [ltO,ttO,ltA,lt1];omega
theorem zoG {n : Nat} {L : List (List UInt8)} : ltO n (trO L) = true := by
 simp [ltO,trO,ltA,lt1]
theorem zvL {n : Nat} {L : List Sm} : ltO n (rrO L) = true := by
 show ((2 : Nat) == 0 || (L.map smE).all (ltA n)) = true
 rw [List.all_map];exact z2T
theorem zxB {n a : Nat} {q : Int} {bd : List Bool} {R : List Sm} (h : a + 2 < n) : ltO n (rgO a q bd R) = true := by
 simp [ltO,rgO,rgC,ltA,lt1];omega
theorem sc_lt {A B : List AObj} {σ : Sg} (h : GB A B) {n : Nat} (hn : nAB A B ≤ n) : (sc A B σ).all (ltO n) = true := by
 obtain ⟨h1,h2⟩ := h n hn
 have h3 : A.length + 6 ≤ n := by unfold nAB at hn;omega
 unfold sc scM
 rw [List.all_append,h1]
 simp only [List.all_cons,ztl,zuc (show A.length + 2 < n by omega),zoG,zvy,zxB (show A.length + 3 + 2 < n by omega),zvL,h2,Bool.and_self]
theorem zur {A B Y : List AObj} {σ : Sg} {X : AV} (h : GB A B) (hX : ltT (nAB A B) X = true) : keepK (nAB A B) (sc A B σ ++ Y) X = some (X,sc A B σ) := by
 rw [zqc]
 have h1 := sc_lt (σ := σ) h (Nat.le_refl _)
 unfold sc at h1 ⊢
 rw [zg2,List.length_append,za0,h1,hX,decide_eq_true (by omega)]
 rfl
theorem z9l {A B : List AObj} {σ : Sg} : (sc A B σ).length = nAB A B := za0
theorem zdl {A B Y : List AObj} {σ : Sg} : sc A (B ++ Y) σ = sc A B σ ++ Y := z8h
section
variable {R : Type} {A B Y : List AObj} {σ : Sg} {K : AObj → Option R} {k : Nat} {o : AObj}
theorem s_B0 : nthOE (sc A B σ ++ Y) (nAB A B) K = nthOE Y 0 K := scB_0
theorem s_Bk : nthOE (sc A B σ ++ Y) (nAB A B + k) K = nthOE Y k K := scB_k
theorem s_Bs0 : (sc A B σ ++ Y).set (nAB A B) o = sc A B σ ++ Y.set 0 o := zni
theorem s_Bsk : (sc A B σ ++ Y).set (nAB A B + k) o = sc A B σ ++ Y.set k o := zmq
theorem zb3 : (sc A B σ ++ Y).take (nAB A B) = sc A B σ := zg2
theorem z8s : (sc A B σ ++ Y).take (nAB A B + k) = sc A B σ ++ Y.take k := by
 rw [← za0 (A := A) (B := B) (o0 := tmO σ.T) (o1 := ttO A.length σ.T) (o2 := trO σ.T) (o3 := rmO σ.R) (o4 := rgO (A.length + 3) σ.n σ.bd σ.R) (o5 := rrO σ.R)]
 exact List.take_length_add_append ..
theorem s_get : (sc A B σ ++ Y)[nAB A B + k]? = Y[k]? := by
 rw [← za0 (A := A) (B := B) (o0 := tmO σ.T) (o1 := ttO A.length σ.T) (o2 := trO σ.T) (o3 := rmO σ.R) (o4 := rgO (A.length + 3) σ.n σ.bd σ.R) (o5 := rrO σ.R)]
 exact getA _
theorem zxM {n : Nat} {l : List Int} : (l.map nA).all (ltA n) = true := by rw [List.all_map];exact List.all_eq_true.2 fun _ _=>rfl
theorem zAk {n : Nat} {l : List Int} : ltT n (SL (l.map nA)) = true := _root_.id rfl
theorem ro1W {H : List AObj} {i n : Nat} {e z : Nat} {c : List AV} (h : H[i]? = some ⟨2,e,z,c⟩) (hn : n = c.length) : ro1 H (OW i n) = SL c := by
 subst hn
 unfold ro1
 dsimp only
 rw [h]
 simp
theorem zgo : (sc A B σ).take (nAB A B) = sc A B σ := zfH
end
def oqT (L : List (List UInt8)) (s : List UInt8) : List (List UInt8) := if s ∈ L then L else if 65536 ≤ L.length then L else L ++ [s]
def ofN (L : List (List UInt8)) (s : List UInt8) : Nat := if s ∈ L then posL L s else if 65536 ≤ L.length then 0 else L.length + 1
def ofE (L : List (List UInt8)) (s : List UInt8) : Int := if s ∈ L then 0 else if 65536 ≤ L.length then 5 else 0
theorem zv8 {L : List (List UInt8)} {s : List UInt8} : (⟨2,z60,1,L.map sA ++ [sA s]⟩ : AObj) = trO (L ++ [s]) := by simp [trO]
end Go.Proofs.Ytaaogcnjfkgnoaa

namespace Go.Proofs.Ytaaogcnjfkgnoaa
open Go.RowKit
attribute [local go_sem] Nat.zero_add Nat.add_zero Nat.mul_one Int.toNat_natCast Int.natCast_zero Int.cast_ofNat_Int or_false false_or or_true true_or Nat.sub_zero Int.natCast_nonneg Int.toNat_zero Bool.true_and Bool.and_true Bool.false_and Bool.and_false Bool.true_or Bool.or_true Bool.false_or Bool.or_false Bool.not_true Bool.not_false Bool.not_not true_and and_true false_and and_false not_true_eq_false not_false_eq_true eq_self decide_true decide_false ne_eq implies_true forall_const true_implies false_implies Bool.true_eq_false Bool.false_eq_true List.map_cons List.map_nil List.all_cons List.all_nil List.length_cons List.length_nil List.length_map List.length_append List.nil_append List.cons_append List.set_cons_zero List.set_cons_succ List.set_nil List.drop_zero List.drop_succ_cons List.drop_nil List.take_zero List.take_succ_cons List.take_nil Option.map_some Option.map_none Option.isSome_some List.all_append List.all_map Function.comp_def decide_eq_true_eq Bool.and_eq_true beq_self_eq_true or_self and_self ite_true ite_false Nat.le_refl Bool.not_eq_true decide_not Bool.not_eq_true' decide_eq_false_iff_not Bool.not_eq_false Bool.or_eq_true if_true if_false ite_self u_roF u_cvF u_cvC u_ceT u_ceK z2x sm_it z6G z38 z5L z7e z3a sm_ro z37 sm_sl z74 z7a sm_fr z23 z0Z sm_kd z1T z19 sm_vw z1X z0T sm_sq z1N z0J sm_tm z24 z15 z3x z1H z3M z7d z6R z1O z3r z1W z1Z z2T z3i ce_it z72 z3E z5i z73 z3N ce_ro z3z ce_sl z70 z6Y ce_sq z2j z1a ce_vw z2f z1b ce_tm z1z z0P z3U z0B z0r ce_vs z28 z10 z3S z1C z3T z75 z7g z2e z3I z1Q z1V z33 z3o cg_it z6F z3H z63 z6T z3m cg_ro z3R cg_sl z79 z6B cg_fr z1F z0M cg_vw z2g z16 cg_st z1y z0R cg_rt z26 z11 cg_pf z1R z0L cg_cs z1D z1e z3f z1A z3j z6L z77 z1K z3q z2c z1I z3Q z36 ms_it z6y z3P z7b z6M z3B ms_ro z3C ms_sl z76 z6Q ms_kd z1E z12 ms_fr z2h z0W ms_vw z1Y z0O ms_sq z2m z1c ms_tm z2a z18 z3L z0y z0q ms_vs z22 z0V z6x z0N z0C z3c z2b z3s z6N z6V z29 z3v z1B z2l z3J z3e co_it z6u z3w z6E z6K z3y co_ro z39 co_sl z71 z6z co_sq z2k z13 co_tm z1P z0S z3n z0A z0p co_nl z1M z14 z3k z1U z3A z7h z78 z20 z3h z21 z1G z2Z z3D sd_it z6H z3p z7c z6U z3K sd_ro z3l sd_sl z6C z6W sd_wh z2i z1d sd_fr z27 z17 sd_kd z1L z0X sd_vw z25 z0Y sd_sq z1J z0K sd_tm z1S z0Q z3b z3O z6Z z64 u_bz u_bi1 u_bi2 u_bi3 u_bi4 u_bi5 u_bi6 u_bi7 ltO_o ltO_r u_eqE scM_0 scM_1 scM_2 scM_3 scM_4 scM_5 scY_0 scY_1 scY_2 scY_3 scY_4 scY_5 scS_0 scS_1 scS_2 scS_3 scS_4 scS_5 scT_0 scT_1 scT_2 scT_3 scT_4 scT_5 scB_0 scB_k zni zmq List.append_assoc
attribute [local go_sem_proc] Nat.reduceAdd Nat.reduceSub Nat.reduceMul Nat.reduceLeDiff Nat.reduceLT Int.reduceEq Int.reduceNe Int.reduceLT Int.reduceLE Int.reduceAdd Int.reduceSub Int.reduceMul Int.reduceNeg Int.reduceToNat reduceCtorEq Nat.reduceEqDiff Nat.reduceBEq Nat.reduceGT
attribute [local go_sem_proc ↓] reduceIte
theorem zsI {A B : List AObj} {o0 o1 o2 o3 o4 o5 : AObj} : (scM A B o0 o1 o2 o3 o4 o5)[A.length]? = some o0 := (getA A (k := 0))
theorem zyh {A B : List AObj} {o0 o1 o2 o3 o4 o5 : AObj} : (scM A B o0 o1 o2 o3 o4 o5)[A.length + 3]? = some o3 := (getA A (k := 3))
section
variable {R : Type} {a : Nat} {L : List (List UInt8)} {K : List AV → Option R} {K2 : AObj → Option R}
theorem zlF : zhm (ttO a L) K = K [MP a,OW (a + 2) L.length] := by unfold ttO;exact u_cl1
theorem zAG {n : Nat} : putE (ttO a L) 1 1 (OW (a + 2) n) K2 = K2 ⟨1,z4G,0,[MP a,OW (a + 2) n]⟩ := by unfold ttO;rw [u_pt1];rfl
theorem tr_k : (trO L).k = 2 := _root_.id rfl
theorem tr_e : (trO L).e = z60 := _root_.id rfl
theorem tr_z : (trO L).z = 1 := _root_.id rfl
theorem tr_c : (trO L).c = L.map sA := _root_.id rfl
end
theorem zlf {A B : List AObj} (hG : GB A B) {L : List (List UInt8)} {n : Int} {bd : List Bool} {R : List Sm} : (scM A B (tmO L) (ttO A.length L) (trO L) (rmO R) (rgO (A.length + 3) n bd R) (rrO R)).all (ltO (nAB A B)) = true := sc_lt (σ := ⟨L,n,bd,R⟩) hG (Nat.le_refl _)
theorem tof_s (m : Nat) (A B : List AObj) (σ : Sg) (s : List UInt8) (hG : GB A B) (hσ : SgOk σ) (hs : s.length ≤ 9223372036854775807) :
  z8f m (OP (A.length + 1) 0) (sA s) (sc A B σ) = some (TU [nA (ofN σ.T s),nA (ofE σ.T s)],sc A B { σ with T := oqT σ.T s }) := by
 have h0 := hσ.tl
 rw [zjL]
 have hl := fun (K : AV → RO)=>zy9 (K := K) (zsI (A := A) (B := B) (o0 := tmO σ.T) (o1 := ttO A.length σ.T) (o2 := trO σ.T) (o3 := rmO σ.R) (o4 := rgO (A.length + 3) σ.n σ.bd σ.R) (o5 := rrO σ.R)) hσ.tn hs
 have hlt := fun {L : List (List UInt8)} {n : Int} {bd : List Bool} {R : List Sm}=>zlf hG (L := L) (n := n) (bd := bd) (R := R)
 clear hG
 unfold oqT ofN ofE sc
 obtain ⟨T,n,bd,R⟩ := σ
 dsimp only at *
 by_cases h1 : s ∈ T
 ·simp (config := {maxSteps := 4000000,implicitDefEqProofs := false}) (disch := omega) only [go_sem,zlF,hl,za0,hlt,zfH,h1]
 ·by_cases h2 : 65536 ≤ T.length
  ·have h2' : (65536 : Int) ≤ (T.length : Int) := by omega
   simp (config := {maxSteps := 4000000,implicitDefEqProofs := false}) (disch := omega) only [go_sem,zlF,hl,za0,hlt,zfH,h1,h2,h2']
  ·have h2' : ¬ (65536 : Int) ≤ (T.length : Int) := by omega
   have ht : (⟨1,z4G,0,[MP A.length,OW (A.length + 2) (T.length + 1)]⟩ : AObj) = ttO A.length (T ++ [s]) := by unfold ttO;rw [List.length_append];rfl
   have hp := fun (K : List AObj → RO)=>zyI (K := K) (s := s) (zsI (A := A) (B := B) (o0 := tmO T) (o1 := ttO A.length (T ++ [s])) (o2 := trO (T ++ [s])) (o3 := rmO R) (o4 := rgO (A.length + 3) n bd R) (o5 := rrO R)) hs (by omega)
   have hb : T.length + 1 ≤ 34359738368 := by omega
   have hx : (T ++ [s]).length = T.length + 1 := by simp
   simp (config := {maxSteps := 4000000,implicitDefEqProofs := false}) (disch := omega) only [go_sem,zlF,zAG,tr_k,tr_e,tr_z,tr_c,zv8,ht,hl,hp,hx,za0,hlt,zfH,h1,h2,h2',hb]
theorem zu8 (m : Nat) (A B : List AObj) (σ : Sg) (hG : GB A B) : z68 m (OP (A.length + 1) 0) (sc A B σ) = some (nA σ.T.length,sc A B σ) := by
 have hlt := fun {L : List (List UInt8)} {n : Int} {bd : List Bool} {R : List Sm}=>zlf hG (L := L) (n := n) (bd := bd) (R := R)
 rw [zgt]
 unfold sc
 simp (config := {maxSteps := 4000000,implicitDefEqProofs := false}) (disch := omega) only [go_sem,zlF,za0,hlt,zfH]
theorem zz4 : mapT Try.prog 105 = some (9,3) := by unfold mapT;rw [Try.underlying105]
theorem zuG (m : Nat) (H : List AObj) (hH : ∀ n,H.length ≤ n → H.all (ltO n) = true) : zhE m H = some (OP (H.length + 1) 0,H ++ [tmO [],ttO H.length [],trO []]) := by
 rw [zom,zz4]
 have e1 : ∀ K : AV → List AObj → RO,makeE (some (9,3)) H K = K (MP H.length) (H ++ [tmO []]) := fun K=>_root_.id rfl
 have e2 : ∀ (x : AV) (K : AV → RO),z4r (some ziq) (some zib) [(0,MP H.length)] K = K (.agg [MP H.length,V (.slice none 0 0)]) := fun x K=>_root_.id rfl
 have e3 : ∀ (H' : List AObj) (K : AV → List AObj → RO),boxE z4G H' (.agg [MP H.length,V (.slice none 0 0)]) K = K (OP H'.length 0) (H' ++ [⟨1,z4G,0,[MP H.length,V (.slice none 0 0)]⟩]) := fun H' K=>_root_.id rfl
 rw [e1,e2 .nil,e3]
 have e4 : ghS 0 1 z60 1 ⟨H ++ [tmO []] ++ [⟨1,z4G,0,[MP H.length,V (.slice none 0 0)]⟩],[(0,OP (H ++ [tmO []]).length 0)]⟩ = ⟨H ++ [tmO [],ttO H.length [],trO []],[(0,OP (H.length + 1) 0)]⟩ := by
  unfold ghS
  show (match OP (H ++ [tmO []]).length 0 with|_=>_) = _
  have h1 : (H ++ [tmO []] ++ [⟨1,z4G,0,[MP H.length,V (.slice none 0 0)]⟩])[(H ++ [tmO []]).length]? = some ⟨1,z4G,0,[MP H.length,V (.slice none 0 0)]⟩ := by simp
  dsimp only
  rw [h1]
  simp [ttO,trO]
 rw [e4,zly,zmj]
 have h2 := hH (H.length + 3) (by omega)
 have h3 : (H ++ [tmO [],ttO H.length [],trO []]).all (ltO (H.length + 3)) = true := by
  rw [List.all_append,h2]
  simp [ztl,zuc (show H.length + 2 < H.length + 3 by omega),zoG]
 have h4 : (H ++ [tmO [],ttO H.length [],trO []]).length = H.length + 3 := by simp
 rw [h4,h3]
 have h5 : ltT (H.length + 3) (OP (H.length + 1) 0) = true := decide_eq_true (show H.length + 1 < H.length + 3 by omega)
 rw [show ro (H ++ [tmO [],ttO H.length [],trO []]) (OP (H.length + 1) 0) = OP (H.length + 1) 0 from rfl,h5]
 rfl
end Go.Proofs.Ytaaogcnjfkgnoaa

namespace Go.Proofs.Ytaaogcnjfkgnoaa
open Go.RowKit
attribute [local go_sem] Nat.zero_add Nat.add_zero Nat.mul_one Int.toNat_natCast Int.natCast_zero Int.cast_ofNat_Int or_false false_or or_true true_or Nat.sub_zero Int.natCast_nonneg Int.toNat_zero Bool.true_and Bool.and_true Bool.false_and Bool.and_false Bool.true_or Bool.or_true Bool.false_or Bool.or_false Bool.not_true Bool.not_false Bool.not_not true_and and_true false_and and_false not_true_eq_false not_false_eq_true eq_self decide_true decide_false ne_eq implies_true forall_const true_implies false_implies Bool.true_eq_false Bool.false_eq_true List.map_cons List.map_nil List.all_cons List.all_nil List.length_cons List.length_nil List.length_map List.length_append List.nil_append List.cons_append List.set_cons_zero List.set_cons_succ List.set_nil List.drop_zero List.drop_succ_cons List.drop_nil List.take_zero List.take_succ_cons List.take_nil Option.map_some Option.map_none Option.isSome_some List.all_append List.all_map Function.comp_def decide_eq_true_eq Bool.and_eq_true beq_self_eq_true or_self and_self ite_true ite_false Nat.le_refl Bool.not_eq_true decide_not Bool.not_eq_true' decide_eq_false_iff_not Bool.not_eq_false Bool.or_eq_true if_true if_false ite_self u_roF u_cvF u_cvC u_ceT u_ceK z2x sm_it z6G z38 z5L z7e z3a sm_ro z37 sm_sl z74 z7a sm_fr z23 z0Z sm_kd z1T z19 sm_vw z1X z0T sm_sq z1N z0J sm_tm z24 z15 z3x z1H z3M z7d z6R z1O z3r z1W z1Z z2T z3i ce_it z72 z3E z5i z73 z3N ce_ro z3z ce_sl z70 z6Y ce_sq z2j z1a ce_vw z2f z1b ce_tm z1z z0P z3U z0B z0r ce_vs z28 z10 z3S z1C z3T z75 z7g z2e z3I z1Q z1V z33 z3o cg_it z6F z3H z63 z6T z3m cg_ro z3R cg_sl z79 z6B cg_fr z1F z0M cg_vw z2g z16 cg_st z1y z0R cg_rt z26 z11 cg_pf z1R z0L cg_cs z1D z1e z3f z1A z3j z6L z77 z1K z3q z2c z1I z3Q z36 ms_it z6y z3P z7b z6M z3B ms_ro z3C ms_sl z76 z6Q ms_kd z1E z12 ms_fr z2h z0W ms_vw z1Y z0O ms_sq z2m z1c ms_tm z2a z18 z3L z0y z0q ms_vs z22 z0V z6x z0N z0C z3c z2b z3s z6N z6V z29 z3v z1B z2l z3J z3e co_it z6u z3w z6E z6K z3y co_ro z39 co_sl z71 z6z co_sq z2k z13 co_tm z1P z0S z3n z0A z0p co_nl z1M z14 z3k z1U z3A z7h z78 z20 z3h z21 z1G z2Z z3D sd_it z6H z3p z7c z6U z3K sd_ro z3l sd_sl z6C z6W sd_wh z2i z1d sd_fr z27 z17 sd_kd z1L z0X sd_vw z25 z0Y sd_sq z1J z0K sd_tm z1S z0Q z3b z3O z6Z z64 u_bz u_bi1 u_bi2 u_bi3 u_bi4 u_bi5 u_bi6 u_bi7 scM_0 scM_1 scM_2 scM_3 scM_4 scM_5 scY_0 scY_1 scY_2 scY_3 scY_4 scY_5 scS_0 scS_1 scS_2 scS_3 scS_4 scS_5 scT_0 scT_1 scT_2 scT_3 scT_4 scT_5 scB_0 scB_k zni zmq za0 zfH zg2 List.append_assoc Nat.le_add_right ltO_o ltO_r u_eqE
attribute [local go_sem_proc] Nat.reduceAdd Nat.reduceSub Nat.reduceMul Nat.reduceLeDiff Nat.reduceLT Int.reduceEq Int.reduceNe Int.reduceLT Int.reduceLE Int.reduceAdd Int.reduceSub Int.reduceMul Int.reduceNeg Int.reduceToNat reduceCtorEq Nat.reduceEqDiff Nat.reduceBEq Nat.reduceGT
attribute [local go_sem_proc ↓] reduceIte
section
variable {R : Type} {a k : Nat} {n : Int} {bd : List Bool} {L : List Sm} {K : AV → Option R} {K1 : List AV → Option R} {K2 : AObj → Option R}
theorem zg8 : zhm (rgO a n bd L) K1 = K1 (rgC a n bd L) := by unfold rgO;exact u_cl1
theorem rg_0 : nthE (rgC a n bd L) 0 K = K (nA n) := _root_.id rfl
theorem zyG (h : bd.length = 64) (hk : k < 64) : (rgC a n bd L)[1 + k]? = some (bA (bd.getD k false)) := by
 unfold rgC
 rw [show 1 + k = k + 1 by omega,List.getElem?_cons_succ,List.getElem?_append_left (by simp;omega),List.getElem?_map,List.getD_eq_getElem?_getD,List.getElem?_eq_getElem (by omega)]
 rfl
theorem rg_b (h : bd.length = 64) (hk : k < 64) : nthE (rgC a n bd L) (1 + k) K = K (bA (bd.getD k false)) := by
 have := zyG (a := a) (n := n) (L := L) h hk
 unfold nthE
 rw [this]
theorem rg_m (h : bd.length = 64) : nthE (rgC a n bd L) 65 K = K (MP a) := by
 have : (rgC a n bd L)[65]? = some (MP a) := by
  unfold rgC
  rw [List.getElem?_cons_succ,List.getElem?_append_right (by simp;omega)]
  simp [h]
 unfold nthE
 rw [this]
theorem rg_r (h : bd.length = 64) : nthE (rgC a n bd L) 66 K = K (OW (a + 2) L.length) := by
 have : (rgC a n bd L)[66]? = some (OW (a + 2) L.length) := by
  unfold rgC
  rw [List.getElem?_cons_succ,List.getElem?_append_right (by simp;omega)]
  simp [h]
 unfold nthE
 rw [this]
theorem zrX (h : bd.length = 64) : (rgC a n bd L).length = 67 := by simp [rgC,h]
theorem zxl (h : bd.length = 64) (hk : k < 64) (b : Bool) : putE (rgO a n bd L) 1 (1 + k) (bA b) K2 = K2 (rgO a n (bd.set k b) L) := by
 unfold rgO
 rw [u_pt1]
 have h1 : z06 (rgC a n bd L) (1 + k) (cellsOf (bA b)) = rgC a n (bd.set k b) L := by
  show (rgC a n bd L).set (1 + k) (bA b) = _
  unfold rgC
  rw [show 1 + k = k + 1 by omega,List.set_cons_succ,List.set_append_left _ _ (by simp;omega),List.map_set]
 rw [h1,zrX h,show decide (1 + k + szOf 1 ≤ 67) = true from decide_eq_true (by simp [szOf];omega)]
 rfl
theorem zyy (h : bd.length = 64) (s : Sm) : putE (rgO a n bd L) 1 66 (OW (a + 2) (L.length + 1)) K2 = K2 (rgO a n bd (L ++ [s])) := by
 unfold rgO
 rw [u_pt1]
 have h1 : z06 (rgC a n bd L) 66 (cellsOf (OW (a + 2) (L.length + 1))) = rgC a n bd (L ++ [s]) := by
  show (rgC a n bd L).set 66 (OW (a + 2) (L.length + 1)) = _
  unfold rgC
  rw [List.set_cons_succ,List.set_append_right _ _ (by simp;omega)]
  simp [h]
 rw [h1,zrX h,show decide (66 + szOf 1 ≤ 67) = true from by decide]
 rfl
end
def badB (n : Int) (bd : List Bool) (p : Int) : Bool := decide (0 ≤ p) && decide (p < n) && bd.getD p.toNat false
theorem gis_s (m : Nat) (A B : List AObj) (σ : Sg) (p : Int) (hG : GB A B) : z9H m (OP (A.length + 4) 0) (nA p) (sc A B σ) = some (bA (decide (0 ≤ p) && decide (p < σ.n)),sc A B σ) := by
 have hlt := fun {L : List (List UInt8)} {n : Int} {bd : List Bool} {R : List Sm}=>zlf hG (L := L) (n := n) (bd := bd) (R := R)
 rw [zk9]
 unfold sc
 by_cases h : 0 ≤ p
 ·simp (config := {maxSteps := 4000000,implicitDefEqProofs := false}) (disch := omega) only [go_sem,zg8,rg_0,hlt,h]
 ·simp (config := {maxSteps := 4000000,implicitDefEqProofs := false}) (disch := omega) only [go_sem,zg8,rg_0,hlt,h]
theorem zx5 (m : Nat) (A B : List AObj) (σ : Sg) (p : Int) (hG : GB A B) (hσ : SgOk σ) : za7 m (OP (A.length + 4) 0) (nA p) (sc A B σ) = some (bA (badB σ.n σ.bd p),sc A B σ) := by
 have hi := gis_s m A B σ p hG
 have hlt := fun {L : List (List UInt8)} {n : Int} {bd : List Bool} {R : List Sm}=>zlf hG (L := L) (n := n) (bd := bd) (R := R)
 have hn := hσ.n2
 have hb := hσ.bl
 rw [zjd]
 unfold badB
 by_cases h : 0 ≤ p ∧ p < σ.n
 ·have e1 : (decide (0 ≤ p) && decide (p < σ.n)) = true := by simp [h]
  rw [e1] at hi ⊢
  unfold sc at *
  have h1 := h.1
  have h2 : p < 64 := by omega
  have h3 : p.toNat < 64 := by omega
  have hr := fun (K : AV → RO)=>rg_b (a := A.length + 3) (n := σ.n) (bd := σ.bd) (L := σ.R) (k := p.toNat) (K := K) hb h3
  simp (config := {maxSteps := 4000000,implicitDefEqProofs := false}) (disch := omega) only [go_sem,hi,zg8,hr,hlt,h1,h2,szOf]
 ·have e1 : (decide (0 ≤ p) && decide (p < σ.n)) = false := by
   rw [Bool.eq_false_iff]
   simpa using h
  rw [e1] at hi ⊢
  unfold sc at *
  simp (config := {maxSteps := 4000000,implicitDefEqProofs := false}) (disch := omega) only [go_sem,hi,hlt]
theorem zpD {A B Y : List AObj} {o0 o1 o2 o3 o4 o5 : AObj} : (scM A B o0 o1 o2 o3 o4 o5 ++ Y)[A.length + 3]? = some o3 := by rw [← z8h];exact zyh
theorem zud {R : List Sm} {s : Sm} : decide ((0 : Int) < (posL R s : Int)) = decide (s ∈ R) := by
 rw [decide_eq_decide]
 unfold posL
 split
 ·simp [*]
 ·simp [*]
theorem zuT (m : Nat) (A B : List AObj) (σ : Sg) (s : Sm) (hG : GB A B) (hσ : SgOk σ) (hs : SmI s) : z86 m (OP (A.length + 4) 0) (smE s) (sc A B σ) = some (bA (decide (s ∈ σ.R)),sc A B σ) := by
 have hlt := fun {L : List (List UInt8)} {n : Int} {bd : List Bool} {R : List Sm}=>zlf hG (L := L) (n := n) (bd := bd) (R := R)
 have hb := hσ.bl
 have hr := fun (K : AV → RO)=>rg_m (a := A.length + 3) (n := σ.n) (bd := σ.bd) (L := σ.R) (K := K) hb
 have hl := fun (K : AV → RO)=>zy8 (K := K) (s := s) (zpD (A := A) (B := B) (Y := [⟨1,z01,0,smC s⟩]) (o0 := tmO σ.T) (o1 := ttO A.length σ.T) (o2 := trO σ.T) (o3 := rmO σ.R) (o4 := rgO (A.length + 3) σ.n σ.bd σ.R) (o5 := rrO σ.R)) hσ.rn hσ.ri hs
 rw [zjq,sm_it]
 unfold sc
 simp (config := {maxSteps := 4000000,implicitDefEqProofs := false}) (disch := omega) only [go_sem,hl,zg8,hr,hlt,zud]
end Go.Proofs.Ytaaogcnjfkgnoaa

namespace Go.Proofs.Ytaaogcnjfkgnoaa
open Go.RowKit
attribute [local go_sem] Nat.zero_add Nat.add_zero Nat.mul_one Int.toNat_natCast Int.natCast_zero Int.cast_ofNat_Int or_false false_or or_true true_or Nat.sub_zero Int.natCast_nonneg Int.toNat_zero Bool.true_and Bool.and_true Bool.false_and Bool.and_false Bool.true_or Bool.or_true Bool.false_or Bool.or_false Bool.not_true Bool.not_false Bool.not_not true_and and_true false_and and_false not_true_eq_false not_false_eq_true eq_self decide_true decide_false ne_eq implies_true forall_const true_implies false_implies Bool.true_eq_false Bool.false_eq_true List.map_cons List.map_nil List.all_cons List.all_nil List.length_cons List.length_nil List.length_map List.length_append List.nil_append List.cons_append List.set_cons_zero List.set_cons_succ List.set_nil List.drop_zero List.drop_succ_cons List.drop_nil List.take_zero List.take_succ_cons List.take_nil Option.map_some Option.map_none Option.isSome_some List.all_append List.all_map Function.comp_def decide_eq_true_eq Bool.and_eq_true beq_self_eq_true or_self and_self ite_true ite_false Nat.le_refl Bool.not_eq_true decide_not Bool.not_eq_true' decide_eq_false_iff_not Bool.not_eq_false Bool.or_eq_true if_true if_false ite_self u_roF u_cvF u_cvC u_ceT u_ceK z2x sm_it z6G z38 z5L z7e z3a sm_ro z37 sm_sl z74 z7a sm_fr z23 z0Z sm_kd z1T z19 sm_vw z1X z0T sm_sq z1N z0J sm_tm z24 z15 z3x z1H z3M z7d z6R z1O z3r z1W z1Z z2T z3i ce_it z72 z3E z5i z73 z3N ce_ro z3z ce_sl z70 z6Y ce_sq z2j z1a ce_vw z2f z1b ce_tm z1z z0P z3U z0B z0r ce_vs z28 z10 z3S z1C z3T z75 z7g z2e z3I z1Q z1V z33 z3o cg_it z6F z3H z63 z6T z3m cg_ro z3R cg_sl z79 z6B cg_fr z1F z0M cg_vw z2g z16 cg_st z1y z0R cg_rt z26 z11 cg_pf z1R z0L cg_cs z1D z1e z3f z1A z3j z6L z77 z1K z3q z2c z1I z3Q z36 ms_it z6y z3P z7b z6M z3B ms_ro z3C ms_sl z76 z6Q ms_kd z1E z12 ms_fr z2h z0W ms_vw z1Y z0O ms_sq z2m z1c ms_tm z2a z18 z3L z0y z0q ms_vs z22 z0V z6x z0N z0C z3c z2b z3s z6N z6V z29 z3v z1B z2l z3J z3e co_it z6u z3w z6E z6K z3y co_ro z39 co_sl z71 z6z co_sq z2k z13 co_tm z1P z0S z3n z0A z0p co_nl z1M z14 z3k z1U z3A z7h z78 z20 z3h z21 z1G z2Z z3D sd_it z6H z3p z7c z6U z3K sd_ro z3l sd_sl z6C z6W sd_wh z2i z1d sd_fr z27 z17 sd_kd z1L z0X sd_vw z25 z0Y sd_sq z1J z0K sd_tm z1S z0Q z3b z3O z6Z z64 u_bz u_bi1 u_bi2 u_bi3 u_bi4 u_bi5 u_bi6 u_bi7 scM_0 scM_1 scM_2 scM_3 scM_4 scM_5 scY_0 scY_1 scY_2 scY_3 scY_4 scY_5 scS_0 scS_1 scS_2 scS_3 scS_4 scS_5 scT_0 scT_1 scT_2 scT_3 scT_4 scT_5 scB_0 scB_k zni zmq za0 zfH zg2 List.append_assoc Nat.le_add_right ltO_o ltO_r u_eqE
attribute [local go_sem_proc] Nat.reduceAdd Nat.reduceSub Nat.reduceMul Nat.reduceLeDiff Nat.reduceLT Int.reduceEq Int.reduceNe Int.reduceLT Int.reduceLE Int.reduceAdd Int.reduceSub Int.reduceMul Int.reduceNeg Int.reduceToNat reduceCtorEq Nat.reduceEqDiff Nat.reduceBEq Nat.reduceGT
attribute [local go_sem_proc ↓] reduceIte
def okS (n : Int) (bd : List Bool) (p : Int) (s : Sm) : Bool := (decide (0 ≤ p) && decide (p < n)) && (decide (s.fr = p) || (badB n bd p && badB n bd s.fr))
def sayR (σ : Sg) (p : Int) (s : Sm) : List Sm := if okS σ.n σ.bd p s = true ∧ s ∉ σ.R ∧ σ.R.length < 65536 then σ.R ++ [s] else σ.R
def sayE (σ : Sg) (p : Int) (s : Sm) : Int := if (decide (0 ≤ p) && decide (p < σ.n)) = false then 4 else if okS σ.n σ.bd p s = false then 19 else if s ∈ σ.R then 0 else if 65536 ≤ σ.R.length then 5 else 0
theorem rr_k {L : List Sm} : (rrO L).k = 2 := _root_.id rfl
theorem rr_e {L : List Sm} : (rrO L).e = z01 := _root_.id rfl
theorem rr_z {L : List Sm} : (rrO L).z = 5 := _root_.id rfl
theorem rr_c {L : List Sm} : (rrO L).c = L.map smE := _root_.id rfl
theorem zzt {L : List Sm} {s : Sm} : (⟨2,z01,5,L.map smE ++ [.agg (smC s)]⟩ : AObj) = rrO (L ++ [s]) := by simp [rrO,smE]
theorem zAD (m : Nat) (A B : List AObj) (σ : Sg) (s : Sm) (hG : GB A B) (hσ : SgOk σ) (hs : SmI s) (hl : σ.R.length < 65536) :
  z9b m (nAB A B) ⟨sc A B σ ++ [⟨1,z01,0,smC s⟩],[(0,OP (A.length + 4) 0),(5,OP (nAB A B) 0)]⟩ = some (nA 0,sc A B { σ with R := σ.R ++ [s] }) := by
 have hlt := fun {L : List (List UInt8)} {n : Int} {bd : List Bool} {R : List Sm}=>zlf hG (L := L) (n := n) (bd := bd) (R := R)
 have hb := hσ.bl
 obtain ⟨T,n,bd,R⟩ := σ
 dsimp only at *
 have hm1 := fun {L : List Sm} (K : AV → RO)=>rg_m (a := A.length + 3) (n := n) (bd := bd) (L := L) (K := K) hb
 have hr1 := fun {L : List Sm} (K : AV → RO)=>rg_r (a := A.length + 3) (n := n) (bd := bd) (L := L) (K := K) hb
 have hp1 := fun (K : AObj → RO)=>zyy (a := A.length + 3) (n := n) (bd := bd) (L := R) (K2 := K) hb s
 have hpu := fun (K : List AObj → RO)=>zzk (K := K) (s := s) (zpD (A := A) (B := B) (Y := [⟨1,z01,0,smC s⟩]) (o0 := tmO T) (o1 := ttO A.length T) (o2 := trO T) (o3 := rmO R) (o4 := rgO (A.length + 3) n bd (R ++ [s])) (o5 := rrO (R ++ [s]))) hs (by omega)
 have hx : (R ++ [s]).length = R.length + 1 := by simp
 have hbb : R.length + 1 ≤ 34359738368 := by omega
 have e3 : A.length + 3 + 2 = A.length + 5 := rfl
 have hp1 := fun (K : AObj → RO)=>(show putE (rgO (A.length + 3) n bd R) 1 66 (OW (A.length + 5) (R.length + 1)) K = _ from hp1 K)
 rw [zgB]
 unfold sc
 simp (config := {maxSteps := 4000000,implicitDefEqProofs := false}) (disch := omega) only [go_sem,zg8,hm1,hr1,e3,rr_k,rr_e,rr_z,rr_c,zzt,hp1,hpu,hx,hbb,hlt]
theorem zAu (m : Nat) (A B : List AObj) (σ : Sg) (s : Sm) (b : Bool) (hG : GB A B) (hσ : SgOk σ) (hs : SmI s) :
  z67 m (nAB A B) ⟨sc A B σ ++ [⟨1,z01,0,smC s⟩],[(0,OP (A.length + 4) 0),(5,OP (nAB A B) 0),(12,bA b)]⟩ = some (nA (if b = true then 19 else if s ∈ σ.R then 0 else if 65536 ≤ σ.R.length then 5 else 0),sc A B { σ with R := if b = false ∧ s ∉ σ.R ∧ σ.R.length < 65536 then σ.R ++ [s] else σ.R }) := by
 have hk := fun (X : AV) h=>zur (A := A) (B := B) (Y := [⟨1,z01,0,smC s⟩]) (σ := σ) (X := X) hG h
 have hh := zuT m A (B ++ [⟨1,z01,0,smC s⟩]) σ s (hG.app fun n=>by simp [z5L,ltO]) hσ hs
 rw [zdl] at hh
 have hlt := fun {L : List (List UInt8)} {n : Int} {bd : List Bool} {R : List Sm}=>zlf hG (L := L) (n := n) (bd := bd) (R := R)
 have hb := hσ.bl
 have hr1 := fun {L : List Sm} (K : AV → RO)=>rg_r (a := A.length + 3) (n := σ.n) (bd := σ.bd) (L := L) (K := K) hb
 have e3 : A.length + 3 + 2 = A.length + 5 := rfl
 rw [zgA]
 cases b with
 |true =>
  unfold sc at *
  simp (config := {maxSteps := 4000000,implicitDefEqProofs := false}) (disch := omega) only [go_sem,hlt]
 |false =>
  rw [sm_it] at hh
  by_cases h1 : s ∈ σ.R
  ·have h1' : decide (s ∈ σ.R) = true := decide_eq_true h1
   rw [h1'] at hh
   unfold sc at *
   simp (config := {maxSteps := 4000000,implicitDefEqProofs := false}) (disch := omega) only [go_sem,hh,h1,hlt]
  ·have h1' : decide (s ∈ σ.R) = false := decide_eq_false h1
   rw [h1'] at hh
   by_cases h2 : 65536 ≤ σ.R.length
   ·have h2' : (65536 : Int) ≤ (σ.R.length : Int) := by omega
    have h3 : ¬ σ.R.length < 65536 := by omega
    unfold sc at *
    simp (config := {maxSteps := 4000000,implicitDefEqProofs := false}) (disch := omega) only [go_sem,hh,h1,h2,h2',h3,zg8,hr1,e3,hlt]
   ·have h2' : ¬ (65536 : Int) ≤ (σ.R.length : Int) := by omega
    have h3 : σ.R.length < 65536 := by omega
    have h4 := zAD m A B σ s hG hσ hs h3
    unfold sc at *
    simp (config := {maxSteps := 4000000,implicitDefEqProofs := false}) (disch := omega) only [go_sem,hh,h1,h2,h2',h3,h4,zg8,hr1,e3,hlt]
theorem zxH (m : Nat) (A B : List AObj) (σ : Sg) (p : Int) (s : Sm) (hG : GB A B) (hσ : SgOk σ) (hs : SmI s) :
  z89 m (OP (A.length + 4) 0) (nA p) (smE s) (sc A B σ) = some (nA (sayE σ p s),sc A B { σ with R := sayR σ p s }) := by
 have hG1 : GB A (B ++ [⟨1,z01,0,smC s⟩]) := hG.app fun n=>by simp [z5L,ltO]
 have hi := gis_s m A (B ++ [⟨1,z01,0,smC s⟩]) σ p hG1
 have hb1 := zx5 m A (B ++ [⟨1,z01,0,smC s⟩]) σ p hG1 hσ
 have hb2 := zx5 m A (B ++ [⟨1,z01,0,smC s⟩]) σ s.fr hG1 hσ
 rw [zdl] at hi hb1 hb2
 have h19 := fun b=>zAu m A B σ s b hG hσ hs
 have hlt := fun {L : List (List UInt8)} {n : Int} {bd : List Bool} {R : List Sm}=>zlf hG (L := L) (n := n) (bd := bd) (R := R)
 rw [zk3,sm_it]
 unfold sayE sayR okS
 cases h1 : (decide (0 ≤ p) && decide (p < σ.n)) with
 |false =>
  rw [h1] at hi
  unfold sc at *
  simp (config := {maxSteps := 4000000,implicitDefEqProofs := false}) (disch := omega) only [go_sem,hi,hlt]
 |true =>
  rw [h1] at hi
  by_cases h2 : s.fr = p
  ·have := h19 false
   unfold sc at *
   simp (config := {maxSteps := 4000000,implicitDefEqProofs := false}) (disch := omega) only [go_sem,hi,h2,this,hlt]
  ·cases h3 : badB σ.n σ.bd p with
   |false =>
    rw [h3] at hb1
    have := h19 true
    unfold sc at *
    simp (config := {maxSteps := 4000000,implicitDefEqProofs := false}) (disch := omega) only [go_sem,hi,h2,hb1,this,hlt]
   |true =>
    rw [h3] at hb1
    cases h4 : badB σ.n σ.bd s.fr with
    |false =>
     rw [h4] at hb2
     have := h19 true
     unfold sc at *
     simp (config := {maxSteps := 4000000,implicitDefEqProofs := false}) (disch := omega) only [go_sem,hi,h2,hb1,hb2,this,hlt]
    |true =>
     rw [h4] at hb2
     have := h19 false
     unfold sc at *
     simp (config := {maxSteps := 4000000,implicitDefEqProofs := false}) (disch := omega) only [go_sem,hi,h2,hb1,hb2,this,hlt]
end Go.Proofs.Ytaaogcnjfkgnoaa

namespace Go.Proofs.Ytaaogcnjfkgnoaa
open Go.RowKit
attribute [local go_sem] Nat.zero_add Nat.add_zero Nat.mul_one Int.toNat_natCast Int.natCast_zero Int.cast_ofNat_Int or_false false_or or_true true_or Nat.sub_zero Int.natCast_nonneg Int.toNat_zero Bool.true_and Bool.and_true Bool.false_and Bool.and_false Bool.true_or Bool.or_true Bool.false_or Bool.or_false Bool.not_true Bool.not_false Bool.not_not true_and and_true false_and and_false not_true_eq_false not_false_eq_true eq_self decide_true decide_false ne_eq implies_true forall_const true_implies false_implies Bool.true_eq_false Bool.false_eq_true List.map_cons List.map_nil List.all_cons List.all_nil List.length_cons List.length_nil List.length_map List.length_append List.nil_append List.cons_append List.set_cons_zero List.set_cons_succ List.set_nil List.drop_zero List.drop_succ_cons List.drop_nil List.take_zero List.take_succ_cons List.take_nil Option.map_some Option.map_none Option.isSome_some List.all_append List.all_map Function.comp_def decide_eq_true_eq Bool.and_eq_true beq_self_eq_true or_self and_self ite_true ite_false Nat.le_refl Bool.not_eq_true decide_not Bool.not_eq_true' decide_eq_false_iff_not Bool.not_eq_false Bool.or_eq_true if_true if_false ite_self u_roF u_cvF u_cvC u_ceT u_ceK z2x sm_it z6G z38 z5L z7e z3a sm_ro z37 sm_sl z74 z7a sm_fr z23 z0Z sm_kd z1T z19 sm_vw z1X z0T sm_sq z1N z0J sm_tm z24 z15 z3x z1H z3M z7d z6R z1O z3r z1W z1Z z2T z3i ce_it z72 z3E z5i z73 z3N ce_ro z3z ce_sl z70 z6Y ce_sq z2j z1a ce_vw z2f z1b ce_tm z1z z0P z3U z0B z0r ce_vs z28 z10 z3S z1C z3T z75 z7g z2e z3I z1Q z1V z33 z3o cg_it z6F z3H z63 z6T z3m cg_ro z3R cg_sl z79 z6B cg_fr z1F z0M cg_vw z2g z16 cg_st z1y z0R cg_rt z26 z11 cg_pf z1R z0L cg_cs z1D z1e z3f z1A z3j z6L z77 z1K z3q z2c z1I z3Q z36 ms_it z6y z3P z7b z6M z3B ms_ro z3C ms_sl z76 z6Q ms_kd z1E z12 ms_fr z2h z0W ms_vw z1Y z0O ms_sq z2m z1c ms_tm z2a z18 z3L z0y z0q ms_vs z22 z0V z6x z0N z0C z3c z2b z3s z6N z6V z29 z3v z1B z2l z3J z3e co_it z6u z3w z6E z6K z3y co_ro z39 co_sl z71 z6z co_sq z2k z13 co_tm z1P z0S z3n z0A z0p co_nl z1M z14 z3k z1U z3A z7h z78 z20 z3h z21 z1G z2Z z3D sd_it z6H z3p z7c z6U z3K sd_ro z3l sd_sl z6C z6W sd_wh z2i z1d sd_fr z27 z17 sd_kd z1L z0X sd_vw z25 z0Y sd_sq z1J z0K sd_tm z1S z0Q z3b z3O z6Z z64 u_bz u_bi1 u_bi2 u_bi3 u_bi4 u_bi5 u_bi6 u_bi7 scM_0 scM_1 scM_2 scM_3 scM_4 scM_5 scY_0 scY_1 scY_2 scY_3 scY_4 scY_5 scS_0 scS_1 scS_2 scS_3 scS_4 scS_5 scT_0 scT_1 scT_2 scT_3 scT_4 scT_5 scB_0 scB_k zni zmq za0 zfH zg2 List.append_assoc Nat.le_add_right ltO_o ltO_r u_eqE
attribute [local go_sem_proc] Nat.reduceAdd Nat.reduceSub Nat.reduceMul Nat.reduceLeDiff Nat.reduceLT Int.reduceEq Int.reduceNe Int.reduceLT Int.reduceLE Int.reduceAdd Int.reduceSub Int.reduceMul Int.reduceNeg Int.reduceToNat reduceCtorEq Nat.reduceEqDiff Nat.reduceBEq Nat.reduceGT
attribute [local go_sem_proc ↓] reduceIte
theorem zc8 {R : Type} {x y : Sm} {isB sl : Bool} {K1 : AV → Option R} : binE (some [.i .i64, .i .i64, .i .i64, .i .i64, .i .i64]) isB sl .eql (.agg (smC x)) (.agg (smC y)) K1 = K1 (bA (decide (x = y))) := by
 show K1 (bA (decide (x.fr = y.fr) && (decide (x.kd = y.kd) && (decide (x.vw = y.vw) && (decide (x.sq = y.sq) && (decide (x.tm = y.tm) && true)))))) = _
 congr 2
 obtain ⟨a,b,c,d,e⟩ := x
 obtain ⟨a',b',c',d',e'⟩ := y
 rw [Bool.eq_iff_iff]
 simp [and_assoc]
def hitB (w : Sm) (R : List Sm) (x : Sm) : Bool := decide (x = { w with fr := x.fr }) && decide (x ∈ R)
def spS (w : Sm) (R : List Sm) (b : List Bool) (x : Sm) : List Bool := if hitB w R x = true then b.set x.fr.toNat true else b
def spL (w : Sm) (R : List Sm) (l : List Sm) : List Bool := l.foldl (spS w R) (List.replicate 64 false)
theorem zrN {w : Sm} {R : List Sm} {b : List Bool} {x : Sm} : (spS w R b x).length = b.length := by
 unfold spS
 split <;> simp
theorem zsb {w : Sm} {R : List Sm} : ∀ (l : List Sm) (b : List Bool),(l.foldl (spS w R) b).length = b.length
 |[],b=>rfl
 |x :: l,b=>by
  show (l.foldl (spS w R) (spS w R b x)).length = _
  rw [zsb l,zrN]
theorem zvv {w : Sm} {R : List Sm} {l : List Sm} : (spL w R l).length = 64 := by unfold spL;rw [zsb];simp
theorem zue {w : Sm} {R : List Sm} {l : List Sm} {k : Nat} (h : k < l.length) : spL w R (l.take (k + 1)) = spS w R (spL w R (l.take k)) l[k] := by
 unfold spL
 rw [List.take_succ_eq_append_getElem h,List.foldl_append]
 rfl
def wK (w : Sm) (l : List Sm) : Nat → Sm
 |0=>w
 |k + 1=>{ w with fr := (l.getD k Sm.zero).fr }
theorem zyL {w : Sm} {l : List Sm} : ∀ k : Nat,({ wK w l k with fr := (l.getD k Sm.zero).fr } : Sm) = wK w l (k + 1)
 |0=>rfl
 |k + 1=>rfl
def vA (b : List Bool) : AObj := ⟨1,zhB,0,b.map bA⟩
theorem zu5 {R : Type} {b : List Bool} {K : List AV → Option R} : zhm (vA b) K = K (b.map bA) := by unfold vA;exact u_cl1
theorem zzp {R : Type} {b : List Bool} (hb : b.length = 64) {k : Nat} (hk : k < 64) {K : AObj → Option R} {x : Bool} : putE (vA b) 1 k (bA x) K = K (vA (b.set k x)) := by
 unfold vA
 rw [u_pt1]
 have h1 : z06 (b.map bA) k (cellsOf (bA x)) = (b.set k x).map bA := by
  show (b.map bA).set k (bA x) = _
  rw [List.map_set]
 rw [h1,List.length_map,hb,show decide (k + szOf 1 ≤ 64) = true from decide_eq_true (by simp [szOf];omega)]
 rfl
theorem zzX {n : Nat} {b : List Bool} : (b.map bA).all (ltA n) = true := by rw [List.all_map];exact List.all_eq_true.2 fun _ _=>rfl
theorem vA_lt {n : Nat} {b : List Bool} : ltO n (vA b) = true := by
 show ((1 : Nat) == 0 || (b.map bA).all (ltA n)) = true
 rw [zzX];rfl
theorem z9n {n : Nat} {s : Sm} : ltO n ⟨1,z01,0,smC s⟩ = true := by
 show ((1 : Nat) == 0 || (smC s).all (ltA n)) = true
 rw [z5L];rfl
theorem zwP : (⟨1,zhB,0,zhF⟩ : AObj) = vA (List.replicate 64 false) := by
 unfold vA zhF
 rfl
def outL (b : List Bool) (k : Nat) : List Int := ((List.range k).filter fun p=>b.getD p false).map fun p=>((p : Nat) : Int)
theorem zro {b : List Bool} {k : Nat} : outL b (k + 1) = if b.getD k false = true then outL b k ++ [(k : Int)] else outL b k := by
 unfold outL
 rw [List.range_succ,List.filter_append,List.map_append]
 cases h : b.getD k false with
 |true=>simp only [List.filter_cons,List.filter_nil,h];rfl
 |false=>simp only [List.filter_cons,List.filter_nil,h];simp
theorem zpK {b : List Bool} {k : Nat} : (outL b k).length ≤ k := by
 unfold outL
 rw [List.length_map]
 exact Nat.le_trans (List.length_filter_le ..) (by simp)
theorem zxI (m : Nat) (A B : List AObj) (σ : Sg) (w : Sm) (b : List Bool) (hb : b.length = 64) (hG : GB A B) (hm : 70 < m) :
  z8K m (nAB A B) ⟨sc A B σ ++ [⟨1,z01,0,smC w⟩,vA b],[(7,OP (nAB A B + 1) 0)]⟩ = some (SL ((outL b 64).map nA),sc A B σ) := by
 have hlt := sc_lt (σ := σ) hG (Nat.le_refl _)
 rw [zeq]
 have hd : (b.map bA).take 64 = b.map bA := by rw [List.take_of_length_le (by simp [hb])]
 simp (config := {maxSteps := 4000000,implicitDefEqProofs := false}) (disch := omega) only [go_sem,s_B0,s_Bk,zu5,hb,hd,z9l]
 refine z4t (m := m) (ι := {k : Nat // k ≤ 64}) (fun k=>⟨sc A B σ ++ [⟨1,z01,0,smC w⟩,vA b,⟨2,z7o,1,(outL b k.1).map nA⟩],[(10,OW (nAB A B + 2) (outL b k.1).length),(34, .agg (b.map bA)),(35,nA k.1)]⟩) (fun k=>64 - k.1) (fun _=>some (SL ((outL b 64).map nA),sc A B σ)) ?_ ⟨0,Nat.zero_le _⟩ (by dsimp only;omega)
 rintro kx hkx ⟨k,hk⟩ kc hkc
 dsimp only at hkc ⊢
 rw [zem]
 by_cases h : k < 64
 ·have h' : (k : Int) < 64 := by omega
  have step := hkc ⟨k + 1,by omega⟩ (by dsimp only;omega)
  dsimp only at step
  have ho := zro (b := b) (k := k)
  have hg : ∀ K : AV → RO,nthE (b.map bA) k K = K (bA (b.getD k false)) := fun K=>by
   unfold nthE
   rw [List.getElem?_map,List.getD_eq_getElem?_getD,List.getElem?_eq_getElem (by omega)]
   rfl
  have hol := zpK (b := b) (k := k)
  have hB := fun n=>z9n (n := n) (s := w)
  have hV := fun n=>vA_lt (n := n) (b := b)
  have hlt3 := sc_lt (σ := σ) hG (n := nAB A B + 3) (by omega)
  have hw : IntKind.i64.wrap ((k : Int) + 1) = (k : Int) + 1 := w_i64 (by omega) (by omega)
  have hl2 : (outL b k).length ≤ 34359738367 := by omega
  have hbt : ∀ n,(b.map bA).all (lt1 n) = true := fun n=>by rw [List.all_map];exact List.all_eq_true.2 fun _ _=>rfl
  cases hbk : b.getD k false with
  |true =>
   rw [hbk,if_pos rfl] at ho
   rw [hbk] at hg
   rw [ho] at step
   have hr : (⟨2,z7o,1,(outL b k).map nA ++ [nA k]⟩ : AObj) = ⟨2,z7o,1,(outL b k ++ [(k : Int)]).map nA⟩ := by simp
   simp (config := {maxSteps := 4000000,implicitDefEqProofs := false}) (disch := omega) only [go_sem,h,h',hg,szOf,s_B0,s_Bk,s_Bsk,z8s,hlt3,hB,hV,hl2,hr,hw,Nat.add_lt_add_iff_left,z9l,za1]
   simpa using step
  |false =>
   rw [hbk,if_neg (by decide)] at ho
   rw [hbk] at hg
   rw [ho] at step
   simp (config := {maxSteps := 4000000,implicitDefEqProofs := false}) (disch := omega) only [go_sem,h,h',hg,szOf,s_B0,s_Bk,s_Bsk,z8s,hlt3,hB,hV,zxM,hw,Nat.add_lt_add_iff_left,z9l,za1]
   simpa using step
 ·obtain rfl : k = 64 := by omega
  have hro : ro1 (sc A B σ ++ [⟨1,z01,0,smC w⟩,vA b,⟨2,z7o,1,(outL b 64).map nA⟩]) (OW (nAB A B + 2) (outL b 64).length) = SL ((outL b 64).map nA) := ro1W s_get (by simp)
  simp (config := {maxSteps := 4000000,implicitDefEqProofs := false}) (disch := omega) only [go_sem,h,hkx,zer,s_B0,s_Bk,z9l,zb3,hlt,hro,zAk]
end Go.Proofs.Ytaaogcnjfkgnoaa

namespace Go.Proofs.Ytaaogcnjfkgnoaa
open Go.RowKit
attribute [local go_sem] Nat.zero_add Nat.add_zero Nat.mul_one Int.toNat_natCast Int.natCast_zero Int.cast_ofNat_Int or_false false_or or_true true_or Nat.sub_zero Int.natCast_nonneg Int.toNat_zero Bool.true_and Bool.and_true Bool.false_and Bool.and_false Bool.true_or Bool.or_true Bool.false_or Bool.or_false Bool.not_true Bool.not_false Bool.not_not true_and and_true false_and and_false not_true_eq_false not_false_eq_true eq_self decide_true decide_false ne_eq implies_true forall_const true_implies false_implies Bool.true_eq_false Bool.false_eq_true List.map_cons List.map_nil List.all_cons List.all_nil List.length_cons List.length_nil List.length_map List.length_append List.nil_append List.cons_append List.set_cons_zero List.set_cons_succ List.set_nil List.drop_zero List.drop_succ_cons List.drop_nil List.take_zero List.take_succ_cons List.take_nil Option.map_some Option.map_none Option.isSome_some List.all_append List.all_map Function.comp_def decide_eq_true_eq Bool.and_eq_true beq_self_eq_true or_self and_self ite_true ite_false Nat.le_refl Bool.not_eq_true decide_not Bool.not_eq_true' decide_eq_false_iff_not Bool.not_eq_false Bool.or_eq_true if_true if_false ite_self u_roF u_cvF u_cvC u_ceT u_ceK z2x sm_it z6G z38 z5L z7e z3a sm_ro z37 sm_sl z74 z7a sm_fr z23 z0Z sm_kd z1T z19 sm_vw z1X z0T sm_sq z1N z0J sm_tm z24 z15 z3x z1H z3M z7d z6R z1O z3r z1W z1Z z2T z3i ce_it z72 z3E z5i z73 z3N ce_ro z3z ce_sl z70 z6Y ce_sq z2j z1a ce_vw z2f z1b ce_tm z1z z0P z3U z0B z0r ce_vs z28 z10 z3S z1C z3T z75 z7g z2e z3I z1Q z1V z33 z3o cg_it z6F z3H z63 z6T z3m cg_ro z3R cg_sl z79 z6B cg_fr z1F z0M cg_vw z2g z16 cg_st z1y z0R cg_rt z26 z11 cg_pf z1R z0L cg_cs z1D z1e z3f z1A z3j z6L z77 z1K z3q z2c z1I z3Q z36 ms_it z6y z3P z7b z6M z3B ms_ro z3C ms_sl z76 z6Q ms_kd z1E z12 ms_fr z2h z0W ms_vw z1Y z0O ms_sq z2m z1c ms_tm z2a z18 z3L z0y z0q ms_vs z22 z0V z6x z0N z0C z3c z2b z3s z6N z6V z29 z3v z1B z2l z3J z3e co_it z6u z3w z6E z6K z3y co_ro z39 co_sl z71 z6z co_sq z2k z13 co_tm z1P z0S z3n z0A z0p co_nl z1M z14 z3k z1U z3A z7h z78 z20 z3h z21 z1G z2Z z3D sd_it z6H z3p z7c z6U z3K sd_ro z3l sd_sl z6C z6W sd_wh z2i z1d sd_fr z27 z17 sd_kd z1L z0X sd_vw z25 z0Y sd_sq z1J z0K sd_tm z1S z0Q z3b z3O z6Z z64 u_bz u_bi1 u_bi2 u_bi3 u_bi4 u_bi5 u_bi6 u_bi7 scM_0 scM_1 scM_2 scM_3 scM_4 scM_5 scY_0 scY_1 scY_2 scY_3 scY_4 scY_5 scS_0 scS_1 scS_2 scS_3 scS_4 scS_5 scT_0 scT_1 scT_2 scT_3 scT_4 scT_5 scB_0 scB_k zni zmq za0 zfH zg2 List.append_assoc Nat.le_add_right ltO_o ltO_r u_eqE
attribute [local go_sem_proc] Nat.reduceAdd Nat.reduceSub Nat.reduceMul Nat.reduceLeDiff Nat.reduceLT Int.reduceEq Int.reduceNe Int.reduceLT Int.reduceLE Int.reduceAdd Int.reduceSub Int.reduceMul Int.reduceNeg Int.reduceToNat reduceCtorEq Nat.reduceEqDiff Nat.reduceBEq Nat.reduceGT
attribute [local go_sem_proc ↓] reduceIte
theorem zqK (m : Nat) (A B : List AObj) (σ : Sg) (l : List Sm) (w : Sm) (hG : GB A B) (hσ : SgOk σ) (hm : 70 < m) (hlm : l.length < m) (hll : l.length ≤ 1000000) (hli : ∀ x ∈ l,SmI x) :
  z8v m (OP (A.length + 4) 0) (SL (l.map smE)) (smE w) (sc A B σ) = some (SL ((outL (spL w σ.R l) 64).map nA),sc A B σ) := by
 rw [zgq,sm_it]
 have hn2 := hσ.n2
 simp (config := {maxSteps := 4000000,implicitDefEqProofs := false}) (disch := omega) only [go_sem,z9l,zwP]
 refine z4t (m := m) (ι := {k : Nat // k ≤ l.length}) (fun k=>⟨sc A B σ ++ [⟨1,z01,0,smC (wK w l k.1)⟩,vA (spL w σ.R (l.take k.1))],[(0,OP (A.length + 4) 0),(5,OP (nAB A B) 0),(7,OP (nAB A B + 1) 0),(13,SL (l.map smE)),(14,nA l.length),(15,nA k.1)]⟩) (fun k=>l.length - k.1) (fun _=>some (SL ((outL (spL w σ.R l) 64).map nA),sc A B σ)) ?_ ⟨0,Nat.zero_le _⟩ (by dsimp only;omega)
 rintro kx hkx ⟨k,hk⟩ kc hkc
 dsimp only at hkc ⊢
 rw [zew]
 have hW := fun n=>z9n (n := n) (s := wK w l k)
 by_cases h : k < l.length
 ·have h' : (k : Int) < (l.length : Int) := by omega
  have step := hkc ⟨k + 1,by omega⟩ (by dsimp only;omega)
  dsimp only at step
  rw [zue h] at step
  have hgk : l.getD k Sm.zero = l[k] := by simp [List.getD,h]
  have hset := zyL (w := w) (l := l) k
  rw [hgk] at hset
  have hV := fun {b : List Bool} n=>vA_lt (n := n) (b := b)
  have hlt2 := sc_lt (σ := σ) hG (n := nAB A B + 2) (by omega)
  have hsi := hli l[k] (List.getElem_mem h)
  have h4 : A.length + 4 < nAB A B + 2 := by unfold nAB;omega
  have hw1 : IntKind.i64.wrap ((k : Int) + 1) = (k : Int) + 1 := w_i64 (by omega) (by omega)
  have h64 := zvv (w := w) (R := σ.R) (l := l.take k)
  generalize hb : spL w σ.R (l.take k) = b at *
  have hW2 := fun n=>z9n (n := n) (s := wK w l (k + 1))
  have hS := fun n=>z9n (n := n) (s := l[k])
  have hhas := zuT m A (B ++ [⟨1,z01,0,smC (wK w l (k + 1))⟩,vA b,⟨1,z01,0,smC l[k]⟩]) σ l[k] (hG.app fun n=>by simp [hW2,hV,hS]) hσ hsi
  rw [zdl,sm_it] at hhas
  have hwk : wK w l (k + 1) = { w with fr := l[k].fr } := by show ({ w with fr := (l.getD k Sm.zero).fr } : Sm) = _;rw [hgk]
  by_cases h1 : l[k] = wK w l (k + 1)
  ·have h1' : decide (l[k] = wK w l (k + 1)) = true := decide_eq_true h1
   by_cases h2 : l[k] ∈ σ.R
   ·have h2' : decide (l[k] ∈ σ.R) = true := decide_eq_true h2
    rw [h2'] at hhas
    obtain ⟨f0,f1⟩ := hσ.rf _ h2
    have f2 : l[k].fr < 64 := by omega
    have f3 : l[k].fr.toNat < 64 := by omega
    have hp := fun (K : AObj → RO)=>zzp (b := b) h64 f3 (K := K) (x := true)
    have hsp : spS w σ.R b l[k] = b.set l[k].fr.toNat true := by
     unfold spS hitB
     rw [← hwk,h1',h2']
     rfl
    rw [hsp] at step
    simp (config := {maxSteps := 4000000,implicitDefEqProofs := false}) (disch := omega) only [go_sem,h,h',hset,s_B0,s_Bk,s_Bs0,s_Bsk,z8s,hlt2,hW2,hV,hS,h1',hhas,hp,f0,f2,szOf,zc8,hw1,h4,Nat.add_lt_add_iff_left,z9l,z6s,z6j]
    exact step
   ·have h2' : decide (l[k] ∈ σ.R) = false := decide_eq_false h2
    rw [h2'] at hhas
    have hsp : spS w σ.R b l[k] = b := by
     unfold spS hitB
     rw [h2',Bool.and_false]
     rfl
    rw [hsp] at step
    simp (config := {maxSteps := 4000000,implicitDefEqProofs := false}) (disch := omega) only [go_sem,h,h',hset,s_B0,s_Bk,s_Bs0,s_Bsk,z8s,hlt2,hW2,hV,hS,h1',hhas,szOf,zc8,hw1,h4,Nat.add_lt_add_iff_left,z9l,z6s,z6j]
    exact step
  ·have h1' : decide (l[k] = wK w l (k + 1)) = false := decide_eq_false h1
   have hsp : spS w σ.R b l[k] = b := by
    unfold spS hitB
    rw [← hwk,h1']
    rfl
   rw [hsp] at step
   simp (config := {maxSteps := 4000000,implicitDefEqProofs := false}) (disch := omega) only [go_sem,h,h',hset,s_B0,s_Bk,s_Bs0,s_Bsk,z8s,hlt2,hW2,hV,hS,h1',szOf,zc8,hw1,h4,Nat.add_lt_add_iff_left,z9l,z6s,z6j]
   exact step
 ·obtain rfl : k = l.length := by omega
  have h' : ¬ (l.length : Int) < (l.length : Int) := Int.lt_irrefl _
  have hr1 := zxI m A B σ (wK w l l.length) (spL w σ.R l) zvv hG hm
  have ht : l.take l.length = l := List.take_length
  simp (config := {maxSteps := 4000000,implicitDefEqProofs := false}) (disch := omega) only [go_sem,h,h',hkx,ht,hr1]
end Go.Proofs.Ytaaogcnjfkgnoaa

namespace Go.Proofs.Ytaaogcnjfkgnoaa
open Go.RowKit
attribute [local go_sem] Nat.zero_add Nat.add_zero Nat.mul_one Int.toNat_natCast Int.natCast_zero Int.cast_ofNat_Int or_false false_or or_true true_or Nat.sub_zero Int.natCast_nonneg Int.toNat_zero Bool.true_and Bool.and_true Bool.false_and Bool.and_false Bool.true_or Bool.or_true Bool.false_or Bool.or_false Bool.not_true Bool.not_false Bool.not_not true_and and_true false_and and_false not_true_eq_false not_false_eq_true eq_self decide_true decide_false ne_eq implies_true forall_const true_implies false_implies Bool.true_eq_false Bool.false_eq_true List.map_cons List.map_nil List.all_cons List.all_nil List.length_cons List.length_nil List.length_map List.length_append List.nil_append List.cons_append List.set_cons_zero List.set_cons_succ List.set_nil List.drop_zero List.drop_succ_cons List.drop_nil List.take_zero List.take_succ_cons List.take_nil Option.map_some Option.map_none Option.isSome_some List.all_append List.all_map Function.comp_def decide_eq_true_eq Bool.and_eq_true beq_self_eq_true or_self and_self ite_true ite_false Nat.le_refl Bool.not_eq_true decide_not Bool.not_eq_true' decide_eq_false_iff_not Bool.not_eq_false Bool.or_eq_true if_true if_false ite_self u_roF u_cvF u_cvC u_ceT u_ceK z2x sm_it z6G z38 z5L z7e z3a sm_ro z37 sm_sl z74 z7a sm_fr z23 z0Z sm_kd z1T z19 sm_vw z1X z0T sm_sq z1N z0J sm_tm z24 z15 z3x z1H z3M z7d z6R z1O z3r z1W z1Z z2T z3i ce_it z72 z3E z5i z73 z3N ce_ro z3z ce_sl z70 z6Y ce_sq z2j z1a ce_vw z2f z1b ce_tm z1z z0P z3U z0B z0r ce_vs z28 z10 z3S z1C z3T z75 z7g z2e z3I z1Q z1V z33 z3o cg_it z6F z3H z63 z6T z3m cg_ro z3R cg_sl z79 z6B cg_fr z1F z0M cg_vw z2g z16 cg_st z1y z0R cg_rt z26 z11 cg_pf z1R z0L cg_cs z1D z1e z3f z1A z3j z6L z77 z1K z3q z2c z1I z3Q z36 ms_it z6y z3P z7b z6M z3B ms_ro z3C ms_sl z76 z6Q ms_kd z1E z12 ms_fr z2h z0W ms_vw z1Y z0O ms_sq z2m z1c ms_tm z2a z18 z3L z0y z0q ms_vs z22 z0V z6x z0N z0C z3c z2b z3s z6N z6V z29 z3v z1B z2l z3J z3e co_it z6u z3w z6E z6K z3y co_ro z39 co_sl z71 z6z co_sq z2k z13 co_tm z1P z0S z3n z0A z0p co_nl z1M z14 z3k z1U z3A z7h z78 z20 z3h z21 z1G z2Z z3D sd_it z6H z3p z7c z6U z3K sd_ro z3l sd_sl z6C z6W sd_wh z2i z1d sd_fr z27 z17 sd_kd z1L z0X sd_vw z25 z0Y sd_sq z1J z0K sd_tm z1S z0Q z3b z3O z6Z z64 u_bz u_bi1 u_bi2 u_bi3 u_bi4 u_bi5 u_bi6 u_bi7 scM_0 scM_1 scM_2 scM_3 scM_4 scM_5 scY_0 scY_1 scY_2 scY_3 scY_4 scY_5 scS_0 scS_1 scS_2 scS_3 scS_4 scS_5 scT_0 scT_1 scT_2 scT_3 scT_4 scT_5 scB_0 scB_k zni zmq za0 zfH zg2 List.append_assoc Nat.le_add_right ltO_o ltO_r u_eqE
attribute [local go_sem_proc] Nat.reduceAdd Nat.reduceSub Nat.reduceMul Nat.reduceLeDiff Nat.reduceLT Int.reduceEq Int.reduceNe Int.reduceLT Int.reduceLE Int.reduceAdd Int.reduceSub Int.reduceMul Int.reduceNeg Int.reduceToNat reduceCtorEq Nat.reduceEqDiff Nat.reduceBEq Nat.reduceGT
attribute [local go_sem_proc ↓] reduceIte
def inN (n p : Int) : Bool := decide (0 ≤ p) && decide (p < n)
def bdL (l : List Int) : List Bool := l.foldl (fun b p=>b.set p.toNat true) (List.replicate 64 false)
theorem zsr : ∀ (l : List Int) (b : List Bool),(l.foldl (fun b p=>b.set p.toNat true) b).length = b.length
 |[],b=>rfl
 |p :: l,b=>by
  show (l.foldl _ (b.set p.toNat true)).length = _
  rw [zsr l];simp
theorem ztV {l : List Int} : (bdL l).length = 64 := by unfold bdL;rw [zsr];simp
theorem ztE {l : List Int} {k : Nat} (h : k < l.length) : bdL (l.take (k + 1)) = (bdL (l.take k)).set l[k].toNat true := by
 unfold bdL
 rw [List.take_succ_eq_append_getElem h,List.foldl_append]
 rfl
theorem zAn : mapT Try.prog 116 = some (41,3) := by unfold mapT;rw [Try.underlying116]
theorem zwj {A : List AObj} (hA : ∀ n,A.length ≤ n → A.all (ltO n) = true) : GB A [] := fun n hn=>⟨hA n (by unfold nAB at hn;simp at hn;omega),rfl⟩
theorem zsZ (m : Nat) (A : List AObj) (T : List (List UInt8)) (n : Int) (bad : List Int) (hn2 : n ≤ 64) (hll : bad.length ≤ 1000000) (hG : GB A []) (k : Nat) (h : k < bad.length) (hp : inN n bad[k] = true) (kc : ASt → RO) (kx : KO (AV × List AObj)) :
  zhM m ⟨sc A [] ⟨T,n,bdL (bad.take k),[]⟩,[(6,OP (A.length + 4) 0),(19,SL (bad.map nA)),(20,nA bad.length),(21,nA k)]⟩ kc kx = kc ⟨sc A [] ⟨T,n,bdL (bad.take (k + 1)),[]⟩,[(6,OP (A.length + 4) 0),(19,SL (bad.map nA)),(20,nA bad.length),(21,nA (k + 1 : Nat))]⟩ := by
 have hi := gis_s m A [] ⟨T,n,bdL (bad.take k),[]⟩ bad[k] hG
 have h64 := ztV (l := bad.take k)
 rw [ztE h]
 generalize bdL (bad.take k) = b at *
 have h1 := hp
 unfold inN at h1
 dsimp only at hi
 rw [h1] at hi
 rw [Bool.and_eq_true,decide_eq_true_eq,decide_eq_true_eq] at h1
 obtain ⟨f0,f1⟩ := h1
 have f2 : bad[k] < 64 := by omega
 have f3 : bad[k].toNat < 64 := by omega
 have h' : (k : Int) < (bad.length : Int) := by omega
 have hw1 : IntKind.i64.wrap ((k : Int) + 1) = (k : Int) + 1 := w_i64 (by omega) (by omega)
 have h4 : A.length + 4 < nAB A [] := by unfold nAB;simp
 have hpu := fun (K : AObj → RO)=>zxl (a := A.length + 3) (n := n) (bd := b) (L := ([] : List Sm)) (K2 := K) h64 f3 true
 have hlt := fun {L : List (List UInt8)} {n : Int} {bd : List Bool} {R : List Sm}=>zlf hG (L := L) (n := n) (bd := bd) (R := R)
 rw [zdk]
 unfold sc at *
 simp (config := {maxSteps := 4000000,implicitDefEqProofs := false}) (disch := omega) only [go_sem,h,h',hi,f0,f2,szOf,hw1,h4,hpu,hlt]
 rfl
theorem zqw (m : Nat) (A : List AObj) (T : List (List UInt8)) (n : Int) (bad : List Int) (hn1 : 1 ≤ n) (hn2 : n ≤ 64) :
  zeA m (nA n) (SL (bad.map nA)) (A ++ [tmO T,ttO A.length T,trO T]) = zhf m (A.length + 3) ⟨sc A [] ⟨T,n,bdL [],[]⟩,[(1,SL (bad.map nA)),(6,OP (A.length + 4) 0)]⟩ := by
 have c1 : ¬ n < 1 := by omega
 have c2 : ¬ 64 < n := by omega
 have hH : (A ++ [tmO T,ttO A.length T,trO T]).length = A.length + 3 := by simp
 generalize hH0 : A ++ [tmO T,ttO A.length T,trO T] = H0 at *
 have e1 : ∀ K : AV → List AObj → RO,makeE (mapT Try.prog 116) H0 K = K (MP (A.length + 3)) (H0 ++ [rmO []]) := fun K=>by rw [zAn,← hH];rfl
 have e2 : ∀ (K : AV → RO),z4r (some zk4) (some zj9) [(0,nA n),(2,MP (A.length + 3))] K = K (.agg (nA n :: ((List.replicate 64 false).map bA ++ [MP (A.length + 3),V (.slice none 0 0)]))) := fun K=>_root_.id rfl
 have e3 : ∀ (K : AV → List AObj → RO),boxE z6d (H0 ++ [rmO []]) (.agg (nA n :: ((List.replicate 64 false).map bA ++ [MP (A.length + 3),V (.slice none 0 0)]))) K = K (OP (A.length + 4) 0) (H0 ++ [rmO [],⟨1,z6d,0,nA n :: ((List.replicate 64 false).map bA ++ [MP (A.length + 3),V (.slice none 0 0)])⟩]) := fun K=>by
  have : (H0 ++ [rmO []]).length = A.length + 4 := by rw [List.length_append,hH];rfl
  rw [u_box,this,List.append_assoc]
  rfl
 have e4 : ghS 6 66 z01 5 ⟨H0 ++ [rmO [],⟨1,z6d,0,nA n :: ((List.replicate 64 false).map bA ++ [MP (A.length + 3),V (.slice none 0 0)])⟩],[(1,SL (bad.map nA)),(6,OP (A.length + 4) 0)]⟩ = ⟨sc A [] ⟨T,n,bdL [],[]⟩,[(1,SL (bad.map nA)),(6,OP (A.length + 4) 0)]⟩ := by
  have h1 : (H0 ++ [rmO [],⟨1,z6d,0,nA n :: ((List.replicate 64 false).map bA ++ [MP (A.length + 3),V (.slice none 0 0)])⟩])[A.length + 4]? = some ⟨1,z6d,0,nA n :: ((List.replicate 64 false).map bA ++ [MP (A.length + 3),V (.slice none 0 0)])⟩ := by
   rw [show A.length + 4 = H0.length + 1 by omega,getA];rfl
  unfold ghS
  show (match OP (A.length + 4) 0 with|_=>_) = _
  dsimp only
  rw [h1]
  dsimp only
  have h2 : ∀ o,(H0 ++ [rmO [],⟨1,z6d,0,nA n :: ((List.replicate 64 false).map bA ++ [MP (A.length + 3),V (.slice none 0 0)])⟩]).set (A.length + 4) o = H0 ++ [rmO [],o] := fun o=>by
   rw [show A.length + 4 = H0.length + 1 by omega,setA];rfl
  have h3 : (nA n :: ((List.replicate 64 false).map bA ++ [MP (A.length + 3),V (.slice none 0 0)]))[66]? = some (V (.slice none 0 0)) := rfl
  rw [h3]
  try dsimp only
  rw [h2,List.append_assoc,List.length_append,hH]
  unfold sc scM
  rw [← hH0]
  simp only [List.append_assoc,List.cons_append,List.nil_append]
  rfl
 rw [zoE]
 simp (config := {maxSteps := 4000000,implicitDefEqProofs := false}) (disch := omega) only [go_sem,c1,c2,zlb]
 rw [zlg,e1,e2,e3,e4,hH]
theorem zsS (m : Nat) (A : List AObj) (T : List (List UInt8)) (n : Int) (bad : List Int) (hn1 : 1 ≤ n) (hn2 : n ≤ 64) (hlm : bad.length < m) (hll : bad.length ≤ 1000000) (hA : ∀ n,A.length ≤ n → A.all (ltO n) = true) (hb : ∀ p ∈ bad,inN n p = true) :
  zeA m (nA n) (SL (bad.map nA)) (A ++ [tmO T,ttO A.length T,trO T]) = some (TU [OP (A.length + 4) 0,nA 0],sc A [] ⟨T,n,bdL bad,[]⟩) := by
 have hG := zwj hA
 rw [zqw m A T n bad hn1 hn2,zh0]
 simp (config := {maxSteps := 4000000,implicitDefEqProofs := false}) (disch := omega) only [go_sem,]
 refine z4t (m := m) (ι := {k : Nat // k ≤ bad.length}) (fun k=>⟨sc A [] ⟨T,n,bdL (bad.take k.1),[]⟩,[(6,OP (A.length + 4) 0),(19,SL (bad.map nA)),(20,nA bad.length),(21,nA k.1)]⟩) (fun k=>bad.length - k.1) (fun _=>some (TU [OP (A.length + 4) 0,nA 0],sc A [] ⟨T,n,bdL bad,[]⟩)) ?_ ⟨0,Nat.zero_le _⟩ (by dsimp only;omega)
 rintro kx hkx ⟨k,hk⟩ kc hkc
 dsimp only at hkc ⊢
 by_cases h : k < bad.length
 ·rw [zsZ m A T n bad hn2 hll hG k h (hb _ (List.getElem_mem h))]
  exact hkc ⟨k + 1,by omega⟩ (by dsimp only;omega)
 ·obtain rfl : k = bad.length := by omega
  have h' : ¬ (bad.length : Int) < (bad.length : Int) := Int.lt_irrefl _
  have hlt := sc_lt (σ := ⟨T,n,bdL bad,[]⟩) hG (Nat.le_refl _)
  have ht : bad.take bad.length = bad := List.take_length
  have h4 : A.length + 4 < nAB A [] := by unfold nAB;simp
  rw [zdk]
  simp (config := {maxSteps := 4000000,implicitDefEqProofs := false}) (disch := omega) only [go_sem,h,h',hkx,ht,zlv,z9l,hlt,h4]
theorem zyj (m : Nat) (A : List AObj) (T : List (List UInt8)) (n : Int) (bad : List Int) (hn1 : 1 ≤ n) (hn2 : n ≤ 64) (hlm : bad.length < m) (hll : bad.length ≤ 1000000) (hA : ∀ n,A.length ≤ n → A.all (ltO n) = true) (hb : ¬ ∀ p ∈ bad,inN n p = true) :
  ∃ bd,zeA m (nA n) (SL (bad.map nA)) (A ++ [tmO T,ttO A.length T,trO T]) = some (TU [V (.pointer none),nA 1],sc A [] ⟨T,n,bd,[]⟩) := by
 have hG := zwj hA
 obtain ⟨i,hi,hp,hq⟩ : ∃ i,∃ h : i < bad.length,(∀ k (hk : k < i),inN n bad[k] = true) ∧ inN n bad[i] = false := by
  have h0 : bad.findIdx (fun p=>!inN n p) < bad.length := by
   rw [List.findIdx_lt_length]
   refine Classical.byContradiction fun q=>hb fun p hp=>?_
   cases h : inN n p with
   |true=>rfl
   |false=>exact absurd ⟨p,hp,by simp [h]⟩ q
  refine ⟨_,h0,fun k hk=>?_,?_⟩
  ·have := List.not_of_lt_findIdx hk
   simpa using this
  ·have := List.findIdx_getElem (w := h0)
   simpa using this
 refine ⟨bdL (bad.take i),?_⟩
 rw [zqw m A T n bad hn1 hn2,zh0]
 simp (config := {maxSteps := 4000000,implicitDefEqProofs := false}) (disch := omega) only [go_sem,]
 refine z4t (m := m) (ι := {k : Nat // k ≤ i}) (fun k=>⟨sc A [] ⟨T,n,bdL (bad.take k.1),[]⟩,[(6,OP (A.length + 4) 0),(19,SL (bad.map nA)),(20,nA bad.length),(21,nA k.1)]⟩) (fun k=>i - k.1) (fun _=>some (TU [V (.pointer none),nA 1],sc A [] ⟨T,n,bdL (bad.take i),[]⟩)) ?_ ⟨0,Nat.zero_le _⟩ (by dsimp only;omega)
 rintro kx hkx ⟨k,hk⟩ kc hkc
 dsimp only at hkc ⊢
 by_cases h : k < i
 ·rw [zsZ m A T n bad hn2 hll hG k (by omega) (hp k h)]
  exact hkc ⟨k + 1,by omega⟩ (by dsimp only;omega)
 ·obtain rfl : k = i := by omega
  have h' : (k : Int) < (bad.length : Int) := by omega
  have hlt := sc_lt (σ := ⟨T,n,bdL (bad.take k),[]⟩) hG (Nat.le_refl _)
  have hi2 := gis_s m A [] ⟨T,n,bdL (bad.take k),[]⟩ bad[k] hG
  unfold inN at hq
  dsimp only at hi2
  rw [hq] at hi2
  rw [zdk]
  simp (config := {maxSteps := 4000000,implicitDefEqProofs := false}) (disch := omega) only [go_sem,hi,h',hi2,hkx,z9l,hlt,szOf]
  rfl
end Go.Proofs.Ytaaogcnjfkgnoaa

namespace Go.Proofs.Ytaaogcnjfkgnoaa
open Go.RowKit
attribute [local go_sem] Nat.zero_add Nat.add_zero Nat.mul_one Int.toNat_natCast Int.natCast_zero Int.cast_ofNat_Int or_false false_or or_true true_or Nat.sub_zero Int.natCast_nonneg Int.toNat_zero Bool.true_and Bool.and_true Bool.false_and Bool.and_false Bool.true_or Bool.or_true Bool.false_or Bool.or_false Bool.not_true Bool.not_false Bool.not_not true_and and_true false_and and_false not_true_eq_false not_false_eq_true eq_self decide_true decide_false ne_eq implies_true forall_const true_implies false_implies Bool.true_eq_false Bool.false_eq_true List.map_cons List.map_nil List.all_cons List.all_nil List.length_cons List.length_nil List.length_map List.length_append List.nil_append List.cons_append List.set_cons_zero List.set_cons_succ List.set_nil List.drop_zero List.drop_succ_cons List.drop_nil List.take_zero List.take_succ_cons List.take_nil Option.map_some Option.map_none Option.isSome_some List.all_append List.all_map Function.comp_def decide_eq_true_eq Bool.and_eq_true beq_self_eq_true or_self and_self ite_true ite_false Nat.le_refl Bool.not_eq_true decide_not Bool.not_eq_true' decide_eq_false_iff_not Bool.not_eq_false Bool.or_eq_true if_true if_false ite_self u_roF u_cvF u_cvC u_ceT u_ceK z2x sm_it z6G z38 z5L z7e z3a sm_ro z37 sm_sl z74 z7a sm_fr z23 z0Z sm_kd z1T z19 sm_vw z1X z0T sm_sq z1N z0J sm_tm z24 z15 z3x z1H z3M z7d z6R z1O z3r z1W z1Z z2T z3i ce_it z72 z3E z5i z73 z3N ce_ro z3z ce_sl z70 z6Y ce_sq z2j z1a ce_vw z2f z1b ce_tm z1z z0P z3U z0B z0r ce_vs z28 z10 z3S z1C z3T z75 z7g z2e z3I z1Q z1V z33 z3o cg_it z6F z3H z63 z6T z3m cg_ro z3R cg_sl z79 z6B cg_fr z1F z0M cg_vw z2g z16 cg_st z1y z0R cg_rt z26 z11 cg_pf z1R z0L cg_cs z1D z1e z3f z1A z3j z6L z77 z1K z3q z2c z1I z3Q z36 ms_it z6y z3P z7b z6M z3B ms_ro z3C ms_sl z76 z6Q ms_kd z1E z12 ms_fr z2h z0W ms_vw z1Y z0O ms_sq z2m z1c ms_tm z2a z18 z3L z0y z0q ms_vs z22 z0V z6x z0N z0C z3c z2b z3s z6N z6V z29 z3v z1B z2l z3J z3e co_it z6u z3w z6E z6K z3y co_ro z39 co_sl z71 z6z co_sq z2k z13 co_tm z1P z0S z3n z0A z0p co_nl z1M z14 z3k z1U z3A z7h z78 z20 z3h z21 z1G z2Z z3D sd_it z6H z3p z7c z6U z3K sd_ro z3l sd_sl z6C z6W sd_wh z2i z1d sd_fr z27 z17 sd_kd z1L z0X sd_vw z25 z0Y sd_sq z1J z0K sd_tm z1S z0Q z3b z3O z6Z z64 u_bz u_bi1 u_bi2 u_bi3 u_bi4 u_bi5 u_bi6 u_bi7 ltO_o ltO_r u_eqE zc8 Nat.le_add_right List.append_assoc
attribute [local go_sem_proc] Nat.reduceAdd Nat.reduceSub Nat.reduceMul Nat.reduceLeDiff Nat.reduceLT Int.reduceEq Int.reduceNe Int.reduceLT Int.reduceLE Int.reduceAdd Int.reduceSub Int.reduceMul Int.reduceNeg Int.reduceToNat reduceCtorEq Nat.reduceEqDiff Nat.reduceBEq Nat.reduceGT
attribute [local go_sem_proc ↓] reduceIte
def rrC (n : Int) (rog : List Int) (L : List Sm) : List AV := [nA n,SL (rog.map nA),SL (L.map smE)]
def rrA (n : Int) (rog : List Int) (L : List Sm) : AV := .agg (rrC n rog L)
theorem zd0 {n : Int} {rog : List Int} {L : List Sm} : rrA n rog L = .agg (rrC n rog L) := _root_.id rfl
section
variable {R : Type} {n : Int} {rog : List Int} {L : List Sm} {K : AV → Option R} {H : List AObj} {k : Nat}
theorem rr_f0 : nthE (rrC n rog L) 0 K = K (nA n) := _root_.id rfl
theorem rr_f1 : nthE (rrC n rog L) 1 K = K (SL (rog.map nA)) := _root_.id rfl
theorem rr_f2 : nthE (rrC n rog L) 2 K = K (SL (L.map smE)) := _root_.id rfl
theorem zkm : (rrC n rog L).length = 3 := _root_.id rfl
theorem zcb : (rrC n rog L).all sure = true := _root_.id rfl
theorem zfZ : (rrC n rog L).all (ltA k) = true := _root_.id rfl
theorem zk6 : (rrC n rog L).all (lt1 k) = true := _root_.id rfl
theorem rr_ro : (rrC n rog L).map (ro1 H) = rrC n rog L := _root_.id rfl
theorem zfL : (rrC n rog L).take 3 = rrC n rog L := _root_.id rfl
theorem zoj : noT (.agg (rrC n rog L)) = .agg (rrC n rog L) := _root_.id rfl
theorem zkG : ((rrC n rog L).all fun y=>lt1 k (ro1 H y)) = true := _root_.id rfl
end
theorem zdr {α : Type} {l : List α} {k : Nat} {s : α} (h : k < l.length) (h1 : s ∉ l.take k) (h2 : l[k] ≠ s) : s ∉ l.take (k + 1) := by
 rw [List.take_succ_eq_append_getElem h,List.mem_append,List.mem_singleton]
 exact fun q=>q.elim h1 (fun e=>h2 e.symm)
theorem zv3 (m : Nat) (n : Int) (rog : List Int) (L : List Sm) (p : Int) (hm : rog.length < m) (hl : rog.length ≤ 1000000) : z4i m (rrA n rog L) (nA p) = some (bA (decide (p ∈ rog)),[]) := by
 rw [ze2,zd0]
 simp (config := {maxSteps := 4000000,implicitDefEqProofs := false}) (disch := omega) only [go_sem,zcb]
 refine z4t (m := m) (ι := {k : Nat // k ≤ rog.length ∧ p ∉ rog.take k}) (fun k=>⟨[⟨1,z0E,0,rrC n rog L⟩],[(1,nA p),(2,OP 0 0),(5,nA k.1)]⟩) (fun k=>rog.length - k.1) (fun _=>some (bA (decide (p ∈ rog)),[])) ?_ ⟨0,Nat.zero_le _,by simp⟩ (by dsimp only;omega)
 rintro kx hkx ⟨k,hk,hno⟩ kc hkc
 dsimp only at hkc ⊢
 rw [zc0]
 by_cases h : k < rog.length
 ·have h' : (k : Int) < (rog.length : Int) := by omega
  have hw1 : IntKind.i64.wrap ((k : Int) + 1) = (k : Int) + 1 := w_i64 (by omega) (by omega)
  by_cases h1 : rog[k] = p
  ·have hp : p ∈ rog := h1 ▸ List.getElem_mem h
   simp (config := {maxSteps := 4000000,implicitDefEqProofs := false}) (disch := omega) only [go_sem,h,h',h1,hp,hkx,rr_f1,zfZ,szOf]
  ·have step := hkc ⟨k + 1,by omega,zdr h hno h1⟩ (by dsimp only;omega)
   dsimp only at step
   simp (config := {maxSteps := 4000000,implicitDefEqProofs := false}) (disch := omega) only [go_sem,h,h',h1,hw1,rr_f1,zfZ,szOf]
   exact step
 ·obtain rfl : k = rog.length := by omega
  have h' : ¬ (rog.length : Int) < (rog.length : Int) := Int.lt_irrefl _
  rw [List.take_length] at hno
  simp (config := {maxSteps := 4000000,implicitDefEqProofs := false}) (disch := omega) only [go_sem,h,h',hno,hkx,rr_f1,zbU]
theorem zpG (m : Nat) (n : Int) (rog : List Int) (L : List Sm) (s : Sm) (hm : L.length < m) (hl : L.length ≤ 1000000) : z2S m (rrA n rog L) (smE s) = some (bA (decide (s ∈ L)),[]) := by
 rw [ze0,zd0,sm_it]
 simp (config := {maxSteps := 4000000,implicitDefEqProofs := false}) (disch := omega) only [go_sem,zcb]
 refine z4t (m := m) (ι := {k : Nat // k ≤ L.length ∧ s ∉ L.take k}) (fun k=>⟨[⟨1,z0E,0,rrC n rog L⟩,⟨1,z01,0,smC s⟩],[(2,OP 0 0),(3,OP 1 0),(5,nA k.1)]⟩) (fun k=>L.length - k.1) (fun _=>some (bA (decide (s ∈ L)),[])) ?_ ⟨0,Nat.zero_le _,by simp⟩ (by dsimp only;omega)
 rintro kx hkx ⟨k,hk,hno⟩ kc hkc
 dsimp only at hkc ⊢
 rw [zbW]
 by_cases h : k < L.length
 ·have h' : (k : Int) < (L.length : Int) := by omega
  have hw1 : IntKind.i64.wrap ((k : Int) + 1) = (k : Int) + 1 := w_i64 (by omega) (by omega)
  by_cases h1 : L[k] = s
  ·have hp : s ∈ L := h1 ▸ List.getElem_mem h
   have h1' : decide (L[k] = s) = true := decide_eq_true h1
   simp (config := {maxSteps := 4000000,implicitDefEqProofs := false}) (disch := omega) only [go_sem,h,h',h1',hp,hkx,rr_f2,zfZ,szOf]
  ·have step := hkc ⟨k + 1,by omega,zdr h hno h1⟩ (by dsimp only;omega)
   dsimp only at step
   have h1' : decide (L[k] = s) = false := decide_eq_false h1
   simp (config := {maxSteps := 4000000,implicitDefEqProofs := false}) (disch := omega) only [go_sem,h,h',h1',hw1,rr_f2,zfZ,szOf]
   exact step
 ·obtain rfl : k = L.length := by omega
  have h' : ¬ (L.length : Int) < (L.length : Int) := Int.lt_irrefl _
  rw [List.take_length] at hno
  simp (config := {maxSteps := 4000000,implicitDefEqProofs := false}) (disch := omega) only [go_sem,h,h',hno,hkx,rr_f2,zbZ]
theorem zpn (m : Nat) (n : Int) (rog : List Int) (L : List Sm) (l : List Sm) (w : Sm) (p : Int) (hm : L.length < m) (hl : L.length ≤ 1000000) (hm2 : l.length < m) (hl2 : l.length ≤ 1000000) :
  z30 m (rrA n rog L) (SL (l.map smE)) (smE w) (nA p) = some (bA (decide (({ w with fr := p } : Sm) ∈ l) && decide (({ w with fr := p } : Sm) ∈ L)),[]) := by
 have hh := zpG m n rog L { w with fr := p } hm hl
 rw [zcd,zd0,sm_it]
 rw [zd0,sm_it] at hh
 simp (config := {maxSteps := 4000000,implicitDefEqProofs := false}) (disch := omega) only [go_sem,zcb]
 generalize hx : ({ w with fr := p } : Sm) = x at *
 refine z4t (m := m) (ι := {k : Nat // k ≤ l.length ∧ x ∉ l.take k}) (fun k=>⟨[⟨1,z0E,0,rrC n rog L⟩,⟨1,z01,0,smC x⟩],[(1,SL (l.map smE)),(4,OP 0 0),(6,OP 1 0),(9,nA k.1)]⟩) (fun k=>l.length - k.1) (fun _=>some (bA (decide (x ∈ l) && decide (x ∈ L)),[])) ?_ ⟨0,Nat.zero_le _,by simp⟩ (by dsimp only;omega)
 rintro kx hkx ⟨k,hk,hno⟩ kc hkc
 dsimp only at hkc ⊢
 rw [zaV]
 by_cases h : k < l.length
 ·have h' : (k : Int) < (l.length : Int) := by omega
  have hw1 : IntKind.i64.wrap ((k : Int) + 1) = (k : Int) + 1 := w_i64 (by omega) (by omega)
  by_cases h1 : l[k] = x
  ·have hp : decide (x ∈ l) = true := decide_eq_true (h1 ▸ List.getElem_mem h)
   have h1' : decide (l[k] = x) = true := decide_eq_true h1
   simp (config := {maxSteps := 4000000,implicitDefEqProofs := false}) (disch := omega) only [go_sem,h,h',h1',hp,hh,hkx,zkm,zfL,rr_ro,zk6,zfZ,szOf]
  ·have step := hkc ⟨k + 1,by omega,zdr h hno h1⟩ (by dsimp only;omega)
   dsimp only at step
   have h1' : decide (l[k] = x) = false := decide_eq_false h1
   simp (config := {maxSteps := 4000000,implicitDefEqProofs := false}) (disch := omega) only [go_sem,h,h',h1',hw1,zfZ,szOf]
   exact step
 ·obtain rfl : k = l.length := by omega
  have h' : ¬ (l.length : Int) < (l.length : Int) := Int.lt_irrefl _
  rw [List.take_length] at hno
  have hp : decide (x ∈ l) = false := decide_eq_false hno
  simp (config := {maxSteps := 4000000,implicitDefEqProofs := false}) (disch := omega) only [go_sem,h,h',hp,hkx,zaW]
theorem zy1 {α : Type} [DecidableEq α] {T : List α} {s : α} {k : Nat} (h : k < T.length) (hno : s ∉ T.take k) (h1 : T[k] = s) : posL T s = k + 1 := by
 unfold posL
 rw [if_pos (h1 ▸ List.getElem_mem h)]
 have hs : T = T.take k ++ s :: T.drop (k + 1) := by rw [← h1,← List.drop_eq_getElem_cons h,List.take_append_drop]
 rw [hs,List.idxOf_append,if_neg hno,List.idxOf_cons_self,List.length_take]
 omega
theorem zx9 (m : Nat) (T : List (List UInt8)) (s : List UInt8) (hm : T.length < m) (hl : T.length ≤ 1000000) : z9T m (SL (T.map sA)) (sA s) = some (nA (posL T s),[]) := by
 rw [zhz]
 refine z4t (m := m) (ι := {k : Nat // k ≤ T.length ∧ s ∉ T.take k}) (fun k=>⟨[],[(0,SL (T.map sA)),(1,sA s),(5,nA k.1)]⟩) (fun k=>T.length - k.1) (fun _=>some (nA (posL T s),[])) ?_ ⟨0,Nat.zero_le _,by simp⟩ (by dsimp only;omega)
 rintro kx hkx ⟨k,hk,hno⟩ kc hkc
 dsimp only at hkc ⊢
 rw [zfq]
 by_cases h : k < T.length
 ·have h' : (k : Int) < (T.length : Int) := by omega
  have hw1 : IntKind.i64.wrap ((k : Int) + 1) = (k : Int) + 1 := w_i64 (by omega) (by omega)
  by_cases h1 : T[k] = s
  ·have hp : posL T s = k + 1 := zy1 h hno h1
   rw [hp]
   simp (config := {maxSteps := 4000000,implicitDefEqProofs := false}) (disch := omega) only [go_sem,h,h',h1,hkx,hw1,szOf]
   rfl
  ·have step := hkc ⟨k + 1,by omega,zdr h hno h1⟩ (by dsimp only;omega)
   dsimp only at step
   simp (config := {maxSteps := 4000000,implicitDefEqProofs := false}) (disch := omega) only [go_sem,h,h',h1,hw1,szOf]
   exact step
 ·obtain rfl : k = T.length := by omega
  have h' : ¬ (T.length : Int) < (T.length : Int) := Int.lt_irrefl _
  rw [List.take_length] at hno
  have hp : posL T s = 0 := by unfold posL;rw [if_neg hno]
  rw [hp]
  simp (config := {maxSteps := 4000000,implicitDefEqProofs := false}) (disch := omega) only [go_sem,h,h',hkx,zft]
end Go.Proofs.Ytaaogcnjfkgnoaa

namespace Go.Proofs.Ytaaogcnjfkgnoaa
open Go.RowKit
attribute [local go_sem] Nat.zero_add Nat.add_zero Nat.mul_one Int.toNat_natCast Int.natCast_zero Int.cast_ofNat_Int or_false false_or or_true true_or Nat.sub_zero Int.natCast_nonneg Int.toNat_zero Bool.true_and Bool.and_true Bool.false_and Bool.and_false Bool.true_or Bool.or_true Bool.false_or Bool.or_false Bool.not_true Bool.not_false Bool.not_not true_and and_true false_and and_false not_true_eq_false not_false_eq_true eq_self decide_true decide_false ne_eq implies_true forall_const true_implies false_implies Bool.true_eq_false Bool.false_eq_true List.map_cons List.map_nil List.all_cons List.all_nil List.length_cons List.length_nil List.length_map List.length_append List.nil_append List.cons_append List.set_cons_zero List.set_cons_succ List.set_nil List.drop_zero List.drop_succ_cons List.drop_nil List.take_zero List.take_succ_cons List.take_nil Option.map_some Option.map_none Option.isSome_some List.all_append List.all_map Function.comp_def decide_eq_true_eq Bool.and_eq_true beq_self_eq_true or_self and_self ite_true ite_false Nat.le_refl Bool.not_eq_true decide_not Bool.not_eq_true' decide_eq_false_iff_not Bool.not_eq_false Bool.or_eq_true if_true if_false ite_self u_roF u_cvF u_cvC u_ceT u_ceK z2x sm_it z6G z38 z5L z7e z3a sm_ro z37 sm_sl z74 z7a sm_fr z23 z0Z sm_kd z1T z19 sm_vw z1X z0T sm_sq z1N z0J sm_tm z24 z15 z3x z1H z3M z7d z6R z1O z3r z1W z1Z z2T z3i ce_it z72 z3E z5i z73 z3N ce_ro z3z ce_sl z70 z6Y ce_sq z2j z1a ce_vw z2f z1b ce_tm z1z z0P z3U z0B z0r ce_vs z28 z10 z3S z1C z3T z75 z7g z2e z3I z1Q z1V z33 z3o cg_it z6F z3H z63 z6T z3m cg_ro z3R cg_sl z79 z6B cg_fr z1F z0M cg_vw z2g z16 cg_st z1y z0R cg_rt z26 z11 cg_pf z1R z0L cg_cs z1D z1e z3f z1A z3j z6L z77 z1K z3q z2c z1I z3Q z36 ms_it z6y z3P z7b z6M z3B ms_ro z3C ms_sl z76 z6Q ms_kd z1E z12 ms_fr z2h z0W ms_vw z1Y z0O ms_sq z2m z1c ms_tm z2a z18 z3L z0y z0q ms_vs z22 z0V z6x z0N z0C z3c z2b z3s z6N z6V z29 z3v z1B z2l z3J z3e co_it z6u z3w z6E z6K z3y co_ro z39 co_sl z71 z6z co_sq z2k z13 co_tm z1P z0S z3n z0A z0p co_nl z1M z14 z3k z1U z3A z7h z78 z20 z3h z21 z1G z2Z z3D sd_it z6H z3p z7c z6U z3K sd_ro z3l sd_sl z6C z6W sd_wh z2i z1d sd_fr z27 z17 sd_kd z1L z0X sd_vw z25 z0Y sd_sq z1J z0K sd_tm z1S z0Q z3b z3O z6Z z64 u_bz u_bi1 u_bi2 u_bi3 u_bi4 u_bi5 u_bi6 u_bi7 ltO_o ltO_r u_eqE zc8 Nat.le_add_right List.append_assoc
attribute [local go_sem_proc] Nat.reduceAdd Nat.reduceSub Nat.reduceMul Nat.reduceLeDiff Nat.reduceLT Int.reduceEq Int.reduceNe Int.reduceLT Int.reduceLE Int.reduceAdd Int.reduceSub Int.reduceMul Int.reduceNeg Int.reduceToNat reduceCtorEq Nat.reduceEqDiff Nat.reduceBEq Nat.reduceGT
attribute [local go_sem_proc ↓] reduceIte
def rokS (n : Int) (rog : List Int) (p : Int) (s : Sm) : Bool := (decide (0 ≤ p) && decide (p < n)) && (decide (s.fr = p) || (decide (p ∈ rog) && decide (s.fr ∈ rog)))
def rsayL (n : Int) (rog : List Int) (L : List Sm) (p : Int) (s : Sm) : List Sm := if rokS n rog p s = true ∧ s ∉ L ∧ L.length < 65536 then L ++ [s] else L
theorem ro1_3 {A0 A1 A2 : AObj} {e z m : Nat} {c : List AV} {Y : List AObj} : ro1 (A0 :: A1 :: A2 :: ⟨2,e,z,c⟩ :: Y) (OW 3 m) = if m = c.length then SL c else OW 3 m := by simp [ro1]
section
variable {R : Type} {n n' : Int} {rog rog' : List Int} {L L' : List Sm} {K : AV → Option R}
theorem zkS : z06 z1t 0 (rrC n rog L) = rrC n rog L := _root_.id rfl
theorem zty {a b c : AV} : ((z1t.set 0 a).set 1 b).set 2 c = [a,b,c] := _root_.id rfl
theorem zko : z1t.length = 3 := _root_.id rfl
end
section
variable (m : Nat) (n : Int) (rog : List Int) (L : List Sm) (p : Int) (s : Sm) (hm : L.length < m) (hl : L.length ≤ 65536) (hm2 : rog.length < m) (hl2 : rog.length ≤ 1000000)
include hm hl
theorem zwk : ∃ e : Int,z4q m ⟨[⟨1,z0E,0,rrC n rog L⟩,⟨1,z01,0,smC s⟩,⟨1,z0E,0,z1t⟩],[(3,OP 0 0),(5,OP 1 0),(6,OP 2 0)]⟩ = some (TU [rrA n rog (if s ∉ L ∧ L.length < 65536 then L ++ [s] else L),nA e],[]) := by
 have hh := zpG m n rog L s hm (by omega)
 rw [zd0,sm_it] at hh
 rw [zbK]
 by_cases h1 : s ∈ L
 ·have h1' : decide (s ∈ L) = true := decide_eq_true h1
  rw [h1'] at hh
  refine ⟨0,?_⟩
  rw [if_neg (fun q=>q.1 h1),zd0]
  simp (config := {maxSteps := 4000000,implicitDefEqProofs := false}) (disch := omega) only [go_sem,hh,zkm,zfL,rr_ro,zfZ,zk6,zcb,zkS,zko,zoj,zkG,szOf]
 ·have h1' : decide (s ∈ L) = false := decide_eq_false h1
  rw [h1'] at hh
  by_cases h2 : 65536 ≤ L.length
  ·have h2' : (65536 : Int) ≤ (L.length : Int) := by omega
   refine ⟨5,?_⟩
   rw [if_neg (fun q=>by omega),zd0]
   simp (config := {maxSteps := 4000000,implicitDefEqProofs := false}) (disch := omega) only [go_sem,hh,h2',rr_f2,zkm,zfL,rr_ro,zfZ,zk6,zcb,zkS,zko,zoj,zkG,szOf]
  ·have h2' : ¬ (65536 : Int) ≤ (L.length : Int) := by omega
   have hb1 : L.length ≤ 34359738368 := by omega
   have hb2 : L.length + 1 ≤ 34359738368 := by omega
   refine ⟨0,?_⟩
   rw [if_pos ⟨h1,by omega⟩,zd0]
   have hc : rrC n rog L = [nA n,SL (rog.map nA),SL (L.map smE)] := rfl
   have hc2 : rrC n rog (L ++ [s]) = [nA n,SL (rog.map nA),SL (L.map smE ++ [.agg (smC s)])] := by simp [rrC,smE]
   rw [hc2]
   rw [hc] at hh ⊢
   simp (config := {maxSteps := 4000000,implicitDefEqProofs := false}) (disch := omega) only [go_sem,hh,h2',hb1,hb2,zkm,zfL,rr_ro,zfZ,zk6,zcb,zkS,zko,zoj,zkG,ro1_3,zty,szOf]
theorem zof (b : Bool) : ∃ e : Int,z2N m ⟨[⟨1,z0E,0,rrC n rog L⟩,⟨1,z01,0,smC s⟩,⟨1,z0E,0,z1t⟩],[(3,OP 0 0),(5,OP 1 0),(6,OP 2 0),(33,bA b)]⟩ = some (TU [rrA n rog (if b = false ∧ s ∉ L ∧ L.length < 65536 then L ++ [s] else L),nA e],[]) := by
 rw [zc5]
 cases b with
 |true =>
  refine ⟨19,?_⟩
  rw [if_neg (fun q=>by cases q.1),zd0]
  simp (config := {maxSteps := 4000000,implicitDefEqProofs := false}) (disch := omega) only [go_sem,zkm,zfL,rr_ro,zfZ,zk6,zcb,zkS,zko,zoj,zkG,szOf]
 |false =>
  obtain ⟨e,he⟩ := zwk m n rog L s hm hl
  refine ⟨e,?_⟩
  rw [zj7,he]
  simp only [true_and]
include hm2 hl2
theorem zzr : ∃ e : Int,z5q m (rrA n rog L) (nA p) (smE s) = some (TU [rrA n rog (rsayL n rog L p s),nA e],[]) := by
 have b1 := zv3 m n rog L p hm2 hl2
 have b2 := zv3 m n rog L s.fr hm2 hl2
 simp only [zd0] at b1 b2
 rw [ze5]
 unfold rsayL rokS
 by_cases c1 : 0 ≤ p ∧ p < n
 ·have e1 : ¬ p < 0 := by omega
  have e2 : ¬ n ≤ p := by omega
  have e3 : (decide (0 ≤ p) && decide (p < n)) = true := by simp [c1]
  rw [e3,Bool.true_and]
  by_cases c2 : s.fr = p
  ·obtain ⟨e,he⟩ := zof m n rog L s hm hl false
   refine ⟨e,?_⟩
   simp only [zd0,sm_it]
   simp only [zd0] at he
   simp (config := {maxSteps := 4000000,implicitDefEqProofs := false}) (disch := omega) only [go_sem,e1,e2,c2,rr_f0,zcb,he,z1o,z2V]
  ·by_cases c3 : p ∈ rog
   ·have c3' : decide (p ∈ rog) = true := decide_eq_true c3
    rw [c3'] at b1
    by_cases c4 : s.fr ∈ rog
    ·have c4' : decide (s.fr ∈ rog) = true := decide_eq_true c4
     rw [c4'] at b2
     obtain ⟨e,he⟩ := zof m n rog L s hm hl false
     refine ⟨e,?_⟩
     simp only [zd0,sm_it]
     simp only [zd0] at he
     simp (config := {maxSteps := 4000000,implicitDefEqProofs := false}) (disch := omega) only [go_sem,e1,e2,c2,c3,c4,b1,b2,rr_f0,zcb,zkm,zfL,rr_ro,zfZ,zk6,he,z1o,z2V]
    ·have c4' : decide (s.fr ∈ rog) = false := decide_eq_false c4
     rw [c4'] at b2
     obtain ⟨e,he⟩ := zof m n rog L s hm hl true
     refine ⟨e,?_⟩
     simp only [zd0,sm_it]
     simp only [zd0] at he
     simp (config := {maxSteps := 4000000,implicitDefEqProofs := false}) (disch := omega) only [go_sem,e1,e2,c2,c3,c4,b1,b2,rr_f0,zcb,zkm,zfL,rr_ro,zfZ,zk6,he,z1o,z2V]
   ·have c3' : decide (p ∈ rog) = false := decide_eq_false c3
    rw [c3'] at b1
    obtain ⟨e,he⟩ := zof m n rog L s hm hl true
    refine ⟨e,?_⟩
    simp only [zd0,sm_it]
    simp only [zd0] at he
    simp (config := {maxSteps := 4000000,implicitDefEqProofs := false}) (disch := omega) only [go_sem,e1,e2,c2,c3,b1,rr_f0,zcb,zkm,zfL,rr_ro,zfZ,zk6,he,z1o,z2V]
 ·have e3 : (decide (0 ≤ p) && decide (p < n)) = false := by rw [Bool.eq_false_iff];simpa using c1
  rw [e3,Bool.false_and]
  refine ⟨4,?_⟩
  rw [if_neg (fun q=>by cases q.1)]
  simp only [zd0,sm_it]
  by_cases e1 : p < 0
  ·simp (config := {maxSteps := 4000000,implicitDefEqProofs := false}) (disch := omega) only [go_sem,e1,zkm,zfL,rr_ro,zfZ,zk6,zcb,zkS,zko,zoj,zkG,szOf,z1o]
  ·have e2 : n ≤ p := by omega
   simp (config := {maxSteps := 4000000,implicitDefEqProofs := false}) (disch := omega) only [go_sem,e1,e2,rr_f0,zkm,zfL,rr_ro,zfZ,zk6,zcb,zkS,zko,zoj,zkG,szOf,z1o]
end
theorem zxQ (m : Nat) (A B : List AObj) (T : List (List UInt8)) (s : List UInt8) (hA : ∀ n,A.length + (1 + B.length) ≤ n → A.all (ltO n) = true ∧ B.all (ltO n) = true) (hm : T.length < m) (hl : T.length ≤ 65536) :
  z8F m (OW A.length T.length) (sA s) (A ++ trO T :: B) = some (TU [OW A.length (oqT T s).length,nA (ofN T s),nA (ofE T s)],A ++ trO (oqT T s) :: B) := by
 have hh := zx9 m T s hm (by omega)
 have hro : ro1 (A ++ trO T :: B) (OW A.length T.length) = SL (T.map sA) := ro1W (e := z60) (z := 1) (by rw [show A.length = A.length + 0 from rfl,getA];rfl) (by simp)
 have hn0 : ∀ {o : AObj} (K : AObj → RO),nthOE (A ++ o :: B) A.length K = K o := fun {o} K=>(nthOA A (k := 0))
 have hs0 : ∀ {o o' : AObj},(A ++ o :: B).set A.length o' = A ++ o' :: B := fun {o o'}=>(setA A (k := 0))
 have hlen : ∀ {o : AObj},(A ++ o :: B).length = A.length + (1 + B.length) := fun {o}=>by simp;omega
 obtain ⟨h1,h2⟩ := hA (A.length + (1 + B.length)) (Nat.le_refl _)
 have hall : ∀ L,(A ++ trO L :: B).all (ltO (A.length + (1 + B.length))) = true := fun L=>by rw [List.all_append,h1,List.all_cons,zoG,h2];rfl
 have hlt : A.length < A.length + (1 + B.length) := by omega
 have hlts : ((T.map sA).all fun x=>ltA 0 x) = true := by rw [List.all_map];exact List.all_eq_true.2 fun _ _=>rfl
 have hlts' : (T.map sA).all (ltA 0) = true := hlts
 rw [ziO]
 unfold oqT ofN ofE
 by_cases c1 : s ∈ T
 ·have c2 : (0 : Int) < (posL T s : Int) := by unfold posL;rw [if_pos c1];omega
  simp (config := {maxSteps := 4000000,implicitDefEqProofs := false}) (disch := omega) only [go_sem,hh,hro,c1,c2,hlen,hall,hlt]
 ·have c2 : ¬ (0 : Int) < (posL T s : Int) := by unfold posL;rw [if_neg c1];omega
  by_cases c3 : 65536 ≤ T.length
  ·have c3' : (65536 : Int) ≤ (T.length : Int) := by omega
   simp (config := {maxSteps := 4000000,implicitDefEqProofs := false}) (disch := omega) only [go_sem,hh,hro,c1,c2,c3,c3',hlen,hall,hlt]
  ·have c3' : ¬ (65536 : Int) ≤ (T.length : Int) := by omega
   have hb : T.length + 1 ≤ 34359738368 := by omega
   simp (config := {maxSteps := 4000000,implicitDefEqProofs := false}) (disch := omega) only [go_sem,hh,hro,c1,c2,c3,c3',hn0,hs0,tr_k,tr_e,tr_z,tr_c,zv8,hb,hlen,hall,h1,h2,hlt]
end Go.Proofs.Ytaaogcnjfkgnoaa

namespace Go.Proofs.Ytaaogcnjfkgnoaa
open Go.RowKit
def swM (A B : List AObj) (o0 o1 : AObj) : List AObj := A ++ (o0 :: o1 :: B)
def nSW (A B : List AObj) : Nat := A.length + (B.length + 2)
section
variable {R : Type} {A B Y : List AObj} {o0 o1 o : AObj} {K : AObj → Option R} {k : Nat}
theorem zjZ : (swM A B o0 o1).length = nSW A B := by simp [swM,nSW]
theorem zsu : swM A (B ++ Y) o0 o1 = swM A B o0 o1 ++ Y := by simp [swM]
theorem zwG : nSW A (B ++ Y) = nSW A B + Y.length := by simp [nSW];omega
theorem swM_0 : nthOE (swM A B o0 o1) A.length K = K o0 := (nthOA A (k := 0))
theorem swY_0 : nthOE (swM A B o0 o1 ++ Y) A.length K = K o0 := by rw [← zsu];exact swM_0
theorem swS_0 : (swM A B o0 o1).set A.length o = swM A B o o1 := (setA A (k := 0))
theorem swB_k : nthOE (swM A B o0 o1 ++ Y) (nSW A B + k) K = nthOE Y k K := by
 rw [← zjZ (o0 := o0) (o1 := o1)];exact nthOA _
theorem swB_0 : nthOE (swM A B o0 o1 ++ Y) (nSW A B) K = nthOE Y 0 K := swB_k (k := 0)
theorem zvq : (swM A B o0 o1 ++ Y).set (nSW A B + k) o = swM A B o0 o1 ++ Y.set k o := by
 rw [← zjZ (o0 := o0) (o1 := o1)];exact setA _
theorem zz0 : (swM A B o0 o1 ++ Y).set (nSW A B) o = swM A B o0 o1 ++ Y.set 0 o := zvq (k := 0)
theorem zsz : (swM A B o0 o1).take (nSW A B) = swM A B o0 o1 := by
 rw [← zjZ (o0 := o0) (o1 := o1)];exact List.take_length
theorem zuF : (swM A B o0 o1 ++ Y).take (nSW A B + k) = swM A B o0 o1 ++ Y.take k := by
 rw [← zjZ (o0 := o0) (o1 := o1)];exact List.take_length_add_append ..
theorem ztB : (swM A B o0 o1 ++ Y).take (nSW A B) = swM A B o0 o1 := by
 rw [← zjZ (o0 := o0) (o1 := o1)];exact List.take_left
end
def GW (A B : List AObj) : Prop := ∀ n,nSW A B ≤ n → A.all (ltO n) = true ∧ B.all (ltO n) = true
theorem GW.app {A B Y : List AObj} (h : GW A B) (hY : ∀ n,Y.all (ltO n) = true) : GW A (B ++ Y) := fun n hn=>by
 rw [zwG] at hn
 obtain ⟨h1,h2⟩ := h n (by omega)
 exact ⟨h1,by rw [List.all_append,h2,hY];rfl⟩
structure Wg where
 T : List (List UInt8)
 n : Int
 rog : List Int
 L : List Sm
 X : AV
def woO (a : Nat) (ω : Wg) : AObj := ⟨1,z0t,0,[OW (a + 1) ω.T.length,nA ω.n,SL (ω.rog.map nA),ω.X]⟩
def sw (A B : List AObj) (ω : Wg) : List AObj := swM A B (woO A.length ω) (trO ω.T)
structure WgOk (ω : Wg) : Prop where
 tl : ω.T.length ≤ 65536
 ll : ω.L.length ≤ 65536
 rl : ω.rog.length ≤ 1000000
 lx : ω.X = SL (ω.L.map smE) ∨ (ω.L = [] ∧ ω.X = V (.slice none 0 0))
theorem WgOk.ro {ω : Wg} (h : WgOk ω) (H : List AObj) : ro1 H ω.X = SL (ω.L.map smE) := by
 rcases h.lx with e|⟨e,e2⟩
 ·rw [e];rfl
 ·rw [e2,e];rfl
theorem WgOk.lt {ω : Wg} (h : WgOk ω) (n : Nat) : ltA n ω.X = true ∧ lt1 n ω.X = true ∧ sure ω.X = true := by
 rcases h.lx with e|⟨e,e2⟩
 ·rw [e];exact ⟨rfl,rfl,rfl⟩
 ·rw [e2];exact ⟨rfl,rfl,rfl⟩
theorem zqN {n a : Nat} {ω : Wg} (hω : WgOk ω) (h : a + 1 < n) : ltO n (woO a ω) = true := by
 obtain ⟨h1,h2,_⟩ := hω.lt n
 show ((1 : Nat) == 0 || ([OW (a + 1) ω.T.length,nA ω.n,SL (ω.rog.map nA),ω.X] : List AV).all (ltA n)) = true
 rw [List.all_cons,List.all_cons,List.all_cons,List.all_cons,h1,show ltA n (OW (a + 1) ω.T.length) = true from decide_eq_true h,show ltA n (nA ω.n) = true from rfl,show ltA n (SL (ω.rog.map nA)) = true from rfl]
 rfl
theorem sw_lt {A B : List AObj} {ω : Wg} (h : GW A B) (hω : WgOk ω) {n : Nat} (hn : nSW A B ≤ n) : (sw A B ω).all (ltO n) = true := by
 obtain ⟨h1,h2⟩ := h n hn
 have h3 : A.length + 2 ≤ n := by unfold nSW at hn;omega
 unfold sw swM
 rw [List.all_append,h1]
 simp only [List.all_cons,zqN hω (show A.length + 1 < n by omega),zoG,h2,Bool.and_self]
theorem zc6 {A B : List AObj} {ω : Wg} : (sw A B ω).length = nSW A B := zjZ
theorem zje {A B Y : List AObj} {ω : Wg} : sw A (B ++ Y) ω = sw A B ω ++ Y := zsu
section
variable {R : Type} {A B Y : List AObj} {ω : Wg} {K : AObj → Option R} {k : Nat} {o : AObj}
theorem w_0 : nthOE (sw A B ω) A.length K = K (woO A.length ω) := swM_0
theorem w_Y0 : nthOE (sw A B ω ++ Y) A.length K = K (woO A.length ω) := swY_0
theorem w_B0 : nthOE (sw A B ω ++ Y) (nSW A B) K = nthOE Y 0 K := swB_0
theorem w_Bk : nthOE (sw A B ω ++ Y) (nSW A B + k) K = nthOE Y k K := swB_k
theorem w_Bs0 : (sw A B ω ++ Y).set (nSW A B) o = sw A B ω ++ Y.set 0 o := zz0
theorem w_Bsk : (sw A B ω ++ Y).set (nSW A B + k) o = sw A B ω ++ Y.set k o := zvq
theorem zfR : (sw A B ω).take (nSW A B) = sw A B ω := zsz
theorem z7C : (sw A B ω ++ Y).take (nSW A B) = sw A B ω := ztB
theorem zba : (sw A B ω ++ Y).take (nSW A B + k) = sw A B ω ++ Y.take k := zuF
theorem z6i {R : Type} {a : Nat} {K : List AV → Option R} : zhm (woO a ω) K = K [OW (a + 1) ω.T.length,nA ω.n,SL (ω.rog.map nA),ω.X] := by unfold woO;exact u_cl1
end
attribute [local go_sem] Nat.zero_add Nat.add_zero Nat.mul_one Int.toNat_natCast Int.natCast_zero Int.cast_ofNat_Int or_false false_or or_true true_or Nat.sub_zero Int.natCast_nonneg Int.toNat_zero Bool.true_and Bool.and_true Bool.false_and Bool.and_false Bool.true_or Bool.or_true Bool.false_or Bool.or_false Bool.not_true Bool.not_false Bool.not_not true_and and_true false_and and_false not_true_eq_false not_false_eq_true eq_self decide_true decide_false ne_eq implies_true forall_const true_implies false_implies Bool.true_eq_false Bool.false_eq_true List.map_cons List.map_nil List.all_cons List.all_nil List.length_cons List.length_nil List.length_map List.length_append List.nil_append List.cons_append List.set_cons_zero List.set_cons_succ List.set_nil List.drop_zero List.drop_succ_cons List.drop_nil List.take_zero List.take_succ_cons List.take_nil Option.map_some Option.map_none Option.isSome_some List.all_append List.all_map Function.comp_def decide_eq_true_eq Bool.and_eq_true beq_self_eq_true or_self and_self ite_true ite_false Nat.le_refl Bool.not_eq_true decide_not Bool.not_eq_true' decide_eq_false_iff_not Bool.not_eq_false Bool.or_eq_true if_true if_false ite_self u_roF u_cvF u_cvC u_ceT u_ceK z2x sm_it z6G z38 z5L z7e z3a sm_ro z37 sm_sl z74 z7a sm_fr z23 z0Z sm_kd z1T z19 sm_vw z1X z0T sm_sq z1N z0J sm_tm z24 z15 z3x z1H z3M z7d z6R z1O z3r z1W z1Z z2T z3i ce_it z72 z3E z5i z73 z3N ce_ro z3z ce_sl z70 z6Y ce_sq z2j z1a ce_vw z2f z1b ce_tm z1z z0P z3U z0B z0r ce_vs z28 z10 z3S z1C z3T z75 z7g z2e z3I z1Q z1V z33 z3o cg_it z6F z3H z63 z6T z3m cg_ro z3R cg_sl z79 z6B cg_fr z1F z0M cg_vw z2g z16 cg_st z1y z0R cg_rt z26 z11 cg_pf z1R z0L cg_cs z1D z1e z3f z1A z3j z6L z77 z1K z3q z2c z1I z3Q z36 ms_it z6y z3P z7b z6M z3B ms_ro z3C ms_sl z76 z6Q ms_kd z1E z12 ms_fr z2h z0W ms_vw z1Y z0O ms_sq z2m z1c ms_tm z2a z18 z3L z0y z0q ms_vs z22 z0V z6x z0N z0C z3c z2b z3s z6N z6V z29 z3v z1B z2l z3J z3e co_it z6u z3w z6E z6K z3y co_ro z39 co_sl z71 z6z co_sq z2k z13 co_tm z1P z0S z3n z0A z0p co_nl z1M z14 z3k z1U z3A z7h z78 z20 z3h z21 z1G z2Z z3D sd_it z6H z3p z7c z6U z3K sd_ro z3l sd_sl z6C z6W sd_wh z2i z1d sd_fr z27 z17 sd_kd z1L z0X sd_vw z25 z0Y sd_sq z1J z0K sd_tm z1S z0Q z3b z3O z6Z z64 u_bz u_bi1 u_bi2 u_bi3 u_bi4 u_bi5 u_bi6 u_bi7 ltO_o ltO_r u_eqE zc8 Nat.le_add_right List.append_assoc w_0 w_Y0 w_B0 w_Bk w_Bs0 w_Bsk zfR z7C zba zc6 z6i
attribute [local go_sem_proc] Nat.reduceAdd Nat.reduceSub Nat.reduceMul Nat.reduceLeDiff Nat.reduceLT Int.reduceEq Int.reduceNe Int.reduceLT Int.reduceLE Int.reduceAdd Int.reduceSub Int.reduceMul Int.reduceNeg Int.reduceToNat reduceCtorEq Nat.reduceEqDiff Nat.reduceBEq Nat.reduceGT
attribute [local go_sem_proc ↓] reduceIte
theorem wof_s (m : Nat) (A B : List AObj) (ω : Wg) (s : List UInt8) (hG : GW A B) (hω : WgOk ω) (hm : ω.T.length < m) :
  z4m m (OP A.length 0) (sA s) (sw A B ω) = some (nA (ofN ω.T s),sw A B { ω with T := oqT ω.T s }) := by
 have hl := hω.tl
 have hof := zxQ m (A ++ [woO A.length ω]) B ω.T s (fun n hn=>by
  have hn' : nSW A B ≤ n := by simp at hn;unfold nSW;omega
  obtain ⟨h1,h2⟩ := hG n hn'
  refine ⟨?_,h2⟩
  rw [List.all_append,h1]
  have := zqN (n := n) (a := A.length) hω (by unfold nSW at hn';omega)
  simp [this]) hm hl
 have e1 : ∀ T,A ++ [woO A.length ω] ++ trO T :: B = swM A B (woO A.length ω) (trO T) := fun T=>by simp [swM]
 have e2 : (A ++ [woO A.length ω]).length = A.length + 1 := by simp
 rw [e1,e1,e2] at hof
 have hω2 : WgOk { ω with T := oqT ω.T s } := ⟨by
  show (oqT ω.T s).length ≤ 65536
  unfold oqT
  split
  ·exact hl
  ·split
   ·exact hl
   ·simp;omega,hω.ll,hω.rl,hω.lx⟩
 have hlt := sw_lt hG hω2 (Nat.le_refl _)
 have hput : ∀ (K : AObj → RO),putE (woO A.length ω) 1 0 (OW (A.length + 1) (oqT ω.T s).length) K = K (woO A.length { ω with T := oqT ω.T s }) := fun K=>by
  unfold woO
  rw [u_pt1]
  rfl
 rw [ze8]
 unfold sw at *
 simp (config := {maxSteps := 4000000,implicitDefEqProofs := false}) (disch := omega) only [go_sem,swM_0,hof,hput,swS_0,zjZ,zsz,hlt]
end Go.Proofs.Ytaaogcnjfkgnoaa

namespace Go.Proofs.Ytaaogcnjfkgnoaa
open Go.RowKit
attribute [local go_sem] Nat.zero_add Nat.add_zero Nat.mul_one Int.toNat_natCast Int.natCast_zero Int.cast_ofNat_Int or_false false_or or_true true_or Nat.sub_zero Int.natCast_nonneg Int.toNat_zero Bool.true_and Bool.and_true Bool.false_and Bool.and_false Bool.true_or Bool.or_true Bool.false_or Bool.or_false Bool.not_true Bool.not_false Bool.not_not true_and and_true false_and and_false not_true_eq_false not_false_eq_true eq_self decide_true decide_false ne_eq implies_true forall_const true_implies false_implies Bool.true_eq_false Bool.false_eq_true List.map_cons List.map_nil List.all_cons List.all_nil List.length_cons List.length_nil List.length_map List.length_append List.nil_append List.cons_append List.set_cons_zero List.set_cons_succ List.set_nil List.drop_zero List.drop_succ_cons List.drop_nil List.take_zero List.take_succ_cons List.take_nil Option.map_some Option.map_none Option.isSome_some List.all_append List.all_map Function.comp_def decide_eq_true_eq Bool.and_eq_true beq_self_eq_true or_self and_self ite_true ite_false Nat.le_refl Bool.not_eq_true decide_not Bool.not_eq_true' decide_eq_false_iff_not Bool.not_eq_false Bool.or_eq_true if_true if_false ite_self u_roF u_cvF u_cvC u_ceT u_ceK z2x sm_it z6G z38 z5L z7e z3a sm_ro z37 sm_sl z74 z7a sm_fr z23 z0Z sm_kd z1T z19 sm_vw z1X z0T sm_sq z1N z0J sm_tm z24 z15 z3x z1H z3M z7d z6R z1O z3r z1W z1Z z2T z3i ce_it z72 z3E z5i z73 z3N ce_ro z3z ce_sl z70 z6Y ce_sq z2j z1a ce_vw z2f z1b ce_tm z1z z0P z3U z0B z0r ce_vs z28 z10 z3S z1C z3T z75 z7g z2e z3I z1Q z1V z33 z3o cg_it z6F z3H z63 z6T z3m cg_ro z3R cg_sl z79 z6B cg_fr z1F z0M cg_vw z2g z16 cg_st z1y z0R cg_rt z26 z11 cg_pf z1R z0L cg_cs z1D z1e z3f z1A z3j z6L z77 z1K z3q z2c z1I z3Q z36 ms_it z6y z3P z7b z6M z3B ms_ro z3C ms_sl z76 z6Q ms_kd z1E z12 ms_fr z2h z0W ms_vw z1Y z0O ms_sq z2m z1c ms_tm z2a z18 z3L z0y z0q ms_vs z22 z0V z6x z0N z0C z3c z2b z3s z6N z6V z29 z3v z1B z2l z3J z3e co_it z6u z3w z6E z6K z3y co_ro z39 co_sl z71 z6z co_sq z2k z13 co_tm z1P z0S z3n z0A z0p co_nl z1M z14 z3k z1U z3A z7h z78 z20 z3h z21 z1G z2Z z3D sd_it z6H z3p z7c z6U z3K sd_ro z3l sd_sl z6C z6W sd_wh z2i z1d sd_fr z27 z17 sd_kd z1L z0X sd_vw z25 z0Y sd_sq z1J z0K sd_tm z1S z0Q z3b z3O z6Z z64 u_bz u_bi1 u_bi2 u_bi3 u_bi4 u_bi5 u_bi6 u_bi7 ltO_o ltO_r u_eqE zc8 Nat.le_add_right List.append_assoc w_0 w_Y0 w_B0 w_Bk w_Bs0 w_Bsk zfR z7C zba zc6 z6i
attribute [local go_sem_proc] Nat.reduceAdd Nat.reduceSub Nat.reduceMul Nat.reduceLeDiff Nat.reduceLT Int.reduceEq Int.reduceNe Int.reduceLT Int.reduceLE Int.reduceAdd Int.reduceSub Int.reduceMul Int.reduceNeg Int.reduceToNat reduceCtorEq Nat.reduceEqDiff Nat.reduceBEq Nat.reduceGT
attribute [local go_sem_proc ↓] reduceIte
def voB (w : Sm) (l L : List Sm) (p : Int) : Bool := decide (({ w with fr := p } : Sm) ∈ l) && decide (({ w with fr := p } : Sm) ∈ L)
def manyN (w : Sm) (l L : List Sm) (but : Int) (k : Nat) : Nat := ((List.range k).filter fun (p : Nat)=>decide ((p : Int) ≠ but) && voB w l L (p : Int)).length
theorem zoZ {w : Sm} {l L : List Sm} {but : Int} {k : Nat} : manyN w l L but (k + 1) = if (decide ((k : Int) ≠ but) && voB w l L k) = true then manyN w l L but k + 1 else manyN w l L but k := by
 unfold manyN
 rw [List.range_succ,List.filter_append,List.length_append]
 by_cases h : (decide ((k : Int) ≠ but) && voB w l L k) = true
 ·rw [if_pos h]
  simp only [List.filter_cons,h,List.filter_nil,↓reduceIte,List.length_singleton]
 ·rw [if_neg h]
  simp only [List.filter_cons,h,List.filter_nil]
  simp
theorem zuL {w : Sm} {l L : List Sm} {but : Int} {k : Nat} : manyN w l L but k ≤ k := by
 unfold manyN
 exact Nat.le_trans (List.length_filter_le ..) (by simp)
theorem zs6 (m : Nat) (A B : List AObj) (ω : Wg) (l : List Sm) (w : Sm) (n but : Int) (hG : GW A B) (hω : WgOk ω) (hm : 100 < m) (hml : l.length < m) (hl2 : l.length ≤ 1000000) (hmL : ω.L.length < m) (hn0 : 0 ≤ n) (hn : n ≤ 64) :
  z35 m (OP A.length 0) (SL (l.map smE)) (smE w) (nA n) (nA but) (sw A B ω) = some (nA (manyN w l ω.L but n.toNat),sw A B ω) := by
 have hL := hω.ll
 have hlt := sw_lt hG hω (Nat.le_refl _)
 have hlt1 := sw_lt hG hω (n := nSW A B + 1) (by omega)
 have hA1 : A.length < nSW A B + 1 := by unfold nSW;omega
 have hB1 : nSW A B < nSW A B + 1 := Nat.lt_succ_self _
 rw [zcJ,sm_it]
 simp (config := {maxSteps := 4000000,implicitDefEqProofs := false}) (disch := omega) only [go_sem,hA1]
 refine z4t (m := m) (ι := {k : Nat // k ≤ n.toNat}) (fun k=>⟨sw A B ω ++ [⟨1,z01,0,smC w⟩],[(0,OP A.length 0),(1,SL (l.map smE)),(3,nA n),(4,nA but),(7,OP (nSW A B) 0),(11,nA (manyN w l ω.L but k.1)),(12,nA k.1)]⟩) (fun k=>n.toNat - k.1) (fun _=>some (nA (manyN w l ω.L but n.toNat),sw A B ω)) ?_ ⟨0,Nat.zero_le _⟩ (by dsimp only;omega)
 rintro kx hkx ⟨k,hk⟩ kc hkc
 dsimp only at hkc ⊢
 rw [zaR]
 by_cases h : k < n.toNat
 ·have h' : (k : Int) < n := by omega
  have step := hkc ⟨k + 1,by omega⟩ (by dsimp only;omega)
  dsimp only at step
  rw [zoZ] at step
  have hle := zuL (w := w) (l := l) (L := ω.L) (but := but) (k := k)
  have hw1 : IntKind.i64.wrap ((k : Int) + 1) = (k : Int) + 1 := w_i64 (by omega) (by omega)
  have hw2 : IntKind.i64.wrap ((manyN w l ω.L but k : Int) + 1) = (manyN w l ω.L but k : Int) + 1 := w_i64 (by omega) (by omega)
  have hv := zpn m ω.n ω.rog ω.L l w k hmL (by omega) hml hl2
  rw [show (decide (({ w with fr := (k : Int) } : Sm) ∈ l) && decide (({ w with fr := (k : Int) } : Sm) ∈ ω.L)) = voB w l ω.L k from rfl] at hv
  unfold rrA rrC at hv
  rw [sm_it] at hv
  have hX := fun H=>hω.ro H
  have hX2 := fun n=>(hω.lt n).2.1
  have hX3 := (hω.lt 0).2.2
  have hsl : ∀ n,(l.map smE).all (ltA n) = true := fun n=>by rw [List.all_map];exact z2T
  generalize manyN w l ω.L but k = c at *
  by_cases h1 : (k : Int) = but
  ·subst h1
   have e1 : decide ((k : Int) ≠ (k : Int)) = false := by simp
   rw [e1,Bool.false_and,if_neg (by decide)] at step
   simp (config := {maxSteps := 4000000,implicitDefEqProofs := false}) (disch := omega) only [go_sem,h,h',hw1,hlt1,hA1,hB1,z4h,z4j]
   exact step
  ·have e1 : decide ((k : Int) ≠ but) = true := by simp [h1]
   rw [e1,Bool.true_and] at step
   cases h2 : voB w l ω.L k with
   |true =>
    rw [h2] at hv step
    rw [if_pos rfl] at step
    simp (config := {maxSteps := 4000000,implicitDefEqProofs := false}) (disch := omega) only [go_sem,h,h',h1,hv,hX,hX2,hw1,hw2,hlt1,hA1,hB1,z4h,z4j]
    exact step
   |false =>
    rw [h2] at hv step
    rw [if_neg (by decide)] at step
    simp (config := {maxSteps := 4000000,implicitDefEqProofs := false}) (disch := omega) only [go_sem,h,h',h1,hv,hX,hX2,hw1,hw2,hlt1,hA1,hB1,z4h,z4j]
    exact step
 ·obtain rfl : k = n.toNat := by omega
  have h' : ¬ ((n.toNat : Nat) : Int) < n := by omega
  simp (config := {maxSteps := 4000000,implicitDefEqProofs := false}) (disch := omega) only [go_sem,h',hkx,hlt,zbh]
end Go.Proofs.Ytaaogcnjfkgnoaa

namespace Go.Proofs.Ytaaogcnjfkgnoaa
open Go.RowKit
theorem zre (m s : Nat) (n : Int) (h : s < 2 ^ 64) : zaF m (qA s) (nA n) = some (qA (s &&& (18446744073709551615 - qb n)),[]) := by
 have hb := bit_s m n
 have ha := u64_andNot_nat s (qb n) h (qb_lt n)
 rw [ziN]
 simp (config := {maxSteps := 4000000,implicitDefEqProofs := false}) only [go_sem,↓reduceIte,Nat.reduceAdd,Nat.reduceSub,Nat.reduceMul,Nat.reduceLeDiff,Nat.reduceLT,Int.reduceEq,Int.reduceNe,Int.reduceLT,Int.reduceLE,Int.reduceAdd,Int.reduceSub,Int.reduceMul,Int.reduceNeg,Nat.zero_add,Nat.add_zero,Nat.mul_one,Int.toNat_natCast,Int.natCast_zero,Int.cast_ofNat_Int,or_false,false_or,or_true,true_or,Int.reduceToNat,Nat.sub_zero,Int.natCast_nonneg,Int.toNat_zero,Bool.true_and,Bool.and_true,Bool.false_and,Bool.and_false,Bool.true_or,Bool.or_true,Bool.false_or,Bool.or_false,Bool.not_true,Bool.not_false,Bool.not_not,true_and,and_true,false_and,and_false,not_true_eq_false,not_false_eq_true,eq_self,decide_true,decide_false,ne_eq,implies_true,forall_const,true_implies,false_implies,Bool.true_eq_false,Bool.false_eq_true,reduceCtorEq,List.map_cons,List.map_nil,List.all_cons,List.all_nil,List.length_cons,List.length_nil,List.length_map,List.length_append,List.nil_append,List.cons_append,List.set_cons_zero,List.set_cons_succ,List.set_nil,List.drop_zero,List.drop_succ_cons,List.drop_nil,List.take_zero,List.take_succ_cons,List.take_nil,Option.map_some,Option.map_none,Option.isSome_some,Nat.reduceEqDiff,Nat.reduceBEq,Nat.reduceGT,List.all_append,List.all_map,Function.comp_def,decide_eq_true_eq,Bool.and_eq_true,beq_self_eq_true,or_self,and_self,ite_true,ite_false,Nat.le_refl,Bool.not_eq_true,decide_not,Bool.not_eq_true',decide_eq_false_iff_not,Bool.not_eq_false,Bool.or_eq_true,if_true,if_false,ite_self,u_roF,u_cvF,u_cvC,u_ceT,u_ceK,z2x,hb,ha]
theorem znK (m : Nat) (v n : Int) (hv : -9223372036854775808 ≤ v ∧ v < 9223372036854775808) (hn : n < 9223372036854775808) : z8w m (nA v) (nA n) = some (nA (if n < 1 then 0 else v % n),[]) := by
 rw [ziA]
 by_cases h1 : n < 1
 ·simp (config := {maxSteps := 4000000,implicitDefEqProofs := false}) only [go_sem,↓reduceIte,Nat.reduceAdd,Nat.reduceSub,Nat.reduceMul,Nat.reduceLeDiff,Nat.reduceLT,Int.reduceEq,Int.reduceNe,Int.reduceLT,Int.reduceLE,Int.reduceAdd,Int.reduceSub,Int.reduceMul,Int.reduceNeg,Nat.zero_add,Nat.add_zero,Nat.mul_one,Int.toNat_natCast,Int.natCast_zero,Int.cast_ofNat_Int,or_false,false_or,or_true,true_or,Int.reduceToNat,Nat.sub_zero,Int.natCast_nonneg,Int.toNat_zero,Bool.true_and,Bool.and_true,Bool.false_and,Bool.and_false,Bool.true_or,Bool.or_true,Bool.false_or,Bool.or_false,Bool.not_true,Bool.not_false,Bool.not_not,true_and,and_true,false_and,and_false,not_true_eq_false,not_false_eq_true,eq_self,decide_true,decide_false,ne_eq,implies_true,forall_const,true_implies,false_implies,Bool.true_eq_false,Bool.false_eq_true,reduceCtorEq,List.map_cons,List.map_nil,List.all_cons,List.all_nil,List.length_cons,List.length_nil,List.length_map,List.length_append,List.nil_append,List.cons_append,List.set_cons_zero,List.set_cons_succ,List.set_nil,List.drop_zero,List.drop_succ_cons,List.drop_nil,List.take_zero,List.take_succ_cons,List.take_nil,Option.map_some,Option.map_none,Option.isSome_some,Nat.reduceEqDiff,Nat.reduceBEq,Nat.reduceGT,List.all_append,List.all_map,Function.comp_def,decide_eq_true_eq,Bool.and_eq_true,beq_self_eq_true,or_self,and_self,ite_true,ite_false,Nat.le_refl,Bool.not_eq_true,decide_not,Bool.not_eq_true',decide_eq_false_iff_not,Bool.not_eq_false,Bool.or_eq_true,if_true,if_false,ite_self,u_roF,u_cvF,u_cvC,u_ceT,u_ceK,z2x,h1]
 ·have h0 : ¬ n = 0 := by omega
  have hm : v.tmod n = if v.tmod n < 0 then v % n - n else v % n := by
   have e1 := Int.emod_nonneg v h0
   have e2 := Int.emod_lt_of_pos v (show 0 < n by omega)
   by_cases hp : 0 ≤ v
   ·rw [Int.tmod_eq_emod_of_nonneg hp,if_neg (by omega)]
   ·have e3 := Int.tmod_eq_emod (a := v) (b := n)
    have e4 : v.tmod n = if n ∣ v then v % n else v % n - n := by
     rw [e3]
     by_cases hd : n ∣ v
     ·rw [if_pos (.inr hd),if_pos hd];omega
     ·rw [if_neg (by simp [hd,hp]),if_neg hd]
      have : (n.natAbs : Int) = n := by omega
      omega
    by_cases hd : n ∣ v
    ·have : v % n = 0 := Int.emod_eq_zero_of_dvd hd
     rw [if_pos hd] at e4
     rw [e4,if_neg (by omega)]
    ·rw [if_neg hd] at e4
     rw [e4,if_pos (by omega)]
  by_cases h2 : v.tmod n < 0
  ·rw [if_pos h2] at hm
   have e : IntKind.i64.wrap (v.tmod n + n) = v % n := by
    rw [hm] at h2 ⊢
    have e1 := Int.emod_nonneg v h0
    have e2 := Int.emod_lt_of_pos v (show 0 < n by omega)
    rw [show v % n - n + n = v % n by omega]
    exact w_i64 (by omega) (by omega)
   simp (config := {maxSteps := 4000000,implicitDefEqProofs := false}) only [go_sem,↓reduceIte,Nat.reduceAdd,Nat.reduceSub,Nat.reduceMul,Nat.reduceLeDiff,Nat.reduceLT,Int.reduceEq,Int.reduceNe,Int.reduceLT,Int.reduceLE,Int.reduceAdd,Int.reduceSub,Int.reduceMul,Int.reduceNeg,Nat.zero_add,Nat.add_zero,Nat.mul_one,Int.toNat_natCast,Int.natCast_zero,Int.cast_ofNat_Int,or_false,false_or,or_true,true_or,Int.reduceToNat,Nat.sub_zero,Int.natCast_nonneg,Int.toNat_zero,Bool.true_and,Bool.and_true,Bool.false_and,Bool.and_false,Bool.true_or,Bool.or_true,Bool.false_or,Bool.or_false,Bool.not_true,Bool.not_false,Bool.not_not,true_and,and_true,false_and,and_false,not_true_eq_false,not_false_eq_true,eq_self,decide_true,decide_false,ne_eq,implies_true,forall_const,true_implies,false_implies,Bool.true_eq_false,Bool.false_eq_true,reduceCtorEq,List.map_cons,List.map_nil,List.all_cons,List.all_nil,List.length_cons,List.length_nil,List.length_map,List.length_append,List.nil_append,List.cons_append,List.set_cons_zero,List.set_cons_succ,List.set_nil,List.drop_zero,List.drop_succ_cons,List.drop_nil,List.take_zero,List.take_succ_cons,List.take_nil,Option.map_some,Option.map_none,Option.isSome_some,Nat.reduceEqDiff,Nat.reduceBEq,Nat.reduceGT,List.all_append,List.all_map,Function.comp_def,decide_eq_true_eq,Bool.and_eq_true,beq_self_eq_true,or_self,and_self,ite_true,ite_false,Nat.le_refl,Bool.not_eq_true,decide_not,Bool.not_eq_true',decide_eq_false_iff_not,Bool.not_eq_false,Bool.or_eq_true,if_true,if_false,ite_self,u_roF,u_cvF,u_cvC,u_ceT,u_ceK,z2x,h1,h0,h2,e]
  ·rw [if_neg h2] at hm
   rw [if_neg h1]
   simp (config := {maxSteps := 4000000,implicitDefEqProofs := false}) only [go_sem,↓reduceIte,Nat.reduceAdd,Nat.reduceSub,Nat.reduceMul,Nat.reduceLeDiff,Nat.reduceLT,Int.reduceEq,Int.reduceNe,Int.reduceLT,Int.reduceLE,Int.reduceAdd,Int.reduceSub,Int.reduceMul,Int.reduceNeg,Nat.zero_add,Nat.add_zero,Nat.mul_one,Int.toNat_natCast,Int.natCast_zero,Int.cast_ofNat_Int,or_false,false_or,or_true,true_or,Int.reduceToNat,Nat.sub_zero,Int.natCast_nonneg,Int.toNat_zero,Bool.true_and,Bool.and_true,Bool.false_and,Bool.and_false,Bool.true_or,Bool.or_true,Bool.false_or,Bool.or_false,Bool.not_true,Bool.not_false,Bool.not_not,true_and,and_true,false_and,and_false,not_true_eq_false,not_false_eq_true,eq_self,decide_true,decide_false,ne_eq,implies_true,forall_const,true_implies,false_implies,Bool.true_eq_false,Bool.false_eq_true,reduceCtorEq,List.map_cons,List.map_nil,List.all_cons,List.all_nil,List.length_cons,List.length_nil,List.length_map,List.length_append,List.nil_append,List.cons_append,List.set_cons_zero,List.set_cons_succ,List.set_nil,List.drop_zero,List.drop_succ_cons,List.drop_nil,List.take_zero,List.take_succ_cons,List.take_nil,Option.map_some,Option.map_none,Option.isSome_some,Nat.reduceEqDiff,Nat.reduceBEq,Nat.reduceGT,List.all_append,List.all_map,Function.comp_def,decide_eq_true_eq,Bool.and_eq_true,beq_self_eq_true,or_self,and_self,ite_true,ite_false,Nat.le_refl,Bool.not_eq_true,decide_not,Bool.not_eq_true',decide_eq_false_iff_not,Bool.not_eq_false,Bool.or_eq_true,if_true,if_false,ite_self,u_roF,u_cvF,u_cvC,u_ceT,u_ceK,z2x,h1,h0,h2]
   rw [hm]
theorem of_s (m : Nat) (l : List Int) (hl : l.length < 34359738369) (hm : l.length < m) : ziX m (SL (l.map nA)) = some (qA (l.foldl (fun s i=>s ||| qb i) 0),[]) := by
 rw [zmL]
 simp (config := {maxSteps := 4000000,implicitDefEqProofs := false}) only [go_sem,↓reduceIte,Nat.reduceAdd,Nat.reduceSub,Nat.reduceMul,Nat.reduceLeDiff,Nat.reduceLT,Int.reduceEq,Int.reduceNe,Int.reduceLT,Int.reduceLE,Int.reduceAdd,Int.reduceSub,Int.reduceMul,Int.reduceNeg,Nat.zero_add,Nat.add_zero,Nat.mul_one,Int.toNat_natCast,Int.natCast_zero,Int.cast_ofNat_Int,or_false,false_or,or_true,true_or,Int.reduceToNat,Nat.sub_zero,Int.natCast_nonneg,Int.toNat_zero,Bool.true_and,Bool.and_true,Bool.false_and,Bool.and_false,Bool.true_or,Bool.or_true,Bool.false_or,Bool.or_false,Bool.not_true,Bool.not_false,Bool.not_not,true_and,and_true,false_and,and_false,not_true_eq_false,not_false_eq_true,eq_self,decide_true,decide_false,ne_eq,implies_true,forall_const,true_implies,false_implies,Bool.true_eq_false,Bool.false_eq_true,reduceCtorEq,List.map_cons,List.map_nil,List.all_cons,List.all_nil,List.length_cons,List.length_nil,List.length_map,List.length_append,List.nil_append,List.cons_append,List.set_cons_zero,List.set_cons_succ,List.set_nil,List.drop_zero,List.drop_succ_cons,List.drop_nil,List.take_zero,List.take_succ_cons,List.take_nil,Option.map_some,Option.map_none,Option.isSome_some,Nat.reduceEqDiff,Nat.reduceBEq,Nat.reduceGT,List.all_append,List.all_map,Function.comp_def,decide_eq_true_eq,Bool.and_eq_true,beq_self_eq_true,or_self,and_self,ite_true,ite_false,Nat.le_refl,Bool.not_eq_true,decide_not,Bool.not_eq_true',decide_eq_false_iff_not,Bool.not_eq_false,Bool.or_eq_true,if_true,if_false,ite_self,u_roF,u_cvF,u_cvC,u_ceT,u_ceK,z2x]
 have hlt : ∀ k : List Int,k.foldl (fun s i=>s ||| qb i) 0 < 2 ^ 64 := by
  have : ∀ (k : List Int) (s : Nat),s < 2 ^ 64 → k.foldl (fun s i=>s ||| qb i) s < 2 ^ 64 := by
   intro k
   induction k with
   |nil=>intro s h;exact h
   |cons a k ih=>intro s h;exact ih _ (Nat.or_lt_two_pow h (qb_lt a))
  exact fun k=>this k 0 (by decide)
 refine znm (ι := {k : Nat // k ≤ l.length}) (fun k=>⟨[],[(3,qA ((l.take k.1).foldl (fun s i=>s ||| qb i) 0)),(6,SL (l.map nA)),(7,nA l.length),(8,nA k.1)]⟩) (fun k=>l.length - k.1) (fun _=>some (qA (l.foldl (fun s i=>s ||| qb i) 0),[])) ?_ ⟨0,Nat.zero_le _⟩ (by dsimp only;omega)
 rintro ⟨k,hk⟩ kc hkc
 dsimp only at hkc ⊢
 rw [zk5]
 by_cases hlt2 : k < l.length
 ·have hlt' : (k : Int) < (l.length : Int) := by omega
  have hw := zyg m ((l.take k).foldl (fun s i=>s ||| qb i) 0) l[k] (hlt _)
  have hs := hkc ⟨k + 1,by omega⟩ (by dsimp only;omega)
  dsimp only at hs
  rw [List.take_succ_eq_append_getElem hlt2,List.foldl_append] at hs
  simp (config := {maxSteps := 4000000,implicitDefEqProofs := false}) (disch := omega) only [go_sem,↓reduceIte,Nat.reduceAdd,Nat.reduceSub,Nat.reduceMul,Nat.reduceLeDiff,Nat.reduceLT,Int.reduceEq,Int.reduceNe,Int.reduceLT,Int.reduceLE,Int.reduceAdd,Int.reduceSub,Int.reduceMul,Int.reduceNeg,Nat.zero_add,Nat.add_zero,Nat.mul_one,Int.toNat_natCast,Int.natCast_zero,Int.cast_ofNat_Int,or_false,false_or,or_true,true_or,Int.reduceToNat,Nat.sub_zero,Int.natCast_nonneg,Int.toNat_zero,Bool.true_and,Bool.and_true,Bool.false_and,Bool.and_false,Bool.true_or,Bool.or_true,Bool.false_or,Bool.or_false,Bool.not_true,Bool.not_false,Bool.not_not,true_and,and_true,false_and,and_false,not_true_eq_false,not_false_eq_true,eq_self,decide_true,decide_false,ne_eq,implies_true,forall_const,true_implies,false_implies,Bool.true_eq_false,Bool.false_eq_true,reduceCtorEq,List.map_cons,List.map_nil,List.all_cons,List.all_nil,List.length_cons,List.length_nil,List.length_map,List.length_append,List.nil_append,List.cons_append,List.set_cons_zero,List.set_cons_succ,List.set_nil,List.drop_zero,List.drop_succ_cons,List.drop_nil,List.take_zero,List.take_succ_cons,List.take_nil,Option.map_some,Option.map_none,Option.isSome_some,Nat.reduceEqDiff,Nat.reduceBEq,Nat.reduceGT,List.all_append,List.all_map,Function.comp_def,decide_eq_true_eq,Bool.and_eq_true,beq_self_eq_true,or_self,and_self,ite_true,ite_false,Nat.le_refl,Bool.not_eq_true,decide_not,Bool.not_eq_true',decide_eq_false_iff_not,Bool.not_eq_false,Bool.or_eq_true,if_true,if_false,ite_self,u_roF,u_cvF,u_cvC,u_ceT,u_ceK,z2x,hlt',z64,hw,w_i64]
  exact hs
 ·have hlt' : ¬ (k : Int) < (l.length : Int) := by omega
  simp (config := {maxSteps := 4000000,implicitDefEqProofs := false}) only [go_sem,↓reduceIte,Nat.reduceAdd,Nat.reduceSub,Nat.reduceMul,Nat.reduceLeDiff,Nat.reduceLT,Int.reduceEq,Int.reduceNe,Int.reduceLT,Int.reduceLE,Int.reduceAdd,Int.reduceSub,Int.reduceMul,Int.reduceNeg,Nat.zero_add,Nat.add_zero,Nat.mul_one,Int.toNat_natCast,Int.natCast_zero,Int.cast_ofNat_Int,or_false,false_or,or_true,true_or,Int.reduceToNat,Nat.sub_zero,Int.natCast_nonneg,Int.toNat_zero,Bool.true_and,Bool.and_true,Bool.false_and,Bool.and_false,Bool.true_or,Bool.or_true,Bool.false_or,Bool.or_false,Bool.not_true,Bool.not_false,Bool.not_not,true_and,and_true,false_and,and_false,not_true_eq_false,not_false_eq_true,eq_self,decide_true,decide_false,ne_eq,implies_true,forall_const,true_implies,false_implies,Bool.true_eq_false,Bool.false_eq_true,reduceCtorEq,List.map_cons,List.map_nil,List.all_cons,List.all_nil,List.length_cons,List.length_nil,List.length_map,List.length_append,List.nil_append,List.cons_append,List.set_cons_zero,List.set_cons_succ,List.set_nil,List.drop_zero,List.drop_succ_cons,List.drop_nil,List.take_zero,List.take_succ_cons,List.take_nil,Option.map_some,Option.map_none,Option.isSome_some,Nat.reduceEqDiff,Nat.reduceBEq,Nat.reduceGT,List.all_append,List.all_map,Function.comp_def,decide_eq_true_eq,Bool.and_eq_true,beq_self_eq_true,or_self,and_self,ite_true,ite_false,Nat.le_refl,Bool.not_eq_true,decide_not,Bool.not_eq_true',decide_eq_false_iff_not,Bool.not_eq_false,Bool.or_eq_true,if_true,if_false,ite_self,u_roF,u_cvF,u_cvC,u_ceT,u_ceK,z2x,hlt']
  rw [zkk,List.take_of_length_le (by omega)]
  simp (config := {maxSteps := 4000000,implicitDefEqProofs := false}) only [go_sem,↓reduceIte,Nat.reduceAdd,Nat.reduceSub,Nat.reduceMul,Nat.reduceLeDiff,Nat.reduceLT,Int.reduceEq,Int.reduceNe,Int.reduceLT,Int.reduceLE,Int.reduceAdd,Int.reduceSub,Int.reduceMul,Int.reduceNeg,Nat.zero_add,Nat.add_zero,Nat.mul_one,Int.toNat_natCast,Int.natCast_zero,Int.cast_ofNat_Int,or_false,false_or,or_true,true_or,Int.reduceToNat,Nat.sub_zero,Int.natCast_nonneg,Int.toNat_zero,Bool.true_and,Bool.and_true,Bool.false_and,Bool.and_false,Bool.true_or,Bool.or_true,Bool.false_or,Bool.or_false,Bool.not_true,Bool.not_false,Bool.not_not,true_and,and_true,false_and,and_false,not_true_eq_false,not_false_eq_true,eq_self,decide_true,decide_false,ne_eq,implies_true,forall_const,true_implies,false_implies,Bool.true_eq_false,Bool.false_eq_true,reduceCtorEq,List.map_cons,List.map_nil,List.all_cons,List.all_nil,List.length_cons,List.length_nil,List.length_map,List.length_append,List.nil_append,List.cons_append,List.set_cons_zero,List.set_cons_succ,List.set_nil,List.drop_zero,List.drop_succ_cons,List.drop_nil,List.take_zero,List.take_succ_cons,List.take_nil,Option.map_some,Option.map_none,Option.isSome_some,Nat.reduceEqDiff,Nat.reduceBEq,Nat.reduceGT,List.all_append,List.all_map,Function.comp_def,decide_eq_true_eq,Bool.and_eq_true,beq_self_eq_true,or_self,and_self,ite_true,ite_false,Nat.le_refl,Bool.not_eq_true,decide_not,Bool.not_eq_true',decide_eq_false_iff_not,Bool.not_eq_false,Bool.or_eq_true,if_true,if_false,ite_self,u_roF,u_cvF,u_cvC,u_ceT,u_ceK,z2x]
theorem zpr (m : Nat) (v n : Int) (hv : -9223372036854775808 ≤ v ∧ v < 9223372036854775808) (hn : n < 9223372036854775808) : z5X m (nA v) (nA n) = some (nA (if n < 1 then 0 else v % n),[]) := by
 rw [zeE]
 by_cases h1 : n < 1
 ·simp (config := {maxSteps := 4000000,implicitDefEqProofs := false}) only [go_sem,↓reduceIte,Nat.reduceAdd,Nat.reduceSub,Nat.reduceMul,Nat.reduceLeDiff,Nat.reduceLT,Int.reduceEq,Int.reduceNe,Int.reduceLT,Int.reduceLE,Int.reduceAdd,Int.reduceSub,Int.reduceMul,Int.reduceNeg,Nat.zero_add,Nat.add_zero,Nat.mul_one,Int.toNat_natCast,Int.natCast_zero,Int.cast_ofNat_Int,or_false,false_or,or_true,true_or,Int.reduceToNat,Nat.sub_zero,Int.natCast_nonneg,Int.toNat_zero,Bool.true_and,Bool.and_true,Bool.false_and,Bool.and_false,Bool.true_or,Bool.or_true,Bool.false_or,Bool.or_false,Bool.not_true,Bool.not_false,Bool.not_not,true_and,and_true,false_and,and_false,not_true_eq_false,not_false_eq_true,eq_self,decide_true,decide_false,ne_eq,implies_true,forall_const,true_implies,false_implies,Bool.true_eq_false,Bool.false_eq_true,reduceCtorEq,List.map_cons,List.map_nil,List.all_cons,List.all_nil,List.length_cons,List.length_nil,List.length_map,List.length_append,List.nil_append,List.cons_append,List.set_cons_zero,List.set_cons_succ,List.set_nil,List.drop_zero,List.drop_succ_cons,List.drop_nil,List.take_zero,List.take_succ_cons,List.take_nil,Option.map_some,Option.map_none,Option.isSome_some,Nat.reduceEqDiff,Nat.reduceBEq,Nat.reduceGT,List.all_append,List.all_map,Function.comp_def,decide_eq_true_eq,Bool.and_eq_true,beq_self_eq_true,or_self,and_self,ite_true,ite_false,Nat.le_refl,Bool.not_eq_true,decide_not,Bool.not_eq_true',decide_eq_false_iff_not,Bool.not_eq_false,Bool.or_eq_true,if_true,if_false,ite_self,u_roF,u_cvF,u_cvC,u_ceT,u_ceK,z2x,h1]
 ·have h0 : ¬ n = 0 := by omega
  have hm : v.tmod n = if v.tmod n < 0 then v % n - n else v % n := by
   have e1 := Int.emod_nonneg v h0
   have e2 := Int.emod_lt_of_pos v (show 0 < n by omega)
   by_cases hp : 0 ≤ v
   ·rw [Int.tmod_eq_emod_of_nonneg hp,if_neg (by omega)]
   ·have e3 := Int.tmod_eq_emod (a := v) (b := n)
    have e4 : v.tmod n = if n ∣ v then v % n else v % n - n := by
     rw [e3]
     by_cases hd : n ∣ v
     ·rw [if_pos (.inr hd),if_pos hd];omega
     ·rw [if_neg (by simp [hd,hp]),if_neg hd]
      have : (n.natAbs : Int) = n := by omega
      omega
    by_cases hd : n ∣ v
    ·have : v % n = 0 := Int.emod_eq_zero_of_dvd hd
     rw [if_pos hd] at e4
     rw [e4,if_neg (by omega)]
    ·rw [if_neg hd] at e4
     rw [e4,if_pos (by omega)]
  by_cases h2 : v.tmod n < 0
  ·rw [if_pos h2] at hm
   have e : IntKind.i64.wrap (v.tmod n + n) = v % n := by
    rw [hm] at h2 ⊢
    have e1 := Int.emod_nonneg v h0
    have e2 := Int.emod_lt_of_pos v (show 0 < n by omega)
    rw [show v % n - n + n = v % n by omega]
    exact w_i64 (by omega) (by omega)
   simp (config := {maxSteps := 4000000,implicitDefEqProofs := false}) only [go_sem,↓reduceIte,Nat.reduceAdd,Nat.reduceSub,Nat.reduceMul,Nat.reduceLeDiff,Nat.reduceLT,Int.reduceEq,Int.reduceNe,Int.reduceLT,Int.reduceLE,Int.reduceAdd,Int.reduceSub,Int.reduceMul,Int.reduceNeg,Nat.zero_add,Nat.add_zero,Nat.mul_one,Int.toNat_natCast,Int.natCast_zero,Int.cast_ofNat_Int,or_false,false_or,or_true,true_or,Int.reduceToNat,Nat.sub_zero,Int.natCast_nonneg,Int.toNat_zero,Bool.true_and,Bool.and_true,Bool.false_and,Bool.and_false,Bool.true_or,Bool.or_true,Bool.false_or,Bool.or_false,Bool.not_true,Bool.not_false,Bool.not_not,true_and,and_true,false_and,and_false,not_true_eq_false,not_false_eq_true,eq_self,decide_true,decide_false,ne_eq,implies_true,forall_const,true_implies,false_implies,Bool.true_eq_false,Bool.false_eq_true,reduceCtorEq,List.map_cons,List.map_nil,List.all_cons,List.all_nil,List.length_cons,List.length_nil,List.length_map,List.length_append,List.nil_append,List.cons_append,List.set_cons_zero,List.set_cons_succ,List.set_nil,List.drop_zero,List.drop_succ_cons,List.drop_nil,List.take_zero,List.take_succ_cons,List.take_nil,Option.map_some,Option.map_none,Option.isSome_some,Nat.reduceEqDiff,Nat.reduceBEq,Nat.reduceGT,List.all_append,List.all_map,Function.comp_def,decide_eq_true_eq,Bool.and_eq_true,beq_self_eq_true,or_self,and_self,ite_true,ite_false,Nat.le_refl,Bool.not_eq_true,decide_not,Bool.not_eq_true',decide_eq_false_iff_not,Bool.not_eq_false,Bool.or_eq_true,if_true,if_false,ite_self,u_roF,u_cvF,u_cvC,u_ceT,u_ceK,z2x,h1,h0,h2,e]
  ·rw [if_neg h2] at hm
   rw [if_neg h1]
   simp (config := {maxSteps := 4000000,implicitDefEqProofs := false}) only [go_sem,↓reduceIte,Nat.reduceAdd,Nat.reduceSub,Nat.reduceMul,Nat.reduceLeDiff,Nat.reduceLT,Int.reduceEq,Int.reduceNe,Int.reduceLT,Int.reduceLE,Int.reduceAdd,Int.reduceSub,Int.reduceMul,Int.reduceNeg,Nat.zero_add,Nat.add_zero,Nat.mul_one,Int.toNat_natCast,Int.natCast_zero,Int.cast_ofNat_Int,or_false,false_or,or_true,true_or,Int.reduceToNat,Nat.sub_zero,Int.natCast_nonneg,Int.toNat_zero,Bool.true_and,Bool.and_true,Bool.false_and,Bool.and_false,Bool.true_or,Bool.or_true,Bool.false_or,Bool.or_false,Bool.not_true,Bool.not_false,Bool.not_not,true_and,and_true,false_and,and_false,not_true_eq_false,not_false_eq_true,eq_self,decide_true,decide_false,ne_eq,implies_true,forall_const,true_implies,false_implies,Bool.true_eq_false,Bool.false_eq_true,reduceCtorEq,List.map_cons,List.map_nil,List.all_cons,List.all_nil,List.length_cons,List.length_nil,List.length_map,List.length_append,List.nil_append,List.cons_append,List.set_cons_zero,List.set_cons_succ,List.set_nil,List.drop_zero,List.drop_succ_cons,List.drop_nil,List.take_zero,List.take_succ_cons,List.take_nil,Option.map_some,Option.map_none,Option.isSome_some,Nat.reduceEqDiff,Nat.reduceBEq,Nat.reduceGT,List.all_append,List.all_map,Function.comp_def,decide_eq_true_eq,Bool.and_eq_true,beq_self_eq_true,or_self,and_self,ite_true,ite_false,Nat.le_refl,Bool.not_eq_true,decide_not,Bool.not_eq_true',decide_eq_false_iff_not,Bool.not_eq_false,Bool.or_eq_true,if_true,if_false,ite_self,u_roF,u_cvF,u_cvC,u_ceT,u_ceK,z2x,h1,h0,h2]
   rw [hm]
end Go.Proofs.Ytaaogcnjfkgnoaa

