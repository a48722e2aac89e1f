/-
  Texts laid together, part 6 of 7: laws of a walk over data, contracts of functions, each whole by itself.
-/
import Derived.Test.YtaaogcnjfkgnoaaMgd
import Derived.Test.YtaaogcnjfkgnoaaMge
import Derived.Test.YtaaogcnjfkgnoaaMgc
import Derived.Maps.Views
import Derived.DeepKeys4
set_option maxRecDepth 100000
set_option linter.unusedVariables false
set_option linter.unusedSimpArgs false
namespace Go.Proofs.Ytaaogcnjfkgnoaa
open Go.RowKit
def regO : Code → List Oper|.region _ ops _=>ops.toList|_=>[]
def opAt (k : Nat) (c : Code) : Oper := (regO c).getD k ⟨none, .move (.tmp 0), 0, "", #[], none⟩
noncomputable def itC : Code := (Try.f93.body).getD .skip
noncomputable def itR : Code := cdL (cdR (cdL (cdL (cdR (cdR (cdL (cdL (cdR (cdR (cdL (cdL (cdR (cdR (cdL (cdL (endC 1 itC))))))))))))))))
noncomputable def itIn : Code := .seq ItF_c (.seq (.region 6 (regO ItG_c ++ opAt 2 itR :: regO ItH_c).toArray false) (.cond (.tmp 23) .ret .skip))
noncomputable def itLp : Code := .seq ItE_c (.seq (.cond (.tmp 17) .skip (.exit 2)) (.seq (.block 3 itIn) ItI_c))
noncomputable def itOut : Code := .seq ItB_c (.seq (.cond (.tmp 10) .skip (.exit 0)) (.seq (.block 1 (.seq ItC_c (.seq ItD_c (.block 2 (.loop itLp))))) ItJ_c))
theorem zsJ : endC 1 itC = .block 0 (.loop itOut) := by kernel_rfl
theorem zqE : ItG_c = .region 6 (regO ItG_c).toArray false := by kernel_rfl
theorem zqc : ItH_c = .region 6 (regO ItH_c).toArray false := by kernel_rfl
theorem zzD : (opAt 2 itR).op = .call { callee := .value (.tmp 20),args := #[.tmp 21],argTypes := #[54] } := by kernel_rfl
theorem zx3 : (opAt 2 itR).dst = some 22 := by kernel_rfl
theorem zzb : (opAt 2 itR).guard = none := by kernel_rfl
theorem gdG : ((regO ItG_c).all fun o=>o.guard.isNone) = true := by kernel_rfl
theorem gdH : ((regO ItH_c).all fun o=>o.guard.isNone) = true := by kernel_rfl
def numV : Value → Nat|.int _ i=>i.toNat|_=>0
theorem slotV {S : SS} {μ : List Value} {T : Tm} {N : FS} {a : Act} {i : Nat} {v : Value} (hf : Fr S μ N T a) (h : get T i = V v) : a.tmps.getD i undef = v := by
 have := hf.slot i
 rw [h] at this
 exact this.1
theorem znY {S : SS} {μ : List Value} {N : Nat} {args : List AV} {vs : List Value} (hl : vs.length = args.length) (hargs : args.length ≤ N) (hv : ∀ (j : Nat) (d : AV) (v : Value),args[j]? = some d → vs[j]? = some v → rep S μ d v) :
  Fr S μ (F0 N) (argsT 0 args) { tmps := vs.toArray ++ Array.replicate (N - vs.toArray.size) undef,defers := [] } := by
 refine ⟨by simp;omega,rfl,fun i=>?_⟩
 rw [zie]
 simp only [Nat.zero_le,if_true,Nat.sub_zero]
 cases hd : args[i]? with
 |none=>trivial
 |some d =>
  have hi : i < vs.length := by rw [hl];exact (List.getElem?_eq_some_iff.1 hd).1
  have := hv i d vs[i] hd (List.getElem?_eq_getElem hi)
  simp only [Option.getD_some]
  have e : (vs.toArray ++ Array.replicate (N - vs.toArray.size) undef).getD i undef = vs[i] := by
   rw [Array.getD_eq_getD_getElem?,Array.getElem?_append_left (by simpa using hi)]
   simp [hi]
  rw [e];exact this
theorem zqT {H : List AObj} {o : AObj} : HLe (H ++ [o]) H := by
 have := HLe.take (H ++ [o]) H.length
 rwa [List.take_left' rfl] at this
section
variable {β : Type} {C : β → List AObj} {R : β → Ce → β} {b0 : β} {l : List Ch}
def foldC (R : β → Ce → β) (b : β) (cs : List Ce) : β := cs.foldl R b
def foldL (R : β → Ce → β) (b : β) (l : List Ch) : β := l.foldl (fun a c=>foldC R a c.cs) b
abbrev TO (lp : Nat) (l : List Ch) (k : Nat) : Tm := [(0,V (.func (.yield lp) #[] #[])),(7,chsA l),(8,nA l.length),(9,nA k)]
abbrev TJ (lp : Nat) (l : List Ch) (k : Nat) (cs : List Ce) (j : Nat) : Tm := [(0,V (.func (.yield lp) #[] #[])),(7,chsA l),(8,nA l.length),(9,nA k),(14,cesA cs),(15,nA cs.length),(16,nA j)]
def ItO (C : β → List AObj) (R : β → Ce → β) (b0 : β) (l : List Ch) (lp : Nat) (r : Loop) (w1 : World) (S1 : SS) (μ1 : List Value) (a : Act) (w : World) : Prop :=
 ∃ (k : Nat) (S : SS) (μ : List Value),k ≤ l.length ∧ Rel w S μ (C (foldL R b0 (l.take k))) ∧ Fr S μ (F0 26) (TO lp l k) a ∧ GOk GG S ∧ Step (C b0).length w1 S1 μ1 (C b0) w S μ (C (foldL R b0 (l.take k))) ∧ w.heap[lp]? = some (.loop r)
def ItJn (C : β → List AObj) (R : β → Ce → β) (b0 : β) (l : List Ch) (k : Nat) (b : β) (cs : List Ce) (lp : Nat) (r : Loop) (w1 : World) (S1 : SS) (μ1 : List Value) (a : Act) (w : World) : Prop :=
 ∃ (j : Nat) (S : SS) (μ : List Value),j ≤ cs.length ∧ Rel w S μ (C (foldC R b (cs.take j))) ∧ Fr S μ (F0 26) (TJ lp l k cs j) a ∧ GOk GG S ∧ Step (C b0).length w1 S1 μ1 (C b0) w S μ (C (foldC R b (cs.take j))) ∧ w.heap[lp]? = some (.loop r)
theorem zo6 {b : β} {cs : List Ce} {j : Nat} (h : j < cs.length) : foldC R b (cs.take (j + 1)) = R (foldC R b (cs.take j)) cs[j] := by
 unfold foldC
 rw [List.take_succ_eq_append_getElem h,List.foldl_append]
 rfl
theorem zpj {b : β} {k : Nat} (h : k < l.length) : foldL R b (l.take (k + 1)) = foldC R (foldL R b (l.take k)) l[k].cs := by
 unfold foldL
 rw [List.take_succ_eq_append_getElem h,List.foldl_append]
 rfl
theorem zwy {n : Nat} (cs : List Ce) : ltT n (cesA cs) = true := rfl
theorem zwh {n : Nat} (l : List Ch) : ltT n (chsA l) = true := rfl
variable {w1 : World} {S1 : SS} {μ1 : List Value} {lp K d b : Nat} {r : Loop} {T0 : Tm} {tm : Array Value}
theorem it_calls (hn : ∀ a, (C a).length = (C b0).length) (ho : ∀ a, (C a).all (ltO (C b0).length) = true) (hb : ∀ a, (C a)[b]? = some ⟨1, z44             , 0, [chsA l]⟩) (hl : l.length ≤ 1000) (hc : ∀ c ∈ l, c.cs.length ≤ 1000)
    (hround : ∀ (a : β) (x : Ce) (vs : List Value) (w : World) (S : SS) (μ : List Value), Rel w S μ (C a) → Fr S μ (F0 K) T0 ⟨tm, []⟩ → GOk GG S → w.heap[lp]? = some (.loop r) → vs.length = 1 → (∀ (j : Nat) (d : AV) (v : Value), [ceE x][j]? = some d → vs[j]? = some v → rep S μ d v) →
      YieldAt Fence.wide (d - 1) Try.prog lp vs.toArray w (YPost lp r w S μ (C a) fun e H2 => e = .normal ∧ H2 = C (R a x)))
    (hm : 0 < d) {us : List Value} (hr : Rel w1 S1 μ1 (C b0)) (hf : Fr S1 μ1 (F0 K) T0 ⟨tm, []⟩) (hg : GOk GG S1) (hlp : w1.heap[lp]? = some (.loop r)) (hus : us.length = 1)
    (hu : ∀ (j : Nat) (x : AV) (v : Value), [OP b 0][j]? = some x → us[j]? = some v → rep S1 μ1 x v) :
    CallsIn Fence.wide d Try.prog 93 (.func (.yield lp) #[] #[] :: us).toArray w1 fun e w' => ∃ v, e = .returned v ∧ IPost lp r w1 S1 μ1 (C b0) (fun e H2 => e = .normal ∧ H2 = C (foldL R b0 l)) w' := by
  have hnl : ∀ r cs t p, (Obj.loop r) ≠ .cells cs t p := fun _ _ _ _ e => by cases e
  refine callsIn_of_wp Try.func93 rfl trivial ?_
  have hfr0 : Fr S1 μ1 (F0 26) (argsT 0 [V (.func (.yield lp) #[] #[]), OP b 0]) { tmps := (.func (.yield lp) #[] #[] :: us).toArray ++ Array.replicate (26 - (.func (.yield lp) #[] #[] :: us).toArray.size) undef, defers := [] } :=
    znY     (by simp [hus]) (by simp) (by
      intro j x v hx hv
      cases j with
      | zero => simp at hx hv; subst hx hv; exact ⟨rfl, rfl⟩
      | succ j => exact hu j x v (by simpa using hx) (by simpa using hv))
  rw [Try.ntmps93]
  have hA := itA_s (H := C b0) (l := l) (Y := V (.func (.yield lp) #[] #[])) 1000 b (hb b0)
  refine zi7       (n := (C b0).length) MIX (zxH    1000) 1 itC ItA_h ⟨C b0, argsT 0 [V (.func (.yield lp) #[] #[]), OP b 0]⟩ (by kernel_rfl) hA hr hfr0 hg ?_ (Nat.le_refl _)
  rintro a w ⟨S, μ, _, hrA, hfA, hgA, hstA⟩
  rw [zsJ     ]
  refine wpIn_block ?_
  refine wpIn_loop (ItO C R b0 l lp r w1 S1 μ1) (fun a _ => l.length - numV (a.tmps.getD 9 undef)) ⟨0, S, μ, Nat.zero_le _, hrA, hfA, hgA, hstA, hstA.keeps hr hlp (hnl _)⟩ ?_
  rintro a w ⟨k, S, μ, hk, hr2, hf2, hg2, hst2, hl2⟩
  have h9 : a.tmps.getD 9 undef = .int .i64 k := slotV hf2 rfl
  unfold itOut
  refine wpIn_seq (wpIn_mono (zkC    (rs := [0, 7, 8, 9, 10]) MIX (zyr    1000) (itB_s 1000 (k : Int) (l.length : Int)) hr2 hf2 hg2) ?_)
  rintro e a3 w3 ⟨rfl, S3, μ3, hr3, hf3, hg3, hst3⟩
  have hl3 := hst3.keeps hr2 hl2 (hnl _)
  have hst3' := hst2.trans (hst3.less (Nat.le_of_eq (hn _).symm))
  have h10 : a3.eval (.tmp 10) = .bool (decide ((k : Int) < l.length)) := slotV hf3 rfl
  simp only [Exit.then]
  refine wpIn_seq (wpIn_cond (t := decide ((k : Int) < l.length)) h10 ?_)
  by_cases hlt : k < l.length
  · rw [decide_eq_true (by omega), if_pos rfl]
    refine wpIn_skip ?_
    simp only [Exit.then]
    refine wpIn_seq (wpIn_block ?_)
    refine wpIn_seq (wpIn_mono (zkC    (rs := [0, 4, 7, 8, 9]) MIX (zxR    1000) (itC_s (Y := V (.func (.yield lp) #[] #[])) (a8 := nA l.length) (H := C (foldL R b0 (l.take k))) 1000 k hlt) hr3 (hf3.some (by simp [_root_.Go.Proofs.Ytaaogcnjfkgnoaa.get])) hg3) ?_)
    rintro e a4 w4 ⟨rfl, S4, μ4, hr4, hf4, hg4, hst4⟩
    have hl4 := hst4.keeps hr3 hl3 (hnl _)
    have hst4' := hst3'.trans (hst4.less (Nat.le_of_eq (hn _).symm))
    simp only [Exit.then]
    have hf4' : Fr S4 μ4 (F0 26) [(0, V (.func (.yield lp) #[] #[])), (4, OP (C (foldL R b0 (l.take k))).length 0), (7, chsA l), (8, nA l.length), (9, nA k)] a4 := hf4
    refine wpIn_seq (wpIn_mono (zkC    (rs := [0, 7, 8, 9, 14, 15, 16]) MIX (zyC    1000) (itD_s (Y := V (.func (.yield lp) #[] #[])) (a7 := chsA l) (a8 := nA l.length) (a9 := nA k) (H := C (foldL R b0 (l.take k))) 1000 l[k]) hr4 hf4' hg4) ?_)
    rintro e a5 w5 ⟨rfl, S5, μ5, hr5, hf5, hg5, hst5⟩
    have hl5 := hst5.keeps hr4 hl4 (hnl _)
    have hst5' := hst4'.trans (hst5.less (by have := hn (foldL R b0 (l.take k)); simp only [List.length_append]; omega))
    simp only [Exit.then]
    have hle : Le ⟨C (foldL R b0 (l.take k)) ++ [chO l[k]], [(0, V (.func (.yield lp) #[] #[])), (7, chsA l), (8, nA l.length), (9, nA k), (14, cesA l[k].cs), (15, nA l[k].cs.length), (16, nA 0)]⟩ ⟨C (foldL R b0 (l.take k)), TJ lp l k l[k].cs 0⟩ :=
      ⟨zqT    , by rw [hn]; exact ho _, ⟨rfl, rfl, rfl, zwh    l, rfl, rfl, rfl, rfl, rfl, zwy    _, rfl, rfl, rfl, rfl, trivial⟩⟩
    refine wpIn_block ?_
    refine wpIn_loop (ItJn C R b0 l k (foldL R b0 (l.take k)) l[k].cs lp r w1 S1 μ1) (fun a _ => l[k].cs.length - numV (a.tmps.getD 16 undef)) ⟨0, S5, _, Nat.zero_le _, hle.rel hr5, hle.fr hf5, hg5, hst5'.trans ((hle.step (Nat.le_of_eq (hn _).symm) _ _ _)), hl5⟩ ?_
    rintro a w ⟨j, S, μ, hj, hr2, hf2, hg2, hst2, hl2⟩
    have h16 : a.tmps.getD 16 undef = .int .i64 j := slotV hf2 rfl
    obtain ⟨x0, hx0⟩ : ∃ x0, foldC R (foldL R b0 (l.take k)) (l[k].cs.take j) = x0 := ⟨_, rfl⟩
    have hck := hc l[k] (List.getElem_mem hlt)
    unfold itLp
    refine wpIn_seq (wpIn_mono (zkC    (rs := [0, 7, 8, 9, 14, 15, 16, 17]) MIX (zz6    1000) (itE_s (Y := V (.func (.yield lp) #[] #[])) (a7 := chsA l) (a8 := nA l.length) (a9 := nA k) (a14 := cesA l[k].cs) 1000 (j : Int) (l[k].cs.length : Int)) hr2 hf2 hg2) ?_)
    rintro e a3 w3 ⟨rfl, S3, μ3, hr3, hf3, hg3, hst3⟩
    have hl3 := hst3.keeps hr2 hl2 (hnl _)
    have hst3' := hst2.trans (hst3.less (Nat.le_of_eq (hn _).symm))
    have h17 : a3.eval (.tmp 17) = .bool (decide ((j : Int) < l[k].cs.length)) := slotV hf3 rfl
    simp only [Exit.then]
    refine wpIn_seq (wpIn_cond (t := decide ((j : Int) < l[k].cs.length)) h17 ?_)
    by_cases hjt : j < l[k].cs.length
    · rw [decide_eq_true (by omega), if_pos rfl]
      refine wpIn_skip ?_
      simp only [Exit.then]
      refine wpIn_seq (wpIn_block ?_)
      unfold itIn
      refine wpIn_seq (wpIn_mono (zkC    (rs := [0, 6, 7, 8, 9, 14, 15, 16]) MIX (zxV    1000) (itF_s (Y := V (.func (.yield lp) #[] #[])) (a7 := chsA l) (a8 := nA l.length) (a9 := nA k) (a15 := nA l[k].cs.length) (H := C (foldC R (foldL R b0 (l.take k)) (l[k].cs.take j))) 1000 j hjt) hr3 (hf3.some (by simp [_root_.Go.Proofs.Ytaaogcnjfkgnoaa.get])) hg3) ?_)
      rintro e a4 w4 ⟨rfl, S4, μ4, hr4, hf4, hg4, hst4⟩
      have hl4 := hst4.keeps hr3 hl3 (hnl _)
      have hst4' := hst3'.trans (hst4.less (Nat.le_of_eq (hn _).symm))
      simp only [Exit.then]
      have hf4' : Fr S4 μ4 (F0 26) [(0, V (.func (.yield lp) #[] #[])), (6, OP (C (foldC R (foldL R b0 (l.take k)) (l[k].cs.take j))).length 0), (7, chsA l), (8, nA l.length), (9, nA k), (14, cesA l[k].cs), (15, nA l[k].cs.length), (16, nA j)] a4 := hf4
      have hG := itG_s (Y := V (.func (.yield lp) #[] #[])) (a7 := chsA l) (a8 := nA l.length) (a9 := nA k) (a14 := cesA l[k].cs) (a15 := nA l[k].cs.length) (H := C (foldC R (foldL R b0 (l.take k)) (l[k].cs.take j))) 1000 l[k].cs[j] (nA j)
      unfold ItG at hG
      rw [zqE      ] at hG
      refine wpIn_seq (wpIn_region_lit ?_)
      refine zoK      (rs := [0, 7, 8, 9, 14, 15, 16, 20, 21]) (zxy    1000) rfl gdG hG hr4 hf4' hg4 ?_
      rintro a5 w5 ⟨S5, μ5, hr5, hf5, hg5, hst5⟩
      have hl5 := hst5.keeps hr4 hl4 (hnl _)
      have hst5' := hst4'.trans (hst5.less (by have := hn (foldC R (foldL R b0 (l.take k)) (l[k].cs.take j)); simp only [List.length_append]; omega))
      have hle : Le ⟨C (foldC R (foldL R b0 (l.take k)) (l[k].cs.take j)) ++ [ceO l[k].cs[j]], [(0, V (.func (.yield lp) #[] #[])), (7, chsA l), (8, nA l.length), (9, nA k), (14, cesA l[k].cs), (15, nA l[k].cs.length), (16, nA j), (20, V (.func (.yield lp) #[] #[])), (21, ceE l[k].cs[j])]⟩ ⟨C (foldC R (foldL R b0 (l.take k)) (l[k].cs.take j)), [(0, V (.func (.yield lp) #[] #[])), (7, chsA l), (8, nA l.length), (9, nA k), (14, cesA l[k].cs), (15, nA l[k].cs.length), (16, nA j), (20, V (.func (.yield lp) #[] #[])), (21, ceE l[k].cs[j])]⟩ :=
        ⟨zqT    , by rw [hn]; exact ho _, ⟨rfl, rfl, rfl, zwh    l, rfl, rfl, rfl, rfl, rfl, zwy    _, rfl, rfl, rfl, rfl, rfl, rfl, rfl, rfl, trivial⟩⟩
      have hr5 := hle.rel hr5
      have hf5 := hle.fr hf5
      have hst5' := hst5'.trans (hle.step (Nat.le_of_eq (hn _).symm) _ _ _)
      generalize μ5.take (C (foldC R (foldL R b0 (l.take k)) (l[k].cs.take j))).length = μ6 at *
      have hfc := hf.ext (Step.toExt hr hst5')
      unfold wpListIn
      rw [if_pos (by simp [Region.wanted, zzb   ])]
      have e21 := hf5.slot 21
      have hy := hround (foldC R (foldL R b0 (l.take k)) (l[k].cs.take j)) l[k].cs[j] [a5.tmps.getD 21 undef] w5 S5 μ6 hr5 hfc hg5 hl5 rfl (by
        intro i x v hx hv
        match i, hx, hv with
        | 0, hx, hv => simp at hx hv; subst hx hv; simpa [_root_.Go.Proofs.Ytaaogcnjfkgnoaa.get] using e21)
      refine zsM      (R := YPost lp r w5 S5 μ6 (C (foldC R (foldL R b0 (l.take k)) (l[k].cs.take j))) _) zzD    (slotV hf5 rfl) (by simpa [Act.eval] using hy) ?_
      rintro e w' ⟨w7, S7, μ7, H7, x, ⟨rfl, rfl⟩, hr7, hst7, hl7, hx7⟩
      rw [← zo6        (R := R) (b := foldL R b0 (l.take k)) hjt] at hr7 hst7
      have hst7' := hst5'.trans (hst7.less (Nat.le_of_eq (hn _).symm))
      have hg7 := hg5.ext hst7.still
      have hf7 := hf5.ext (Step.toExt hr5 hst7)
      rw [zx3    ]
      obtain ⟨rfl, rfl⟩ : e = .returned (.bool true) ∧ w' = w7 := by
        rcases hx7 with ⟨_, q1, q2⟩ | ⟨c, q, _⟩
        · exact ⟨q1, q2⟩
        · cases q
      refine ⟨_, rfl, ?_⟩
      have hput := hf7.put (some 22) (fun i e => by cases e; decide) (v := bA true) (u := .bool true) ⟨rfl, rfl⟩
      have hH := itH_s (Y := V (.func (.yield lp) #[] #[])) (a7 := chsA l) (a8 := nA l.length) (a9 := nA k) (a14 := cesA l[k].cs) (a15 := nA l[k].cs.length) (H := C (foldC R (foldL R b0 (l.take k)) (l[k].cs.take (j + 1)))) 1000 (nA j) true
      unfold ItH at hH
      rw [zqc      ] at hH
      refine ztl      (rs := [0, 7, 8, 9, 14, 15, 16, 23]) (zzg    1000) rfl gdH hH hr7 (hput.some (by simp [_root_.Go.Proofs.Ytaaogcnjfkgnoaa.get, ASt.set, tput])) hg7 ?_
      rintro a8 w8 ⟨S8, μ8, hr8, hf8, hg8, hst8⟩
      have hl8 := hst8.keeps hr7 hl7 (hnl _)
      have hst8' := hst7'.trans (hst8.less (Nat.le_of_eq (hn _).symm))
      simp only [Exit.then]
      refine wpIn_cond (t := false) (slotV hf8 rfl) ?_
      rw [if_neg (by decide)]
      refine wpIn_skip ?_
      simp only [Exit.inBlock, Exit.then]
      refine wpIn_mono (zkC    (rs := [0, 7, 8, 9, 14, 15, 16]) MIX (zyH    1000) (itI_s (Y := V (.func (.yield lp) #[] #[])) (a7 := chsA l) (a8 := nA l.length) (a9 := nA k) (a14 := cesA l[k].cs) (a15 := nA l[k].cs.length) 1000 (j : Int) (by omega) (by omega)) hr8 (hf8.some (by simp [_root_.Go.Proofs.Ytaaogcnjfkgnoaa.get])) hg8) ?_
      rintro e a9 w9 ⟨rfl, S9, μ9, hr9, hf9, hg9, hst9⟩
      have hl9 := hst9.keeps hr8 hl8 (hnl _)
      have e9 := hst8'.trans (hst9.less (Nat.le_of_eq (hn _).symm))
      have h49 : a9.tmps.getD 16 undef = .int .i64 ((j : Int) + 1) := slotV hf9 rfl
      refine ⟨⟨j + 1, S9, μ9, hjt, hr9, hf9.some (by simp [_root_.Go.Proofs.Ytaaogcnjfkgnoaa.get]), hg9, e9, hl9⟩, ?_⟩
      rw [h49, h16]
      simp only [numV]
      omega
    · rw [decide_eq_false (by omega)]
      refine wpIn_exit ?_
      simp only [Exit.then, Exit.inBlock, ↓reduceIte]
      obtain rfl : j = l[k].cs.length := by omega
      rw [List.take_length] at hr3 hst3'
      rw [← zpj        hlt] at hr3 hst3'
      refine wpIn_mono (zkC    (rs := [0, 7, 8, 9]) MIX (zxB    1000) (itJ_s (Y := V (.func (.yield lp) #[] #[])) (a7 := chsA l) (a8 := nA l.length) 1000 (k : Int) (by omega) (by omega)) hr3 (hf3.some (by simp [_root_.Go.Proofs.Ytaaogcnjfkgnoaa.get])) hg3) ?_
      rintro e a9 w9 ⟨rfl, S9, μ9, hr9, hf9, hg9, hst9⟩
      have hl9 := hst9.keeps hr3 hl3 (hnl _)
      have e9 := hst3'.trans (hst9.less (Nat.le_of_eq (hn _).symm))
      have h49 : a9.tmps.getD 9 undef = .int .i64 ((k : Int) + 1) := slotV hf9 rfl
      refine ⟨⟨k + 1, S9, μ9, hlt, hr9, hf9.some (by simp [_root_.Go.Proofs.Ytaaogcnjfkgnoaa.get]), hg9, e9, hl9⟩, ?_⟩
      rw [h49, h9]
      simp only [numV]
      omega
  · rw [decide_eq_false (by omega)]
    refine wpIn_exit ?_
    simp only [Exit.then, Exit.inBlock, ↓reduceIte]
    obtain rfl : k = l.length := by omega
    rw [List.take_length] at hr3 hst3'
    exact ⟨hf3.nodef, _, results_none rfl _ _ _, _, rfl, w3, S3, _, _, .normal, ⟨rfl, rfl⟩, hr3, hst3', hl3, .inl ⟨rfl, rfl⟩⟩
end
end Go.Proofs.Ytaaogcnjfkgnoaa

namespace Go.Proofs.Ytaaogcnjfkgnoaa
open Go.RowKit
section
variable {P : Program} {G : Gl} {n d : Nat} {w w0 : World} {S S0 : SS} {μ : List Value} {H : List AObj}
theorem zmA {fnn : Func} {rs : List ResultVar} {X : AV} {T : Tm} {a : Act} {D K : Nat} (hrs : fnn.results.toList = rs) (hr : Rel w S μ H) (hf : Fr S μ ⟨K,[⟨.collected D,#[]⟩]⟩ T a) (hD : w.heap[D]? = some (.deferred (some []))) (hX : resC P H T rs fun ds=>ro H (oneOf ds) = X) (hl : ltT 0 X = true)
  (hst : Step 0 w0 S0 [] [] w S μ H) (h0 : w0.heap.size ≤ D) : LeavesInM Fence.wide d P fnn a.tmps (CPost w0 S0 [] [] fun r H'=>r = X ∧ H' = []) a.defers .returning w := by
 have hnd : ∀ r cs t p,(Obj.deferred r) ≠ .cells cs t p := fun _ _ _ _ e=>by cases e
 rw [hf.nodef]
 refine ⟨by simp, .inl ⟨D,_,rfl,run_takeDeferred hD,?_⟩⟩
 have hr2 := hr.touch (w' := w.putObj D (.deferred none)) D (NoCells.of hD (hnd _)) (z8Y _ _ _)
 obtain ⟨v,r,hrun,hrep,hk⟩ := zf6 (P := P) hrs hr2 hf (K := fun r=>ro H r = X) hX
 have hrepX : rep S μ X v := by rw [← hk];exact hrep.toRo hr2
 have hle : HLe H [] := by cases H <;> trivial
 refine ⟨v,hrun,v,X,[],S,μ.take 0,rfl,⟨rfl,rfl⟩,hr2.le hle rfl,hrepX.take hl,?_⟩
 exact (hst.touch (w' := w.putObj D (.deferred none)) (l := D) h0 rfl rfl rfl (Nat.le_of_eq (z7M w D _).symm) (z8Y _ _ _)).trans (Le.step (s := ⟨H,[]⟩) (s' := ⟨[],[]⟩) ⟨hle,rfl,trivial⟩ (Nat.le_refl _) _ _ _)
theorem znh {rs : List ResultVar} {e : Exit} {s : ASt} {X : AV} {H' : List AObj} (h : rawFK P n rs e s = some (X,H')) (hp : ∀ u,X ≠ PN u) : (e = .normal ∨ e = .ret) ∧ (resC P s.H s.T rs fun ds=>ro s.H (oneOf ds) = X) := by
 have key : (resEK P s.H s.T rs fun ds=>some (ro s.H (oneOf ds),s.H)) = some (X,H') → resC P s.H s.T rs fun ds=>ro s.H (oneOf ds) = X := fun q=>by
  rw [zf7] at q
  exact z9f (fun ds w=>by cases w;rfl) (zjb q)
 cases e with
 |normal=>exact ⟨.inl rfl,key h⟩
 |ret=>exact ⟨.inr rfl,key h⟩
 |exit id=>cases h
 |goto l=>cases h
 |panic ch =>
  exfalso
  have h : chE ch (fun u=>some (PN u,s.H)) = some (X,H') := h
  unfold chE at h
  split at h <;> cases h
  exact hp _ rfl
 |outgrown=>cases h
end
noncomputable def atC : Code := (Try.f78.body).getD .skip
theorem zsq : endC 4 atC = .seq (.seq AtB_c (.block 0 (.rangeFunc (.tmp 13) #[14] (.region 5 (regO (cdL AtR_c)).toArray false) (cdR AtR_c)))) AtC_c := by kernel_rfl
theorem zpF : AtR_c = .seq (.region 5 (regO (cdL AtR_c)).toArray false) (cdR AtR_c) := by kernel_rfl
theorem zsL : flatC (cdR AtR_c) = true := by kernel_rfl
abbrev T0a : Tm := [(3,OP 0 0),(4,OP 1 0),(5,OP 2 0),(6,OP 3 0),(7,OP 4 0)]
noncomputable abbrev recA (fn D : Nat) (tm : Array Value) : Loop := ⟨.ready,none,fn,tm,[14].toArray, .region 5 (regO (cdL AtR_c)).toArray false,cdR AtR_c,D⟩
theorem zqQ {d l : Nat} {r : Loop} {vs : Array Value} {w : World} {S : SS} {μ : List Value} {H : List AObj} {Q Q' : Exit → List AObj → Prop} (hq : ∀ e H2,Q e H2 → Q' e H2) (h : YieldAt Fence.wide d Try.prog l vs w (YPost l r w S μ H Q)) : YieldAt Fence.wide d Try.prog l vs w (YPost l r w S μ H Q') := by
 obtain ⟨fn,tmps,asg,bd,y1,y2⟩ := h
 refine ⟨fn,tmps,asg,bd,y1,y2.mono ?_⟩
 rintro e w' ⟨w2,S',μ',H',x,q,rest⟩
 exact ⟨w2,S',μ',H',x,hq _ _ q,rest⟩
theorem zry {e : Exit} (h : bA true = xA e) : e = .normal := by
 cases e <;> simp [xA] at h
 rfl
theorem zti {q : Int} {l : List Ch} {lp fn D d : Nat} {tm : Array Value} (a : Int × Co) (x : Ce) (vs : List Value) (w : World) (S : SS) (μ : List Value) (hr : Rel w S μ (atH q l a.1 a.2)) (hf : Fr S μ (F0 19) T0a ⟨tm,[]⟩) (hg : GOk GG S) (hl : w.heap[lp]? = some (.loop (recA fn D tm))) (h1 : vs.length = 1)
  (hv : ∀ (j : Nat) (d : AV) (v : Value),[ceE x][j]? = some d → vs[j]? = some v → rep S μ d v) :
  YieldAt Fence.wide d Try.prog lp vs.toArray w (YPost lp (recA fn D tm) w S μ (atH q l a.1 a.2) fun e H2=>e = .normal ∧ H2 = atH q l (keepC q a x).1 (keepC q a x).2) := by
 have hx := atR_s 1000 q a.1 a.2 l x
 unfold AtR at hx
 rw [zpF] at hx
 refine zqQ ?_ (zln (ps := [14]) (xs := [ceE x]) (T := T0a) (zym 1000) rfl hr hf hg (by decide) hl (by rw [h1];rfl) rfl hv zsL rfl hx)
 rintro e H2 ⟨q1,q2⟩
 exact ⟨zry q1,q2⟩
def atF (q : Int) (l : List Ch) : Co := (foldL (keepC q) (-1,co0 q) l).2
theorem at_c (q : Int) (l : List Ch) (hl : l.length ≤ 1000) (hc : ∀ c ∈ l,c.cs.length ≤ 1000) : ACp Try.prog GG 78 [chsA l,nA q] (.agg (coC (atF q l))) := by
 have hnd : ∀ r cs t p,(Obj.deferred r) ≠ .cells cs t p := fun _ _ _ _ e=>by cases e
 refine ⟨by kernel_rfl,?_⟩
 intro w S μ vs hr hg hlen hv
 have hμ : μ = [] := List.eq_nil_of_length_eq_zero hr.len
 subst hμ
 refine (callsIn_wide (n := 5)).1 ?_
 refine callsIn_of_wp_marks Try.func78 rfl trivial ?_
 rw [Try.ntmps78]
 have hfr := znY (S := S) (μ := []) (N := 19) (args := [chsA l,nA q]) (vs := vs) hlen (by simp) hv
 refine zi7 (n := 0) MIX (zxE 1000) 4 atC AtA_h ⟨[],argsT 0 [chsA l,nA q]⟩ (by kernel_rfl) (atA_s 1000 q (chsA l)) hr hfr hg ?_ (Nat.le_refl _)
 rintro a2 w2 ⟨S2,μ2,_,hr2,hf2,hg2,hst2⟩
 rw [zsq]
 refine wpIn_seq (wpIn_seq (wpIn_mono (zkC (rs := [3,4,5,6,7,13]) MIX (zzw 1000) (atB_s 1000 q (-1) (co0 q) l) hr2 hf2 hg2) ?_))
 rintro e a3 w3 ⟨rfl,S3,μ3,hr3,hf3,hg3,hst3⟩
 simp only [Exit.then]
 have hst3' : Step 0 w S [] [] w3 S3 μ3 (atH q l (-1) (co0 q)) := hst2.trans (hst3.less (Nat.zero_le _))
 refine wpIn_block ?_
 have hlaw := range_law (d := 4) (P := Try.prog) (G := GG) (g := .tmp 13) (ps := [14]) (assign := .region 5 (regO (cdL AtR_c)).toArray false) (body := cdR AtR_c) (N := 19) (f := 93) (caps := [OP 5 0]) (q2 := 0) (Q := fun e H2=>e = .normal ∧ H2 = atH q l (foldL (keepC q) (-1,co0 q) l).1 (atF q l)) hr3 hf3 hg3 rfl (by kernel_rfl) ?_
 refine wpIn_mono hlaw ?_
 ·rintro e a5 w5 ⟨S5,μ5,H5,⟨rfl,rfl⟩,hr5,hst5,hf5,hD5,hsz⟩
  simp only [Exit.inBlock,Exit.then]
  have hst5' := hst3'.trans (hst5.less (Nat.zero_le _))
  have hx := atC_s 1000 q (foldL (keepC q) (-1,co0 q) l).1 (atF q l) l [⟨.collected w3.heap.size,#[]⟩]
  refine wpIn_wide.2 (wp_mono (zat (n := 6) MIX (zy2 1000) AtC_c AtC_h ⟨atH q l (foldL (keepC q) (-1,co0 q) l).1 (atF q l),[(4,OP 1 0),(5,OP 2 0)]⟩ _ (Nat.le_refl _) hx w5 S5 μ5 a5 hr5 (hf5.some (by simp [_root_.Go.Proofs.Ytaaogcnjfkgnoaa.get])) (hg3.ext hst5.still)) ?_)
  rintro e a6 w6 ⟨s6,S6,μ6,hq6,hr6,hf6,hst6⟩
  obtain ⟨he6,hX6⟩ := znh (rs := [.cell 4 73]) hq6 (fun u h=>by cases h)
  have hend := zmA (P := Try.prog) (d := 5) (fnn := Try.f78) (rs := [.cell 4 73]) (X := .agg (coC (atF q l))) rfl hr6 hf6 (hst6.keeps hr5 hD5 (hnd _)) hX6 rfl (hst5'.trans (hst6.less (Nat.zero_le _))) hst3'.size
  rcases he6 with rfl|rfl
  ·exact hend
  ·exact hend
 ·intro lp D fn w1 us hr1 hl1 hus hu
  exact it_calls (β := Int × Co) (C := fun a=>atH q l a.1 a.2) (R := keepC q) (b0 := (-1,co0 q)) (b := 5) (r := recA fn D a3.tmps) (T0 := T0a) (tm := a3.tmps) (K := 19) (fun a=>rfl) (fun a=>rfl) (fun a=>rfl) hl hc (fun a x vs w S μ h1 h2 h3 h4 h5 h6=>zti a x vs w S μ h1 h2 h3 h4 h5 h6) (by decide) hr1 ⟨hf3.size,rfl,(hf3.some (T' := T0a) (by simp [_root_.Go.Proofs.Ytaaogcnjfkgnoaa.get])).slot⟩ hg3 hl1 hus hu
end Go.Proofs.Ytaaogcnjfkgnoaa

namespace Go.Proofs.Ytaaogcnjfkgnoaa
open Go.RowKit
def FitL (l : List Ch) : Prop := l.length ≤ 1000 ∧ ∀ c ∈ l,c.cs.length ≤ 1000
noncomputable def zep (m : Nat) : List AV → RO := orac (ι := List Ch × Int) (fun p=>[chsA p.1,nA p.2]) (fun p=>.agg (coC (atF p.2 p.1))) (fun p=>FitL p.1)
theorem zlS (m : Nat) : ∀ args X H',zep m args = some (X,H') → ACp Try.prog GG 78 args X := zoE (by
 rintro ⟨l,q⟩ h
 exact at_c q l h.1 h.2)
theorem zrg {x y : Sm} (h : smE x = smE y) : x = y := by
 cases x;cases y
 unfold smE smC at h
 injection h with h
 simp only [List.cons.injEq,and_true] at h
 obtain ⟨a,b,c,d,e⟩ := h
 rw [zgK a,zgK b,zgK c,zgK d,zgK e]
theorem ziY {α : Type} {f : α → AV} (hf : ∀ {x y},f x = f y → x = y) : ∀ {l k : List α},l.map f = k.map f → l = k
 |[],[],_=>rfl
 |[],_ :: _,h=>by cases h
 |_ :: _,[],h=>by cases h
 |a :: l,b :: k,h=>by
  simp only [List.map_cons,List.cons.injEq] at h
  rw [hf h.1,ziY hf h.2]
theorem zvU {x y : Ce} (h : ceE x = ceE y) : x = y := by
 cases x;cases y
 unfold ceE ceC at h
 injection h with h
 simp only [List.cons.injEq,and_true] at h
 obtain ⟨a,b,c,d,e⟩ := h
 injection e with e
 rw [zgK a,zgK b,zgK c,zyS d,ziY zrg e]
theorem zv2 {x y : Ch} (h : cgE x = cgE y) : x = y := by
 cases x;cases y
 unfold cgE cgC at h
 injection h with h
 simp only [List.cons.injEq,and_true] at h
 obtain ⟨a,b,c,d,e,f⟩ := h
 injection e with e
 injection f with f
 rw [zgK a,zgK b,zgK c,zgK d,ziY zrg e,ziY zvU f]
theorem znI (m : Nat) (l : List Ch) (q : Int) (h : FitL l) : zep m [chsA l,nA q] = some (.agg (coC (atF q l)),[]) := zrB (ι := List Ch × Int) (by
 rintro ⟨l,q⟩ ⟨k,q'⟩ e
 dsimp only at e ⊢
 simp only [List.cons.injEq,and_true] at e
 obtain ⟨e1,e2⟩ := e
 unfold chsA at e1
 injection e1 with e1
 rw [zgK e2,ziY zv2 e1]) (i := (l,q)) h
end Go.Proofs.Ytaaogcnjfkgnoaa

namespace Go.Proofs.Ytaaogcnjfkgnoaa
open Go.RowKit
def cP (p : Nat → Bool) : Nat := ((List.range 64).filter p).length
theorem zrW {p q : Nat → Bool} (h : ∀ i,i < 64 → p i = true → q i = true) : cP p ≤ cP q := by
 unfold cP
 have key : ∀ l : List Nat,(∀ i ∈ l,p i = true → q i = true) → (l.filter p).length ≤ (l.filter q).length := by
  intro l
  induction l with
  |nil=>intro _;exact Nat.le_refl _
  |cons a l ih =>
   intro h
   have h1 := ih fun i hi=>h i (List.mem_cons_of_mem _ hi)
   have h2 := h a (List.mem_cons_self ..)
   simp only [List.filter_cons]
   cases hp : p a with
   |true=>rw [h2 hp];simp;omega
   |false=>cases q a <;> simp <;> omega
 exact key _ fun i hi=>h i (List.mem_range.1 hi)
theorem zxW (p q : Nat → Bool) : cP p + cP q = cP (fun i=>p i && q i) + cP (fun i=>p i || q i) := by
 unfold cP
 have key : ∀ l : List Nat,(l.filter p).length + (l.filter q).length = (l.filter fun i=>p i && q i).length + (l.filter fun i=>p i || q i).length := by
  intro l
  induction l with
  |nil=>rfl
  |cons a l ih =>
   simp only [List.filter_cons]
   cases hp : p a <;> cases hq : q a <;> simp <;> omega
 exact key _
theorem cnt_P (s : Nat) : cntS s = cP s.testBit := rfl
theorem zpN {p q : Nat → Bool} (h : ∀ i,i < 64 → p i = q i) : cP p = cP q :=
 Nat.le_antisymm (zrW fun i hi k=>by rw [← h i hi];exact k) (zrW fun i hi k=>by rw [h i hi];exact k)
theorem fN_ok {n : Int} (h : okN n = true) : n = 3 * (fN n : Int) + 1 := by
 unfold fN;rw [h]
 rcases okN_iff.1 h with rfl|rfl|rfl|rfl|rfl <;> decide
theorem zxa {t i : Nat} (ht : t < 2 ^ 64) (hi : i < 64) : (18446744073709551615 - t).testBit i = !t.testBit i := by
 have e : 18446744073709551615 - t = 2 ^ 64 - (t + 1) := by omega
 rw [e,Nat.testBit_two_pow_sub_succ ht]
 simp [hi]
theorem zoT {s : Nat} {n : Int} : cntS (s &&& allN n) = cP fun i=>s.testBit i && decide ((i : Int) < n) := by
 rw [cnt_P]
 exact zpN fun i hi=>by rw [Nat.testBit_and,zp5 hi]
theorem zmP (m : Nat) (n : Int) (hm : 6 < m) : z4G m (nA n) = some (nA (fN n),[]) := by
 rw [zev]
 refine zmm (ι := {k : Nat // 1 ≤ k ∧ k ≤ 6 ∧ ∀ j : Nat,1 ≤ j → j < k → ¬ n = 3 * (j : Int) + 1}) (fun k=>⟨[],[(0,nA n),(3,nA k.1)]⟩) (fun k=>6 - k.1) (fun _=>some (nA (fN n),[])) ?_ ⟨1,by omega,by omega,fun j h1 h2=>by omega⟩ (by dsimp only;omega)
 rintro ⟨k,hk1,hk,hall⟩ kc hkc
 dsimp only at hkc ⊢
 rw [zcf]
 by_cases hlt : k ≤ 5
 ·have hlt' : (k : Int) ≤ 5 := by omega
  by_cases he : n = 3 * (k : Int) + 1
  ·have hf : (fN n : Int) = k := by
    have ho : okN n = true := okN_iff.2 (by omega)
    have := fN_ok ho
    omega
   simp (config := {maxSteps := 4000000,implicitDefEqProofs := false}) (disch := omega) only [go_sem,↓reduceIte,Nat.reduceAdd,Nat.reduceSub,Nat.reduceMul,Nat.reduceLeDiff,Nat.reduceLT,Int.reduceEq,Int.reduceNe,Int.reduceLT,Int.reduceLE,Int.reduceAdd,Int.reduceSub,Int.reduceMul,Int.reduceNeg,Nat.zero_add,Nat.add_zero,Nat.mul_one,Int.toNat_natCast,Int.natCast_zero,Int.cast_ofNat_Int,or_false,false_or,or_true,true_or,Int.reduceToNat,Nat.sub_zero,Int.natCast_nonneg,Int.toNat_zero,Bool.true_and,Bool.and_true,Bool.false_and,Bool.and_false,Bool.true_or,Bool.or_true,Bool.false_or,Bool.or_false,Bool.not_true,Bool.not_false,Bool.not_not,true_and,and_true,false_and,and_false,not_true_eq_false,not_false_eq_true,eq_self,decide_true,decide_false,ne_eq,implies_true,forall_const,true_implies,false_implies,Bool.true_eq_false,Bool.false_eq_true,reduceCtorEq,List.map_cons,List.map_nil,List.all_cons,List.all_nil,List.length_cons,List.length_nil,List.length_map,List.length_append,List.nil_append,List.cons_append,List.set_cons_zero,List.set_cons_succ,List.set_nil,List.drop_zero,List.drop_succ_cons,List.drop_nil,List.take_zero,List.take_succ_cons,List.take_nil,Option.map_some,Option.map_none,Option.isSome_some,Nat.reduceEqDiff,Nat.reduceBEq,Nat.reduceGT,List.all_append,List.all_map,Function.comp_def,decide_eq_true_eq,Bool.and_eq_true,beq_self_eq_true,or_self,and_self,ite_true,ite_false,Nat.le_refl,Bool.not_eq_true,decide_not,Bool.not_eq_true',decide_eq_false_iff_not,Bool.not_eq_false,Bool.or_eq_true,if_true,if_false,ite_self,u_roF,u_cvF,u_cvC,u_ceT,u_ceK,z2m,hlt',w_i64,he]
   rw [← he,hf]
  ·have hs := hkc ⟨k + 1,by omega,by omega,fun j h1 h2=>by
    by_cases e : j = k
    ·subst e;exact he
    ·exact hall j h1 (by omega)⟩ (by dsimp only;omega)
   simp (config := {maxSteps := 4000000,implicitDefEqProofs := false}) (disch := omega) only [go_sem,↓reduceIte,Nat.reduceAdd,Nat.reduceSub,Nat.reduceMul,Nat.reduceLeDiff,Nat.reduceLT,Int.reduceEq,Int.reduceNe,Int.reduceLT,Int.reduceLE,Int.reduceAdd,Int.reduceSub,Int.reduceMul,Int.reduceNeg,Nat.zero_add,Nat.add_zero,Nat.mul_one,Int.toNat_natCast,Int.natCast_zero,Int.cast_ofNat_Int,or_false,false_or,or_true,true_or,Int.reduceToNat,Nat.sub_zero,Int.natCast_nonneg,Int.toNat_zero,Bool.true_and,Bool.and_true,Bool.false_and,Bool.and_false,Bool.true_or,Bool.or_true,Bool.false_or,Bool.or_false,Bool.not_true,Bool.not_false,Bool.not_not,true_and,and_true,false_and,and_false,not_true_eq_false,not_false_eq_true,eq_self,decide_true,decide_false,ne_eq,implies_true,forall_const,true_implies,false_implies,Bool.true_eq_false,Bool.false_eq_true,reduceCtorEq,List.map_cons,List.map_nil,List.all_cons,List.all_nil,List.length_cons,List.length_nil,List.length_map,List.length_append,List.nil_append,List.cons_append,List.set_cons_zero,List.set_cons_succ,List.set_nil,List.drop_zero,List.drop_succ_cons,List.drop_nil,List.take_zero,List.take_succ_cons,List.take_nil,Option.map_some,Option.map_none,Option.isSome_some,Nat.reduceEqDiff,Nat.reduceBEq,Nat.reduceGT,List.all_append,List.all_map,Function.comp_def,decide_eq_true_eq,Bool.and_eq_true,beq_self_eq_true,or_self,and_self,ite_true,ite_false,Nat.le_refl,Bool.not_eq_true,decide_not,Bool.not_eq_true',decide_eq_false_iff_not,Bool.not_eq_false,Bool.or_eq_true,if_true,if_false,ite_self,u_roF,u_cvF,u_cvC,u_ceT,u_ceK,z2m,hlt',w_i64,he]
   exact hs
 ·have hlt' : ¬ (k : Int) ≤ 5 := by omega
  have hf : fN n = 0 := by
   unfold fN
   rw [if_neg]
   intro ho
   have h1 := hall 1 (by omega) (by omega)
   have h2 := hall 2 (by omega) (by omega)
   have h3 := hall 3 (by omega) (by omega)
   have h4 := hall 4 (by omega) (by omega)
   have h5 := hall 5 (by omega) (by omega)
   rcases okN_iff.1 ho with q|q|q|q|q <;> omega
  simp (config := {maxSteps := 4000000,implicitDefEqProofs := false}) only [go_sem,↓reduceIte,Nat.reduceAdd,Nat.reduceSub,Nat.reduceMul,Nat.reduceLeDiff,Nat.reduceLT,Int.reduceEq,Int.reduceNe,Int.reduceLT,Int.reduceLE,Int.reduceAdd,Int.reduceSub,Int.reduceMul,Int.reduceNeg,Nat.zero_add,Nat.add_zero,Nat.mul_one,Int.toNat_natCast,Int.natCast_zero,Int.cast_ofNat_Int,or_false,false_or,or_true,true_or,Int.reduceToNat,Nat.sub_zero,Int.natCast_nonneg,Int.toNat_zero,Bool.true_and,Bool.and_true,Bool.false_and,Bool.and_false,Bool.true_or,Bool.or_true,Bool.false_or,Bool.or_false,Bool.not_true,Bool.not_false,Bool.not_not,true_and,and_true,false_and,and_false,not_true_eq_false,not_false_eq_true,eq_self,decide_true,decide_false,ne_eq,implies_true,forall_const,true_implies,false_implies,Bool.true_eq_false,Bool.false_eq_true,reduceCtorEq,List.map_cons,List.map_nil,List.all_cons,List.all_nil,List.length_cons,List.length_nil,List.length_map,List.length_append,List.nil_append,List.cons_append,List.set_cons_zero,List.set_cons_succ,List.set_nil,List.drop_zero,List.drop_succ_cons,List.drop_nil,List.take_zero,List.take_succ_cons,List.take_nil,Option.map_some,Option.map_none,Option.isSome_some,Nat.reduceEqDiff,Nat.reduceBEq,Nat.reduceGT,List.all_append,List.all_map,Function.comp_def,decide_eq_true_eq,Bool.and_eq_true,beq_self_eq_true,or_self,and_self,ite_true,ite_false,Nat.le_refl,Bool.not_eq_true,decide_not,Bool.not_eq_true',decide_eq_false_iff_not,Bool.not_eq_false,Bool.or_eq_true,if_true,if_false,ite_self,u_roF,u_cvF,u_cvC,u_ceT,u_ceK,z2m,hlt']
  rw [zcy,hf]
  simp (config := {maxSteps := 4000000,implicitDefEqProofs := false}) only [go_sem,↓reduceIte,Nat.reduceAdd,Nat.reduceSub,Nat.reduceMul,Nat.reduceLeDiff,Nat.reduceLT,Int.reduceEq,Int.reduceNe,Int.reduceLT,Int.reduceLE,Int.reduceAdd,Int.reduceSub,Int.reduceMul,Int.reduceNeg,Nat.zero_add,Nat.add_zero,Nat.mul_one,Int.toNat_natCast,Int.natCast_zero,Int.cast_ofNat_Int,or_false,false_or,or_true,true_or,Int.reduceToNat,Nat.sub_zero,Int.natCast_nonneg,Int.toNat_zero,Bool.true_and,Bool.and_true,Bool.false_and,Bool.and_false,Bool.true_or,Bool.or_true,Bool.false_or,Bool.or_false,Bool.not_true,Bool.not_false,Bool.not_not,true_and,and_true,false_and,and_false,not_true_eq_false,not_false_eq_true,eq_self,decide_true,decide_false,ne_eq,implies_true,forall_const,true_implies,false_implies,Bool.true_eq_false,Bool.false_eq_true,reduceCtorEq,List.map_cons,List.map_nil,List.all_cons,List.all_nil,List.length_cons,List.length_nil,List.length_map,List.length_append,List.nil_append,List.cons_append,List.set_cons_zero,List.set_cons_succ,List.set_nil,List.drop_zero,List.drop_succ_cons,List.drop_nil,List.take_zero,List.take_succ_cons,List.take_nil,Option.map_some,Option.map_none,Option.isSome_some,Nat.reduceEqDiff,Nat.reduceBEq,Nat.reduceGT,List.all_append,List.all_map,Function.comp_def,decide_eq_true_eq,Bool.and_eq_true,beq_self_eq_true,or_self,and_self,ite_true,ite_false,Nat.le_refl,Bool.not_eq_true,decide_not,Bool.not_eq_true',decide_eq_false_iff_not,Bool.not_eq_false,Bool.or_eq_true,if_true,if_false,ite_self,u_roF,u_cvF,u_cvC,u_ceT,u_ceK,z2m]
theorem has_s (m s : Nat) (n : Int) (h : s < 2 ^ 64) : zdV m (qA s) (nA n) = some (bA (!decide ((s &&& qb n : Nat) = 0)),[]) := by
 have hb := bit_s m n
 have ha := bits_and_u64_nat s (qb n) h (qb_lt n)
 have e : decide (((s &&& qb n : Nat) : Int) = 0) = decide ((s &&& qb n : Nat) = 0) := by rw [decide_eq_decide];omega
 rw [zlI]
 simp (config := {maxSteps := 4000000,implicitDefEqProofs := false}) only [go_sem,↓reduceIte,Nat.reduceAdd,Nat.reduceSub,Nat.reduceMul,Nat.reduceLeDiff,Nat.reduceLT,Int.reduceEq,Int.reduceNe,Int.reduceLT,Int.reduceLE,Int.reduceAdd,Int.reduceSub,Int.reduceMul,Int.reduceNeg,Nat.zero_add,Nat.add_zero,Nat.mul_one,Int.toNat_natCast,Int.natCast_zero,Int.cast_ofNat_Int,or_false,false_or,or_true,true_or,Int.reduceToNat,Nat.sub_zero,Int.natCast_nonneg,Int.toNat_zero,Bool.true_and,Bool.and_true,Bool.false_and,Bool.and_false,Bool.true_or,Bool.or_true,Bool.false_or,Bool.or_false,Bool.not_true,Bool.not_false,Bool.not_not,true_and,and_true,false_and,and_false,not_true_eq_false,not_false_eq_true,eq_self,decide_true,decide_false,ne_eq,implies_true,forall_const,true_implies,false_implies,Bool.true_eq_false,Bool.false_eq_true,reduceCtorEq,List.map_cons,List.map_nil,List.all_cons,List.all_nil,List.length_cons,List.length_nil,List.length_map,List.length_append,List.nil_append,List.cons_append,List.set_cons_zero,List.set_cons_succ,List.set_nil,List.drop_zero,List.drop_succ_cons,List.drop_nil,List.take_zero,List.take_succ_cons,List.take_nil,Option.map_some,Option.map_none,Option.isSome_some,Nat.reduceEqDiff,Nat.reduceBEq,Nat.reduceGT,List.all_append,List.all_map,Function.comp_def,decide_eq_true_eq,Bool.and_eq_true,beq_self_eq_true,or_self,and_self,ite_true,ite_false,Nat.le_refl,Bool.not_eq_true,decide_not,Bool.not_eq_true',decide_eq_false_iff_not,Bool.not_eq_false,Bool.or_eq_true,if_true,if_false,ite_self,u_roF,u_cvF,u_cvC,u_ceT,u_ceK,z2m,hb,ha,e]
theorem zxe {a : Nat} (h : a < 64) : cP (fun i=>decide (i = a)) = 1 := by
 have : ∀ a,a < 64 → cP (fun i=>decide (i = a)) = 1 := by decide +kernel
 exact this a h
theorem zzp {p q : Nat → Bool} {a : Nat} (h : a < 64) (hp : p a = false) (hq : ∀ i,i < 64 → q i = (p i || decide (i = a))) : cP q = cP p + 1 := by
 have h1 := zxW p (fun i=>decide (i = a))
 have h2 : cP (fun i=>p i && decide (i = a)) = 0 := by
  unfold cP
  rw [List.length_eq_zero_iff,List.filter_eq_nil_iff]
  intro i _
  by_cases e : i = a
  ·subst e;simp [hp]
  ·simp [e]
 rw [zxe h,h2,← zpN hq] at h1
 omega
end Go.Proofs.Ytaaogcnjfkgnoaa

namespace Go.Proofs.Ytaaogcnjfkgnoaa
open Go.RowKit
attribute [local go_sem] Nat.zero_add Nat.add_zero Nat.mul_one Int.toNat_natCast Int.natCast_zero Int.cast_ofNat_Int or_false false_or or_true true_or Nat.sub_zero Int.natCast_nonneg Int.toNat_zero Bool.true_and Bool.and_true Bool.false_and Bool.and_false Bool.true_or Bool.or_true Bool.false_or Bool.or_false Bool.not_true Bool.not_false Bool.not_not true_and and_true false_and and_false not_true_eq_false not_false_eq_true eq_self decide_true decide_false ne_eq implies_true forall_const true_implies false_implies Bool.true_eq_false Bool.false_eq_true List.map_cons List.map_nil List.all_cons List.all_nil List.length_cons List.length_nil List.length_map List.length_append List.nil_append List.cons_append List.set_cons_zero List.set_cons_succ List.set_nil List.drop_zero List.drop_succ_cons List.drop_nil List.take_zero List.take_succ_cons List.take_nil Option.map_some Option.map_none Option.isSome_some List.all_append List.all_map Function.comp_def decide_eq_true_eq Bool.and_eq_true beq_self_eq_true or_self and_self ite_true ite_false Nat.le_refl Bool.not_eq_true decide_not Bool.not_eq_true' decide_eq_false_iff_not Bool.not_eq_false Bool.or_eq_true if_true if_false ite_self u_roF u_cvF u_cvC u_ceT u_ceK z2m sm_it z6A z37 z5m z6p z3d sm_ro z3i sm_sl z6a z69 sm_fr z1F z13 sm_kd z28 z12 sm_vw z1u z0P sm_sq z1R z0S sm_tm z1q z0L z2R z2b z3k z63 z64 z29 z3g z1p z1y z2F z39 ce_it z6J z31 z4Z z6x z3A ce_ro z3t ce_sl z6d z6g ce_sq z1X z14 ce_vw z1C z0H ce_tm z1U z0W z33 z0v z0n ce_vs z1P z0X z36 z1t z3r z6F z6H z1T z2X z1z z2c z2M z2V cg_it z67 z3s z61 z6n z2U cg_ro z3E cg_sl z6b z6u cg_fr z1J z0N cg_vw z1Q z11 cg_st z1M z0G cg_rt z1H z17 cg_pf z1Z z0E cg_cs z1N z0I z32 z1I z3b z6y z6c z1V z3v z23 z1L z35 z3p ms_it z6o z3n z6C z6h z3h ms_ro z3e ms_sl z6E z6r ms_kd z1S z0R ms_fr z1v z0O ms_vw z25 z0U ms_sq z1s z0Z ms_tm z1G z0F z3c z0u z0o ms_vs z1E z0Y z68 z0Q z0x z3C z1W z3x z65 z6K z20 z3D z24 z27 z3q z2Y co_it z6M z2W z6D z6m z3m co_ro z3o co_sl z6w z66 co_sq z26 z0V co_tm z1B z0K z3z z0y z0p co_nl z1w z0M z3y z1o z3l z6N z6v z1K z3j z1Y z1O z2N z2Z sd_it z6e z3B z6z z6G z3a sd_ro z2T sd_sl z6I z6i sd_wh z21 z15 sd_fr z1x z0T sd_kd z1D z18 sd_vw z1A z0J sd_sq z22 z16 sd_tm z1r z10 z30 z38 z6f z5O u_bz u_bi1 u_bi2 u_bi3 u_bi4 u_bi5 u_bi6 u_bi7 ltO_o ltO_r u_eqE
attribute [local go_sem_proc] Nat.reduceAdd Nat.reduceSub Nat.reduceMul Nat.reduceLeDiff Nat.reduceLT Int.reduceEq Int.reduceNe Int.reduceLT Int.reduceLE Int.reduceAdd Int.reduceSub Int.reduceMul Int.reduceNeg Int.reduceToNat reduceCtorEq Nat.reduceEqDiff Nat.reduceBEq Nat.reduceGT
attribute [local go_sem_proc ↓] reduceIte
def dueB (q : Int) : Bool := decide (0 < q) && decide (q % 4 = 0)
theorem due_s (m : Nat) (q : Int) : zfT m (nA q) = some (bA (dueB q),[]) := by
 rw [zmq]
 unfold dueB
 by_cases h1 : 0 < q
 ·have h2 : q.tmod 4 = q % 4 := zpn (by omega)
  simp (config := {maxSteps := 4000000,implicitDefEqProofs := false}) (disch := omega) only [go_sem,h1,h2]
 ·simp (config := {maxSteps := 4000000,implicitDefEqProofs := false}) (disch := omega) only [go_sem,h1]
theorem zzB (m : Nat) (q : Int) : z9e m (nA q) = some (bA (dueB q),[]) := by
 rw [zgS]
 unfold dueB
 by_cases h1 : 0 < q
 ·have h2 : q.tmod 4 = q % 4 := zpn (by omega)
  simp (config := {maxSteps := 4000000,implicitDefEqProofs := false}) (disch := omega) only [go_sem,h1,h2]
 ·simp (config := {maxSteps := 4000000,implicitDefEqProofs := false}) (disch := omega) only [go_sem,h1]
def lastQ (st : Int) (cs : List Ce) : Nat → Int
 |0=>st
 |j + 1=>(cs.getD j Ce.zero).sq
theorem zfM {st : Int} {cs : List Ce} {j : Nat} (h : j < cs.length) : lastQ st cs (j + 1) = cs[j].sq := by
 simp [lastQ,List.getD,h]
structure CeOk (st : Int) (cs : List Ce) (j : Nat) (x : Ce) : Prop where
 lo : lastQ st cs j < x.sq
 hi : x.sq ≤ st + 16
 vw : 0 ≤ x.vw
 bd : x.body.length ≤ 65536
def CsOk (st : Int) (cs : List Ce) : Prop := ∀ (j : Nat) (h : j < cs.length),CeOk st cs j cs[j]
theorem CsOk.last {st : Int} {cs : List Ce} (h : CsOk st cs) : ∀ j,j ≤ cs.length → st ≤ lastQ st cs j
 |0,_=>Int.le_refl _
 |j + 1,hj=>by
  have h1 := CsOk.last h j (by omega)
  have h2 := (h j (by omega)).lo
  rw [zfM (by omega)]
  omega
theorem CsOk.st {st : Int} {cs : List Ce} (h : CsOk st cs) {j : Nat} (hj : j < cs.length) : st < cs[j].sq := by
 have h1 := h.last j (by omega)
 have h2 := (h j hj).lo
 omega
theorem zxb (m : Nat) (x : Ch) (hm : x.cs.length < m) (h0 : 0 ≤ x.st) (h1 : x.st ≤ 2147483647) (hl : x.cs.length ≤ 1000) (hcs : CsOk x.st x.cs) : zax m (cgE x) = some (bA true,[]) := by
 rw [zjj,cg_it]
 simp (config := {maxSteps := 4000000,implicitDefEqProofs := false}) (disch := omega) only [go_sem,]
 refine z4a (m := m) (ι := {k : Nat // k ≤ x.cs.length}) (fun k=>⟨[⟨1,z00,0,cgC x⟩],[(1,OP 0 0),(3,nA (lastQ x.st x.cs k.1)),(9,cesA x.cs),(10,nA x.cs.length),(11,nA k.1)]⟩) (fun k=>x.cs.length - k.1) (fun _=>some (bA true,[])) ?_ ⟨0,Nat.zero_le _⟩ (by dsimp only;omega)
 rintro kx hkx ⟨k,hk⟩ kc hkc
 dsimp only at hkc ⊢
 rw [zgH]
 unfold cesA at hkc ⊢
 by_cases hlt : k < x.cs.length
 ·have hlt' : (k : Int) < (x.cs.length : Int) := by omega
  obtain ⟨c1,c2,c3,c4⟩ := hcs k hlt
  have c5 := hcs.st hlt
  have step := hkc ⟨k + 1,by omega⟩ (by dsimp only;omega)
  dsimp only at step
  rw [zfM hlt] at step
  have d1 : ¬ x.cs[k].sq ≤ lastQ x.st x.cs k := by omega
  have d2 : ¬ (16 : Int) < x.cs[k].sq - x.st := by omega
  have d3 : ¬ x.cs[k].vw < 0 := by omega
  have d4 : ¬ (65536 : Int) < (x.cs[k].body.length : Int) := by omega
  have d5 : IntKind.i64.wrap (x.cs[k].sq - x.st) = x.cs[k].sq - x.st := w_i64 (by omega) (by omega)
  simp (config := {maxSteps := 4000000,implicitDefEqProofs := false}) (disch := omega) only [go_sem,hlt',hlt,d1,d2,d3,d4,d5,w_i64,zh2,zhc,zh5]
  exact step
 ·obtain rfl : k = x.cs.length := by omega
  have hlt' : ¬ (x.cs.length : Int) < (x.cs.length : Int) := Int.lt_irrefl _
  simp (config := {maxSteps := 4000000,implicitDefEqProofs := false}) (disch := omega) only [go_sem,hlt',hkx,zgZ]
def setN (l : List Ch) (k : Nat) : Nat := (l.take k).foldl (fun s c=>s ||| qb c.fr) 0
theorem zi2 {l : List Ch} {k : Nat} (h : k < l.length) : setN l (k + 1) = setN l k ||| qb l[k].fr := by
 unfold setN
 rw [List.take_succ_eq_append_getElem h,List.foldl_append]
 rfl
theorem zoo (l : List Ch) : ∀ k,k ≤ l.length → setN l k < 2 ^ 64
 |0,_=>by unfold setN;simp
 |k + 1,hk=>by
  rw [zi2 (by omega)]
  exact Nat.or_lt_two_pow (zoo l k (by omega)) (qb_lt _)
structure ChOk (n : Int) (c : Ch) : Prop where
 f0 : 0 ≤ c.fr
 fn : c.fr < n
 sd : c.st = 0 ∨ dueB c.st = true
 sl : c.st ≤ 2147483647
 cs : CsOk c.st c.cs
theorem ChOk.s0 {n : Int} {c : Ch} (h : ChOk n c) : 0 ≤ c.st := by
 rcases h.sd with q|q
 ·omega
 ·unfold dueB at q
  simp only [Bool.and_eq_true,decide_eq_true_eq] at q
  omega
structure LOk (n : Int) (l : List Ch) : Prop where
 nn : okN n = true
 len : 2 * fN n + 1 ≤ l.length
 all : ∀ c ∈ l,ChOk n c
 one : (l.map Ch.fr).Nodup
theorem znQ {n : Int} {l : List Ch} (hn : okN n = true) (h : ∀ c ∈ l,ChOk n c) : ∀ k,k ≤ l.length → ∀ j,j < 64 → ((setN l k).testBit j = true ↔ ∃ i,∃ h : i < l.length,i < k ∧ l[i].fr = j)
 |0,_,j,hj=>by
  have : setN l 0 = 0 := rfl
  rw [this]
  simp
 |k + 1,hk,j,hj=>by
  rw [zi2 (by omega),bitw hj,Bool.or_eq_true,znQ hn h k (by omega) j hj,decide_eq_true_eq]
  constructor
  ·rintro (⟨i,h1,h2,h3⟩|h3)
   ·exact ⟨i,h1,by omega,h3⟩
   ·exact ⟨k,by omega,by omega,h3⟩
  ·rintro ⟨i,h1,h2,h3⟩
   by_cases e : i = k
   ·subst e;exact .inr h3
   ·exact .inl ⟨i,h1,by omega,h3⟩
theorem zyM {a : Nat} (h : a ≤ 63) : qb a = 2 ^ a := by unfold qb;rw [if_pos (by omega)];simp
theorem zxU {s a : Nat} (h : a ≤ 63) : (s &&& qb a = 0) ↔ s.testBit a = false := by
 rw [zyM h]
 constructor
 ·intro q
  have : (s &&& 2 ^ a).testBit a = false := by rw [q];exact Nat.zero_testBit a
  rwa [Nat.testBit_and,Nat.testBit_two_pow_self,Bool.and_true] at this
 ·intro q
  apply Nat.eq_of_testBit_eq
  intro j
  rw [Nat.testBit_and,Nat.testBit_two_pow,Nat.zero_testBit]
  by_cases e : a = j
  ·subst e;simp [q]
  ·simp [e]
section
variable {n : Int} {l : List Ch}
theorem LOk.n64 (h : LOk n l) : n ≤ 16 := by
 rcases okN_iff.1 h.nn with q|q|q|q|q <;> omega
theorem LOk.fresh (h : LOk n l) {k : Nat} (hk : k < l.length) : (setN l k).testBit l[k].fr.toNat = false := by
 have hc := h.all l[k] (List.getElem_mem hk)
 have h1 := hc.f0
 have h2 := hc.fn
 have h3 := h.n64
 have hj : l[k].fr.toNat < 64 := by omega
 have key := znQ h.nn h.all k (by omega) l[k].fr.toNat hj
 cases hb : (setN l k).testBit l[k].fr.toNat with
 |false=>rfl
 |true =>
  exfalso
  obtain ⟨i,hi,hik,he⟩ := key.1 hb
  have h4 : l[i].fr = l[k].fr := by rw [he,Int.toNat_of_nonneg h1]
  have h5 := (List.pairwise_iff_getElem.1 h.one) i k (by simpa using hi) (by simpa using hk) hik
  rw [List.getElem_map,List.getElem_map] at h5
  exact h5 h4
theorem LOk.has (h : LOk n l) {k : Nat} (hk : k < l.length) : (setN l k &&& qb l[k].fr : Nat) = 0 := by
 have hc := h.all l[k] (List.getElem_mem hk)
 have h1 := hc.f0
 have h2 := hc.fn
 have h3 := h.n64
 have h4 := h.fresh hk
 obtain ⟨a,ha⟩ : ∃ a : Nat,l[k].fr = a := ⟨l[k].fr.toNat,by omega⟩
 rw [ha] at h4 ⊢
 exact (zxU (by omega)).2 (by simpa using h4)
theorem LOk.cnt (h : LOk n l) : ∀ k,k ≤ l.length → cntS (setN l k &&& allN n) = k
 |0,_=>by
  rw [zoT]
  have : setN l 0 = 0 := rfl
  rw [this]
  unfold cP
  rw [List.length_eq_zero_iff,List.filter_eq_nil_iff]
  intro i _
  simp
 |k + 1,hk=>by
  have ih := LOk.cnt h k (by omega)
  have hk' : k < l.length := by omega
  have hc := h.all l[k] (List.getElem_mem hk')
  have h1 := hc.f0
  have h2 := hc.fn
  have h3 := h.n64
  have h4 := h.fresh hk'
  rw [zoT] at ih ⊢
  rw [zzp (p := fun i=>(setN l k).testBit i && decide ((i : Int) < n)) (a := l[k].fr.toNat) (by omega) (by simp [h4]) (fun i hi=>by
   rw [zi2 hk',bitw hi]
   have e : decide (l[k].fr = (i : Int)) = decide (i = l[k].fr.toNat) := by rw [decide_eq_decide];omega
   rw [e]
   by_cases q : i = l[k].fr.toNat
   ·have : (i : Int) < n := by omega
    simp [q,this]
    omega
   ·simp [q]),ih]
end
end Go.Proofs.Ytaaogcnjfkgnoaa

namespace Go.Proofs.Ytaaogcnjfkgnoaa
open Go.RowKit
attribute [local go_sem] Nat.zero_add Nat.add_zero Nat.mul_one Int.toNat_natCast Int.natCast_zero Int.cast_ofNat_Int or_false false_or or_true true_or Nat.sub_zero Int.natCast_nonneg Int.toNat_zero Bool.true_and Bool.and_true Bool.false_and Bool.and_false Bool.true_or Bool.or_true Bool.false_or Bool.or_false Bool.not_true Bool.not_false Bool.not_not true_and and_true false_and and_false not_true_eq_false not_false_eq_true eq_self decide_true decide_false ne_eq implies_true forall_const true_implies false_implies Bool.true_eq_false Bool.false_eq_true List.map_cons List.map_nil List.all_cons List.all_nil List.length_cons List.length_nil List.length_map List.length_append List.nil_append List.cons_append List.set_cons_zero List.set_cons_succ List.set_nil List.drop_zero List.drop_succ_cons List.drop_nil List.take_zero List.take_succ_cons List.take_nil Option.map_some Option.map_none Option.isSome_some List.all_append List.all_map Function.comp_def decide_eq_true_eq Bool.and_eq_true beq_self_eq_true or_self and_self ite_true ite_false Nat.le_refl Bool.not_eq_true decide_not Bool.not_eq_true' decide_eq_false_iff_not Bool.not_eq_false Bool.or_eq_true if_true if_false ite_self u_roF u_cvF u_cvC u_ceT u_ceK z2m sm_it z6A z37 z5m z6p z3d sm_ro z3i sm_sl z6a z69 sm_fr z1F z13 sm_kd z28 z12 sm_vw z1u z0P sm_sq z1R z0S sm_tm z1q z0L z2R z2b z3k z63 z64 z29 z3g z1p z1y z2F z39 ce_it z6J z31 z4Z z6x z3A ce_ro z3t ce_sl z6d z6g ce_sq z1X z14 ce_vw z1C z0H ce_tm z1U z0W z33 z0v z0n ce_vs z1P z0X z36 z1t z3r z6F z6H z1T z2X z1z z2c z2M z2V cg_it z67 z3s z61 z6n z2U cg_ro z3E cg_sl z6b z6u cg_fr z1J z0N cg_vw z1Q z11 cg_st z1M z0G cg_rt z1H z17 cg_pf z1Z z0E cg_cs z1N z0I z32 z1I z3b z6y z6c z1V z3v z23 z1L z35 z3p ms_it z6o z3n z6C z6h z3h ms_ro z3e ms_sl z6E z6r ms_kd z1S z0R ms_fr z1v z0O ms_vw z25 z0U ms_sq z1s z0Z ms_tm z1G z0F z3c z0u z0o ms_vs z1E z0Y z68 z0Q z0x z3C z1W z3x z65 z6K z20 z3D z24 z27 z3q z2Y co_it z6M z2W z6D z6m z3m co_ro z3o co_sl z6w z66 co_sq z26 z0V co_tm z1B z0K z3z z0y z0p co_nl z1w z0M z3y z1o z3l z6N z6v z1K z3j z1Y z1O z2N z2Z sd_it z6e z3B z6z z6G z3a sd_ro z2T sd_sl z6I z6i sd_wh z21 z15 sd_fr z1x z0T sd_kd z1D z18 sd_vw z1A z0J sd_sq z22 z16 sd_tm z1r z10 z30 z38 z6f z5O u_bz u_bi1 u_bi2 u_bi3 u_bi4 u_bi5 u_bi6 u_bi7 ltO_o ltO_r u_eqE
attribute [local go_sem_proc] Nat.reduceAdd Nat.reduceSub Nat.reduceMul Nat.reduceLeDiff Nat.reduceLT Int.reduceEq Int.reduceNe Int.reduceLT Int.reduceLE Int.reduceAdd Int.reduceSub Int.reduceMul Int.reduceNeg Int.reduceToNat reduceCtorEq Nat.reduceEqDiff Nat.reduceBEq Nat.reduceGT
attribute [local go_sem_proc ↓] reduceIte
section
variable {n : Int} {l : List Ch}
theorem may_s (m : Nat) (h : LOk n l) (hf : FitL l) (hm : 1000 < m) : zg8 m (chsA l) (nA n) = some (bA true,[]) := by
 have hF := ziy m n
 rw [h.nn] at hF
 rw [zlm]
 have hl := hf.1
 unfold chsA
 simp (config := {maxSteps := 4000000,implicitDefEqProofs := false}) (disch := omega) only [go_sem,hF]
 refine z4a (m := m) (ι := {k : Nat // k ≤ l.length}) (fun k=>⟨[],[(1,nA n),(7,qA (setN l k.1)),(17,chsA l),(18,nA l.length),(19,nA k.1)]⟩) (fun k=>l.length - k.1) (fun _=>some (bA true,[])) ?_ ⟨0,Nat.zero_le _⟩ (by dsimp only;omega)
 rintro kx hkx ⟨k,hk⟩ kc hkc
 dsimp only at hkc ⊢
 rw [ziS]
 unfold chsA at hkc ⊢
 by_cases hlt : k < l.length
 ·have hlt' : (k : Int) < (l.length : Int) := by omega
  have hc := h.all l[k] (List.getElem_mem hlt)
  have c0 := hc.s0
  obtain ⟨c1,c2,c3,c4,c5⟩ := hc
  have step := hkc ⟨k + 1,by omega⟩ (by dsimp only;omega)
  dsimp only at step
  have hs := zoo l k (by omega)
  rw [zi2 hlt] at step
  have g1 := has_s m (setN l k) l[k].fr hs
  have hhas := h.has hlt
  rw [hhas] at g1
  have g2 := zxb m l[k] (by have := hf.2 l[k] (List.getElem_mem hlt);omega) c0 c4 (hf.2 l[k] (List.getElem_mem hlt)) c5
  rw [cg_it] at g2
  have g3 := zvl m (setN l k) l[k].fr hs
  have g4 := due_s m l[k].st
  have d1 : ¬ l[k].fr < 0 := by omega
  have d2 : ¬ n ≤ l[k].fr := by omega
  have d3 : ¬ (2147483647 : Int) < l[k].st := by omega
  by_cases hz : l[k].st = 0
  ·simp (config := {maxSteps := 4000000,implicitDefEqProofs := false}) (disch := omega) only [go_sem,hlt',hlt,d1,d2,d3,g1,g2,g3,hz,w_i64,ze7,ze6,zdz]
   exact step
  ·have hd : dueB l[k].st = true := by
    rcases c3 with q|q
    ·exact absurd q hz
    ·exact q
   rw [hd] at g4
   simp (config := {maxSteps := 4000000,implicitDefEqProofs := false}) (disch := omega) only [go_sem,hlt',hlt,d1,d2,d3,g1,g2,g3,g4,hz,w_i64,ze7,ze6,zdz]
   exact step
 ·obtain rfl : k = l.length := by omega
  have hlt' : ¬ (l.length : Int) < (l.length : Int) := Int.lt_irrefl _
  have g5 := zkT m (setN l l.length) n (zoo l _ (Nat.le_refl _))
  have hlen := h.len
  rw [h.cnt l.length (Nat.le_refl _),h.nn,decide_eq_true (show 2 * (fN n : Int) + 1 ≤ (l.length : Int) by omega)] at g5
  simp (config := {maxSteps := 4000000,implicitDefEqProofs := false}) (disch := omega) only [go_sem,hlt',hkx,ziK,g5]
def bestC (l : List Ch) : Nat → Ch
 |0=>l.headD Ch.zero
 |k + 1=>if (bestC l k).st < (l.getD k Ch.zero).st then l.getD k Ch.zero else bestC l k
def lowC (l : List Ch) : Ch := bestC l l.length
theorem zmN (h : 0 < l.length) : ∀ k,k ≤ l.length → bestC l k ∈ l
 |0,_=>by
  cases l with
  |nil=>simp at h
  |cons a l=>exact List.mem_cons_self ..
 |k + 1,hk=>by
  unfold bestC
  split
  ·rw [List.getD_eq_getElem?_getD,List.getElem?_eq_getElem (by omega)]
   exact List.getElem_mem _
  ·exact zmN h k (by omega)
theorem low_s (m : Nat) (h : LOk n l) (hf : FitL l) (hm : 1000 < m) : zga m (chsA l) (nA n) = some (TU [nA (lowC l).st,nA (lowC l).rt,nA 0],[]) := by
 have hM := may_s m h hf hm
 have hl := hf.1
 have h0 : 0 < l.length := by have := h.len;omega
 have e0 : l[0] = l.headD Ch.zero := by cases l with|nil=>simp at h0|cons=>rfl
 rw [zlu]
 unfold chsA at hM ⊢
 simp (config := {maxSteps := 4000000,implicitDefEqProofs := false}) (disch := omega) only [go_sem,hM,h0,e0]
 refine z4a (m := m) (ι := {k : Nat // k ≤ l.length}) (fun k=>⟨[⟨1,z00,0,cgC (bestC l k.1)⟩],[(7,OP 0 0),(17,chsA l),(18,nA l.length),(19,nA k.1)]⟩) (fun k=>l.length - k.1) (fun _=>some (TU [nA (lowC l).st,nA (lowC l).rt,nA 0],[])) ?_ ⟨0,Nat.zero_le _⟩ (by dsimp only;omega)
 rintro kx hkx ⟨k,hk⟩ kc hkc
 dsimp only at hkc ⊢
 rw [ziQ]
 unfold chsA at hkc ⊢
 by_cases hlt : k < l.length
 ·have hlt' : (k : Int) < (l.length : Int) := by omega
  have step := hkc ⟨k + 1,by omega⟩ (by dsimp only;omega)
  dsimp only at step
  have eg : l.getD k Ch.zero = l[k] := by simp [List.getD,hlt]
  rw [show bestC l (k + 1) = if (bestC l k).st < (l.getD k Ch.zero).st then l.getD k Ch.zero else bestC l k from rfl,eg] at step
  generalize bestC l k = B at *
  by_cases hb : B.st < l[k].st
  ·rw [if_pos hb] at step
   simp (config := {maxSteps := 4000000,implicitDefEqProofs := false}) (disch := omega) only [go_sem,hlt',hlt,hb,w_i64,zdx]
   exact step
  ·rw [if_neg hb] at step
   simp (config := {maxSteps := 4000000,implicitDefEqProofs := false}) (disch := omega) only [go_sem,hlt',hlt,hb,w_i64,zdx]
   exact step
 ·obtain rfl : k = l.length := by omega
  have hlt' : ¬ (l.length : Int) < (l.length : Int) := Int.lt_irrefl _
  have eL : bestC l l.length = lowC l := rfl
  rw [eL]
  simp (config := {maxSteps := 4000000,implicitDefEqProofs := false}) (disch := omega) only [go_sem,hlt',hkx,ziU]
end
end Go.Proofs.Ytaaogcnjfkgnoaa

namespace Go.Proofs.Ytaaogcnjfkgnoaa
open Go.RowKit
noncomputable def ChA_c : Code := farC 4 (endC 0 ((Try.f52.body).getD .skip)) .skip
def ChA_h : Hint := (.two .n (.two .n (.two (.two .n (.two (.two .n .n) .n)) (.two .n .n))))
noncomputable def zoJ (m : Nat) : Env := [(76, .tell (zf8 m))]
noncomputable abbrev zw5 (n0 : Nat) : KO (AV × List AObj) := nslFK [0,6,9]
noncomputable def ChA (m : Nat) (D : List Deferred) (t0 t1 : AV) (H : List AObj) : RO := exec Try.prog GG (zoJ m) m ⟨45,D⟩ ChA_c ChA_h ⟨H,[(0,t0),(1,t1)]⟩ (zw5 H.length)
theorem zxT (m : Nat) (D : List Deferred) (t0 t1 : AV) (H : List AObj) : ChA m D t0 t1 H =
 tellE (zga m (ro H t0) (ro H t1)) [(ro H t0),(ro H t1)] fun t16 =>
 extE t16 0 fun t17 =>
 extE t16 1 fun t18 =>
 extE t16 2 fun t19 =>
 binE none false false .neq t19 (V (.int .i64 0)) fun t21 =>
 condE t21 (
  none) (
  z4P (some zvz) z6Y H fun t9 H2 =>
  z1e 1 H2 t9 t17 fun H3 =>
  some (TU [t0,t17,t9],H3)) := by
 refine (nslX _ _ _ _ _ _ _ _ _).trans ?_
 kernel_rfl
theorem zy1 (m : Nat) : EnvOk Try.prog GG (zoJ m) := (by
 intro f e h
 simp only [zoJ,Prod.mk.injEq,List.mem_cons,List.not_mem_nil,or_false] at h
 obtain ⟨rfl,rfl⟩ := h
 ·exact zkW m)
end Go.Proofs.Ytaaogcnjfkgnoaa

namespace Go.Proofs.Ytaaogcnjfkgnoaa
open Go.RowKit
noncomputable def ChB_c : Code := (cdL (cdL (endC 4 ((Try.f52.body).getD .skip))))
def ChB_h : Hint := .n
noncomputable def zo2 (m : Nat) : Env := [(77, .keep (zcn m))]
noncomputable abbrev zx6 (n0 : Nat) : KO (AV × List AObj) := nslFK [0,6,9,25]
noncomputable def ChB (m : Nat) (D : List Deferred) (t0 t6 t9 : AV) (H : List AObj) : RO := exec Try.prog GG (zo2 m) m ⟨45,D⟩ ChB_c ChB_h ⟨H,[(0,t0),(6,t6),(9,t9)]⟩ (zx6 H.length)
theorem zzE (m : Nat) (D : List Deferred) (t0 t6 t9 : AV) (H : List AObj) : ChB m D t0 t6 t9 H =
 keepE (zfX m (ro H t0) H) fun t25 H2 =>
 some (TU [t0,t6,t9,t25],H2) := by
 refine (nslX _ _ _ _ _ _ _ _ _).trans ?_
 kernel_rfl
theorem zyx (m : Nat) : EnvOk Try.prog GG (zo2 m) := (by
 intro f e h
 simp only [zo2,Prod.mk.injEq,List.mem_cons,List.not_mem_nil,or_false] at h
 obtain ⟨rfl,rfl⟩ := h
 ·exact zhA m)
end Go.Proofs.Ytaaogcnjfkgnoaa

namespace Go.Proofs.Ytaaogcnjfkgnoaa
open Go.RowKit
noncomputable def ChC_c : Code := (endC 5 ((Try.f52.body).getD .skip))
def ChC_h : Hint := (.two .n (.join [11] (.two .n (.one (.lp [(11,z2v,4)] [0,9,11,12] [11] (.two (.two .n (.two .n .n)) (.two (.one .n) .n))))) (.two .n .n)))
noncomputable def zjJ (m : Nat) : Env := [(78, .tell (zep m))]
noncomputable abbrev zos (n0 : Nat) : KO (AV × List AObj) := rawFK Try.prog n0 [.tmp 4, .tmp 5]
noncomputable def zwK (m : Nat) (D : List Deferred) (n0k : Nat) (s : ASt) : RO := joinW Try.prog GG (zjJ m) m ⟨45,D⟩ (cdR (cdR ChC_c)) ChC_h.r.r s (zos n0k)
noncomputable def zve (m : Nat) (D : List Deferred) (s : ASt) (kc : ASt → RO) (kx : KO (AV × List AObj)) : RO := bodyW Try.prog GG (zjJ m) m ⟨45,D⟩ (cdL (cdL (cdR (cdL (cdR ChC_c))))) ChC_h.r.l.r.c.c [0,9,11,12] [11] s kc kx
noncomputable def ChC (m : Nat) (D : List Deferred) (t0 t6 t9 : AV) (H : List AObj) : RO := exec Try.prog GG (zjJ m) m ⟨45,D⟩ ChC_c ChC_h ⟨H,[(0,t0),(6,t6),(9,t9)]⟩ (zos H.length)
theorem zqi (m : Nat) (D : List Deferred) (n0k : Nat) (H : List AObj) (t11 : AV) : zwK m D n0k ⟨H,[(11,t11)]⟩ =
 some (ro H (TU [noT t11,noT (V (.int .i64 0))]),H) := by
 refine (z04 _ _ _ _ _ _ _ _ _).trans ?_
 kernel_rfl
theorem zpz (m : Nat) (D : List Deferred) (H : List AObj) (t0 t9 t11 t12 : AV) (kc : ASt → RO) (kx : KO (AV × List AObj)) : zve m D ⟨H,[(0,t0),(9,t9),(11,t11),(12,t12)]⟩ kc kx =
 loadE 1 H t9 fun t34 =>
 binE none false false .leq t12 t34 fun t35 =>
 condE t35 (
  tellE (zep m [(ro H t0),(ro H t12)]) [(ro H t0),(ro H t12)] fun t41 =>
  z1a (some (z2v,4)) 1 [(0,t41)] fun t42 =>
  appE (some (z2v,4)) H t11 t42 fun t43 H2 =>
  binE none false false .add t12 (V (.int .i64 1)) fun t37 =>
  backE H.length H2 [(0,t0),(9,t9),(11,t43),(12,t37)] kc) (
  kx (.exit 2) ⟨H,[(11,t11)]⟩) := by
 refine (z2i _ _ _ _ _ _ _ _ _ _ _ _).trans ?_
 kernel_rfl
theorem zxO (m : Nat) (D : List Deferred) (t0 t6 t9 : AV) (H : List AObj) : ChC m D t0 t6 t9 H =
 binE none false false .add t6 (V (.int .i64 1)) fun t32 =>
 rowE (V (.slice none 0 0)) z2v 4 H fun t11 H2 =>
 iterC m (zve m D) ⟨H2,[(0,t0),(9,t9),(11,t11),(12,t32)]⟩ (z3K 2 (seqX (fun s=>zwK m D H.length ⟨s.H,[(11,gt s.T 11)]⟩) (zos H.length))) := by
 refine (rawX Try.prog GG (zjJ m) m ⟨45,D⟩ H.length ChC_c ChC_h ⟨H,[(0,t0),(6,t6),(9,t9)]⟩ [.tmp 4, .tmp 5]).trans ?_
 kernel_rfl
theorem zyT (m : Nat) : EnvOk Try.prog GG (zjJ m) := (by
 intro f e h
 simp only [zjJ,Prod.mk.injEq,List.mem_cons,List.not_mem_nil,or_false] at h
 obtain ⟨rfl,rfl⟩ := h
 ·exact zlS m)
end Go.Proofs.Ytaaogcnjfkgnoaa

namespace Go.Proofs.Ytaaogcnjfkgnoaa
open Go.RowKit
noncomputable def ChR_c : Code := (rfS (cdL (cdR (cdL (endC 4 ((Try.f52.body).getD .skip))))))
def ChR_h : Hint := (.two .n (.one .n))
noncomputable def zoY (m : Nat) : Env := []
noncomputable abbrev zx8 (n0 : Nat) : KO (AV × List AObj) := rndFK n0
noncomputable def ChR (m : Nat) (D : List Deferred) (t26 t9 : AV) (H : List AObj) : RO := exec Try.prog GG (zoY m) m ⟨45,D⟩ ChR_c ChR_h ⟨H,[(26,t26),(9,t9)]⟩ (zx8 H.length)
theorem zzf (m : Nat) (D : List Deferred) (t26 t9 : AV) (H : List AObj) : ChR m D t26 t9 H =
 z4P (some zc_api_Cert) z0a H fun t10 H2 =>
 z1e 7 H2 t10 t26 fun H3 =>
 loadE 1 H3 t9 fun t27 =>
 z02 (some (0,1)) t10 fun t28 =>
 loadE 1 H3 t28 fun t29 =>
 mmE true t27 t29 fun t30 =>
 z1e 1 H3 t9 t30 fun H4 =>
 zmo H.length H4 (V (.bool true)) := by
 refine (rndX Try.prog GG (zoY m) m ⟨45,D⟩ H.length ChR_c ChR_h ⟨H,[(26,t26),(9,t9)]⟩ ).trans ?_
 kernel_rfl
theorem zyJ (m : Nat) : EnvOk Try.prog GG (zoY m) := (by intro f e h;cases h)
end Go.Proofs.Ytaaogcnjfkgnoaa

namespace Go.Proofs.Ytaaogcnjfkgnoaa
open Go.RowKit
attribute [local go_sem] Nat.zero_add Nat.add_zero Nat.mul_one Int.toNat_natCast Int.natCast_zero Int.cast_ofNat_Int or_false false_or or_true true_or Nat.sub_zero Int.natCast_nonneg Int.toNat_zero Bool.true_and Bool.and_true Bool.false_and Bool.and_false Bool.true_or Bool.or_true Bool.false_or Bool.or_false Bool.not_true Bool.not_false Bool.not_not true_and and_true false_and and_false not_true_eq_false not_false_eq_true eq_self decide_true decide_false ne_eq implies_true forall_const true_implies false_implies Bool.true_eq_false Bool.false_eq_true List.map_cons List.map_nil List.all_cons List.all_nil List.length_cons List.length_nil List.length_map List.length_append List.nil_append List.cons_append List.set_cons_zero List.set_cons_succ List.set_nil List.drop_zero List.drop_succ_cons List.drop_nil List.take_zero List.take_succ_cons List.take_nil Option.map_some Option.map_none Option.isSome_some List.all_append List.all_map Function.comp_def decide_eq_true_eq Bool.and_eq_true beq_self_eq_true or_self and_self ite_true ite_false Nat.le_refl Bool.not_eq_true decide_not Bool.not_eq_true' decide_eq_false_iff_not Bool.not_eq_false Bool.or_eq_true if_true if_false ite_self u_roF u_cvF u_cvC u_ceT u_ceK z2m sm_it z6A z37 z5m z6p z3d sm_ro z3i sm_sl z6a z69 sm_fr z1F z13 sm_kd z28 z12 sm_vw z1u z0P sm_sq z1R z0S sm_tm z1q z0L z2R z2b z3k z63 z64 z29 z3g z1p z1y z2F z39 ce_it z6J z31 z4Z z6x z3A ce_ro z3t ce_sl z6d z6g ce_sq z1X z14 ce_vw z1C z0H ce_tm z1U z0W z33 z0v z0n ce_vs z1P z0X z36 z1t z3r z6F z6H z1T z2X z1z z2c z2M z2V cg_it z67 z3s z61 z6n z2U cg_ro z3E cg_sl z6b z6u cg_fr z1J z0N cg_vw z1Q z11 cg_st z1M z0G cg_rt z1H z17 cg_pf z1Z z0E cg_cs z1N z0I z32 z1I z3b z6y z6c z1V z3v z23 z1L z35 z3p ms_it z6o z3n z6C z6h z3h ms_ro z3e ms_sl z6E z6r ms_kd z1S z0R ms_fr z1v z0O ms_vw z25 z0U ms_sq z1s z0Z ms_tm z1G z0F z3c z0u z0o ms_vs z1E z0Y z68 z0Q z0x z3C z1W z3x z65 z6K z20 z3D z24 z27 z3q z2Y co_it z6M z2W z6D z6m z3m co_ro z3o co_sl z6w z66 co_sq z26 z0V co_tm z1B z0K z3z z0y z0p co_nl z1w z0M z3y z1o z3l z6N z6v z1K z3j z1Y z1O z2N z2Z sd_it z6e z3B z6z z6G z3a sd_ro z2T sd_sl z6I z6i sd_wh z21 z15 sd_fr z1x z0T sd_kd z1D z18 sd_vw z1A z0J sd_sq z22 z16 sd_tm z1r z10 z30 z38 z6f z5O u_bz u_bi1 u_bi2 u_bi3 u_bi4 u_bi5 u_bi6 u_bi7 ltO_o ltO_r u_eqE
attribute [local go_sem_proc] Nat.reduceAdd Nat.reduceSub Nat.reduceMul Nat.reduceLeDiff Nat.reduceLT Int.reduceEq Int.reduceNe Int.reduceLT Int.reduceLE Int.reduceAdd Int.reduceSub Int.reduceMul Int.reduceNeg Int.reduceToNat reduceCtorEq Nat.reduceEqDiff Nat.reduceBEq Nat.reduceGT
attribute [local go_sem_proc ↓] reduceIte
def chH (l : List Ch) (hi : Int) : List AObj := [⟨1,z6Y,0,[nA hi]⟩,⟨1,z44,0,[chsA l]⟩]
def maxC (a : Int) (x : Ce) : Int := if x.sq > a then x.sq else a
def choA (l : List Ch) (low : Int) (d : Nat) : List Co := (List.range d).map fun i : Nat=>atF (low + ((i + 1 : Nat) : Int)) l
section
variable {n : Int} {l : List Ch}
theorem chA_s (h : LOk n l) (hf : FitL l) : ChA 1001 [] (chsA l) (nA n) [] = some (TU [chsA l,nA (lowC l).st,OP 0 0],[⟨1,z6Y,0,[nA (lowC l).st]⟩]) := by
 have hL := low_s 1001 h hf (by omega)
 rw [zxT]
 unfold chsA at hL ⊢
 simp (config := {maxSteps := 4000000,implicitDefEqProofs := false}) (disch := omega) only [go_sem,hL]
 rfl
theorem chB_s (m : Nat) (low hi : Int) : ChB m [] (chsA l) (nA low) (OP 0 0) [⟨1,z6Y,0,[nA hi]⟩] = some (TU [chsA l,nA low,OP 0 0,CL (.func 93) 0 [OP 1 0]],chH l hi) := by
 rw [zzE]
 unfold chH chsA
 simp (config := {maxSteps := 4000000,implicitDefEqProofs := false}) (disch := omega) only [go_sem,zhr]
 rfl
theorem chR_s (m : Nat) (hi : Int) (x : Ce) : ChR m [] (ceE x) (OP 0 0) (chH l hi) = some (bA true,chH l (maxC hi x)) := by
 rw [zzf]
 unfold chH chsA maxC
 simp (config := {maxSteps := 4000000,implicitDefEqProofs := false}) (disch := omega) only [go_sem,]
theorem zpQ {low : Int} {d : Nat} : choA l low (d + 1) = choA l low d ++ [atF (low + ((d + 1 : Nat) : Int)) l] := by
 unfold choA
 rw [List.range_succ,List.map_append]
 rfl
theorem chC_s (m : Nat) (low : Int) (e : Nat) (D : List Deferred) (hf : FitL l) (he : e ≤ 1000) (hm : 1000 < m) (h0 : 0 ≤ low) (h1 : low ≤ 3000000000) : ChC m D (chsA l) (nA low) (OP 0 0) (chH l (low + e)) = some (TU [SL ((choA l low e).map coE),nA 0],chH l (low + e) ++ [⟨2,z2v,4,(choA l low e).map coE⟩]) := by
 rw [zxO]
 unfold chH chsA
 simp (config := {maxSteps := 4000000,implicitDefEqProofs := false}) (disch := omega) only [go_sem,w_i64]
 refine z4a (m := m) (ι := {k : Nat // k ≤ e}) (fun k=>⟨[⟨1,z6Y,0,[nA (low + e)]⟩,⟨1,z44,0,[chsA l]⟩,⟨2,z2v,4,(choA l low k.1).map coE⟩],[(0,chsA l),(9,OP 0 0),(11,OW 2 k.1),(12,nA (low + ((k.1 + 1 : Nat) : Int)))]⟩) (fun k=>e - k.1) (fun _=>some (TU [SL ((choA l low e).map coE),nA 0],([⟨1,z6Y,0,[nA (low + e)]⟩,⟨1,z44,0,[SL (l.map cgE)]⟩,⟨2,z2v,4,(choA l low e).map coE⟩] : List AObj))) ?_ ⟨0,Nat.zero_le _⟩ (by dsimp only;omega)
 rintro kx hkx ⟨k,hk⟩ kc hkc
 dsimp only at hkc ⊢
 rw [zpz]
 have hlen : ((choA l low k).map coE).length = k := by simp [choA]
 have hxs : ∀ n,((choA l low k).map coE).all (ltA n) = true := fun n=>by rw [List.all_map];exact z2N
 unfold chsA at hkc ⊢
 by_cases hlt : k < e
 ·have hlt' : low + ((k + 1 : Nat) : Int) ≤ low + e := by omega
  have g1 := znI m l (low + ((k + 1 : Nat) : Int)) hf
  unfold chsA at g1
  have step := hkc ⟨k + 1,by omega⟩ (by dsimp only;omega)
  dsimp only at step
  rw [zpQ,List.map_append,show low + ((k + 1 + 1 : Nat) : Int) = low + ((k + 1 : Nat) : Int) + 1 by omega] at step
  simp only [List.map_cons,List.map_nil,co_it] at step
  generalize (choA l low k).map coE = XS at *
  have hroom : k + 1 ≤ 34359738368 := by omega
  simp (config := {maxSteps := 4000000,implicitDefEqProofs := false}) (disch := omega) only [go_sem,hlt',g1,hxs,hlen,hroom,w_i64]
  exact step
 ·obtain rfl : k = e := by omega
  have hlt' : ¬ low + ((k + 1 : Nat) : Int) ≤ low + k := by omega
  simp (config := {maxSteps := 4000000,implicitDefEqProofs := false}) (disch := omega) only [go_sem,hlt',hkx,hxs,zqi]
  rw [if_pos (by simp [choA])]
end
end Go.Proofs.Ytaaogcnjfkgnoaa

namespace Go.Proofs.Ytaaogcnjfkgnoaa
open Go.RowKit
noncomputable def chC0 : Code := (Try.f52.body).getD .skip
theorem zst : endC 4 chC0 = .seq (.seq ChB_c (.block 0 (.rangeFunc (.tmp 25) #[26] (.region 6 (regO (cdL ChR_c)).toArray false) (cdR ChR_c)))) ChC_c := by kernel_rfl
theorem zpC : ChR_c = .seq (.region 6 (regO (cdL ChR_c)).toArray false) (cdR ChR_c) := by kernel_rfl
theorem zsW : flatC (cdR ChR_c) = true := by kernel_rfl
abbrev T0c : Tm := [(9,OP 0 0)]
noncomputable abbrev recC (fn D : Nat) (tm : Array Value) : Loop := ⟨.ready,none,fn,tm,[26].toArray, .region 6 (regO (cdL ChR_c)).toArray false,cdR ChR_c,D⟩
theorem ztm {l : List Ch} {lp fn D d : Nat} {tm : Array Value} (a : Int) (x : Ce) (vs : List Value) (w : World) (S : SS) (μ : List Value) (hr : Rel w S μ (chH l a)) (hf : Fr S μ (F0 45) T0c ⟨tm,[]⟩) (hg : GOk GG S) (hl : w.heap[lp]? = some (.loop (recC fn D tm))) (h1 : vs.length = 1)
  (hv : ∀ (j : Nat) (d : AV) (v : Value),[ceE x][j]? = some d → vs[j]? = some v → rep S μ d v) :
  YieldAt Fence.wide d Try.prog lp vs.toArray w (YPost lp (recC fn D tm) w S μ (chH l a) fun e H2=>e = .normal ∧ H2 = chH l (maxC a x)) := by
 have hx := chR_s (l := l) 1000 a x
 unfold ChR at hx
 rw [zpC] at hx
 refine zqQ ?_ (zln (ps := [26]) (xs := [ceE x]) (T := T0c) (zyJ 1000) rfl hr hf hg (by decide) hl (by rw [h1];rfl) rfl hv zsW rfl hx)
 rintro e H2 ⟨q1,q2⟩
 exact ⟨zry q1,q2⟩
def highC (l : List Ch) : Int := foldL maxC (lowC l).st l
theorem zpS {n : Int} {l : List Ch} {e : Nat} (h : LOk n l) (hf : FitL l) (he : e ≤ 1000) (hh : highC l = (lowC l).st + e) : ACp Try.prog GG 52 [chsA l,nA n] (TU [SL ((choA l (lowC l).st e).map coE),nA 0]) := by
 have hnd : ∀ r cs t p,(Obj.deferred r) ≠ .cells cs t p := fun _ _ _ _ e=>by cases e
 have h0 : 0 < l.length := by have := h.len;omega
 have hlo := (h.all _ (zmN h0 l.length (Nat.le_refl _)))
 have hl0 : 0 ≤ (lowC l).st := hlo.s0
 have hl1 : (lowC l).st ≤ 2147483647 := hlo.sl
 refine ⟨by kernel_rfl,?_⟩
 intro w S μ vs hr hg hlen hv
 have hμ : μ = [] := List.eq_nil_of_length_eq_zero hr.len
 subst hμ
 refine (callsIn_wide (n := 5)).1 ?_
 refine callsIn_of_wp_marks Try.func52 rfl trivial ?_
 rw [Try.ntmps52]
 have hfr := znY (S := S) (μ := []) (N := 45) (args := [chsA l,nA n]) (vs := vs) hlen (by simp) hv
 refine zi7 (n := 0) MIX (zy1 1001) 4 chC0 ChA_h ⟨[],argsT 0 [chsA l,nA n]⟩ (by kernel_rfl) (chA_s h hf) hr hfr hg ?_ (Nat.le_refl _)
 rintro a2 w2 ⟨S2,μ2,_,hr2,hf2,hg2,hst2⟩
 rw [zst]
 refine wpIn_seq (wpIn_seq (wpIn_mono (zkC (rs := [0,6,9,25]) MIX (zyx 1000) (chB_s 1000 (lowC l).st (lowC l).st) hr2 hf2 hg2) ?_))
 rintro e a3 w3 ⟨rfl,S3,μ3,hr3,hf3,hg3,hst3⟩
 simp only [Exit.then]
 have hst3' : Step 0 w S [] [] w3 S3 μ3 (chH l (lowC l).st) := hst2.trans (hst3.less (Nat.zero_le _))
 refine wpIn_block ?_
 have hlaw := range_law (d := 4) (P := Try.prog) (G := GG) (g := .tmp 25) (ps := [26]) (assign := .region 6 (regO (cdL ChR_c)).toArray false) (body := cdR ChR_c) (N := 45) (f := 93) (caps := [OP 1 0]) (q2 := 0) (Q := fun e H2=>e = .normal ∧ H2 = chH l (highC l)) hr3 hf3 hg3 rfl (by kernel_rfl) ?_
 refine wpIn_mono hlaw ?_
 ·rintro ex a5 w5 ⟨S5,μ5,H5,⟨rfl,rfl⟩,hr5,hst5,hf5,hD5,hsz⟩
  simp only [Exit.inBlock,Exit.then]
  have hst5' := hst3'.trans (hst5.less (Nat.zero_le _))
  rw [hh] at hr5 hst5 hst5'
  have hx := chC_s (l := l) 1001 (lowC l).st e [⟨.collected w3.heap.size,#[]⟩] hf he (by omega) hl0 (by omega)
  refine wpIn_wide.2 (wp_mono (zat (n := 2) MIX (zyT 1001) ChC_c ChC_h ⟨chH l ((lowC l).st + e),[(0,chsA l),(6,nA (lowC l).st),(9,OP 0 0)]⟩ _ (Nat.le_refl _) hx w5 S5 μ5 a5 hr5 (hf5.some (by simp [_root_.Go.Proofs.Ytaaogcnjfkgnoaa.get])) (hg3.ext hst5.still)) ?_)
  rintro ex a6 w6 ⟨s6,S6,μ6,hq6,hr6,hf6,hst6⟩
  obtain ⟨he6,hX6⟩ := znh (rs := [.tmp 4, .tmp 5]) hq6 (fun u h=>by cases h)
  have hend := zmA (P := Try.prog) (d := 5) (fnn := Try.f52) (rs := [.tmp 4, .tmp 5]) (X := TU [SL ((choA l (lowC l).st e).map coE),nA 0]) rfl hr6 hf6 (hst6.keeps hr5 hD5 (hnd _)) hX6 rfl (hst5'.trans (hst6.less (Nat.zero_le _))) hst3'.size
  rcases he6 with rfl|rfl
  ·exact hend
  ·exact hend
 ·intro lp D fn w1 us hr1 hl1 hus hu
  exact it_calls (β := Int) (C := fun a=>chH l a) (R := maxC) (b0 := (lowC l).st) (b := 1) (r := recC fn D a3.tmps) (T0 := T0c) (tm := a3.tmps) (K := 45) (fun a=>rfl) (fun a=>rfl) (fun a=>rfl) hf.1 hf.2 (fun a x vs w S μ h1 h2 h3 h4 h5 h6=>ztm a x vs w S μ h1 h2 h3 h4 h5 h6) (by decide) hr1 ⟨hf3.size,rfl,(hf3.some (T' := T0c) (by simp [_root_.Go.Proofs.Ytaaogcnjfkgnoaa.get])).slot⟩ hg3 hl1 hus hu
noncomputable def zdu (m : Nat) : List AV → RO := orac (ι := List Ch × Int × Nat) (fun p=>[chsA p.1,nA p.2.1]) (fun p=>TU [SL ((choA p.1 (lowC p.1).st (highC p.1 - (lowC p.1).st).toNat).map coE),nA 0]) (fun p=>LOk p.2.1 p.1 ∧ FitL p.1 ∧ p.2.2 ≤ 1000 ∧ highC p.1 = (lowC p.1).st + p.2.2)
theorem zhU (m : Nat) : ∀ args X H',zdu m args = some (X,H') → ACp Try.prog GG 52 args X := zoE (by
 rintro ⟨l,n,e⟩ ⟨h1,h2,h3,h4⟩
 have := zpS h1 h2 h3 h4
 dsimp only at h4 ⊢
 rw [show (highC l - (lowC l).st).toNat = e by omega]
 exact this)
end Go.Proofs.Ytaaogcnjfkgnoaa

namespace Go.Proofs.Ytaaogcnjfkgnoaa
open Go.RowKit
def zhs : List (Nat × Nat) := [(0,1),(1,1),(2,1),(3,1),(4,1),(5,1)]
def zlA : List (Nat × Nat) := [(0,1),(1,1),(2,1),(3,1),(4,1),(5,1),(6,1),(7,1)]
noncomputable def z7V : Code := (Try.f20.body).getD .skip
def view_NewView_h : Hint := (.two .n (.two .n (.join [0,1,3,6] (.one (.join [0,1,3,6,21] .n (.two (.two .n .n) (.two .n (.two (.two .n .n) .n))))) (.join [0,1,3,6] (.two .n (.one (.lp [] [0,1,3,6,38,39,40] [0,1,3,6,8,9] (.two .n (.two (.two .n .n) (.join [0,1,3,6,38,39,40] (.one (.two .n (.join [0,1,3,6,38,39,40,56] .n (.two (.two .n .n) .n)))) .n)))))) (.two (.two .n (.two (.two .n .n) .n)) (.join [3,6] (.two .n (.join [3,6,76] .n (.two (.two .n .n) .n))) (.two .n .n)))))))
noncomputable def z62 (m : Nat) : Env := [(32, .tell (z4y m)),(37, .tell (z8r m)),(11, .keep (z9r m)),(51, .tell (zcq m)),(22, .keep (zcC m)),(36, .keep (z5j m)),(52, .tell (zdu m))]
noncomputable abbrev zak (n0 : Nat) : KO (AV × List AObj) := z77 Try.prog n0 [.tmp 8, .tmp 9]
noncomputable def zeX (m : Nat) (n0k : Nat) (s : ASt) : RO := joinW Try.prog GG (z62 m) m ⟨83,[]⟩ (cdR (cdR (cdR z7V))) view_NewView_h.r.r.r s (zak n0k)
noncomputable def zbn (m : Nat) (n0k : Nat) (s : ASt) : RO := joinW Try.prog GG (z62 m) m ⟨83,[]⟩ (cdR (cdL (cdL (cdR (cdR z7V))))) view_NewView_h.r.r.l.c.r s (z3K 0 (seqX (fun s=>zeX m n0k ⟨s.H,[(0,gt s.T 0),(1,gt s.T 1),(3,gt s.T 3),(6,gt s.T 6)]⟩) (zak n0k)))
noncomputable def zcJ (m : Nat) (t0 t1 t2 t3 : AV) (H : List AObj) : RO := exec Try.prog GG (z62 m) m ⟨83,[]⟩ z7V view_NewView_h ⟨H,argsT 0 [t0,t1,t2,t3]⟩ (zak H.length)
theorem zgx (m : Nat) (n0k : Nat) (H : List AObj) (t0 t1 t3 t6 t21 : AV) : zbn m n0k ⟨H,[(0,t0),(1,t1),(3,t3),(6,t6),(21,t21)]⟩ =
 condE t21 (
  keepK n0k H (ro H (TU [noT (V (.slice none 0 0)),noT (V (.int .i64 1))]))) (
  z02 (some (1,1)) t6 fun t30 =>
  loadE 1 H t30 fun t31 =>
  z02 (some (2,1)) t6 fun t32 =>
  loadE 1 H t32 fun t33 =>
  tellE (z7W m (ro H t33) (ro H t3)) [(ro H t33),(ro H t3)] fun t35 =>
  binE none false false .neq t31 t35 fun t36 =>
  condE t36 (
   keepK n0k H (ro H (TU [noT (V (.slice none 0 0)),noT (V (.int .i64 21))]))) (
   zeX m n0k ⟨H,[(0,t0),(1,t1),(3,t3),(6,t6)]⟩)) := by
 refine (z04 _ _ _ _ _ _ _ _ _).trans ?_
 kernel_rfl
theorem zjA (m : Nat) (t0 t1 t2 t3 : AV) (H : List AObj) : zcJ m t0 t1 t2 t3 H =
 boxE zo8 H t2 fun t6 H2 =>
 tellE (z4R m (ro H2 t3)) [(ro H2 t3)] fun t18 =>
 extE t18 0 fun t19 =>
 extE t18 1 fun t20 =>
 z02 (some (0,1)) t6 fun t22 =>
 loadE 1 H2 t22 fun t23 =>
 binE none false false .neq t23 (V (.int .i64 7)) fun t24 =>
 condE t24 (
  zbn m H.length ⟨H2,[(0,t0),(1,t1),(3,t3),(6,t6),(21,(V (.bool true)))]⟩) (
  binE none false false .neq t20 (V (.int .i64 0)) fun t27 =>
  zbn m H.length ⟨H2,[(0,t0),(1,t1),(3,t3),(6,t6),(21,t27)]⟩) := by
 refine (keepX Try.prog GG (z62 m) m ⟨83,[]⟩ H.length z7V view_NewView_h ⟨H,argsT 0 [t0,t1,t2,t3]⟩ [.tmp 8, .tmp 9]).trans ?_
 kernel_rfl
noncomputable def zcw (m : Nat) : List AV → List AObj → RO|[t0,t1,t2,t3],H=>zcJ m t0 t1 t2 t3 H|_,_=>none
theorem zjs (m : Nat) : ∀ args H X H',zcw m args H = some (X,H') → AC Try.prog GG 20 args H (Is X H') := by
 intro args H X H' h
 unfold zcw at h
 split at h
 ·exact z2x MIX (by
  intro f e h
  simp only [z62,Prod.mk.injEq,List.mem_cons,List.not_mem_nil,or_false] at h
  rcases h with ⟨rfl,rfl⟩|⟨rfl,rfl⟩|⟨rfl,rfl⟩|⟨rfl,rfl⟩|⟨rfl,rfl⟩|⟨rfl,rfl⟩|⟨rfl,rfl⟩
  ·exact z5W m
  ·exact zd9 m
  ·exact zcr m
  ·exact zhC m
  ·exact zji m
  ·exact z8u m
  ·exact zhU m) (f := 20) (c := z7V) Try.func20 rfl (by kernel_rfl) _ rfl Try.ntmps20 (Nat.le_of_ble_eq_true rfl) view_NewView_h h
 ·cases h
noncomputable def z5u : Code := (Try.f10.body).getD .skip
def plenumlaw32_awake_h : Hint := (.two .n (.two .n (.two .n (.join [1,2] (.join [1,2,25] .n (.two (.two .n .n) .n)) (.two .n (.two .n (.two .n (.two .n (.two .n (.two .n (.two .n .n)))))))))))
noncomputable def z4C (m : Nat) : Env := [(26, .keep (zfI m)),(27, .keep (zg3 m)),(11, .keep (z9r m)),(12, .keep (z5b m)),(30, .keep (z9d m)),(20, .keep (zcw m))]
noncomputable abbrev z70 : KO (AV × List AObj) := z3I Try.prog [.tmp 0]
noncomputable def z7y (m : Nat) (s : ASt) : RO := joinW Try.prog GG (z4C m) m ⟨69,[]⟩ (cdR (cdR (cdR (cdR z5u)))) plenumlaw32_awake_h.r.r.r.r s (z70)
noncomputable def z4T (m : Nat) (s : ASt) : RO := joinW Try.prog GG (z4C m) m ⟨69,[]⟩ (cdR (cdL (cdR (cdR (cdR z5u))))) plenumlaw32_awake_h.r.r.r.l.r s (seqX (fun s=>z7y m ⟨s.H,[(1,gt s.T 1),(2,gt s.T 2)]⟩) (z70))
noncomputable def z5e (m : Nat) : RO := exec Try.prog GG (z4C m) m ⟨69,[]⟩ z5u plenumlaw32_awake_h ⟨[],argsT 0 []⟩ (z70)
theorem zdh (m : Nat) (H : List AObj) (t1 t2 : AV) : z7y m ⟨H,[(1,t1),(2,t2)]⟩ =
 z49 (some zhs) (some zc_api_Change) [(1,(V (.int .i64 1)))] fun t26 =>
 z4P (some zc_api_Change) z00 H fun t4 H2 =>
 z1e 8 H2 t4 t26 fun H3 =>
 loadE 8 H3 t4 fun t29 =>
 keepE (z6j m (ro H3 t2) (ro H3 t1) (ro H3 t29) (V (.int .i64 4)) H3) fun t30 H4 =>
 loadE 8 H4 t4 fun t33 =>
 keepE (z3T m (ro H4 t1) (ro H4 t33) H4) fun t34 H5 =>
 extE t34 0 fun t35 =>
 extE t34 1 fun t36 =>
 z4P (some zc_api_Stmt) z01 H5 fun t6 H6 =>
 z1e 7 H6 t6 t35 fun H7 =>
 loadE 7 H7 t6 fun t38 =>
 keepE (z7E m (ro H7 t2) (V (.int .i64 0)) (ro H7 t38) H7) fun t39 H8 =>
 loadE 8 H8 t4 fun t42 =>
 keepE (z6j m (ro H8 t2) (ro H8 t1) (ro H8 t42) (V (.int .i64 4)) H8) fun t43 H9 =>
 z49 (some zlA) (some zc_api_Msg) [(0,(V (.int .i64 7))),(2,(V (.int .i64 1)))] fun t47 =>
 keepE (zcJ m (ro H9 t2) (ro H9 t1) (ro H9 t47) (V (.int .i64 4)) H9) fun t48 H10 =>
 extE t48 0 fun t49 =>
 extE t48 1 fun t50 =>
 unE .not t30 fun t52 =>
 condE t52 (
  binE none false false .eql t36 (V (.int .i64 0)) fun t55 =>
  condE t55 (
  z02 (some (1,1)) t6 fun t58 =>
  loadE 1 H10 t58 fun t59 =>
  binE none false false .eql t59 (V (.int .i64 6)) fun t60 =>
  condE t60 (
  condE t43 (
  binE none false false .eql t50 (V (.int .i64 21)) fun t67 =>
  tellK H10 (ro H10 t67)) (
  tellK H10 (ro H10 (V (.bool false))))) (
  tellK H10 (ro H10 (V (.bool false))))) (
  tellK H10 (ro H10 (V (.bool false))))) (
  tellK H10 (ro H10 (V (.bool false)))) := by
 refine (z04 _ _ _ _ _ _ _ _ _).trans ?_
 kernel_rfl
theorem zdn (m : Nat) (H : List AObj) (t1 t2 t25 : AV) : z4T m ⟨H,[(1,t1),(2,t2),(25,t25)]⟩ =
 condE t25 (
  tellK H (ro H (V (.bool false)))) (
  z7y m ⟨H,[(1,t1),(2,t2)]⟩) := by
 refine (z04 _ _ _ _ _ _ _ _ _).trans ?_
 kernel_rfl
theorem zfg (m : Nat) : z5e m =
 keepE (zh3 m []) fun t11 H1 =>
 keepE (ze4 m (V (.int .i64 4)) (ro H1 (V (.slice none 0 0))) H1) fun t13 H2 =>
 extE t13 0 fun t14 =>
 extE t13 1 fun t15 =>
 ptrE .eql t11 (V (.pointer none)) fun t17 =>
 condE t17 (
  z4T m ⟨H2,[(1,t11),(2,t14),(25,(V (.bool true)))]⟩) (
  binE none false false .neq t15 (V (.int .i64 0)) fun t20 =>
  condE t20 (
  z4T m ⟨H2,[(1,t11),(2,t14),(25,(V (.bool true)))]⟩) (
  ptrE .eql t14 (V (.pointer none)) fun t24 =>
  z4T m ⟨H2,[(1,t11),(2,t14),(25,t24)]⟩)) := by
 refine (tellX _ _ _ _ _ _ _ _ _).trans ?_
 kernel_rfl
noncomputable def z7Z (m : Nat) : List AV → RO|[]=>z5e m|_=>none
theorem zfh (m : Nat) : ∀ args X H',z7Z m args = some (X,H') → ACp Try.prog GG 10 args X := by
 intro args X H' h
 unfold z7Z at h
 split at h
 ·exact z0B MIX (by
  intro f e h
  simp only [z4C,Prod.mk.injEq,List.mem_cons,List.not_mem_nil,or_false] at h
  rcases h with ⟨rfl,rfl⟩|⟨rfl,rfl⟩|⟨rfl,rfl⟩|⟨rfl,rfl⟩|⟨rfl,rfl⟩|⟨rfl,rfl⟩
  ·exact zjT m
  ·exact zk4 m
  ·exact zcr m
  ·exact z8M m
  ·exact zdP m
  ·exact zjs m) (f := 10) (c := z5u) Try.func10 rfl (by kernel_rfl) _ rfl Try.ntmps10 (Nat.le_of_ble_eq_true rfl) plenumlaw32_awake_h h
 ·cases h
noncomputable def z7D : Code := (Try.f5.body).getD .skip
def z7F : Hint := (.two .n (.two .n (.two .n (.two (.two .n (.two (.two .n .n) .n)) (.two (.two .n (.two (.two .n .n) .n)) (.two .n (.two .n (.two .n .n))))))))
noncomputable def z6S (m : Nat) : Env := [(7, .tell (z5p m)),(8, .keep (z9E m)),(9, .tell (z9D m)),(10, .tell (z7Z m)),(11, .keep (z9r m)),(17, .keep (z4v m)),(12, .keep (z5b m)),(18, .keep (z2g m)),(16, .keep (z8R m))]
noncomputable abbrev zaD : KO (AV × List AObj) := z3I Try.prog [.tmp 6]
noncomputable def z5o (m : Nat) (t0 t1 t2 : AV) : RO := exec Try.prog GG (z6S m) m ⟨74,[]⟩ z7D z7F ⟨[],argsT 0 [t0,t1,t2]⟩ (zaD)
theorem zbb (m : Nat) (t0 t1 t2 : AV) : z5o m t0 t1 t2 =
 boxE z2h [] t0 fun t3 H1 =>
 boxE z00 H1 t1 fun t4 H2 =>
 loadE 8 H2 t4 fun t15 =>
 tellE (z4D m (ro H2 t15)) [(ro H2 t15)] fun t16 =>
 z1e 8 H2 t4 t16 fun H3 =>
 loadE 5 H3 t3 fun t18 =>
 keepE (z3S m (ro H3 t18) H3) fun t19 H4 =>
 extE t19 0 fun t20 =>
 extE t19 1 fun t21 =>
 extE t19 2 fun t22 =>
 extE t19 3 fun t23 =>
 unE .not t23 fun t25 =>
 condE t25 (
  loadE 5 H4 t3 fun t26 =>
  tellE (z9i m (ro H4 t26)) [(ro H4 t26)] fun t27 =>
  condE t27 (
   tellE (z5e m) [] fun t29 =>
   tellK H4 (ro H4 t29)) (
   tellK H4 (ro H4 (V (.bool false))))) (
  loadE 8 H4 t4 fun t33 =>
  keepE (z6j m (ro H4 t21) (ro H4 t20) (ro H4 t33) (ro H4 t2) H4) fun t35 H5 =>
  loadE 8 H5 t4 fun t37 =>
  loadE 8 H4 t4 fun t8022 =>
  eqE t37 t8022 (
  keepE (z2o m (ro H5 t22) (ro H5 t37) (ro H5 t2) H5) fun t39 H6 =>
  binE none true false .neq t35 t39 fun t40 =>
  condE t40 (
   tellK H6 (ro H6 (V (.bool false)))) (
   loadE 8 H6 t4 fun t43 =>
   keepE (z3T m (ro H6 t20) (ro H6 t43) H6) fun t44 H7 =>
   extE t44 0 fun t45 =>
   extE t44 1 fun t46 =>
   z4P (some zc_api_Stmt) z01 H7 fun t11 H8 =>
   z1e 7 H8 t11 t45 fun H9 =>
   loadE 8 H9 t4 fun t49 =>
   keepE (z19 m (ro H9 t22) (ro H9 t49) H9) fun t50 H10 =>
   extE t50 0 fun t51 =>
   extE t50 1 fun t52 =>
   z4P (some zc_api_Stmt) z01 H10 fun t13 H11 =>
   z1e 7 H11 t13 t51 fun H12 =>
   loadE 7 H12 t11 fun t53 =>
   loadE 7 H12 t13 fun t54 =>
   binE (some [.i .i64, .i .i64, .i .i64, .i .i64, .i .i64]) false false .eql t53 t54 fun t55 =>
   condE t55 (
    binE none false false .eql t46 t52 fun t59 =>
    condE t59 (
    keepE (z5G m (ro H12 t20) H12) fun t63 H13 =>
    nilE t22 fun t65 =>
    z02 (some (0,1)) t65 fun t66 =>
    loadE 1 H13 t66 fun t67 =>
    loadE 1 H12 t66 fun t8051 =>
   eqE t67 t8051 (
   lenE false true [] t67 fun t68 =>
    binE none false false .eql t63 t68 fun t69 =>
    condE t69 (
    tellE (z5e m) [] fun t72 =>
    tellK H13 (ro H13 t72)) (
    tellK H13 (ro H13 (V (.bool false)))))) (
    tellK H12 (ro H12 (V (.bool false))))) (
    tellK H12 (ro H12 (V (.bool false))))))) := by
 refine (tellX _ _ _ _ _ _ _ _ _).trans ?_
 kernel_rfl
noncomputable def z7K (m : Nat) : List AV → RO|[t0,t1,t2]=>z5o m t0 t1 t2|_=>none
theorem zbp (m : Nat) : ∀ args X H',z7K m args = some (X,H') → ACp Try.prog GG 5 args X := by
 intro args X H' h
 unfold z7K at h
 split at h
 ·exact z0B MIX (by
  intro f e h
  simp only [z6S,Prod.mk.injEq,List.mem_cons,List.not_mem_nil,or_false] at h
  rcases h with ⟨rfl,rfl⟩|⟨rfl,rfl⟩|⟨rfl,rfl⟩|⟨rfl,rfl⟩|⟨rfl,rfl⟩|⟨rfl,rfl⟩|⟨rfl,rfl⟩|⟨rfl,rfl⟩|⟨rfl,rfl⟩
  ·exact zcs m
  ·exact zh4 m
  ·exact zgz m
  ·exact zfh m
  ·exact zcr m
  ·exact zaC m
  ·exact z8M m
  ·exact z4Q m
  ·exact zfQ m) (f := 5) (c := z7D) Try.func5 rfl (by kernel_rfl) _ rfl Try.ntmps5 (Nat.le_of_ble_eq_true rfl) z7F h
 ·cases h
end Go.Proofs.Ytaaogcnjfkgnoaa

namespace Go.Proofs.Ytaaogcnjfkgnoaa
open Go.RowKit
open Go.Maps (Keyed)
def posL {α : Type} [DecidableEq α] (L : List α) (s : α) : Nat := if s ∈ L then L.idxOf s + 1 else 0
def mpF {α : Type} (kb : α → List UInt8) : Nat → List α → List AV
 |_,[]=>[]
 |k,s :: r=>entA (kb s) .i64 ((k + 1 : Nat) : Int) :: mpF kb (k + 1) r
section
variable {α : Type} {kb : α → List UInt8}
theorem zpa : ∀ (L : List α) (k : Nat),(mpF kb k L).length = L.length
 |[],k=>rfl
 |s :: r,k=>by simp [mpF,zpa r]
theorem zmu (s : α) : ∀ (L : List α) (k : Nat),mpF kb k (L ++ [s]) = mpF kb k L ++ [entA (kb s) .i64 ((k + L.length + 1 : Nat) : Int)]
 |[],k=>rfl
 |x :: r,k=>by
  show entA (kb x) .i64 ((k + 1 : Nat) : Int) :: mpF kb (k + 1) (r ++ [s]) = entA (kb x) .i64 ((k + 1 : Nat) : Int) :: (mpF kb (k + 1) r ++ _)
  rw [zmu s r (k + 1),show k + 1 + r.length + 1 = k + (x :: r).length + 1 by simp;omega]
theorem ztC (n : Nat) : ∀ (L : List α) (k : Nat),(mpF kb k L).all (ltA n) = true
 |[],k=>rfl
 |s :: r,k=>by
  show (ltA n (entA (kb s) .i64 ((k + 1 : Nat) : Int)) && (mpF kb (k + 1) r).all (ltA n)) = true
  rw [ztC n r];rfl
def putD (D : DataW Unit) (e : AV) : DataW Unit := D.put (.string (entK e)) (entV e)
theorem zuc (k : List UInt8) (q : IntKind) (c : Int) : entK (entA k q c) = k := by simp [entK,entA]
theorem zrt [DecidableEq α] {s : α} : ∀ (L : List α) (k : Nat) (D : DataW Unit),Maps.IsMap D → L.Nodup → (∀ x ∈ L,kb x = kb s → x = s) →
  ((mpF kb k L).foldl putD D).atKey (.string (kb s)) (.lit (.int .i64 0)) = (if s ∈ L then .lit (.int .i64 ((k + L.idxOf s + 1 : Nat) : Int)) else D.atKey (.string (kb s)) (.lit (.int .i64 0))) ∧
  Maps.has ((mpF kb k L).foldl putD D) (.string (kb s)) = (decide (s ∈ L) || Maps.has D (.string (kb s)))
 |[],k,D,hD,_,_=>by simp [mpF]
 |x :: r,k,D,hD,hn,hi=>by
  have hn' := List.nodup_cons.1 hn
  obtain ⟨h1,h2⟩ := zrt r (k + 1) (putD D (entA (kb x) .i64 ((k + 1 : Nat) : Int))) (hD.put _ _) hn'.2 (fun y hy=>hi y (List.mem_cons_of_mem _ hy))
  show ((mpF kb (k + 1) r).foldl putD (putD D _)).atKey _ _ = _ ∧ Maps.has ((mpF kb (k + 1) r).foldl putD (putD D _)) _ = _
  rw [h1,h2]
  by_cases e : x = s
  ·subst e
   rw [if_neg hn'.1,if_pos (List.mem_cons_self ..)]
   have hk : (Lit.string (kb x)) = .string (entK (entA (kb x) .i64 ((k + 1 : Nat) : Int))) := by rw [zuc]
   constructor
   ·unfold putD
    rw [hk,Maps.atKey_put_same hD (show WideAt.IsKeyLit (.string (entK (entA (kb x) .i64 ((k + 1 : Nat) : Int)))) from trivial)]
    simp [entV,entA]
   ·unfold putD
    rw [hk,Maps.has_put_same hD (show WideAt.IsKeyLit (.string (entK (entA (kb x) .i64 ((k + 1 : Nat) : Int)))) from trivial)]
    simp
  ·have hne : (Lit.string (kb s)) ≠ .string (entK (entA (kb x) .i64 ((k + 1 : Nat) : Int))) := fun q=>by
    rw [zuc] at q
    injection q with q
    exact e (hi x (List.mem_cons_self ..) q.symm)
   have hm : (s ∈ x :: r) = (s ∈ r) := by simp [show s ≠ x from fun q=>e q.symm]
   simp only [hm]
   unfold putD
   rw [Maps.atKey_put_other hne,Maps.has_put_other hne]
   refine ⟨?_,rfl⟩
   by_cases hs : s ∈ r
   ·rw [if_pos hs,if_pos hs,List.idxOf_cons,show (x == s) = false by simpa using e,cond_false,show k + 1 + r.idxOf s + 1 = k + (r.idxOf s + 1) + 1 by omega]
   ·rw [if_neg hs,if_neg hs]
theorem zqC (c : List AV) : mapD c = c.foldl putD (.map []) := rfl
theorem mp_at [DecidableEq α] {L : List α} {s : α} (hn : L.Nodup) (hi : ∀ x ∈ L,kb x = kb s → x = s) :
  (mapD (mpF kb 0 L)).atKey (.string (kb s)) (.lit (.int .i64 0)) = .lit (.int .i64 (posL L s)) ∧ Maps.has (mapD (mpF kb 0 L)) (.string (kb s)) = decide (s ∈ L) := by
 obtain ⟨h1,h2⟩ := zrt (kb := kb) (s := s) L 0 (.map []) ⟨[],rfl⟩ hn hi
 rw [zqC,h1,h2]
 constructor
 ·unfold posL
  split
  ·rw [Nat.zero_add]
  ·rfl
 ·rw [Maps.has_eq];simp
end
theorem zwD : Keyed Try.prog 9 := Maps.string_keyed Try.underlying9
theorem keyT {s : List UInt8} (h : s.length ≤ 9223372036854775807) : keyOf Try.prog 9 (.string ⟨s.toArray⟩) = some (.string s) := by
 unfold keyOf mapKey
 simp only [Try.underlying9]
 rw [if_pos (show ByteArray.size ⟨s.toArray⟩ ≤ maxLen by simp only [ByteArray.size,List.size_toArray];unfold maxLen;omega)]
theorem laidOut : laidOutB Try.prog = true := by kernel_rfl
theorem wideS : (match Try.prog.underlying 41 with|some (.array _ _)|some (.struct _)=>true|_=>false) = true := by rw [Try.underlying41]
theorem rowS : (41 : TypeId) < Try.prog.types.size := of_decide_eq_true (by kernel_rfl)
theorem zvH : Keyed Try.prog 41 := Keyed.of_law (deep_law_laid laidOut (m := 3) (by omega) rowS (by kernel_rfl) wideS)
theorem zrA (w : World) : (zeroValue 3).run Try.prog w = .ok (.int .i64 0) w := by kernel_rfl
def I64 (i : Int) : Prop := -9223372036854775808 ≤ i ∧ i ≤ 9223372036854775807
def SmI (s : Sm) : Prop := I64 s.fr ∧ I64 s.kd ∧ I64 s.vw ∧ I64 s.sq ∧ I64 s.tm
theorem wf64 {i : Int} (h : I64 i) : (Lit.int .i64 i).wf = true := by
 have := h
 simp [I64,Lit.wf,IntKind.min,IntKind.max,IntKind.signed,IntKind.bits] at this ⊢
 omega
def kS (s : Sm) : List UInt8 := keyBytes [.int .i64 s.fr, .int .i64 s.kd, .int .i64 s.vw, .int .i64 s.sq, .int .i64 s.tm]
theorem keyS {s : Sm} (h : SmI s) : keyOf Try.prog 41 (.agg #[.int .i64 s.fr, .int .i64 s.kd, .int .i64 s.vw, .int .i64 s.sq, .int .i64 s.tm]) = some (.string (kS s)) := by
 obtain ⟨h1,h2,h3,h4,h5⟩ := h
 have w1 := wf64 h1;have w2 := wf64 h2;have w3 := wf64 h3;have w4 := wf64 h4;have w5 := wf64 h5
 have hkt : Try.prog.keyType 41 = true := by kernel_rfl
 have hce : Try.prog.cellsOf 41 = 5 := by kernel_rfl
 have hc3 : Try.prog.cellsOf 3 = 1 := by kernel_rfl
 obtain ⟨m,hm⟩ : ∃ m,Try.prog.types.size = m + 1 := Nat.exists_eq_succ_of_ne_zero (Nat.ne_of_gt (Nat.lt_of_le_of_lt (Nat.zero_le _) rowS))
 unfold keyOf
 simp only [Try.underlying41]
 rw [if_pos (by simp [hkt,Value.formed,Try.underlying41,hce]),hm]
 unfold Program.keyLits
 simp only [Try.underlying41,Value.cells]
 rw [if_pos ⟨by rw [hce];rfl,by simp⟩]
 simp [hc3,Program.keyLits,Try.underlying3,w1,w2,w3,w4,w5,kS]
theorem zyi {s t : Sm} (hs : SmI s) (ht : SmI t) (h : kS s = kS t) : s = t := by
 obtain ⟨a1,a2,a3,a4,a5⟩ := hs
 obtain ⟨b1,b2,b3,b4,b5⟩ := ht
 unfold kS at h
 have := keyBytes_inj (by simp [Alike,Lit.sameKind]) (by simp [Lit.keyWf,wf64 a1,wf64 a2,wf64 a3,wf64 a4,wf64 a5]) (by simp [Lit.keyWf,wf64 b1,wf64 b2,wf64 b3,wf64 b4,wf64 b5]) h
 simp at this
 obtain ⟨e1,e2,e3,e4,e5⟩ := this
 cases s;cases t;simp_all
def tmO (L : List (List UInt8)) : AObj := ⟨5,9,3,mpF _root_.id 0 L⟩
def rmO (R : List Sm) : AObj := ⟨5,41,3,mpF kS 0 R⟩
theorem zui {R : Type} {H : List AObj} {i : Nat} {L : List (List UInt8)} {s : List UInt8} {K : AV → Option R} (hH : H[i]? = some (tmO L)) (hn : L.Nodup) (hs : s.length ≤ 9223372036854775807) :
  lookE Try.prog 105 H (MP i) (sA s) true K = K (TU [nA (posL L s),bA (decide (s ∈ L))]) := by
 obtain ⟨h1,h2⟩ := mp_at (kb := _root_.id) (L := L) (s := s) hn (fun x _ e=>e)
 refine zrf ⟨rfl,i,tmO L, .i64, .string ⟨s.toArray⟩, .string s,posL L s,rfl,hH,rfl,zwD,Try.underlying105,Try.underlying3,zrA,rfl,keyT hs,h1,?_⟩
 rw [if_pos rfl]
 exact congrArg (fun b=>TU [nA (posL L s),bA b]) ((decide_eq_decide.2 Iff.rfl).trans h2.symm)
theorem zuO {R : Type} {H : List AObj} {i : Nat} {L : List Sm} {s : Sm} {K : AV → Option R} (hH : H[i]? = some (rmO L)) (hn : L.Nodup) (hL : ∀ x ∈ L,SmI x) (hs : SmI s) :
  lookE Try.prog 116 H (MP i) (.agg (smC s)) false K = K (nA (posL L s)) := by
 obtain ⟨h1,h2⟩ := mp_at (kb := kS) (L := L) (s := s) hn (fun x hx e=>zyi (hL x hx) hs e)
 exact zrf ⟨rfl,i,rmO L, .i64,_, .string (kS s),posL L s,rfl,hH,rfl,zvH,Try.underlying116,Try.underlying3,zrA,rfl,keyS hs,h1,rfl⟩
theorem zzF {R : Type} {H : List AObj} {i : Nat} {L : List (List UInt8)} {s : List UInt8} {K : List AObj → Option R} (hH : H[i]? = some (tmO L)) (hs : s.length ≤ 9223372036854775807) (hl : L.length < 100000) :
  putME Try.prog 105 H (MP i) (sA s) (nA ((L.length + 1 : Nat) : Int)) K = K (H.set i (tmO (L ++ [s]))) := by
 refine zqR ⟨rfl,i,tmO L, .i64, .string ⟨s.toArray⟩,s,_,rfl,hH,rfl,zwD,Try.underlying105,Try.underlying3,rfl,keyT hs,rfl,wf64 ⟨by omega,by omega⟩,?_,?_⟩
 ·rw [show (tmO L).c = mpF _root_.id 0 L from rfl,zpa];unfold maxLen;omega
 ·unfold tmO;rw [zmu,Nat.zero_add];rfl
theorem zxZ {R : Type} {H : List AObj} {i : Nat} {L : List Sm} {s : Sm} {K : List AObj → Option R} (hH : H[i]? = some (rmO L)) (hs : SmI s) (hl : L.length < 100000) :
  putME Try.prog 116 H (MP i) (.agg (smC s)) (nA ((L.length + 1 : Nat) : Int)) K = K (H.set i (rmO (L ++ [s]))) := by
 refine zqR ⟨rfl,i,rmO L, .i64,_,kS s,_,rfl,hH,rfl,zvH,Try.underlying116,Try.underlying3,rfl,keyS hs,rfl,wf64 ⟨by omega,by omega⟩,?_,?_⟩
 ·rw [show (rmO L).c = mpF kS 0 L from rfl,zpa];unfold maxLen;omega
 ·unfold rmO;rw [zmu,Nat.zero_add]
end Go.Proofs.Ytaaogcnjfkgnoaa

namespace Go.Proofs.Ytaaogcnjfkgnoaa
open Go.RowKit
theorem nthOA {R : Type} : ∀ (A : List AObj) {Z : List AObj} {k : Nat} {K : AObj → Option R},nthOE (A ++ Z) (A.length + k) K = nthOE Z k K
 |[],Z,k,K=>by simp
 |a :: A,Z,k,K=>by
  show nthOE (a :: (A ++ Z)) ((A.length + 1) + k) K = _
  rw [show A.length + 1 + k = (A.length + k) + 1 by omega]
  exact nthOA A
theorem setA : ∀ (A : List AObj) {Z : List AObj} {k : Nat} {o : AObj},(A ++ Z).set (A.length + k) o = A ++ Z.set k o
 |[],Z,k,o=>by simp
 |a :: A,Z,k,o=>by
  show (a :: (A ++ Z)).set ((A.length + 1) + k) o = _
  rw [show A.length + 1 + k = (A.length + k) + 1 by omega,List.set_cons_succ,setA A]
  rfl
theorem getA : ∀ (A : List AObj) {Z : List AObj} {k : Nat},(A ++ Z)[A.length + k]? = Z[k]? := fun A {Z k}=>by
 rw [List.getElem?_append_right (by omega)];congr 1;omega
def scM (A B : List AObj) (o0 o1 o2 o3 o4 o5 : AObj) : List AObj := A ++ (o0 :: o1 :: o2 :: o3 :: o4 :: o5 :: B)
def nAB (A B : List AObj) : Nat := A.length + (B.length + 6)
section
variable {R : Type} {A B Y : List AObj} {o0 o1 o2 o3 o4 o5 o : AObj} {K : AObj → Option R} {k : Nat}
theorem z9t : (scM A B o0 o1 o2 o3 o4 o5).length = nAB A B := by simp [scM,nAB]
theorem z7I : scM A (B ++ Y) o0 o1 o2 o3 o4 o5 = scM A B o0 o1 o2 o3 o4 o5 ++ Y := by simp [scM]
theorem zvL : nAB A (B ++ Y) = nAB A B + Y.length := by simp [nAB];omega
theorem scM_0 : nthOE (scM A B o0 o1 o2 o3 o4 o5) A.length K = K o0 := (nthOA A (k := 0))
theorem scM_1 : nthOE (scM A B o0 o1 o2 o3 o4 o5) (A.length + 1) K = K o1 := (nthOA A (k := 1))
theorem scM_2 : nthOE (scM A B o0 o1 o2 o3 o4 o5) (A.length + 2) K = K o2 := (nthOA A (k := 2))
theorem scM_3 : nthOE (scM A B o0 o1 o2 o3 o4 o5) (A.length + 3) K = K o3 := (nthOA A (k := 3))
theorem scM_4 : nthOE (scM A B o0 o1 o2 o3 o4 o5) (A.length + 4) K = K o4 := (nthOA A (k := 4))
theorem scM_5 : nthOE (scM A B o0 o1 o2 o3 o4 o5) (A.length + 5) K = K o5 := (nthOA A (k := 5))
theorem scY_0 : nthOE (scM A B o0 o1 o2 o3 o4 o5 ++ Y) A.length K = K o0 := by rw [← z7I];exact scM_0
theorem scY_1 : nthOE (scM A B o0 o1 o2 o3 o4 o5 ++ Y) (A.length + 1) K = K o1 := by rw [← z7I];exact scM_1
theorem scY_2 : nthOE (scM A B o0 o1 o2 o3 o4 o5 ++ Y) (A.length + 2) K = K o2 := by rw [← z7I];exact scM_2
theorem scY_3 : nthOE (scM A B o0 o1 o2 o3 o4 o5 ++ Y) (A.length + 3) K = K o3 := by rw [← z7I];exact scM_3
theorem scY_4 : nthOE (scM A B o0 o1 o2 o3 o4 o5 ++ Y) (A.length + 4) K = K o4 := by rw [← z7I];exact scM_4
theorem scY_5 : nthOE (scM A B o0 o1 o2 o3 o4 o5 ++ Y) (A.length + 5) K = K o5 := by rw [← z7I];exact scM_5
theorem scS_0 : (scM A B o0 o1 o2 o3 o4 o5).set A.length o = scM A B o o1 o2 o3 o4 o5 := (setA A (k := 0))
theorem scS_1 : (scM A B o0 o1 o2 o3 o4 o5).set (A.length + 1) o = scM A B o0 o o2 o3 o4 o5 := (setA A (k := 1))
theorem scS_2 : (scM A B o0 o1 o2 o3 o4 o5).set (A.length + 2) o = scM A B o0 o1 o o3 o4 o5 := (setA A (k := 2))
theorem scS_3 : (scM A B o0 o1 o2 o3 o4 o5).set (A.length + 3) o = scM A B o0 o1 o2 o o4 o5 := (setA A (k := 3))
theorem scS_4 : (scM A B o0 o1 o2 o3 o4 o5).set (A.length + 4) o = scM A B o0 o1 o2 o3 o o5 := (setA A (k := 4))
theorem scS_5 : (scM A B o0 o1 o2 o3 o4 o5).set (A.length + 5) o = scM A B o0 o1 o2 o3 o4 o := (setA A (k := 5))
theorem scT_0 : (scM A B o0 o1 o2 o3 o4 o5 ++ Y).set A.length o = scM A B o o1 o2 o3 o4 o5 ++ Y := by rw [← z7I,← z7I];exact scS_0
theorem scT_1 : (scM A B o0 o1 o2 o3 o4 o5 ++ Y).set (A.length + 1) o = scM A B o0 o o2 o3 o4 o5 ++ Y := by rw [← z7I,← z7I];exact scS_1
theorem scT_2 : (scM A B o0 o1 o2 o3 o4 o5 ++ Y).set (A.length + 2) o = scM A B o0 o1 o o3 o4 o5 ++ Y := by rw [← z7I,← z7I];exact scS_2
theorem scT_3 : (scM A B o0 o1 o2 o3 o4 o5 ++ Y).set (A.length + 3) o = scM A B o0 o1 o2 o o4 o5 ++ Y := by rw [← z7I,← z7I];exact scS_3
theorem scT_4 : (scM A B o0 o1 o2 o3 o4 o5 ++ Y).set (A.length + 4) o = scM A B o0 o1 o2 o3 o o5 ++ Y := by rw [← z7I,← z7I];exact scS_4
theorem scT_5 : (scM A B o0 o1 o2 o3 o4 o5 ++ Y).set (A.length + 5) o = scM A B o0 o1 o2 o3 o4 o ++ Y := by rw [← z7I,← z7I];exact scS_5
theorem scB_k : nthOE (scM A B o0 o1 o2 o3 o4 o5 ++ Y) (nAB A B + k) K = nthOE Y k K := by
 rw [← z9t (o0 := o0) (o1 := o1) (o2 := o2) (o3 := o3) (o4 := o4) (o5 := o5)];exact nthOA _
theorem scB_0 : nthOE (scM A B o0 o1 o2 o3 o4 o5 ++ Y) (nAB A B) K = nthOE Y 0 K := scB_k (k := 0)
theorem zlf : (scM A B o0 o1 o2 o3 o4 o5 ++ Y).set (nAB A B + k) o = scM A B o0 o1 o2 o3 o4 o5 ++ Y.set k o := by
 rw [← z9t (o0 := o0) (o1 := o1) (o2 := o2) (o3 := o3) (o4 := o4) (o5 := o5)];exact setA _
theorem zmn : (scM A B o0 o1 o2 o3 o4 o5 ++ Y).set (nAB A B) o = scM A B o0 o1 o2 o3 o4 o5 ++ Y.set 0 o := zlf (k := 0)
theorem zf1 : (scM A B o0 o1 o2 o3 o4 o5).take (nAB A B) = scM A B o0 o1 o2 o3 o4 o5 := by
 rw [← z9t (o0 := o0) (o1 := o1) (o2 := o2) (o3 := o3) (o4 := o4) (o5 := o5)];exact List.take_length
theorem zfi : (scM A B o0 o1 o2 o3 o4 o5 ++ Y).take (nAB A B) = scM A B o0 o1 o2 o3 o4 o5 := by
 rw [← z9t (o0 := o0) (o1 := o1) (o2 := o2) (o3 := o3) (o4 := o4) (o5 := o5)];exact List.take_left
end
def GB (A B : List AObj) : Prop := ∀ n,nAB A B ≤ n → A.all (ltO n) = true ∧ B.all (ltO n) = true
theorem GB.app {A B Y : List AObj} (h : GB A B) (hY : ∀ n,Y.all (ltO n) = true) : GB A (B ++ Y) := fun n hn=>by
 rw [zvL] at hn
 obtain ⟨h1,h2⟩ := h n (by omega)
 exact ⟨h1,by rw [List.all_append,h2,hY];rfl⟩
def ttO (a : Nat) (L : List (List UInt8)) : AObj := ⟨1,z4k,0,[MP a,OW (a + 2) L.length]⟩
def trO (L : List (List UInt8)) : AObj := ⟨2,z5A,1,L.map sA⟩
def rgC (a : Nat) (n : Int) (bd : List Bool) (R : List Sm) : List AV := nA n :: (bd.map bA ++ [MP a,OW (a + 2) R.length])
def rgO (a : Nat) (n : Int) (bd : List Bool) (R : List Sm) : AObj := ⟨1,z5Z,0,rgC a n bd R⟩
def rrO (R : List Sm) : AObj := ⟨2,z01,5,R.map smE⟩
structure Sg where
 T : List (List UInt8)
 n : Int
 bd : List Bool
 R : List Sm
def sc (A B : List AObj) (σ : Sg) : List AObj := scM A B (tmO σ.T) (ttO A.length σ.T) (trO σ.T) (rmO σ.R) (rgO (A.length + 3) σ.n σ.bd σ.R) (rrO σ.R)
structure SgOk (σ : Sg) : Prop where
 tn : σ.T.Nodup
 tl : σ.T.length ≤ 65536
 ts : ∀ s ∈ σ.T,s.length ≤ 9223372036854775807
 n1 : 1 ≤ σ.n
 n2 : σ.n ≤ 64
 bl : σ.bd.length = 64
 rn : σ.R.Nodup
 rl : σ.R.length ≤ 65536
 ri : ∀ s ∈ σ.R,SmI s
 rf : ∀ s ∈ σ.R,0 ≤ s.fr ∧ s.fr < σ.n
theorem zte {n : Nat} {L : List (List UInt8)} : ltO n (tmO L) = true := ztC n L 0
theorem zv3 {n : Nat} {L : List Sm} : ltO n (rmO L) = true := ztC n L 0
theorem zth {n a : Nat} {L : List (List UInt8)} (h : a + 2 < n) : ltO n (ttO a L) = true := by
 simp [ltO,ttO,ltA,lt1];omega
theorem znu {n : Nat} {L : List (List UInt8)} : ltO n (trO L) = true := by
 simp [ltO,trO,ltA,lt1]
theorem zwR {n : Nat} {L : List Sm} : ltO n (rrO L) = true := by
 show ((2 : Nat) == 0 || (L.map smE).all (ltA n)) = true
 rw [List.all_map];exact z2F
theorem zvK {n a : Nat} {q : Int} {bd : List Bool} {R : List Sm} (h : a + 2 < n) : ltO n (rgO a q bd R) = true := by
 simp [ltO,rgO,rgC,ltA,lt1];omega
theorem sc_lt {A B : List AObj} {σ : Sg} (h : GB A B) {n : Nat} (hn : nAB A B ≤ n) : (sc A B σ).all (ltO n) = true := by
 obtain ⟨h1,h2⟩ := h n hn
 have h3 : A.length + 6 ≤ n := by unfold nAB at hn;omega
 unfold sc scM
 rw [List.all_append,h1]
 simp only [List.all_cons,zte,zth (show A.length + 2 < n by omega),znu,zv3,zvK (show A.length + 3 + 2 < n by omega),zwR,h2,Bool.and_self]
theorem zsC {A B Y : List AObj} {σ : Sg} {X : AV} (h : GB A B) (hX : ltT (nAB A B) X = true) : keepK (nAB A B) (sc A B σ ++ Y) X = some (X,sc A B σ) := by
 rw [znT]
 have h1 := sc_lt (σ := σ) h (Nat.le_refl _)
 unfold sc at h1 ⊢
 rw [zfi,List.length_append,z9t,h1,hX,decide_eq_true (by omega)]
 rfl
theorem z8K {A B : List AObj} {σ : Sg} : (sc A B σ).length = nAB A B := z9t
theorem zcj {A B Y : List AObj} {σ : Sg} : sc A (B ++ Y) σ = sc A B σ ++ Y := z7I
section
variable {R : Type} {A B Y : List AObj} {σ : Sg} {K : AObj → Option R} {k : Nat} {o : AObj}
theorem s_B0 : nthOE (sc A B σ ++ Y) (nAB A B) K = nthOE Y 0 K := scB_0
theorem s_Bk : nthOE (sc A B σ ++ Y) (nAB A B + k) K = nthOE Y k K := scB_k
theorem s_Bs0 : (sc A B σ ++ Y).set (nAB A B) o = sc A B σ ++ Y.set 0 o := zmn
theorem s_Bsk : (sc A B σ ++ Y).set (nAB A B + k) o = sc A B σ ++ Y.set k o := zlf
theorem zas : (sc A B σ ++ Y).take (nAB A B) = sc A B σ := zfi
theorem z8d : (sc A B σ ++ Y).take (nAB A B + k) = sc A B σ ++ Y.take k := by
 rw [← z9t (A := A) (B := B) (o0 := tmO σ.T) (o1 := ttO A.length σ.T) (o2 := trO σ.T) (o3 := rmO σ.R) (o4 := rgO (A.length + 3) σ.n σ.bd σ.R) (o5 := rrO σ.R)]
 exact List.take_length_add_append ..
theorem s_get : (sc A B σ ++ Y)[nAB A B + k]? = Y[k]? := by
 rw [← z9t (A := A) (B := B) (o0 := tmO σ.T) (o1 := ttO A.length σ.T) (o2 := trO σ.T) (o3 := rmO σ.R) (o4 := rgO (A.length + 3) σ.n σ.bd σ.R) (o5 := rrO σ.R)]
 exact getA _
theorem zvp {n : Nat} {l : List Int} : (l.map nA).all (ltA n) = true := by rw [List.all_map];exact List.all_eq_true.2 fun _ _=>rfl
theorem zxJ {n : Nat} {l : List Int} : ltT n (SL (l.map nA)) = true := _root_.id rfl
theorem ro1W {H : List AObj} {i n : Nat} {e z : Nat} {c : List AV} (h : H[i]? = some ⟨2,e,z,c⟩) (hn : n = c.length) : ro1 H (OW i n) = SL c := by
 subst hn
 unfold ro1
 dsimp only
 rw [h]
 simp
theorem zge : (sc A B σ).take (nAB A B) = sc A B σ := zf1
end
def oqT (L : List (List UInt8)) (s : List UInt8) : List (List UInt8) := if s ∈ L then L else if 65536 ≤ L.length then L else L ++ [s]
def ofN (L : List (List UInt8)) (s : List UInt8) : Nat := if s ∈ L then posL L s else if 65536 ≤ L.length then 0 else L.length + 1
def ofE (L : List (List UInt8)) (s : List UInt8) : Int := if s ∈ L then 0 else if 65536 ≤ L.length then 5 else 0
theorem zu4 {L : List (List UInt8)} {s : List UInt8} : (⟨2,z5A,1,L.map sA ++ [sA s]⟩ : AObj) = trO (L ++ [s]) := by simp [trO]
end Go.Proofs.Ytaaogcnjfkgnoaa

namespace Go.Proofs.Ytaaogcnjfkgnoaa
open Go.RowKit
attribute [local go_sem] Nat.zero_add Nat.add_zero Nat.mul_one Int.toNat_natCast Int.natCast_zero Int.cast_ofNat_Int or_false false_or or_true true_or Nat.sub_zero Int.natCast_nonneg Int.toNat_zero Bool.true_and Bool.and_true Bool.false_and Bool.and_false Bool.true_or Bool.or_true Bool.false_or Bool.or_false Bool.not_true Bool.not_false Bool.not_not true_and and_true false_and and_false not_true_eq_false not_false_eq_true eq_self decide_true decide_false ne_eq implies_true forall_const true_implies false_implies Bool.true_eq_false Bool.false_eq_true List.map_cons List.map_nil List.all_cons List.all_nil List.length_cons List.length_nil List.length_map List.length_append List.nil_append List.cons_append List.set_cons_zero List.set_cons_succ List.set_nil List.drop_zero List.drop_succ_cons List.drop_nil List.take_zero List.take_succ_cons List.take_nil Option.map_some Option.map_none Option.isSome_some List.all_append List.all_map Function.comp_def decide_eq_true_eq Bool.and_eq_true beq_self_eq_true or_self and_self ite_true ite_false Nat.le_refl Bool.not_eq_true decide_not Bool.not_eq_true' decide_eq_false_iff_not Bool.not_eq_false Bool.or_eq_true if_true if_false ite_self u_roF u_cvF u_cvC u_ceT u_ceK z2m sm_it z6A z37 z5m z6p z3d sm_ro z3i sm_sl z6a z69 sm_fr z1F z13 sm_kd z28 z12 sm_vw z1u z0P sm_sq z1R z0S sm_tm z1q z0L z2R z2b z3k z63 z64 z29 z3g z1p z1y z2F z39 ce_it z6J z31 z4Z z6x z3A ce_ro z3t ce_sl z6d z6g ce_sq z1X z14 ce_vw z1C z0H ce_tm z1U z0W z33 z0v z0n ce_vs z1P z0X z36 z1t z3r z6F z6H z1T z2X z1z z2c z2M z2V cg_it z67 z3s z61 z6n z2U cg_ro z3E cg_sl z6b z6u cg_fr z1J z0N cg_vw z1Q z11 cg_st z1M z0G cg_rt z1H z17 cg_pf z1Z z0E cg_cs z1N z0I z32 z1I z3b z6y z6c z1V z3v z23 z1L z35 z3p ms_it z6o z3n z6C z6h z3h ms_ro z3e ms_sl z6E z6r ms_kd z1S z0R ms_fr z1v z0O ms_vw z25 z0U ms_sq z1s z0Z ms_tm z1G z0F z3c z0u z0o ms_vs z1E z0Y z68 z0Q z0x z3C z1W z3x z65 z6K z20 z3D z24 z27 z3q z2Y co_it z6M z2W z6D z6m z3m co_ro z3o co_sl z6w z66 co_sq z26 z0V co_tm z1B z0K z3z z0y z0p co_nl z1w z0M z3y z1o z3l z6N z6v z1K z3j z1Y z1O z2N z2Z sd_it z6e z3B z6z z6G z3a sd_ro z2T sd_sl z6I z6i sd_wh z21 z15 sd_fr z1x z0T sd_kd z1D z18 sd_vw z1A z0J sd_sq z22 z16 sd_tm z1r z10 z30 z38 z6f z5O u_bz u_bi1 u_bi2 u_bi3 u_bi4 u_bi5 u_bi6 u_bi7 ltO_o ltO_r u_eqE scM_0 scM_1 scM_2 scM_3 scM_4 scM_5 scY_0 scY_1 scY_2 scY_3 scY_4 scY_5 scS_0 scS_1 scS_2 scS_3 scS_4 scS_5 scT_0 scT_1 scT_2 scT_3 scT_4 scT_5 scB_0 scB_k zmn zlf List.append_assoc
attribute [local go_sem_proc] Nat.reduceAdd Nat.reduceSub Nat.reduceMul Nat.reduceLeDiff Nat.reduceLT Int.reduceEq Int.reduceNe Int.reduceLT Int.reduceLE Int.reduceAdd Int.reduceSub Int.reduceMul Int.reduceNeg Int.reduceToNat reduceCtorEq Nat.reduceEqDiff Nat.reduceBEq Nat.reduceGT
attribute [local go_sem_proc ↓] reduceIte
theorem zrm {A B : List AObj} {o0 o1 o2 o3 o4 o5 : AObj} : (scM A B o0 o1 o2 o3 o4 o5)[A.length]? = some o0 := (getA A (k := 0))
theorem zvN {A B : List AObj} {o0 o1 o2 o3 o4 o5 : AObj} : (scM A B o0 o1 o2 o3 o4 o5)[A.length + 3]? = some o3 := (getA A (k := 3))
section
variable {R : Type} {a : Nat} {L : List (List UInt8)} {K : List AV → Option R} {K2 : AObj → Option R}
theorem zkd : zh8 (ttO a L) K = K [MP a,OW (a + 2) L.length] := by unfold ttO;exact u_cl1
theorem zzh {n : Nat} : putE (ttO a L) 1 1 (OW (a + 2) n) K2 = K2 ⟨1,z4k,0,[MP a,OW (a + 2) n]⟩ := by unfold ttO;rw [u_pt1];rfl
theorem tr_k : (trO L).k = 2 := _root_.id rfl
theorem tr_e : (trO L).e = z5A := _root_.id rfl
theorem tr_z : (trO L).z = 1 := _root_.id rfl
theorem tr_c : (trO L).c = L.map sA := _root_.id rfl
end
theorem zkt {A B : List AObj} (hG : GB A B) {L : List (List UInt8)} {n : Int} {bd : List Bool} {R : List Sm} : (scM A B (tmO L) (ttO A.length L) (trO L) (rmO R) (rgO (A.length + 3) n bd R) (rrO R)).all (ltO (nAB A B)) = true := sc_lt (σ := ⟨L,n,bd,R⟩) hG (Nat.le_refl _)
theorem tof_s (m : Nat) (A B : List AObj) (σ : Sg) (s : List UInt8) (hG : GB A B) (hσ : SgOk σ) (hs : s.length ≤ 9223372036854775807) :
  z7L m (OP (A.length + 1) 0) (sA s) (sc A B σ) = some (TU [nA (ofN σ.T s),nA (ofE σ.T s)],sc A B { σ with T := oqT σ.T s }) := by
 have h0 := hσ.tl
 rw [zik]
 have hl := fun (K : AV → RO)=>zui (K := K) (zrm (A := A) (B := B) (o0 := tmO σ.T) (o1 := ttO A.length σ.T) (o2 := trO σ.T) (o3 := rmO σ.R) (o4 := rgO (A.length + 3) σ.n σ.bd σ.R) (o5 := rrO σ.R)) hσ.tn hs
 have hlt := fun {L : List (List UInt8)} {n : Int} {bd : List Bool} {R : List Sm}=>zkt hG (L := L) (n := n) (bd := bd) (R := R)
 clear hG
 unfold oqT ofN ofE sc
 obtain ⟨T,n,bd,R⟩ := σ
 dsimp only at *
 by_cases h1 : s ∈ T
 ·simp (config := {maxSteps := 4000000,implicitDefEqProofs := false}) (disch := omega) only [go_sem,zkd,hl,z9t,hlt,zf1,h1]
 ·by_cases h2 : 65536 ≤ T.length
  ·have h2' : (65536 : Int) ≤ (T.length : Int) := by omega
   simp (config := {maxSteps := 4000000,implicitDefEqProofs := false}) (disch := omega) only [go_sem,zkd,hl,z9t,hlt,zf1,h1,h2,h2']
  ·have h2' : ¬ (65536 : Int) ≤ (T.length : Int) := by omega
   have ht : (⟨1,z4k,0,[MP A.length,OW (A.length + 2) (T.length + 1)]⟩ : AObj) = ttO A.length (T ++ [s]) := by unfold ttO;rw [List.length_append];rfl
   have hp := fun (K : List AObj → RO)=>zzF (K := K) (s := s) (zrm (A := A) (B := B) (o0 := tmO T) (o1 := ttO A.length (T ++ [s])) (o2 := trO (T ++ [s])) (o3 := rmO R) (o4 := rgO (A.length + 3) n bd R) (o5 := rrO R)) hs (by omega)
   have hb : T.length + 1 ≤ 34359738368 := by omega
   have hx : (T ++ [s]).length = T.length + 1 := by simp
   simp (config := {maxSteps := 4000000,implicitDefEqProofs := false}) (disch := omega) only [go_sem,zkd,zzh,tr_k,tr_e,tr_z,tr_c,zu4,ht,hl,hp,hx,z9t,hlt,zf1,h1,h2,h2',hb]
theorem zsX (m : Nat) (A B : List AObj) (σ : Sg) (hG : GB A B) : z5G m (OP (A.length + 1) 0) (sc A B σ) = some (nA σ.T.length,sc A B σ) := by
 have hlt := fun {L : List (List UInt8)} {n : Int} {bd : List Bool} {R : List Sm}=>zkt hG (L := L) (n := n) (bd := bd) (R := R)
 rw [zgm]
 unfold sc
 simp (config := {maxSteps := 4000000,implicitDefEqProofs := false}) (disch := omega) only [go_sem,zkd,z9t,hlt,zf1]
theorem zxL : mapT Try.prog 105 = some (9,3) := by unfold mapT;rw [Try.underlying105]
theorem ztn (m : Nat) (H : List AObj) (hH : ∀ n,H.length ≤ n → H.all (ltO n) = true) : zh3 m H = some (OP (H.length + 1) 0,H ++ [tmO [],ttO H.length [],trO []]) := by
 rw [znC,zxL]
 have e1 : ∀ K : AV → List AObj → RO,makeE (some (9,3)) H K = K (MP H.length) (H ++ [tmO []]) := fun K=>_root_.id rfl
 have e2 : ∀ (x : AV) (K : AV → RO),z49 (some zhe) (some zhl) [(0,MP H.length)] K = K (.agg [MP H.length,V (.slice none 0 0)]) := fun x K=>_root_.id rfl
 have e3 : ∀ (H' : List AObj) (K : AV → List AObj → RO),boxE z4k H' (.agg [MP H.length,V (.slice none 0 0)]) K = K (OP H'.length 0) (H' ++ [⟨1,z4k,0,[MP H.length,V (.slice none 0 0)]⟩]) := fun H' K=>_root_.id rfl
 rw [e1,e2 .nil,e3]
 have e4 : ghS 0 1 z5A 1 ⟨H ++ [tmO []] ++ [⟨1,z4k,0,[MP H.length,V (.slice none 0 0)]⟩],[(0,OP (H ++ [tmO []]).length 0)]⟩ = ⟨H ++ [tmO [],ttO H.length [],trO []],[(0,OP (H.length + 1) 0)]⟩ := by
  unfold ghS
  show (match OP (H ++ [tmO []]).length 0 with|_=>_) = _
  have h1 : (H ++ [tmO []] ++ [⟨1,z4k,0,[MP H.length,V (.slice none 0 0)]⟩])[(H ++ [tmO []]).length]? = some ⟨1,z4k,0,[MP H.length,V (.slice none 0 0)]⟩ := by simp
  dsimp only
  rw [h1]
  simp [ttO,trO]
 rw [e4,zkh,zlH]
 have h2 := hH (H.length + 3) (by omega)
 have h3 : (H ++ [tmO [],ttO H.length [],trO []]).all (ltO (H.length + 3)) = true := by
  rw [List.all_append,h2]
  simp [zte,zth (show H.length + 2 < H.length + 3 by omega),znu]
 have h4 : (H ++ [tmO [],ttO H.length [],trO []]).length = H.length + 3 := by simp
 rw [h4,h3]
 have h5 : ltT (H.length + 3) (OP (H.length + 1) 0) = true := decide_eq_true (show H.length + 1 < H.length + 3 by omega)
 rw [show ro (H ++ [tmO [],ttO H.length [],trO []]) (OP (H.length + 1) 0) = OP (H.length + 1) 0 from rfl,h5]
 rfl
end Go.Proofs.Ytaaogcnjfkgnoaa

namespace Go.Proofs.Ytaaogcnjfkgnoaa
open Go.RowKit
attribute [local go_sem] Nat.zero_add Nat.add_zero Nat.mul_one Int.toNat_natCast Int.natCast_zero Int.cast_ofNat_Int or_false false_or or_true true_or Nat.sub_zero Int.natCast_nonneg Int.toNat_zero Bool.true_and Bool.and_true Bool.false_and Bool.and_false Bool.true_or Bool.or_true Bool.false_or Bool.or_false Bool.not_true Bool.not_false Bool.not_not true_and and_true false_and and_false not_true_eq_false not_false_eq_true eq_self decide_true decide_false ne_eq implies_true forall_const true_implies false_implies Bool.true_eq_false Bool.false_eq_true List.map_cons List.map_nil List.all_cons List.all_nil List.length_cons List.length_nil List.length_map List.length_append List.nil_append List.cons_append List.set_cons_zero List.set_cons_succ List.set_nil List.drop_zero List.drop_succ_cons List.drop_nil List.take_zero List.take_succ_cons List.take_nil Option.map_some Option.map_none Option.isSome_some List.all_append List.all_map Function.comp_def decide_eq_true_eq Bool.and_eq_true beq_self_eq_true or_self and_self ite_true ite_false Nat.le_refl Bool.not_eq_true decide_not Bool.not_eq_true' decide_eq_false_iff_not Bool.not_eq_false Bool.or_eq_true if_true if_false ite_self u_roF u_cvF u_cvC u_ceT u_ceK z2m sm_it z6A z37 z5m z6p z3d sm_ro z3i sm_sl z6a z69 sm_fr z1F z13 sm_kd z28 z12 sm_vw z1u z0P sm_sq z1R z0S sm_tm z1q z0L z2R z2b z3k z63 z64 z29 z3g z1p z1y z2F z39 ce_it z6J z31 z4Z z6x z3A ce_ro z3t ce_sl z6d z6g ce_sq z1X z14 ce_vw z1C z0H ce_tm z1U z0W z33 z0v z0n ce_vs z1P z0X z36 z1t z3r z6F z6H z1T z2X z1z z2c z2M z2V cg_it z67 z3s z61 z6n z2U cg_ro z3E cg_sl z6b z6u cg_fr z1J z0N cg_vw z1Q z11 cg_st z1M z0G cg_rt z1H z17 cg_pf z1Z z0E cg_cs z1N z0I z32 z1I z3b z6y z6c z1V z3v z23 z1L z35 z3p ms_it z6o z3n z6C z6h z3h ms_ro z3e ms_sl z6E z6r ms_kd z1S z0R ms_fr z1v z0O ms_vw z25 z0U ms_sq z1s z0Z ms_tm z1G z0F z3c z0u z0o ms_vs z1E z0Y z68 z0Q z0x z3C z1W z3x z65 z6K z20 z3D z24 z27 z3q z2Y co_it z6M z2W z6D z6m z3m co_ro z3o co_sl z6w z66 co_sq z26 z0V co_tm z1B z0K z3z z0y z0p co_nl z1w z0M z3y z1o z3l z6N z6v z1K z3j z1Y z1O z2N z2Z sd_it z6e z3B z6z z6G z3a sd_ro z2T sd_sl z6I z6i sd_wh z21 z15 sd_fr z1x z0T sd_kd z1D z18 sd_vw z1A z0J sd_sq z22 z16 sd_tm z1r z10 z30 z38 z6f z5O u_bz u_bi1 u_bi2 u_bi3 u_bi4 u_bi5 u_bi6 u_bi7 scM_0 scM_1 scM_2 scM_3 scM_4 scM_5 scY_0 scY_1 scY_2 scY_3 scY_4 scY_5 scS_0 scS_1 scS_2 scS_3 scS_4 scS_5 scT_0 scT_1 scT_2 scT_3 scT_4 scT_5 scB_0 scB_k zmn zlf z9t zf1 zfi List.append_assoc Nat.le_add_right ltO_o ltO_r u_eqE
attribute [local go_sem_proc] Nat.reduceAdd Nat.reduceSub Nat.reduceMul Nat.reduceLeDiff Nat.reduceLT Int.reduceEq Int.reduceNe Int.reduceLT Int.reduceLE Int.reduceAdd Int.reduceSub Int.reduceMul Int.reduceNeg Int.reduceToNat reduceCtorEq Nat.reduceEqDiff Nat.reduceBEq Nat.reduceGT
attribute [local go_sem_proc ↓] reduceIte
section
variable {R : Type} {a k : Nat} {n : Int} {bd : List Bool} {L : List Sm} {K : AV → Option R} {K1 : List AV → Option R} {K2 : AObj → Option R}
theorem zfd : zh8 (rgO a n bd L) K1 = K1 (rgC a n bd L) := by unfold rgO;exact u_cl1
theorem rg_0 : nthE (rgC a n bd L) 0 K = K (nA n) := _root_.id rfl
theorem zyV (h : bd.length = 64) (hk : k < 64) : (rgC a n bd L)[1 + k]? = some (bA (bd.getD k false)) := by
 unfold rgC
 rw [show 1 + k = k + 1 by omega,List.getElem?_cons_succ,List.getElem?_append_left (by simp;omega),List.getElem?_map,List.getD_eq_getElem?_getD,List.getElem?_eq_getElem (by omega)]
 rfl
theorem rg_b (h : bd.length = 64) (hk : k < 64) : nthE (rgC a n bd L) (1 + k) K = K (bA (bd.getD k false)) := by
 have := zyV (a := a) (n := n) (L := L) h hk
 unfold nthE
 rw [this]
theorem rg_m (h : bd.length = 64) : nthE (rgC a n bd L) 65 K = K (MP a) := by
 have : (rgC a n bd L)[65]? = some (MP a) := by
  unfold rgC
  rw [List.getElem?_cons_succ,List.getElem?_append_right (by simp;omega)]
  simp [h]
 unfold nthE
 rw [this]
theorem rg_r (h : bd.length = 64) : nthE (rgC a n bd L) 66 K = K (OW (a + 2) L.length) := by
 have : (rgC a n bd L)[66]? = some (OW (a + 2) L.length) := by
  unfold rgC
  rw [List.getElem?_cons_succ,List.getElem?_append_right (by simp;omega)]
  simp [h]
 unfold nthE
 rw [this]
theorem zrj (h : bd.length = 64) : (rgC a n bd L).length = 67 := by simp [rgC,h]
theorem zv5 (h : bd.length = 64) (hk : k < 64) (b : Bool) : putE (rgO a n bd L) 1 (1 + k) (bA b) K2 = K2 (rgO a n (bd.set k b) L) := by
 unfold rgO
 rw [u_pt1]
 have h1 : z06 (rgC a n bd L) (1 + k) (cellsOf (bA b)) = rgC a n (bd.set k b) L := by
  show (rgC a n bd L).set (1 + k) (bA b) = _
  unfold rgC
  rw [show 1 + k = k + 1 by omega,List.set_cons_succ,List.set_append_left _ _ (by simp;omega),List.map_set]
 rw [h1,zrj h,show decide (1 + k + szOf 1 ≤ 67) = true from decide_eq_true (by simp [szOf];omega)]
 rfl
theorem zwX (h : bd.length = 64) (s : Sm) : putE (rgO a n bd L) 1 66 (OW (a + 2) (L.length + 1)) K2 = K2 (rgO a n bd (L ++ [s])) := by
 unfold rgO
 rw [u_pt1]
 have h1 : z06 (rgC a n bd L) 66 (cellsOf (OW (a + 2) (L.length + 1))) = rgC a n bd (L ++ [s]) := by
  show (rgC a n bd L).set 66 (OW (a + 2) (L.length + 1)) = _
  unfold rgC
  rw [List.set_cons_succ,List.set_append_right _ _ (by simp;omega)]
  simp [h]
 rw [h1,zrj h,show decide (66 + szOf 1 ≤ 67) = true from by decide]
 rfl
end
def badB (n : Int) (bd : List Bool) (p : Int) : Bool := decide (0 ≤ p) && decide (p < n) && bd.getD p.toNat false
theorem gis_s (m : Nat) (A B : List AObj) (σ : Sg) (p : Int) (hG : GB A B) : z8W m (OP (A.length + 4) 0) (nA p) (sc A B σ) = some (bA (decide (0 ≤ p) && decide (p < σ.n)),sc A B σ) := by
 have hlt := fun {L : List (List UInt8)} {n : Int} {bd : List Bool} {R : List Sm}=>zkt hG (L := L) (n := n) (bd := bd) (R := R)
 rw [zjq]
 unfold sc
 by_cases h : 0 ≤ p
 ·simp (config := {maxSteps := 4000000,implicitDefEqProofs := false}) (disch := omega) only [go_sem,zfd,rg_0,hlt,h]
 ·simp (config := {maxSteps := 4000000,implicitDefEqProofs := false}) (disch := omega) only [go_sem,zfd,rg_0,hlt,h]
theorem zwN (m : Nat) (A B : List AObj) (σ : Sg) (p : Int) (hG : GB A B) (hσ : SgOk σ) : z9m m (OP (A.length + 4) 0) (nA p) (sc A B σ) = some (bA (badB σ.n σ.bd p),sc A B σ) := by
 have hi := gis_s m A B σ p hG
 have hlt := fun {L : List (List UInt8)} {n : Int} {bd : List Bool} {R : List Sm}=>zkt hG (L := L) (n := n) (bd := bd) (R := R)
 have hn := hσ.n2
 have hb := hσ.bl
 rw [ziI]
 unfold badB
 by_cases h : 0 ≤ p ∧ p < σ.n
 ·have e1 : (decide (0 ≤ p) && decide (p < σ.n)) = true := by simp [h]
  rw [e1] at hi ⊢
  unfold sc at *
  have h1 := h.1
  have h2 : p < 64 := by omega
  have h3 : p.toNat < 64 := by omega
  have hr := fun (K : AV → RO)=>rg_b (a := A.length + 3) (n := σ.n) (bd := σ.bd) (L := σ.R) (k := p.toNat) (K := K) hb h3
  simp (config := {maxSteps := 4000000,implicitDefEqProofs := false}) (disch := omega) only [go_sem,hi,zfd,hr,hlt,h1,h2,szOf]
 ·have e1 : (decide (0 ≤ p) && decide (p < σ.n)) = false := by
   rw [Bool.eq_false_iff]
   simpa using h
  rw [e1] at hi ⊢
  unfold sc at *
  simp (config := {maxSteps := 4000000,implicitDefEqProofs := false}) (disch := omega) only [go_sem,hi,hlt]
theorem zp0 {A B Y : List AObj} {o0 o1 o2 o3 o4 o5 : AObj} : (scM A B o0 o1 o2 o3 o4 o5 ++ Y)[A.length + 3]? = some o3 := by rw [← z7I];exact zvN
theorem zs5 {R : List Sm} {s : Sm} : decide ((0 : Int) < (posL R s : Int)) = decide (s ∈ R) := by
 rw [decide_eq_decide]
 unfold posL
 split
 ·simp [*]
 ·simp [*]
theorem ztz (m : Nat) (A B : List AObj) (σ : Sg) (s : Sm) (hG : GB A B) (hσ : SgOk σ) (hs : SmI s) : z7O m (OP (A.length + 4) 0) (smE s) (sc A B σ) = some (bA (decide (s ∈ σ.R)),sc A B σ) := by
 have hlt := fun {L : List (List UInt8)} {n : Int} {bd : List Bool} {R : List Sm}=>zkt hG (L := L) (n := n) (bd := bd) (R := R)
 have hb := hσ.bl
 have hr := fun (K : AV → RO)=>rg_m (a := A.length + 3) (n := σ.n) (bd := σ.bd) (L := σ.R) (K := K) hb
 have hl := fun (K : AV → RO)=>zuO (K := K) (s := s) (zp0 (A := A) (B := B) (Y := [⟨1,z01,0,smC s⟩]) (o0 := tmO σ.T) (o1 := ttO A.length σ.T) (o2 := trO σ.T) (o3 := rmO σ.R) (o4 := rgO (A.length + 3) σ.n σ.bd σ.R) (o5 := rrO σ.R)) hσ.rn hσ.ri hs
 rw [ziq,sm_it]
 unfold sc
 simp (config := {maxSteps := 4000000,implicitDefEqProofs := false}) (disch := omega) only [go_sem,hl,zfd,hr,hlt,zs5]
end Go.Proofs.Ytaaogcnjfkgnoaa

namespace Go.Proofs.Ytaaogcnjfkgnoaa
open Go.RowKit
attribute [local go_sem] Nat.zero_add Nat.add_zero Nat.mul_one Int.toNat_natCast Int.natCast_zero Int.cast_ofNat_Int or_false false_or or_true true_or Nat.sub_zero Int.natCast_nonneg Int.toNat_zero Bool.true_and Bool.and_true Bool.false_and Bool.and_false Bool.true_or Bool.or_true Bool.false_or Bool.or_false Bool.not_true Bool.not_false Bool.not_not true_and and_true false_and and_false not_true_eq_false not_false_eq_true eq_self decide_true decide_false ne_eq implies_true forall_const true_implies false_implies Bool.true_eq_false Bool.false_eq_true List.map_cons List.map_nil List.all_cons List.all_nil List.length_cons List.length_nil List.length_map List.length_append List.nil_append List.cons_append List.set_cons_zero List.set_cons_succ List.set_nil List.drop_zero List.drop_succ_cons List.drop_nil List.take_zero List.take_succ_cons List.take_nil Option.map_some Option.map_none Option.isSome_some List.all_append List.all_map Function.comp_def decide_eq_true_eq Bool.and_eq_true beq_self_eq_true or_self and_self ite_true ite_false Nat.le_refl Bool.not_eq_true decide_not Bool.not_eq_true' decide_eq_false_iff_not Bool.not_eq_false Bool.or_eq_true if_true if_false ite_self u_roF u_cvF u_cvC u_ceT u_ceK z2m sm_it z6A z37 z5m z6p z3d sm_ro z3i sm_sl z6a z69 sm_fr z1F z13 sm_kd z28 z12 sm_vw z1u z0P sm_sq z1R z0S sm_tm z1q z0L z2R z2b z3k z63 z64 z29 z3g z1p z1y z2F z39 ce_it z6J z31 z4Z z6x z3A ce_ro z3t ce_sl z6d z6g ce_sq z1X z14 ce_vw z1C z0H ce_tm z1U z0W z33 z0v z0n ce_vs z1P z0X z36 z1t z3r z6F z6H z1T z2X z1z z2c z2M z2V cg_it z67 z3s z61 z6n z2U cg_ro z3E cg_sl z6b z6u cg_fr z1J z0N cg_vw z1Q z11 cg_st z1M z0G cg_rt z1H z17 cg_pf z1Z z0E cg_cs z1N z0I z32 z1I z3b z6y z6c z1V z3v z23 z1L z35 z3p ms_it z6o z3n z6C z6h z3h ms_ro z3e ms_sl z6E z6r ms_kd z1S z0R ms_fr z1v z0O ms_vw z25 z0U ms_sq z1s z0Z ms_tm z1G z0F z3c z0u z0o ms_vs z1E z0Y z68 z0Q z0x z3C z1W z3x z65 z6K z20 z3D z24 z27 z3q z2Y co_it z6M z2W z6D z6m z3m co_ro z3o co_sl z6w z66 co_sq z26 z0V co_tm z1B z0K z3z z0y z0p co_nl z1w z0M z3y z1o z3l z6N z6v z1K z3j z1Y z1O z2N z2Z sd_it z6e z3B z6z z6G z3a sd_ro z2T sd_sl z6I z6i sd_wh z21 z15 sd_fr z1x z0T sd_kd z1D z18 sd_vw z1A z0J sd_sq z22 z16 sd_tm z1r z10 z30 z38 z6f z5O u_bz u_bi1 u_bi2 u_bi3 u_bi4 u_bi5 u_bi6 u_bi7 scM_0 scM_1 scM_2 scM_3 scM_4 scM_5 scY_0 scY_1 scY_2 scY_3 scY_4 scY_5 scS_0 scS_1 scS_2 scS_3 scS_4 scS_5 scT_0 scT_1 scT_2 scT_3 scT_4 scT_5 scB_0 scB_k zmn zlf z9t zf1 zfi List.append_assoc Nat.le_add_right ltO_o ltO_r u_eqE
attribute [local go_sem_proc] Nat.reduceAdd Nat.reduceSub Nat.reduceMul Nat.reduceLeDiff Nat.reduceLT Int.reduceEq Int.reduceNe Int.reduceLT Int.reduceLE Int.reduceAdd Int.reduceSub Int.reduceMul Int.reduceNeg Int.reduceToNat reduceCtorEq Nat.reduceEqDiff Nat.reduceBEq Nat.reduceGT
attribute [local go_sem_proc ↓] reduceIte
def okS (n : Int) (bd : List Bool) (p : Int) (s : Sm) : Bool := (decide (0 ≤ p) && decide (p < n)) && (decide (s.fr = p) || (badB n bd p && badB n bd s.fr))
def sayR (σ : Sg) (p : Int) (s : Sm) : List Sm := if okS σ.n σ.bd p s = true ∧ s ∉ σ.R ∧ σ.R.length < 65536 then σ.R ++ [s] else σ.R
def sayE (σ : Sg) (p : Int) (s : Sm) : Int := if (decide (0 ≤ p) && decide (p < σ.n)) = false then 4 else if okS σ.n σ.bd p s = false then 19 else if s ∈ σ.R then 0 else if 65536 ≤ σ.R.length then 5 else 0
theorem rr_k {L : List Sm} : (rrO L).k = 2 := _root_.id rfl
theorem rr_e {L : List Sm} : (rrO L).e = z01 := _root_.id rfl
theorem rr_z {L : List Sm} : (rrO L).z = 5 := _root_.id rfl
theorem rr_c {L : List Sm} : (rrO L).c = L.map smE := _root_.id rfl
theorem zzs {L : List Sm} {s : Sm} : (⟨2,z01,5,L.map smE ++ [.agg (smC s)]⟩ : AObj) = rrO (L ++ [s]) := by simp [rrO,smE]
theorem zyy (m : Nat) (A B : List AObj) (σ : Sg) (s : Sm) (hG : GB A B) (hσ : SgOk σ) (hs : SmI s) (hl : σ.R.length < 65536) :
  z7R m (nAB A B) ⟨sc A B σ ++ [⟨1,z01,0,smC s⟩],[(0,OP (A.length + 4) 0),(5,OP (nAB A B) 0)]⟩ = some (nA 0,sc A B { σ with R := σ.R ++ [s] }) := by
 have hlt := fun {L : List (List UInt8)} {n : Int} {bd : List Bool} {R : List Sm}=>zkt hG (L := L) (n := n) (bd := bd) (R := R)
 have hb := hσ.bl
 obtain ⟨T,n,bd,R⟩ := σ
 dsimp only at *
 have hm1 := fun {L : List Sm} (K : AV → RO)=>rg_m (a := A.length + 3) (n := n) (bd := bd) (L := L) (K := K) hb
 have hr1 := fun {L : List Sm} (K : AV → RO)=>rg_r (a := A.length + 3) (n := n) (bd := bd) (L := L) (K := K) hb
 have hp1 := fun (K : AObj → RO)=>zwX (a := A.length + 3) (n := n) (bd := bd) (L := R) (K2 := K) hb s
 have hpu := fun (K : List AObj → RO)=>zxZ (K := K) (s := s) (zp0 (A := A) (B := B) (Y := [⟨1,z01,0,smC s⟩]) (o0 := tmO T) (o1 := ttO A.length T) (o2 := trO T) (o3 := rmO R) (o4 := rgO (A.length + 3) n bd (R ++ [s])) (o5 := rrO (R ++ [s]))) hs (by omega)
 have hx : (R ++ [s]).length = R.length + 1 := by simp
 have hbb : R.length + 1 ≤ 34359738368 := by omega
 have e3 : A.length + 3 + 2 = A.length + 5 := rfl
 have hp1 := fun (K : AObj → RO)=>(show putE (rgO (A.length + 3) n bd R) 1 66 (OW (A.length + 5) (R.length + 1)) K = _ from hp1 K)
 rw [zfP]
 unfold sc
 simp (config := {maxSteps := 4000000,implicitDefEqProofs := false}) (disch := omega) only [go_sem,zfd,hm1,hr1,e3,rr_k,rr_e,rr_z,rr_c,zzs,hp1,hpu,hx,hbb,hlt]
theorem zza (m : Nat) (A B : List AObj) (σ : Sg) (s : Sm) (b : Bool) (hG : GB A B) (hσ : SgOk σ) (hs : SmI s) :
  z5Q m (nAB A B) ⟨sc A B σ ++ [⟨1,z01,0,smC s⟩],[(0,OP (A.length + 4) 0),(5,OP (nAB A B) 0),(12,bA b)]⟩ = some (nA (if b = true then 19 else if s ∈ σ.R then 0 else if 65536 ≤ σ.R.length then 5 else 0),sc A B { σ with R := if b = false ∧ s ∉ σ.R ∧ σ.R.length < 65536 then σ.R ++ [s] else σ.R }) := by
 have hk := fun (X : AV) h=>zsC (A := A) (B := B) (Y := [⟨1,z01,0,smC s⟩]) (σ := σ) (X := X) hG h
 have hh := ztz m A (B ++ [⟨1,z01,0,smC s⟩]) σ s (hG.app fun n=>by simp [z5m,ltO]) hσ hs
 rw [zcj] at hh
 have hlt := fun {L : List (List UInt8)} {n : Int} {bd : List Bool} {R : List Sm}=>zkt hG (L := L) (n := n) (bd := bd) (R := R)
 have hb := hσ.bl
 have hr1 := fun {L : List Sm} (K : AV → RO)=>rg_r (a := A.length + 3) (n := σ.n) (bd := σ.bd) (L := L) (K := K) hb
 have e3 : A.length + 3 + 2 = A.length + 5 := rfl
 rw [zgd]
 cases b with
 |true =>
  unfold sc at *
  simp (config := {maxSteps := 4000000,implicitDefEqProofs := false}) (disch := omega) only [go_sem,hlt]
 |false =>
  rw [sm_it] at hh
  by_cases h1 : s ∈ σ.R
  ·have h1' : decide (s ∈ σ.R) = true := decide_eq_true h1
   rw [h1'] at hh
   unfold sc at *
   simp (config := {maxSteps := 4000000,implicitDefEqProofs := false}) (disch := omega) only [go_sem,hh,h1,hlt]
  ·have h1' : decide (s ∈ σ.R) = false := decide_eq_false h1
   rw [h1'] at hh
   by_cases h2 : 65536 ≤ σ.R.length
   ·have h2' : (65536 : Int) ≤ (σ.R.length : Int) := by omega
    have h3 : ¬ σ.R.length < 65536 := by omega
    unfold sc at *
    simp (config := {maxSteps := 4000000,implicitDefEqProofs := false}) (disch := omega) only [go_sem,hh,h1,h2,h2',h3,zfd,hr1,e3,hlt]
   ·have h2' : ¬ (65536 : Int) ≤ (σ.R.length : Int) := by omega
    have h3 : σ.R.length < 65536 := by omega
    have h4 := zyy m A B σ s hG hσ hs h3
    unfold sc at *
    simp (config := {maxSteps := 4000000,implicitDefEqProofs := false}) (disch := omega) only [go_sem,hh,h1,h2,h2',h3,h4,zfd,hr1,e3,hlt]
theorem zu8 (m : Nat) (A B : List AObj) (σ : Sg) (p : Int) (s : Sm) (hG : GB A B) (hσ : SgOk σ) (hs : SmI s) :
  z7E m (OP (A.length + 4) 0) (nA p) (smE s) (sc A B σ) = some (nA (sayE σ p s),sc A B { σ with R := sayR σ p s }) := by
 have hG1 : GB A (B ++ [⟨1,z01,0,smC s⟩]) := hG.app fun n=>by simp [z5m,ltO]
 have hi := gis_s m A (B ++ [⟨1,z01,0,smC s⟩]) σ p hG1
 have hb1 := zwN m A (B ++ [⟨1,z01,0,smC s⟩]) σ p hG1 hσ
 have hb2 := zwN m A (B ++ [⟨1,z01,0,smC s⟩]) σ s.fr hG1 hσ
 rw [zcj] at hi hb1 hb2
 have h19 := fun b=>zza m A B σ s b hG hσ hs
 have hlt := fun {L : List (List UInt8)} {n : Int} {bd : List Bool} {R : List Sm}=>zkt hG (L := L) (n := n) (bd := bd) (R := R)
 rw [ziV,sm_it]
 unfold sayE sayR okS
 cases h1 : (decide (0 ≤ p) && decide (p < σ.n)) with
 |false =>
  rw [h1] at hi
  unfold sc at *
  simp (config := {maxSteps := 4000000,implicitDefEqProofs := false}) (disch := omega) only [go_sem,hi,hlt]
 |true =>
  rw [h1] at hi
  by_cases h2 : s.fr = p
  ·have := h19 false
   unfold sc at *
   simp (config := {maxSteps := 4000000,implicitDefEqProofs := false}) (disch := omega) only [go_sem,hi,h2,this,hlt]
  ·cases h3 : badB σ.n σ.bd p with
   |false =>
    rw [h3] at hb1
    have := h19 true
    unfold sc at *
    simp (config := {maxSteps := 4000000,implicitDefEqProofs := false}) (disch := omega) only [go_sem,hi,h2,hb1,this,hlt]
   |true =>
    rw [h3] at hb1
    cases h4 : badB σ.n σ.bd s.fr with
    |false =>
     rw [h4] at hb2
     have := h19 true
     unfold sc at *
     simp (config := {maxSteps := 4000000,implicitDefEqProofs := false}) (disch := omega) only [go_sem,hi,h2,hb1,hb2,this,hlt]
    |true =>
     rw [h4] at hb2
     have := h19 false
     unfold sc at *
     simp (config := {maxSteps := 4000000,implicitDefEqProofs := false}) (disch := omega) only [go_sem,hi,h2,hb1,hb2,this,hlt]
end Go.Proofs.Ytaaogcnjfkgnoaa

namespace Go.Proofs.Ytaaogcnjfkgnoaa
open Go.RowKit
attribute [local go_sem] Nat.zero_add Nat.add_zero Nat.mul_one Int.toNat_natCast Int.natCast_zero Int.cast_ofNat_Int or_false false_or or_true true_or Nat.sub_zero Int.natCast_nonneg Int.toNat_zero Bool.true_and Bool.and_true Bool.false_and Bool.and_false Bool.true_or Bool.or_true Bool.false_or Bool.or_false Bool.not_true Bool.not_false Bool.not_not true_and and_true false_and and_false not_true_eq_false not_false_eq_true eq_self decide_true decide_false ne_eq implies_true forall_const true_implies false_implies Bool.true_eq_false Bool.false_eq_true List.map_cons List.map_nil List.all_cons List.all_nil List.length_cons List.length_nil List.length_map List.length_append List.nil_append List.cons_append List.set_cons_zero List.set_cons_succ List.set_nil List.drop_zero List.drop_succ_cons List.drop_nil List.take_zero List.take_succ_cons List.take_nil Option.map_some Option.map_none Option.isSome_some List.all_append List.all_map Function.comp_def decide_eq_true_eq Bool.and_eq_true beq_self_eq_true or_self and_self ite_true ite_false Nat.le_refl Bool.not_eq_true decide_not Bool.not_eq_true' decide_eq_false_iff_not Bool.not_eq_false Bool.or_eq_true if_true if_false ite_self u_roF u_cvF u_cvC u_ceT u_ceK z2m sm_it z6A z37 z5m z6p z3d sm_ro z3i sm_sl z6a z69 sm_fr z1F z13 sm_kd z28 z12 sm_vw z1u z0P sm_sq z1R z0S sm_tm z1q z0L z2R z2b z3k z63 z64 z29 z3g z1p z1y z2F z39 ce_it z6J z31 z4Z z6x z3A ce_ro z3t ce_sl z6d z6g ce_sq z1X z14 ce_vw z1C z0H ce_tm z1U z0W z33 z0v z0n ce_vs z1P z0X z36 z1t z3r z6F z6H z1T z2X z1z z2c z2M z2V cg_it z67 z3s z61 z6n z2U cg_ro z3E cg_sl z6b z6u cg_fr z1J z0N cg_vw z1Q z11 cg_st z1M z0G cg_rt z1H z17 cg_pf z1Z z0E cg_cs z1N z0I z32 z1I z3b z6y z6c z1V z3v z23 z1L z35 z3p ms_it z6o z3n z6C z6h z3h ms_ro z3e ms_sl z6E z6r ms_kd z1S z0R ms_fr z1v z0O ms_vw z25 z0U ms_sq z1s z0Z ms_tm z1G z0F z3c z0u z0o ms_vs z1E z0Y z68 z0Q z0x z3C z1W z3x z65 z6K z20 z3D z24 z27 z3q z2Y co_it z6M z2W z6D z6m z3m co_ro z3o co_sl z6w z66 co_sq z26 z0V co_tm z1B z0K z3z z0y z0p co_nl z1w z0M z3y z1o z3l z6N z6v z1K z3j z1Y z1O z2N z2Z sd_it z6e z3B z6z z6G z3a sd_ro z2T sd_sl z6I z6i sd_wh z21 z15 sd_fr z1x z0T sd_kd z1D z18 sd_vw z1A z0J sd_sq z22 z16 sd_tm z1r z10 z30 z38 z6f z5O u_bz u_bi1 u_bi2 u_bi3 u_bi4 u_bi5 u_bi6 u_bi7 scM_0 scM_1 scM_2 scM_3 scM_4 scM_5 scY_0 scY_1 scY_2 scY_3 scY_4 scY_5 scS_0 scS_1 scS_2 scS_3 scS_4 scS_5 scT_0 scT_1 scT_2 scT_3 scT_4 scT_5 scB_0 scB_k zmn zlf z9t zf1 zfi List.append_assoc Nat.le_add_right ltO_o ltO_r u_eqE
attribute [local go_sem_proc] Nat.reduceAdd Nat.reduceSub Nat.reduceMul Nat.reduceLeDiff Nat.reduceLT Int.reduceEq Int.reduceNe Int.reduceLT Int.reduceLE Int.reduceAdd Int.reduceSub Int.reduceMul Int.reduceNeg Int.reduceToNat reduceCtorEq Nat.reduceEqDiff Nat.reduceBEq Nat.reduceGT
attribute [local go_sem_proc ↓] reduceIte
theorem zbl {R : Type} {x y : Sm} {isB sl : Bool} {K1 : AV → Option R} : binE (some [.i .i64, .i .i64, .i .i64, .i .i64, .i .i64]) isB sl .eql (.agg (smC x)) (.agg (smC y)) K1 = K1 (bA (decide (x = y))) := by
 show K1 (bA (decide (x.fr = y.fr) && (decide (x.kd = y.kd) && (decide (x.vw = y.vw) && (decide (x.sq = y.sq) && (decide (x.tm = y.tm) && true)))))) = _
 congr 2
 obtain ⟨a,b,c,d,e⟩ := x
 obtain ⟨a',b',c',d',e'⟩ := y
 rw [Bool.eq_iff_iff]
 simp [and_assoc]
def hitB (w : Sm) (R : List Sm) (x : Sm) : Bool := decide (x = { w with fr := x.fr }) && decide (x ∈ R)
def spS (w : Sm) (R : List Sm) (b : List Bool) (x : Sm) : List Bool := if hitB w R x = true then b.set x.fr.toNat true else b
def spL (w : Sm) (R : List Sm) (l : List Sm) : List Bool := l.foldl (spS w R) (List.replicate 64 false)
theorem zrs {w : Sm} {R : List Sm} {b : List Bool} {x : Sm} : (spS w R b x).length = b.length := by
 unfold spS
 split <;> simp
theorem zr1 {w : Sm} {R : List Sm} : ∀ (l : List Sm) (b : List Bool),(l.foldl (spS w R) b).length = b.length
 |[],b=>rfl
 |x :: l,b=>by
  show (l.foldl (spS w R) (spS w R b x)).length = _
  rw [zr1 l,zrs]
theorem zwV {w : Sm} {R : List Sm} {l : List Sm} : (spL w R l).length = 64 := by unfold spL;rw [zr1];simp
theorem zsh {w : Sm} {R : List Sm} {l : List Sm} {k : Nat} (h : k < l.length) : spL w R (l.take (k + 1)) = spS w R (spL w R (l.take k)) l[k] := by
 unfold spL
 rw [List.take_succ_eq_append_getElem h,List.foldl_append]
 rfl
def wK (w : Sm) (l : List Sm) : Nat → Sm
 |0=>w
 |k + 1=>{ w with fr := (l.getD k Sm.zero).fr }
theorem zz0 {w : Sm} {l : List Sm} : ∀ k : Nat,({ wK w l k with fr := (l.getD k Sm.zero).fr } : Sm) = wK w l (k + 1)
 |0=>rfl
 |k + 1=>rfl
def vA (b : List Bool) : AObj := ⟨1,zha,0,b.map bA⟩
theorem zta {R : Type} {b : List Bool} {K : List AV → Option R} : zh8 (vA b) K = K (b.map bA) := by unfold vA;exact u_cl1
theorem zzo {R : Type} {b : List Bool} (hb : b.length = 64) {k : Nat} (hk : k < 64) {K : AObj → Option R} {x : Bool} : putE (vA b) 1 k (bA x) K = K (vA (b.set k x)) := by
 unfold vA
 rw [u_pt1]
 have h1 : z06 (b.map bA) k (cellsOf (bA x)) = (b.set k x).map bA := by
  show (b.map bA).set k (bA x) = _
  rw [List.map_set]
 rw [h1,List.length_map,hb,show decide (k + szOf 1 ≤ 64) = true from decide_eq_true (by simp [szOf];omega)]
 rfl
theorem zyw {n : Nat} {b : List Bool} : (b.map bA).all (ltA n) = true := by rw [List.all_map];exact List.all_eq_true.2 fun _ _=>rfl
theorem vA_lt {n : Nat} {b : List Bool} : ltO n (vA b) = true := by
 show ((1 : Nat) == 0 || (b.map bA).all (ltA n)) = true
 rw [zyw];rfl
theorem z92 {n : Nat} {s : Sm} : ltO n ⟨1,z01,0,smC s⟩ = true := by
 show ((1 : Nat) == 0 || (smC s).all (ltA n)) = true
 rw [z5m];rfl
theorem zv6 : (⟨1,zha,0,zgQ⟩ : AObj) = vA (List.replicate 64 false) := by
 unfold vA zgQ
 rfl
def outL (b : List Bool) (k : Nat) : List Int := ((List.range k).filter fun p=>b.getD p false).map fun p=>((p : Nat) : Int)
theorem zpP {b : List Bool} {k : Nat} : outL b (k + 1) = if b.getD k false = true then outL b k ++ [(k : Int)] else outL b k := by
 unfold outL
 rw [List.range_succ,List.filter_append,List.map_append]
 cases h : b.getD k false with
 |true=>simp only [List.filter_cons,List.filter_nil,h];rfl
 |false=>simp only [List.filter_cons,List.filter_nil,h];simp
theorem zok {b : List Bool} {k : Nat} : (outL b k).length ≤ k := by
 unfold outL
 rw [List.length_map]
 exact Nat.le_trans (List.length_filter_le ..) (by simp)
theorem zwA (m : Nat) (A B : List AObj) (σ : Sg) (w : Sm) (b : List Bool) (hb : b.length = 64) (hG : GB A B) (hm : 70 < m) :
  z8m m (nAB A B) ⟨sc A B σ ++ [⟨1,z01,0,smC w⟩,vA b],[(7,OP (nAB A B + 1) 0)]⟩ = some (SL ((outL b 64).map nA),sc A B σ) := by
 have hlt := sc_lt (σ := σ) hG (Nat.le_refl _)
 rw [zdR]
 have hd : (b.map bA).take 64 = b.map bA := by rw [List.take_of_length_le (by simp [hb])]
 simp (config := {maxSteps := 4000000,implicitDefEqProofs := false}) (disch := omega) only [go_sem,s_B0,s_Bk,zta,hb,hd,z8K]
 refine z4a (m := m) (ι := {k : Nat // k ≤ 64}) (fun k=>⟨sc A B σ ++ [⟨1,z01,0,smC w⟩,vA b,⟨2,z6Y,1,(outL b k.1).map nA⟩],[(10,OW (nAB A B + 2) (outL b k.1).length),(34, .agg (b.map bA)),(35,nA k.1)]⟩) (fun k=>64 - k.1) (fun _=>some (SL ((outL b 64).map nA),sc A B σ)) ?_ ⟨0,Nat.zero_le _⟩ (by dsimp only;omega)
 rintro kx hkx ⟨k,hk⟩ kc hkc
 dsimp only at hkc ⊢
 rw [zdX]
 by_cases h : k < 64
 ·have h' : (k : Int) < 64 := by omega
  have step := hkc ⟨k + 1,by omega⟩ (by dsimp only;omega)
  dsimp only at step
  have ho := zpP (b := b) (k := k)
  have hg : ∀ K : AV → RO,nthE (b.map bA) k K = K (bA (b.getD k false)) := fun K=>by
   unfold nthE
   rw [List.getElem?_map,List.getD_eq_getElem?_getD,List.getElem?_eq_getElem (by omega)]
   rfl
  have hol := zok (b := b) (k := k)
  have hB := fun n=>z92 (n := n) (s := w)
  have hV := fun n=>vA_lt (n := n) (b := b)
  have hlt3 := sc_lt (σ := σ) hG (n := nAB A B + 3) (by omega)
  have hw : IntKind.i64.wrap ((k : Int) + 1) = (k : Int) + 1 := w_i64 (by omega) (by omega)
  have hl2 : (outL b k).length ≤ 34359738367 := by omega
  have hbt : ∀ n,(b.map bA).all (lt1 n) = true := fun n=>by rw [List.all_map];exact List.all_eq_true.2 fun _ _=>rfl
  cases hbk : b.getD k false with
  |true =>
   rw [hbk,if_pos rfl] at ho
   rw [hbk] at hg
   rw [ho] at step
   have hr : (⟨2,z6Y,1,(outL b k).map nA ++ [nA k]⟩ : AObj) = ⟨2,z6Y,1,(outL b k ++ [(k : Int)]).map nA⟩ := by simp
   simp (config := {maxSteps := 4000000,implicitDefEqProofs := false}) (disch := omega) only [go_sem,h,h',hg,szOf,s_B0,s_Bk,s_Bsk,z8d,hlt3,hB,hV,hl2,hr,hw,Nat.add_lt_add_iff_left,z8K,z9q]
   simpa using step
  |false =>
   rw [hbk,if_neg (by decide)] at ho
   rw [hbk] at hg
   rw [ho] at step
   simp (config := {maxSteps := 4000000,implicitDefEqProofs := false}) (disch := omega) only [go_sem,h,h',hg,szOf,s_B0,s_Bk,s_Bsk,z8d,hlt3,hB,hV,zvp,hw,Nat.add_lt_add_iff_left,z8K,z9q]
   simpa using step
 ·obtain rfl : k = 64 := by omega
  have hro : ro1 (sc A B σ ++ [⟨1,z01,0,smC w⟩,vA b,⟨2,z6Y,1,(outL b 64).map nA⟩]) (OW (nAB A B + 2) (outL b 64).length) = SL ((outL b 64).map nA) := ro1W s_get (by simp)
  simp (config := {maxSteps := 4000000,implicitDefEqProofs := false}) (disch := omega) only [go_sem,h,hkx,zef,s_B0,s_Bk,z8K,zas,hlt,hro,zxJ]
end Go.Proofs.Ytaaogcnjfkgnoaa

namespace Go.Proofs.Ytaaogcnjfkgnoaa
open Go.RowKit
attribute [local go_sem] Nat.zero_add Nat.add_zero Nat.mul_one Int.toNat_natCast Int.natCast_zero Int.cast_ofNat_Int or_false false_or or_true true_or Nat.sub_zero Int.natCast_nonneg Int.toNat_zero Bool.true_and Bool.and_true Bool.false_and Bool.and_false Bool.true_or Bool.or_true Bool.false_or Bool.or_false Bool.not_true Bool.not_false Bool.not_not true_and and_true false_and and_false not_true_eq_false not_false_eq_true eq_self decide_true decide_false ne_eq implies_true forall_const true_implies false_implies Bool.true_eq_false Bool.false_eq_true List.map_cons List.map_nil List.all_cons List.all_nil List.length_cons List.length_nil List.length_map List.length_append List.nil_append List.cons_append List.set_cons_zero List.set_cons_succ List.set_nil List.drop_zero List.drop_succ_cons List.drop_nil List.take_zero List.take_succ_cons List.take_nil Option.map_some Option.map_none Option.isSome_some List.all_append List.all_map Function.comp_def decide_eq_true_eq Bool.and_eq_true beq_self_eq_true or_self and_self ite_true ite_false Nat.le_refl Bool.not_eq_true decide_not Bool.not_eq_true' decide_eq_false_iff_not Bool.not_eq_false Bool.or_eq_true if_true if_false ite_self u_roF u_cvF u_cvC u_ceT u_ceK z2m sm_it z6A z37 z5m z6p z3d sm_ro z3i sm_sl z6a z69 sm_fr z1F z13 sm_kd z28 z12 sm_vw z1u z0P sm_sq z1R z0S sm_tm z1q z0L z2R z2b z3k z63 z64 z29 z3g z1p z1y z2F z39 ce_it z6J z31 z4Z z6x z3A ce_ro z3t ce_sl z6d z6g ce_sq z1X z14 ce_vw z1C z0H ce_tm z1U z0W z33 z0v z0n ce_vs z1P z0X z36 z1t z3r z6F z6H z1T z2X z1z z2c z2M z2V cg_it z67 z3s z61 z6n z2U cg_ro z3E cg_sl z6b z6u cg_fr z1J z0N cg_vw z1Q z11 cg_st z1M z0G cg_rt z1H z17 cg_pf z1Z z0E cg_cs z1N z0I z32 z1I z3b z6y z6c z1V z3v z23 z1L z35 z3p ms_it z6o z3n z6C z6h z3h ms_ro z3e ms_sl z6E z6r ms_kd z1S z0R ms_fr z1v z0O ms_vw z25 z0U ms_sq z1s z0Z ms_tm z1G z0F z3c z0u z0o ms_vs z1E z0Y z68 z0Q z0x z3C z1W z3x z65 z6K z20 z3D z24 z27 z3q z2Y co_it z6M z2W z6D z6m z3m co_ro z3o co_sl z6w z66 co_sq z26 z0V co_tm z1B z0K z3z z0y z0p co_nl z1w z0M z3y z1o z3l z6N z6v z1K z3j z1Y z1O z2N z2Z sd_it z6e z3B z6z z6G z3a sd_ro z2T sd_sl z6I z6i sd_wh z21 z15 sd_fr z1x z0T sd_kd z1D z18 sd_vw z1A z0J sd_sq z22 z16 sd_tm z1r z10 z30 z38 z6f z5O u_bz u_bi1 u_bi2 u_bi3 u_bi4 u_bi5 u_bi6 u_bi7 scM_0 scM_1 scM_2 scM_3 scM_4 scM_5 scY_0 scY_1 scY_2 scY_3 scY_4 scY_5 scS_0 scS_1 scS_2 scS_3 scS_4 scS_5 scT_0 scT_1 scT_2 scT_3 scT_4 scT_5 scB_0 scB_k zmn zlf z9t zf1 zfi List.append_assoc Nat.le_add_right ltO_o ltO_r u_eqE
attribute [local go_sem_proc] Nat.reduceAdd Nat.reduceSub Nat.reduceMul Nat.reduceLeDiff Nat.reduceLT Int.reduceEq Int.reduceNe Int.reduceLT Int.reduceLE Int.reduceAdd Int.reduceSub Int.reduceMul Int.reduceNeg Int.reduceToNat reduceCtorEq Nat.reduceEqDiff Nat.reduceBEq Nat.reduceGT
attribute [local go_sem_proc ↓] reduceIte
theorem zqy (m : Nat) (A B : List AObj) (σ : Sg) (l : List Sm) (w : Sm) (hG : GB A B) (hσ : SgOk σ) (hm : 70 < m) (hlm : l.length < m) (hll : l.length ≤ 1000000) (hli : ∀ x ∈ l,SmI x) :
  z8x m (OP (A.length + 4) 0) (SL (l.map smE)) (smE w) (sc A B σ) = some (SL ((outL (spL w σ.R l) 64).map nA),sc A B σ) := by
 rw [zgk,sm_it]
 have hn2 := hσ.n2
 simp (config := {maxSteps := 4000000,implicitDefEqProofs := false}) (disch := omega) only [go_sem,z8K,zv6]
 refine z4a (m := m) (ι := {k : Nat // k ≤ l.length}) (fun k=>⟨sc A B σ ++ [⟨1,z01,0,smC (wK w l k.1)⟩,vA (spL w σ.R (l.take k.1))],[(0,OP (A.length + 4) 0),(5,OP (nAB A B) 0),(7,OP (nAB A B + 1) 0),(13,SL (l.map smE)),(14,nA l.length),(15,nA k.1)]⟩) (fun k=>l.length - k.1) (fun _=>some (SL ((outL (spL w σ.R l) 64).map nA),sc A B σ)) ?_ ⟨0,Nat.zero_le _⟩ (by dsimp only;omega)
 rintro kx hkx ⟨k,hk⟩ kc hkc
 dsimp only at hkc ⊢
 rw [zdG]
 have hW := fun n=>z92 (n := n) (s := wK w l k)
 by_cases h : k < l.length
 ·have h' : (k : Int) < (l.length : Int) := by omega
  have step := hkc ⟨k + 1,by omega⟩ (by dsimp only;omega)
  dsimp only at step
  rw [zsh h] at step
  have hgk : l.getD k Sm.zero = l[k] := by simp [List.getD,h]
  have hset := zz0 (w := w) (l := l) k
  rw [hgk] at hset
  have hV := fun {b : List Bool} n=>vA_lt (n := n) (b := b)
  have hlt2 := sc_lt (σ := σ) hG (n := nAB A B + 2) (by omega)
  have hsi := hli l[k] (List.getElem_mem h)
  have h4 : A.length + 4 < nAB A B + 2 := by unfold nAB;omega
  have hw1 : IntKind.i64.wrap ((k : Int) + 1) = (k : Int) + 1 := w_i64 (by omega) (by omega)
  have h64 := zwV (w := w) (R := σ.R) (l := l.take k)
  generalize hb : spL w σ.R (l.take k) = b at *
  have hW2 := fun n=>z92 (n := n) (s := wK w l (k + 1))
  have hS := fun n=>z92 (n := n) (s := l[k])
  have hhas := ztz m A (B ++ [⟨1,z01,0,smC (wK w l (k + 1))⟩,vA b,⟨1,z01,0,smC l[k]⟩]) σ l[k] (hG.app fun n=>by simp [hW2,hV,hS]) hσ hsi
  rw [zcj,sm_it] at hhas
  have hwk : wK w l (k + 1) = { w with fr := l[k].fr } := by show ({ w with fr := (l.getD k Sm.zero).fr } : Sm) = _;rw [hgk]
  by_cases h1 : l[k] = wK w l (k + 1)
  ·have h1' : decide (l[k] = wK w l (k + 1)) = true := decide_eq_true h1
   by_cases h2 : l[k] ∈ σ.R
   ·have h2' : decide (l[k] ∈ σ.R) = true := decide_eq_true h2
    rw [h2'] at hhas
    obtain ⟨f0,f1⟩ := hσ.rf _ h2
    have f2 : l[k].fr < 64 := by omega
    have f3 : l[k].fr.toNat < 64 := by omega
    have hp := fun (K : AObj → RO)=>zzo (b := b) h64 f3 (K := K) (x := true)
    have hsp : spS w σ.R b l[k] = b.set l[k].fr.toNat true := by
     unfold spS hitB
     rw [← hwk,h1',h2']
     rfl
    rw [hsp] at step
    simp (config := {maxSteps := 4000000,implicitDefEqProofs := false}) (disch := omega) only [go_sem,h,h',hset,s_B0,s_Bk,s_Bs0,s_Bsk,z8d,hlt2,hW2,hV,hS,h1',hhas,hp,f0,f2,szOf,zbl,hw1,h4,Nat.add_lt_add_iff_left,z8K,z5J,z5I]
    exact step
   ·have h2' : decide (l[k] ∈ σ.R) = false := decide_eq_false h2
    rw [h2'] at hhas
    have hsp : spS w σ.R b l[k] = b := by
     unfold spS hitB
     rw [h2',Bool.and_false]
     rfl
    rw [hsp] at step
    simp (config := {maxSteps := 4000000,implicitDefEqProofs := false}) (disch := omega) only [go_sem,h,h',hset,s_B0,s_Bk,s_Bs0,s_Bsk,z8d,hlt2,hW2,hV,hS,h1',hhas,szOf,zbl,hw1,h4,Nat.add_lt_add_iff_left,z8K,z5J,z5I]
    exact step
  ·have h1' : decide (l[k] = wK w l (k + 1)) = false := decide_eq_false h1
   have hsp : spS w σ.R b l[k] = b := by
    unfold spS hitB
    rw [← hwk,h1']
    rfl
   rw [hsp] at step
   simp (config := {maxSteps := 4000000,implicitDefEqProofs := false}) (disch := omega) only [go_sem,h,h',hset,s_B0,s_Bk,s_Bs0,s_Bsk,z8d,hlt2,hW2,hV,hS,h1',szOf,zbl,hw1,h4,Nat.add_lt_add_iff_left,z8K,z5J,z5I]
   exact step
 ·obtain rfl : k = l.length := by omega
  have h' : ¬ (l.length : Int) < (l.length : Int) := Int.lt_irrefl _
  have hr1 := zwA m A B σ (wK w l l.length) (spL w σ.R l) zwV hG hm
  have ht : l.take l.length = l := List.take_length
  simp (config := {maxSteps := 4000000,implicitDefEqProofs := false}) (disch := omega) only [go_sem,h,h',hkx,ht,hr1]
end Go.Proofs.Ytaaogcnjfkgnoaa

namespace Go.Proofs.Ytaaogcnjfkgnoaa
open Go.RowKit
attribute [local go_sem] Nat.zero_add Nat.add_zero Nat.mul_one Int.toNat_natCast Int.natCast_zero Int.cast_ofNat_Int or_false false_or or_true true_or Nat.sub_zero Int.natCast_nonneg Int.toNat_zero Bool.true_and Bool.and_true Bool.false_and Bool.and_false Bool.true_or Bool.or_true Bool.false_or Bool.or_false Bool.not_true Bool.not_false Bool.not_not true_and and_true false_and and_false not_true_eq_false not_false_eq_true eq_self decide_true decide_false ne_eq implies_true forall_const true_implies false_implies Bool.true_eq_false Bool.false_eq_true List.map_cons List.map_nil List.all_cons List.all_nil List.length_cons List.length_nil List.length_map List.length_append List.nil_append List.cons_append List.set_cons_zero List.set_cons_succ List.set_nil List.drop_zero List.drop_succ_cons List.drop_nil List.take_zero List.take_succ_cons List.take_nil Option.map_some Option.map_none Option.isSome_some List.all_append List.all_map Function.comp_def decide_eq_true_eq Bool.and_eq_true beq_self_eq_true or_self and_self ite_true ite_false Nat.le_refl Bool.not_eq_true decide_not Bool.not_eq_true' decide_eq_false_iff_not Bool.not_eq_false Bool.or_eq_true if_true if_false ite_self u_roF u_cvF u_cvC u_ceT u_ceK z2m sm_it z6A z37 z5m z6p z3d sm_ro z3i sm_sl z6a z69 sm_fr z1F z13 sm_kd z28 z12 sm_vw z1u z0P sm_sq z1R z0S sm_tm z1q z0L z2R z2b z3k z63 z64 z29 z3g z1p z1y z2F z39 ce_it z6J z31 z4Z z6x z3A ce_ro z3t ce_sl z6d z6g ce_sq z1X z14 ce_vw z1C z0H ce_tm z1U z0W z33 z0v z0n ce_vs z1P z0X z36 z1t z3r z6F z6H z1T z2X z1z z2c z2M z2V cg_it z67 z3s z61 z6n z2U cg_ro z3E cg_sl z6b z6u cg_fr z1J z0N cg_vw z1Q z11 cg_st z1M z0G cg_rt z1H z17 cg_pf z1Z z0E cg_cs z1N z0I z32 z1I z3b z6y z6c z1V z3v z23 z1L z35 z3p ms_it z6o z3n z6C z6h z3h ms_ro z3e ms_sl z6E z6r ms_kd z1S z0R ms_fr z1v z0O ms_vw z25 z0U ms_sq z1s z0Z ms_tm z1G z0F z3c z0u z0o ms_vs z1E z0Y z68 z0Q z0x z3C z1W z3x z65 z6K z20 z3D z24 z27 z3q z2Y co_it z6M z2W z6D z6m z3m co_ro z3o co_sl z6w z66 co_sq z26 z0V co_tm z1B z0K z3z z0y z0p co_nl z1w z0M z3y z1o z3l z6N z6v z1K z3j z1Y z1O z2N z2Z sd_it z6e z3B z6z z6G z3a sd_ro z2T sd_sl z6I z6i sd_wh z21 z15 sd_fr z1x z0T sd_kd z1D z18 sd_vw z1A z0J sd_sq z22 z16 sd_tm z1r z10 z30 z38 z6f z5O u_bz u_bi1 u_bi2 u_bi3 u_bi4 u_bi5 u_bi6 u_bi7 scM_0 scM_1 scM_2 scM_3 scM_4 scM_5 scY_0 scY_1 scY_2 scY_3 scY_4 scY_5 scS_0 scS_1 scS_2 scS_3 scS_4 scS_5 scT_0 scT_1 scT_2 scT_3 scT_4 scT_5 scB_0 scB_k zmn zlf z9t zf1 zfi List.append_assoc Nat.le_add_right ltO_o ltO_r u_eqE
attribute [local go_sem_proc] Nat.reduceAdd Nat.reduceSub Nat.reduceMul Nat.reduceLeDiff Nat.reduceLT Int.reduceEq Int.reduceNe Int.reduceLT Int.reduceLE Int.reduceAdd Int.reduceSub Int.reduceMul Int.reduceNeg Int.reduceToNat reduceCtorEq Nat.reduceEqDiff Nat.reduceBEq Nat.reduceGT
attribute [local go_sem_proc ↓] reduceIte
def inN (n p : Int) : Bool := decide (0 ≤ p) && decide (p < n)
def bdL (l : List Int) : List Bool := l.foldl (fun b p=>b.set p.toNat true) (List.replicate 64 false)
theorem zqZ : ∀ (l : List Int) (b : List Bool),(l.foldl (fun b p=>b.set p.toNat true) b).length = b.length
 |[],b=>rfl
 |p :: l,b=>by
  show (l.foldl _ (b.set p.toNat true)).length = _
  rw [zqZ l];simp
theorem zs0 {l : List Int} : (bdL l).length = 64 := by unfold bdL;rw [zqZ];simp
theorem zsi {l : List Int} {k : Nat} (h : k < l.length) : bdL (l.take (k + 1)) = (bdL (l.take k)).set l[k].toNat true := by
 unfold bdL
 rw [List.take_succ_eq_append_getElem h,List.foldl_append]
 rfl
theorem zxx : mapT Try.prog 116 = some (41,3) := by unfold mapT;rw [Try.underlying116]
theorem zwB {A : List AObj} (hA : ∀ n,A.length ≤ n → A.all (ltO n) = true) : GB A [] := fun n hn=>⟨hA n (by unfold nAB at hn;simp at hn;omega),rfl⟩
theorem zqW (m : Nat) (A : List AObj) (T : List (List UInt8)) (n : Int) (bad : List Int) (hn2 : n ≤ 64) (hll : bad.length ≤ 1000000) (hG : GB A []) (k : Nat) (h : k < bad.length) (hp : inN n bad[k] = true) (kc : ASt → RO) (kx : KO (AV × List AObj)) :
  zgP m ⟨sc A [] ⟨T,n,bdL (bad.take k),[]⟩,[(6,OP (A.length + 4) 0),(19,SL (bad.map nA)),(20,nA bad.length),(21,nA k)]⟩ kc kx = kc ⟨sc A [] ⟨T,n,bdL (bad.take (k + 1)),[]⟩,[(6,OP (A.length + 4) 0),(19,SL (bad.map nA)),(20,nA bad.length),(21,nA (k + 1 : Nat))]⟩ := by
 have hi := gis_s m A [] ⟨T,n,bdL (bad.take k),[]⟩ bad[k] hG
 have h64 := zs0 (l := bad.take k)
 rw [zsi h]
 generalize bdL (bad.take k) = b at *
 have h1 := hp
 unfold inN at h1
 dsimp only at hi
 rw [h1] at hi
 rw [Bool.and_eq_true,decide_eq_true_eq,decide_eq_true_eq] at h1
 obtain ⟨f0,f1⟩ := h1
 have f2 : bad[k] < 64 := by omega
 have f3 : bad[k].toNat < 64 := by omega
 have h' : (k : Int) < (bad.length : Int) := by omega
 have hw1 : IntKind.i64.wrap ((k : Int) + 1) = (k : Int) + 1 := w_i64 (by omega) (by omega)
 have h4 : A.length + 4 < nAB A [] := by unfold nAB;simp
 have hpu := fun (K : AObj → RO)=>zv5 (a := A.length + 3) (n := n) (bd := b) (L := ([] : List Sm)) (K2 := K) h64 f3 true
 have hlt := fun {L : List (List UInt8)} {n : Int} {bd : List Bool} {R : List Sm}=>zkt hG (L := L) (n := n) (bd := bd) (R := R)
 rw [zcL]
 unfold sc at *
 simp (config := {maxSteps := 4000000,implicitDefEqProofs := false}) (disch := omega) only [go_sem,h,h',hi,f0,f2,szOf,hw1,h4,hpu,hlt]
 rfl
theorem zpg (m : Nat) (A : List AObj) (T : List (List UInt8)) (n : Int) (bad : List Int) (hn1 : 1 ≤ n) (hn2 : n ≤ 64) :
  ze4 m (nA n) (SL (bad.map nA)) (A ++ [tmO T,ttO A.length T,trO T]) = zgU m (A.length + 3) ⟨sc A [] ⟨T,n,bdL [],[]⟩,[(1,SL (bad.map nA)),(6,OP (A.length + 4) 0)]⟩ := by
 have c1 : ¬ n < 1 := by omega
 have c2 : ¬ 64 < n := by omega
 have hH : (A ++ [tmO T,ttO A.length T,trO T]).length = A.length + 3 := by simp
 generalize hH0 : A ++ [tmO T,ttO A.length T,trO T] = H0 at *
 have e1 : ∀ K : AV → List AObj → RO,makeE (mapT Try.prog 116) H0 K = K (MP (A.length + 3)) (H0 ++ [rmO []]) := fun K=>by rw [zxx,← hH];rfl
 have e2 : ∀ (K : AV → RO),z49 (some zj0) (some ziL) [(0,nA n),(2,MP (A.length + 3))] K = K (.agg (nA n :: ((List.replicate 64 false).map bA ++ [MP (A.length + 3),V (.slice none 0 0)]))) := fun K=>_root_.id rfl
 have e3 : ∀ (K : AV → List AObj → RO),boxE z5Z (H0 ++ [rmO []]) (.agg (nA n :: ((List.replicate 64 false).map bA ++ [MP (A.length + 3),V (.slice none 0 0)]))) K = K (OP (A.length + 4) 0) (H0 ++ [rmO [],⟨1,z5Z,0,nA n :: ((List.replicate 64 false).map bA ++ [MP (A.length + 3),V (.slice none 0 0)])⟩]) := fun K=>by
  have : (H0 ++ [rmO []]).length = A.length + 4 := by rw [List.length_append,hH];rfl
  rw [u_box,this,List.append_assoc]
  rfl
 have e4 : ghS 6 66 z01 5 ⟨H0 ++ [rmO [],⟨1,z5Z,0,nA n :: ((List.replicate 64 false).map bA ++ [MP (A.length + 3),V (.slice none 0 0)])⟩],[(1,SL (bad.map nA)),(6,OP (A.length + 4) 0)]⟩ = ⟨sc A [] ⟨T,n,bdL [],[]⟩,[(1,SL (bad.map nA)),(6,OP (A.length + 4) 0)]⟩ := by
  have h1 : (H0 ++ [rmO [],⟨1,z5Z,0,nA n :: ((List.replicate 64 false).map bA ++ [MP (A.length + 3),V (.slice none 0 0)])⟩])[A.length + 4]? = some ⟨1,z5Z,0,nA n :: ((List.replicate 64 false).map bA ++ [MP (A.length + 3),V (.slice none 0 0)])⟩ := by
   rw [show A.length + 4 = H0.length + 1 by omega,getA];rfl
  unfold ghS
  show (match OP (A.length + 4) 0 with|_=>_) = _
  dsimp only
  rw [h1]
  dsimp only
  have h2 : ∀ o,(H0 ++ [rmO [],⟨1,z5Z,0,nA n :: ((List.replicate 64 false).map bA ++ [MP (A.length + 3),V (.slice none 0 0)])⟩]).set (A.length + 4) o = H0 ++ [rmO [],o] := fun o=>by
   rw [show A.length + 4 = H0.length + 1 by omega,setA];rfl
  have h3 : (nA n :: ((List.replicate 64 false).map bA ++ [MP (A.length + 3),V (.slice none 0 0)]))[66]? = some (V (.slice none 0 0)) := rfl
  rw [h3]
  try dsimp only
  rw [h2,List.append_assoc,List.length_append,hH]
  unfold sc scM
  rw [← hH0]
  simp only [List.append_assoc,List.cons_append,List.nil_append]
  rfl
 rw [znJ]
 simp (config := {maxSteps := 4000000,implicitDefEqProofs := false}) (disch := omega) only [go_sem,c1,c2,zkr]
 rw [zkk,e1,e2,e3,e4,hH]
theorem zrE (m : Nat) (A : List AObj) (T : List (List UInt8)) (n : Int) (bad : List Int) (hn1 : 1 ≤ n) (hn2 : n ≤ 64) (hlm : bad.length < m) (hll : bad.length ≤ 1000000) (hA : ∀ n,A.length ≤ n → A.all (ltO n) = true) (hb : ∀ p ∈ bad,inN n p = true) :
  ze4 m (nA n) (SL (bad.map nA)) (A ++ [tmO T,ttO A.length T,trO T]) = some (TU [OP (A.length + 4) 0,nA 0],sc A [] ⟨T,n,bdL bad,[]⟩) := by
 have hG := zwB hA
 rw [zpg m A T n bad hn1 hn2,zfG]
 simp (config := {maxSteps := 4000000,implicitDefEqProofs := false}) (disch := omega) only [go_sem,]
 refine z4a (m := m) (ι := {k : Nat // k ≤ bad.length}) (fun k=>⟨sc A [] ⟨T,n,bdL (bad.take k.1),[]⟩,[(6,OP (A.length + 4) 0),(19,SL (bad.map nA)),(20,nA bad.length),(21,nA k.1)]⟩) (fun k=>bad.length - k.1) (fun _=>some (TU [OP (A.length + 4) 0,nA 0],sc A [] ⟨T,n,bdL bad,[]⟩)) ?_ ⟨0,Nat.zero_le _⟩ (by dsimp only;omega)
 rintro kx hkx ⟨k,hk⟩ kc hkc
 dsimp only at hkc ⊢
 by_cases h : k < bad.length
 ·rw [zqW m A T n bad hn2 hll hG k h (hb _ (List.getElem_mem h))]
  exact hkc ⟨k + 1,by omega⟩ (by dsimp only;omega)
 ·obtain rfl : k = bad.length := by omega
  have h' : ¬ (bad.length : Int) < (bad.length : Int) := Int.lt_irrefl _
  have hlt := sc_lt (σ := ⟨T,n,bdL bad,[]⟩) hG (Nat.le_refl _)
  have ht : bad.take bad.length = bad := List.take_length
  have h4 : A.length + 4 < nAB A [] := by unfold nAB;simp
  rw [zcL]
  simp (config := {maxSteps := 4000000,implicitDefEqProofs := false}) (disch := omega) only [go_sem,h,h',hkx,ht,zkG,z8K,hlt,h4]
theorem zx4 (m : Nat) (A : List AObj) (T : List (List UInt8)) (n : Int) (bad : List Int) (hn1 : 1 ≤ n) (hn2 : n ≤ 64) (hlm : bad.length < m) (hll : bad.length ≤ 1000000) (hA : ∀ n,A.length ≤ n → A.all (ltO n) = true) (hb : ¬ ∀ p ∈ bad,inN n p = true) :
  ∃ bd,ze4 m (nA n) (SL (bad.map nA)) (A ++ [tmO T,ttO A.length T,trO T]) = some (TU [V (.pointer none),nA 1],sc A [] ⟨T,n,bd,[]⟩) := by
 have hG := zwB hA
 obtain ⟨i,hi,hp,hq⟩ : ∃ i,∃ h : i < bad.length,(∀ k (hk : k < i),inN n bad[k] = true) ∧ inN n bad[i] = false := by
  have h0 : bad.findIdx (fun p=>!inN n p) < bad.length := by
   rw [List.findIdx_lt_length]
   refine Classical.byContradiction fun q=>hb fun p hp=>?_
   cases h : inN n p with
   |true=>rfl
   |false=>exact absurd ⟨p,hp,by simp [h]⟩ q
  refine ⟨_,h0,fun k hk=>?_,?_⟩
  ·have := List.not_of_lt_findIdx hk
   simpa using this
  ·have := List.findIdx_getElem (w := h0)
   simpa using this
 refine ⟨bdL (bad.take i),?_⟩
 rw [zpg m A T n bad hn1 hn2,zfG]
 simp (config := {maxSteps := 4000000,implicitDefEqProofs := false}) (disch := omega) only [go_sem,]
 refine z4a (m := m) (ι := {k : Nat // k ≤ i}) (fun k=>⟨sc A [] ⟨T,n,bdL (bad.take k.1),[]⟩,[(6,OP (A.length + 4) 0),(19,SL (bad.map nA)),(20,nA bad.length),(21,nA k.1)]⟩) (fun k=>i - k.1) (fun _=>some (TU [V (.pointer none),nA 1],sc A [] ⟨T,n,bdL (bad.take i),[]⟩)) ?_ ⟨0,Nat.zero_le _⟩ (by dsimp only;omega)
 rintro kx hkx ⟨k,hk⟩ kc hkc
 dsimp only at hkc ⊢
 by_cases h : k < i
 ·rw [zqW m A T n bad hn2 hll hG k (by omega) (hp k h)]
  exact hkc ⟨k + 1,by omega⟩ (by dsimp only;omega)
 ·obtain rfl : k = i := by omega
  have h' : (k : Int) < (bad.length : Int) := by omega
  have hlt := sc_lt (σ := ⟨T,n,bdL (bad.take k),[]⟩) hG (Nat.le_refl _)
  have hi2 := gis_s m A [] ⟨T,n,bdL (bad.take k),[]⟩ bad[k] hG
  unfold inN at hq
  dsimp only at hi2
  rw [hq] at hi2
  rw [zcL]
  simp (config := {maxSteps := 4000000,implicitDefEqProofs := false}) (disch := omega) only [go_sem,hi,h',hi2,hkx,z8K,hlt,szOf]
  rfl
end Go.Proofs.Ytaaogcnjfkgnoaa

namespace Go.Proofs.Ytaaogcnjfkgnoaa
open Go.RowKit
attribute [local go_sem] Nat.zero_add Nat.add_zero Nat.mul_one Int.toNat_natCast Int.natCast_zero Int.cast_ofNat_Int or_false false_or or_true true_or Nat.sub_zero Int.natCast_nonneg Int.toNat_zero Bool.true_and Bool.and_true Bool.false_and Bool.and_false Bool.true_or Bool.or_true Bool.false_or Bool.or_false Bool.not_true Bool.not_false Bool.not_not true_and and_true false_and and_false not_true_eq_false not_false_eq_true eq_self decide_true decide_false ne_eq implies_true forall_const true_implies false_implies Bool.true_eq_false Bool.false_eq_true List.map_cons List.map_nil List.all_cons List.all_nil List.length_cons List.length_nil List.length_map List.length_append List.nil_append List.cons_append List.set_cons_zero List.set_cons_succ List.set_nil List.drop_zero List.drop_succ_cons List.drop_nil List.take_zero List.take_succ_cons List.take_nil Option.map_some Option.map_none Option.isSome_some List.all_append List.all_map Function.comp_def decide_eq_true_eq Bool.and_eq_true beq_self_eq_true or_self and_self ite_true ite_false Nat.le_refl Bool.not_eq_true decide_not Bool.not_eq_true' decide_eq_false_iff_not Bool.not_eq_false Bool.or_eq_true if_true if_false ite_self u_roF u_cvF u_cvC u_ceT u_ceK z2m sm_it z6A z37 z5m z6p z3d sm_ro z3i sm_sl z6a z69 sm_fr z1F z13 sm_kd z28 z12 sm_vw z1u z0P sm_sq z1R z0S sm_tm z1q z0L z2R z2b z3k z63 z64 z29 z3g z1p z1y z2F z39 ce_it z6J z31 z4Z z6x z3A ce_ro z3t ce_sl z6d z6g ce_sq z1X z14 ce_vw z1C z0H ce_tm z1U z0W z33 z0v z0n ce_vs z1P z0X z36 z1t z3r z6F z6H z1T z2X z1z z2c z2M z2V cg_it z67 z3s z61 z6n z2U cg_ro z3E cg_sl z6b z6u cg_fr z1J z0N cg_vw z1Q z11 cg_st z1M z0G cg_rt z1H z17 cg_pf z1Z z0E cg_cs z1N z0I z32 z1I z3b z6y z6c z1V z3v z23 z1L z35 z3p ms_it z6o z3n z6C z6h z3h ms_ro z3e ms_sl z6E z6r ms_kd z1S z0R ms_fr z1v z0O ms_vw z25 z0U ms_sq z1s z0Z ms_tm z1G z0F z3c z0u z0o ms_vs z1E z0Y z68 z0Q z0x z3C z1W z3x z65 z6K z20 z3D z24 z27 z3q z2Y co_it z6M z2W z6D z6m z3m co_ro z3o co_sl z6w z66 co_sq z26 z0V co_tm z1B z0K z3z z0y z0p co_nl z1w z0M z3y z1o z3l z6N z6v z1K z3j z1Y z1O z2N z2Z sd_it z6e z3B z6z z6G z3a sd_ro z2T sd_sl z6I z6i sd_wh z21 z15 sd_fr z1x z0T sd_kd z1D z18 sd_vw z1A z0J sd_sq z22 z16 sd_tm z1r z10 z30 z38 z6f z5O u_bz u_bi1 u_bi2 u_bi3 u_bi4 u_bi5 u_bi6 u_bi7 ltO_o ltO_r u_eqE zbl Nat.le_add_right List.append_assoc
attribute [local go_sem_proc] Nat.reduceAdd Nat.reduceSub Nat.reduceMul Nat.reduceLeDiff Nat.reduceLT Int.reduceEq Int.reduceNe Int.reduceLT Int.reduceLE Int.reduceAdd Int.reduceSub Int.reduceMul Int.reduceNeg Int.reduceToNat reduceCtorEq Nat.reduceEqDiff Nat.reduceBEq Nat.reduceGT
attribute [local go_sem_proc ↓] reduceIte
def rrC (n : Int) (rog : List Int) (L : List Sm) : List AV := [nA n,SL (rog.map nA),SL (L.map smE)]
def rrA (n : Int) (rog : List Int) (L : List Sm) : AV := .agg (rrC n rog L)
theorem zcx {n : Int} {rog : List Int} {L : List Sm} : rrA n rog L = .agg (rrC n rog L) := _root_.id rfl
section
variable {R : Type} {n : Int} {rog : List Int} {L : List Sm} {K : AV → Option R} {H : List AObj} {k : Nat}
theorem rr_f0 : nthE (rrC n rog L) 0 K = K (nA n) := _root_.id rfl
theorem rr_f1 : nthE (rrC n rog L) 1 K = K (SL (rog.map nA)) := _root_.id rfl
theorem rr_f2 : nthE (rrC n rog L) 2 K = K (SL (L.map smE)) := _root_.id rfl
theorem zjv : (rrC n rog L).length = 3 := _root_.id rfl
theorem zc4 : (rrC n rog L).all sure = true := _root_.id rfl
theorem zfl : (rrC n rog L).all (ltA k) = true := _root_.id rfl
theorem zjw : (rrC n rog L).all (lt1 k) = true := _root_.id rfl
theorem rr_ro : (rrC n rog L).map (ro1 H) = rrC n rog L := _root_.id rfl
theorem zeR : (rrC n rog L).take 3 = rrC n rog L := _root_.id rfl
theorem zns : noT (.agg (rrC n rog L)) = .agg (rrC n rog L) := _root_.id rfl
theorem zjS : ((rrC n rog L).all fun y=>lt1 k (ro1 H y)) = true := _root_.id rfl
end
theorem zc8 {α : Type} {l : List α} {k : Nat} {s : α} (h : k < l.length) (h1 : s ∉ l.take k) (h2 : l[k] ≠ s) : s ∉ l.take (k + 1) := by
 rw [List.take_succ_eq_append_getElem h,List.mem_append,List.mem_singleton]
 exact fun q=>q.elim h1 (fun e=>h2 e.symm)
theorem zvB (m : Nat) (n : Int) (rog : List Int) (L : List Sm) (p : Int) (hm : rog.length < m) (hl : rog.length ≤ 1000000) : z46 m (rrA n rog L) (nA p) = some (bA (decide (p ∈ rog)),[]) := by
 rw [zdd,zcx]
 simp (config := {maxSteps := 4000000,implicitDefEqProofs := false}) (disch := omega) only [go_sem,zc4]
 refine z4a (m := m) (ι := {k : Nat // k ≤ rog.length ∧ p ∉ rog.take k}) (fun k=>⟨[⟨1,z0A,0,rrC n rog L⟩],[(1,nA p),(2,OP 0 0),(5,nA k.1)]⟩) (fun k=>rog.length - k.1) (fun _=>some (bA (decide (p ∈ rog)),[])) ?_ ⟨0,Nat.zero_le _,by simp⟩ (by dsimp only;omega)
 rintro kx hkx ⟨k,hk,hno⟩ kc hkc
 dsimp only at hkc ⊢
 rw [zb1]
 by_cases h : k < rog.length
 ·have h' : (k : Int) < (rog.length : Int) := by omega
  have hw1 : IntKind.i64.wrap ((k : Int) + 1) = (k : Int) + 1 := w_i64 (by omega) (by omega)
  by_cases h1 : rog[k] = p
  ·have hp : p ∈ rog := h1 ▸ List.getElem_mem h
   simp (config := {maxSteps := 4000000,implicitDefEqProofs := false}) (disch := omega) only [go_sem,h,h',h1,hp,hkx,rr_f1,zfl,szOf]
  ·have step := hkc ⟨k + 1,by omega,zc8 h hno h1⟩ (by dsimp only;omega)
   dsimp only at step
   simp (config := {maxSteps := 4000000,implicitDefEqProofs := false}) (disch := omega) only [go_sem,h,h',h1,hw1,rr_f1,zfl,szOf]
   exact step
 ·obtain rfl : k = rog.length := by omega
  have h' : ¬ (rog.length : Int) < (rog.length : Int) := Int.lt_irrefl _
  rw [List.take_length] at hno
  simp (config := {maxSteps := 4000000,implicitDefEqProofs := false}) (disch := omega) only [go_sem,h,h',hno,hkx,rr_f1,zbg]
theorem zo7 (m : Nat) (n : Int) (rog : List Int) (L : List Sm) (s : Sm) (hm : L.length < m) (hl : L.length ≤ 1000000) : z2D m (rrA n rog L) (smE s) = some (bA (decide (s ∈ L)),[]) := by
 rw [zdc,zcx,sm_it]
 simp (config := {maxSteps := 4000000,implicitDefEqProofs := false}) (disch := omega) only [go_sem,zc4]
 refine z4a (m := m) (ι := {k : Nat // k ≤ L.length ∧ s ∉ L.take k}) (fun k=>⟨[⟨1,z0A,0,rrC n rog L⟩,⟨1,z01,0,smC s⟩],[(2,OP 0 0),(3,OP 1 0),(5,nA k.1)]⟩) (fun k=>L.length - k.1) (fun _=>some (bA (decide (s ∈ L)),[])) ?_ ⟨0,Nat.zero_le _,by simp⟩ (by dsimp only;omega)
 rintro kx hkx ⟨k,hk,hno⟩ kc hkc
 dsimp only at hkc ⊢
 rw [zbk]
 by_cases h : k < L.length
 ·have h' : (k : Int) < (L.length : Int) := by omega
  have hw1 : IntKind.i64.wrap ((k : Int) + 1) = (k : Int) + 1 := w_i64 (by omega) (by omega)
  by_cases h1 : L[k] = s
  ·have hp : s ∈ L := h1 ▸ List.getElem_mem h
   have h1' : decide (L[k] = s) = true := decide_eq_true h1
   simp (config := {maxSteps := 4000000,implicitDefEqProofs := false}) (disch := omega) only [go_sem,h,h',h1',hp,hkx,rr_f2,zfl,szOf]
  ·have step := hkc ⟨k + 1,by omega,zc8 h hno h1⟩ (by dsimp only;omega)
   dsimp only at step
   have h1' : decide (L[k] = s) = false := decide_eq_false h1
   simp (config := {maxSteps := 4000000,implicitDefEqProofs := false}) (disch := omega) only [go_sem,h,h',h1',hw1,rr_f2,zfl,szOf]
   exact step
 ·obtain rfl : k = L.length := by omega
  have h' : ¬ (L.length : Int) < (L.length : Int) := Int.lt_irrefl _
  rw [List.take_length] at hno
  simp (config := {maxSteps := 4000000,implicitDefEqProofs := false}) (disch := omega) only [go_sem,h,h',hno,hkx,rr_f2,zbj]
theorem zoA (m : Nat) (n : Int) (rog : List Int) (L : List Sm) (l : List Sm) (w : Sm) (p : Int) (hm : L.length < m) (hl : L.length ≤ 1000000) (hm2 : l.length < m) (hl2 : l.length ≤ 1000000) :
  z2O m (rrA n rog L) (SL (l.map smE)) (smE w) (nA p) = some (bA (decide (({ w with fr := p } : Sm) ∈ l) && decide (({ w with fr := p } : Sm) ∈ L)),[]) := by
 have hh := zo7 m n rog L { w with fr := p } hm hl
 rw [zbT,zcx,sm_it]
 rw [zcx,sm_it] at hh
 simp (config := {maxSteps := 4000000,implicitDefEqProofs := false}) (disch := omega) only [go_sem,zc4]
 generalize hx : ({ w with fr := p } : Sm) = x at *
 refine z4a (m := m) (ι := {k : Nat // k ≤ l.length ∧ x ∉ l.take k}) (fun k=>⟨[⟨1,z0A,0,rrC n rog L⟩,⟨1,z01,0,smC x⟩],[(1,SL (l.map smE)),(4,OP 0 0),(6,OP 1 0),(9,nA k.1)]⟩) (fun k=>l.length - k.1) (fun _=>some (bA (decide (x ∈ l) && decide (x ∈ L)),[])) ?_ ⟨0,Nat.zero_le _,by simp⟩ (by dsimp only;omega)
 rintro kx hkx ⟨k,hk,hno⟩ kc hkc
 dsimp only at hkc ⊢
 rw [zad]
 by_cases h : k < l.length
 ·have h' : (k : Int) < (l.length : Int) := by omega
  have hw1 : IntKind.i64.wrap ((k : Int) + 1) = (k : Int) + 1 := w_i64 (by omega) (by omega)
  by_cases h1 : l[k] = x
  ·have hp : decide (x ∈ l) = true := decide_eq_true (h1 ▸ List.getElem_mem h)
   have h1' : decide (l[k] = x) = true := decide_eq_true h1
   simp (config := {maxSteps := 4000000,implicitDefEqProofs := false}) (disch := omega) only [go_sem,h,h',h1',hp,hh,hkx,zjv,zeR,rr_ro,zjw,zfl,szOf]
  ·have step := hkc ⟨k + 1,by omega,zc8 h hno h1⟩ (by dsimp only;omega)
   dsimp only at step
   have h1' : decide (l[k] = x) = false := decide_eq_false h1
   simp (config := {maxSteps := 4000000,implicitDefEqProofs := false}) (disch := omega) only [go_sem,h,h',h1',hw1,zfl,szOf]
   exact step
 ·obtain rfl : k = l.length := by omega
  have h' : ¬ (l.length : Int) < (l.length : Int) := Int.lt_irrefl _
  rw [List.take_length] at hno
  have hp : decide (x ∈ l) = false := decide_eq_false hno
  simp (config := {maxSteps := 4000000,implicitDefEqProofs := false}) (disch := omega) only [go_sem,h,h',hp,hkx,zap]
theorem zvr {α : Type} [DecidableEq α] {T : List α} {s : α} {k : Nat} (h : k < T.length) (hno : s ∉ T.take k) (h1 : T[k] = s) : posL T s = k + 1 := by
 unfold posL
 rw [if_pos (h1 ▸ List.getElem_mem h)]
 have hs : T = T.take k ++ s :: T.drop (k + 1) := by rw [← h1,← List.drop_eq_getElem_cons h,List.take_append_drop]
 rw [hs,List.idxOf_append,if_neg hno,List.idxOf_cons_self,List.length_take]
 omega
theorem zuK (m : Nat) (T : List (List UInt8)) (s : List UInt8) (hm : T.length < m) (hl : T.length ≤ 1000000) : z9g m (SL (T.map sA)) (sA s) = some (nA (posL T s),[]) := by
 rw [zgE]
 refine z4a (m := m) (ι := {k : Nat // k ≤ T.length ∧ s ∉ T.take k}) (fun k=>⟨[],[(0,SL (T.map sA)),(1,sA s),(5,nA k.1)]⟩) (fun k=>T.length - k.1) (fun _=>some (nA (posL T s),[])) ?_ ⟨0,Nat.zero_le _,by simp⟩ (by dsimp only;omega)
 rintro kx hkx ⟨k,hk,hno⟩ kc hkc
 dsimp only at hkc ⊢
 rw [zew]
 by_cases h : k < T.length
 ·have h' : (k : Int) < (T.length : Int) := by omega
  have hw1 : IntKind.i64.wrap ((k : Int) + 1) = (k : Int) + 1 := w_i64 (by omega) (by omega)
  by_cases h1 : T[k] = s
  ·have hp : posL T s = k + 1 := zvr h hno h1
   rw [hp]
   simp (config := {maxSteps := 4000000,implicitDefEqProofs := false}) (disch := omega) only [go_sem,h,h',h1,hkx,hw1,szOf]
   rfl
  ·have step := hkc ⟨k + 1,by omega,zc8 h hno h1⟩ (by dsimp only;omega)
   dsimp only at step
   simp (config := {maxSteps := 4000000,implicitDefEqProofs := false}) (disch := omega) only [go_sem,h,h',h1,hw1,szOf]
   exact step
 ·obtain rfl : k = T.length := by omega
  have h' : ¬ (T.length : Int) < (T.length : Int) := Int.lt_irrefl _
  rw [List.take_length] at hno
  have hp : posL T s = 0 := by unfold posL;rw [if_neg hno]
  rw [hp]
  simp (config := {maxSteps := 4000000,implicitDefEqProofs := false}) (disch := omega) only [go_sem,h,h',hkx,zeB]
end Go.Proofs.Ytaaogcnjfkgnoaa

namespace Go.Proofs.Ytaaogcnjfkgnoaa
open Go.RowKit
attribute [local go_sem] Nat.zero_add Nat.add_zero Nat.mul_one Int.toNat_natCast Int.natCast_zero Int.cast_ofNat_Int or_false false_or or_true true_or Nat.sub_zero Int.natCast_nonneg Int.toNat_zero Bool.true_and Bool.and_true Bool.false_and Bool.and_false Bool.true_or Bool.or_true Bool.false_or Bool.or_false Bool.not_true Bool.not_false Bool.not_not true_and and_true false_and and_false not_true_eq_false not_false_eq_true eq_self decide_true decide_false ne_eq implies_true forall_const true_implies false_implies Bool.true_eq_false Bool.false_eq_true List.map_cons List.map_nil List.all_cons List.all_nil List.length_cons List.length_nil List.length_map List.length_append List.nil_append List.cons_append List.set_cons_zero List.set_cons_succ List.set_nil List.drop_zero List.drop_succ_cons List.drop_nil List.take_zero List.take_succ_cons List.take_nil Option.map_some Option.map_none Option.isSome_some List.all_append List.all_map Function.comp_def decide_eq_true_eq Bool.and_eq_true beq_self_eq_true or_self and_self ite_true ite_false Nat.le_refl Bool.not_eq_true decide_not Bool.not_eq_true' decide_eq_false_iff_not Bool.not_eq_false Bool.or_eq_true if_true if_false ite_self u_roF u_cvF u_cvC u_ceT u_ceK z2m sm_it z6A z37 z5m z6p z3d sm_ro z3i sm_sl z6a z69 sm_fr z1F z13 sm_kd z28 z12 sm_vw z1u z0P sm_sq z1R z0S sm_tm z1q z0L z2R z2b z3k z63 z64 z29 z3g z1p z1y z2F z39 ce_it z6J z31 z4Z z6x z3A ce_ro z3t ce_sl z6d z6g ce_sq z1X z14 ce_vw z1C z0H ce_tm z1U z0W z33 z0v z0n ce_vs z1P z0X z36 z1t z3r z6F z6H z1T z2X z1z z2c z2M z2V cg_it z67 z3s z61 z6n z2U cg_ro z3E cg_sl z6b z6u cg_fr z1J z0N cg_vw z1Q z11 cg_st z1M z0G cg_rt z1H z17 cg_pf z1Z z0E cg_cs z1N z0I z32 z1I z3b z6y z6c z1V z3v z23 z1L z35 z3p ms_it z6o z3n z6C z6h z3h ms_ro z3e ms_sl z6E z6r ms_kd z1S z0R ms_fr z1v z0O ms_vw z25 z0U ms_sq z1s z0Z ms_tm z1G z0F z3c z0u z0o ms_vs z1E z0Y z68 z0Q z0x z3C z1W z3x z65 z6K z20 z3D z24 z27 z3q z2Y co_it z6M z2W z6D z6m z3m co_ro z3o co_sl z6w z66 co_sq z26 z0V co_tm z1B z0K z3z z0y z0p co_nl z1w z0M z3y z1o z3l z6N z6v z1K z3j z1Y z1O z2N z2Z sd_it z6e z3B z6z z6G z3a sd_ro z2T sd_sl z6I z6i sd_wh z21 z15 sd_fr z1x z0T sd_kd z1D z18 sd_vw z1A z0J sd_sq z22 z16 sd_tm z1r z10 z30 z38 z6f z5O u_bz u_bi1 u_bi2 u_bi3 u_bi4 u_bi5 u_bi6 u_bi7 ltO_o ltO_r u_eqE zbl Nat.le_add_right List.append_assoc
attribute [local go_sem_proc] Nat.reduceAdd Nat.reduceSub Nat.reduceMul Nat.reduceLeDiff Nat.reduceLT Int.reduceEq Int.reduceNe Int.reduceLT Int.reduceLE Int.reduceAdd Int.reduceSub Int.reduceMul Int.reduceNeg Int.reduceToNat reduceCtorEq Nat.reduceEqDiff Nat.reduceBEq Nat.reduceGT
attribute [local go_sem_proc ↓] reduceIte
def rokS (n : Int) (rog : List Int) (p : Int) (s : Sm) : Bool := (decide (0 ≤ p) && decide (p < n)) && (decide (s.fr = p) || (decide (p ∈ rog) && decide (s.fr ∈ rog)))
def rsayL (n : Int) (rog : List Int) (L : List Sm) (p : Int) (s : Sm) : List Sm := if rokS n rog p s = true ∧ s ∉ L ∧ L.length < 65536 then L ++ [s] else L
theorem ro1_3 {A0 A1 A2 : AObj} {e z m : Nat} {c : List AV} {Y : List AObj} : ro1 (A0 :: A1 :: A2 :: ⟨2,e,z,c⟩ :: Y) (OW 3 m) = if m = c.length then SL c else OW 3 m := by simp [ro1]
section
variable {R : Type} {n n' : Int} {rog rog' : List Int} {L L' : List Sm} {K : AV → Option R}
theorem zjN : z06 zc_plenumref04_Ring 0 (rrC n rog L) = rrC n rog L := _root_.id rfl
theorem zsO {a b c : AV} : ((zc_plenumref04_Ring.set 0 a).set 1 b).set 2 c = [a,b,c] := _root_.id rfl
theorem zjB : zc_plenumref04_Ring.length = 3 := _root_.id rfl
end
section
variable (m : Nat) (n : Int) (rog : List Int) (L : List Sm) (p : Int) (s : Sm) (hm : L.length < m) (hl : L.length ≤ 65536) (hm2 : rog.length < m) (hl2 : rog.length ≤ 1000000)
include hm hl
theorem zxc : ∃ e : Int,z48 m ⟨[⟨1,z0A,0,rrC n rog L⟩,⟨1,z01,0,smC s⟩,⟨1,z0A,0,zc_plenumref04_Ring⟩],[(3,OP 0 0),(5,OP 1 0),(6,OP 2 0)]⟩ = some (TU [rrA n rog (if s ∉ L ∧ L.length < 65536 then L ++ [s] else L),nA e],[]) := by
 have hh := zo7 m n rog L s hm (by omega)
 rw [zcx,sm_it] at hh
 rw [zbs]
 by_cases h1 : s ∈ L
 ·have h1' : decide (s ∈ L) = true := decide_eq_true h1
  rw [h1'] at hh
  refine ⟨0,?_⟩
  rw [if_neg (fun q=>q.1 h1),zcx]
  simp (config := {maxSteps := 4000000,implicitDefEqProofs := false}) (disch := omega) only [go_sem,hh,zjv,zeR,rr_ro,zfl,zjw,zc4,zjN,zjB,zns,zjS,szOf]
 ·have h1' : decide (s ∈ L) = false := decide_eq_false h1
  rw [h1'] at hh
  by_cases h2 : 65536 ≤ L.length
  ·have h2' : (65536 : Int) ≤ (L.length : Int) := by omega
   refine ⟨5,?_⟩
   rw [if_neg (fun q=>by omega),zcx]
   simp (config := {maxSteps := 4000000,implicitDefEqProofs := false}) (disch := omega) only [go_sem,hh,h2',rr_f2,zjv,zeR,rr_ro,zfl,zjw,zc4,zjN,zjB,zns,zjS,szOf]
  ·have h2' : ¬ (65536 : Int) ≤ (L.length : Int) := by omega
   have hb1 : L.length ≤ 34359738368 := by omega
   have hb2 : L.length + 1 ≤ 34359738368 := by omega
   refine ⟨0,?_⟩
   rw [if_pos ⟨h1,by omega⟩,zcx]
   have hc : rrC n rog L = [nA n,SL (rog.map nA),SL (L.map smE)] := rfl
   have hc2 : rrC n rog (L ++ [s]) = [nA n,SL (rog.map nA),SL (L.map smE ++ [.agg (smC s)])] := by simp [rrC,smE]
   rw [hc2]
   rw [hc] at hh ⊢
   simp (config := {maxSteps := 4000000,implicitDefEqProofs := false}) (disch := omega) only [go_sem,hh,h2',hb1,hb2,zjv,zeR,rr_ro,zfl,zjw,zc4,zjN,zjB,zns,zjS,ro1_3,zsO,szOf]
theorem zmF (b : Bool) : ∃ e : Int,z2z m ⟨[⟨1,z0A,0,rrC n rog L⟩,⟨1,z01,0,smC s⟩,⟨1,z0A,0,zc_plenumref04_Ring⟩],[(3,OP 0 0),(5,OP 1 0),(6,OP 2 0),(33,bA b)]⟩ = some (TU [rrA n rog (if b = false ∧ s ∉ L ∧ L.length < 65536 then L ++ [s] else L),nA e],[]) := by
 rw [zb8]
 cases b with
 |true =>
  refine ⟨19,?_⟩
  rw [if_neg (fun q=>by cases q.1),zcx]
  simp (config := {maxSteps := 4000000,implicitDefEqProofs := false}) (disch := omega) only [go_sem,zjv,zeR,rr_ro,zfl,zjw,zc4,zjN,zjB,zns,zjS,szOf]
 |false =>
  obtain ⟨e,he⟩ := zxc m n rog L s hm hl
  refine ⟨e,?_⟩
  rw [zjc,he]
  simp only [true_and]
include hm2 hl2
theorem zyq : ∃ e : Int,z53 m (rrA n rog L) (nA p) (smE s) = some (TU [rrA n rog (rsayL n rog L p s),nA e],[]) := by
 have b1 := zvB m n rog L p hm2 hl2
 have b2 := zvB m n rog L s.fr hm2 hl2
 simp only [zcx] at b1 b2
 rw [zdf]
 unfold rsayL rokS
 by_cases c1 : 0 ≤ p ∧ p < n
 ·have e1 : ¬ p < 0 := by omega
  have e2 : ¬ n ≤ p := by omega
  have e3 : (decide (0 ≤ p) && decide (p < n)) = true := by simp [c1]
  rw [e3,Bool.true_and]
  by_cases c2 : s.fr = p
  ·obtain ⟨e,he⟩ := zmF m n rog L s hm hl false
   refine ⟨e,?_⟩
   simp only [zcx,sm_it]
   simp only [zcx] at he
   simp (config := {maxSteps := 4000000,implicitDefEqProofs := false}) (disch := omega) only [go_sem,e1,e2,c2,rr_f0,zc4,he,z1h,z2J]
  ·by_cases c3 : p ∈ rog
   ·have c3' : decide (p ∈ rog) = true := decide_eq_true c3
    rw [c3'] at b1
    by_cases c4 : s.fr ∈ rog
    ·have c4' : decide (s.fr ∈ rog) = true := decide_eq_true c4
     rw [c4'] at b2
     obtain ⟨e,he⟩ := zmF m n rog L s hm hl false
     refine ⟨e,?_⟩
     simp only [zcx,sm_it]
     simp only [zcx] at he
     simp (config := {maxSteps := 4000000,implicitDefEqProofs := false}) (disch := omega) only [go_sem,e1,e2,c2,c3,c4,b1,b2,rr_f0,zc4,zjv,zeR,rr_ro,zfl,zjw,he,z1h,z2J]
    ·have c4' : decide (s.fr ∈ rog) = false := decide_eq_false c4
     rw [c4'] at b2
     obtain ⟨e,he⟩ := zmF m n rog L s hm hl true
     refine ⟨e,?_⟩
     simp only [zcx,sm_it]
     simp only [zcx] at he
     simp (config := {maxSteps := 4000000,implicitDefEqProofs := false}) (disch := omega) only [go_sem,e1,e2,c2,c3,c4,b1,b2,rr_f0,zc4,zjv,zeR,rr_ro,zfl,zjw,he,z1h,z2J]
   ·have c3' : decide (p ∈ rog) = false := decide_eq_false c3
    rw [c3'] at b1
    obtain ⟨e,he⟩ := zmF m n rog L s hm hl true
    refine ⟨e,?_⟩
    simp only [zcx,sm_it]
    simp only [zcx] at he
    simp (config := {maxSteps := 4000000,implicitDefEqProofs := false}) (disch := omega) only [go_sem,e1,e2,c2,c3,b1,rr_f0,zc4,zjv,zeR,rr_ro,zfl,zjw,he,z1h,z2J]
 ·have e3 : (decide (0 ≤ p) && decide (p < n)) = false := by rw [Bool.eq_false_iff];simpa using c1
  rw [e3,Bool.false_and]
  refine ⟨4,?_⟩
  rw [if_neg (fun q=>by cases q.1)]
  simp only [zcx,sm_it]
  by_cases e1 : p < 0
  ·simp (config := {maxSteps := 4000000,implicitDefEqProofs := false}) (disch := omega) only [go_sem,e1,zjv,zeR,rr_ro,zfl,zjw,zc4,zjN,zjB,zns,zjS,szOf,z1h]
  ·have e2 : n ≤ p := by omega
   simp (config := {maxSteps := 4000000,implicitDefEqProofs := false}) (disch := omega) only [go_sem,e1,e2,rr_f0,zjv,zeR,rr_ro,zfl,zjw,zc4,zjN,zjB,zns,zjS,szOf,z1h]
end
theorem zwO (m : Nat) (A B : List AObj) (T : List (List UInt8)) (s : List UInt8) (hA : ∀ n,A.length + (1 + B.length) ≤ n → A.all (ltO n) = true ∧ B.all (ltO n) = true) (hm : T.length < m) (hl : T.length ≤ 65536) :
  z8a m (OW A.length T.length) (sA s) (A ++ trO T :: B) = some (TU [OW A.length (oqT T s).length,nA (ofN T s),nA (ofE T s)],A ++ trO (oqT T s) :: B) := by
 have hh := zuK m T s hm (by omega)
 have hro : ro1 (A ++ trO T :: B) (OW A.length T.length) = SL (T.map sA) := ro1W (e := z5A) (z := 1) (by rw [show A.length = A.length + 0 from rfl,getA];rfl) (by simp)
 have hn0 : ∀ {o : AObj} (K : AObj → RO),nthOE (A ++ o :: B) A.length K = K o := fun {o} K=>(nthOA A (k := 0))
 have hs0 : ∀ {o o' : AObj},(A ++ o :: B).set A.length o' = A ++ o' :: B := fun {o o'}=>(setA A (k := 0))
 have hlen : ∀ {o : AObj},(A ++ o :: B).length = A.length + (1 + B.length) := fun {o}=>by simp;omega
 obtain ⟨h1,h2⟩ := hA (A.length + (1 + B.length)) (Nat.le_refl _)
 have hall : ∀ L,(A ++ trO L :: B).all (ltO (A.length + (1 + B.length))) = true := fun L=>by rw [List.all_append,h1,List.all_cons,znu,h2];rfl
 have hlt : A.length < A.length + (1 + B.length) := by omega
 have hlts : ((T.map sA).all fun x=>ltA 0 x) = true := by rw [List.all_map];exact List.all_eq_true.2 fun _ _=>rfl
 have hlts' : (T.map sA).all (ltA 0) = true := hlts
 rw [zhL]
 unfold oqT ofN ofE
 by_cases c1 : s ∈ T
 ·have c2 : (0 : Int) < (posL T s : Int) := by unfold posL;rw [if_pos c1];omega
  simp (config := {maxSteps := 4000000,implicitDefEqProofs := false}) (disch := omega) only [go_sem,hh,hro,c1,c2,hlen,hall,hlt]
 ·have c2 : ¬ (0 : Int) < (posL T s : Int) := by unfold posL;rw [if_neg c1];omega
  by_cases c3 : 65536 ≤ T.length
  ·have c3' : (65536 : Int) ≤ (T.length : Int) := by omega
   simp (config := {maxSteps := 4000000,implicitDefEqProofs := false}) (disch := omega) only [go_sem,hh,hro,c1,c2,c3,c3',hlen,hall,hlt]
  ·have c3' : ¬ (65536 : Int) ≤ (T.length : Int) := by omega
   have hb : T.length + 1 ≤ 34359738368 := by omega
   simp (config := {maxSteps := 4000000,implicitDefEqProofs := false}) (disch := omega) only [go_sem,hh,hro,c1,c2,c3,c3',hn0,hs0,tr_k,tr_e,tr_z,tr_c,zu4,hb,hlen,hall,h1,h2,hlt]
end Go.Proofs.Ytaaogcnjfkgnoaa

namespace Go.Proofs.Ytaaogcnjfkgnoaa
open Go.RowKit
def swM (A B : List AObj) (o0 o1 : AObj) : List AObj := A ++ (o0 :: o1 :: B)
def nSW (A B : List AObj) : Nat := A.length + (B.length + 2)
section
variable {R : Type} {A B Y : List AObj} {o0 o1 o : AObj} {K : AObj → Option R} {k : Nat}
theorem ziN : (swM A B o0 o1).length = nSW A B := by simp [swM,nSW]
theorem zrX : swM A (B ++ Y) o0 o1 = swM A B o0 o1 ++ Y := by simp [swM]
theorem zwC : nSW A (B ++ Y) = nSW A B + Y.length := by simp [nSW];omega
theorem swM_0 : nthOE (swM A B o0 o1) A.length K = K o0 := (nthOA A (k := 0))
theorem swY_0 : nthOE (swM A B o0 o1 ++ Y) A.length K = K o0 := by rw [← zrX];exact swM_0
theorem swS_0 : (swM A B o0 o1).set A.length o = swM A B o o1 := (setA A (k := 0))
theorem swB_k : nthOE (swM A B o0 o1 ++ Y) (nSW A B + k) K = nthOE Y k K := by
 rw [← ziN (o0 := o0) (o1 := o1)];exact nthOA _
theorem swB_0 : nthOE (swM A B o0 o1 ++ Y) (nSW A B) K = nthOE Y 0 K := swB_k (k := 0)
theorem zxi : (swM A B o0 o1 ++ Y).set (nSW A B + k) o = swM A B o0 o1 ++ Y.set k o := by
 rw [← ziN (o0 := o0) (o1 := o1)];exact setA _
theorem zzl : (swM A B o0 o1 ++ Y).set (nSW A B) o = swM A B o0 o1 ++ Y.set 0 o := zxi (k := 0)
theorem zrH : (swM A B o0 o1).take (nSW A B) = swM A B o0 o1 := by
 rw [← ziN (o0 := o0) (o1 := o1)];exact List.take_length
theorem zsI : (swM A B o0 o1 ++ Y).take (nSW A B + k) = swM A B o0 o1 ++ Y.take k := by
 rw [← ziN (o0 := o0) (o1 := o1)];exact List.take_length_add_append ..
theorem zto : (swM A B o0 o1 ++ Y).take (nSW A B) = swM A B o0 o1 := by
 rw [← ziN (o0 := o0) (o1 := o1)];exact List.take_left
end
def GW (A B : List AObj) : Prop := ∀ n,nSW A B ≤ n → A.all (ltO n) = true ∧ B.all (ltO n) = true
theorem GW.app {A B Y : List AObj} (h : GW A B) (hY : ∀ n,Y.all (ltO n) = true) : GW A (B ++ Y) := fun n hn=>by
 rw [zwC] at hn
 obtain ⟨h1,h2⟩ := h n (by omega)
 exact ⟨h1,by rw [List.all_append,h2,hY];rfl⟩
structure Wg where
 T : List (List UInt8)
 n : Int
 rog : List Int
 L : List Sm
 X : AV
def woO (a : Nat) (ω : Wg) : AObj := ⟨1,z0q,0,[OW (a + 1) ω.T.length,nA ω.n,SL (ω.rog.map nA),ω.X]⟩
def sw (A B : List AObj) (ω : Wg) : List AObj := swM A B (woO A.length ω) (trO ω.T)
structure WgOk (ω : Wg) : Prop where
 tl : ω.T.length ≤ 65536
 ll : ω.L.length ≤ 65536
 rl : ω.rog.length ≤ 1000000
 lx : ω.X = SL (ω.L.map smE) ∨ (ω.L = [] ∧ ω.X = V (.slice none 0 0))
theorem WgOk.ro {ω : Wg} (h : WgOk ω) (H : List AObj) : ro1 H ω.X = SL (ω.L.map smE) := by
 rcases h.lx with e|⟨e,e2⟩
 ·rw [e];rfl
 ·rw [e2,e];rfl
theorem WgOk.lt {ω : Wg} (h : WgOk ω) (n : Nat) : ltA n ω.X = true ∧ lt1 n ω.X = true ∧ sure ω.X = true := by
 rcases h.lx with e|⟨e,e2⟩
 ·rw [e];exact ⟨rfl,rfl,rfl⟩
 ·rw [e2];exact ⟨rfl,rfl,rfl⟩
theorem zqu {n a : Nat} {ω : Wg} (hω : WgOk ω) (h : a + 1 < n) : ltO n (woO a ω) = true := by
 obtain ⟨h1,h2,_⟩ := hω.lt n
 show ((1 : Nat) == 0 || ([OW (a + 1) ω.T.length,nA ω.n,SL (ω.rog.map nA),ω.X] : List AV).all (ltA n)) = true
 rw [List.all_cons,List.all_cons,List.all_cons,List.all_cons,h1,show ltA n (OW (a + 1) ω.T.length) = true from decide_eq_true h,show ltA n (nA ω.n) = true from rfl,show ltA n (SL (ω.rog.map nA)) = true from rfl]
 rfl
theorem sw_lt {A B : List AObj} {ω : Wg} (h : GW A B) (hω : WgOk ω) {n : Nat} (hn : nSW A B ≤ n) : (sw A B ω).all (ltO n) = true := by
 obtain ⟨h1,h2⟩ := h n hn
 have h3 : A.length + 2 ≤ n := by unfold nSW at hn;omega
 unfold sw swM
 rw [List.all_append,h1]
 simp only [List.all_cons,zqu hω (show A.length + 1 < n by omega),znu,h2,Bool.and_self]
theorem zb2 {A B : List AObj} {ω : Wg} : (sw A B ω).length = nSW A B := ziN
theorem zio {A B Y : List AObj} {ω : Wg} : sw A (B ++ Y) ω = sw A B ω ++ Y := zrX
section
variable {R : Type} {A B Y : List AObj} {ω : Wg} {K : AObj → Option R} {k : Nat} {o : AObj}
theorem w_0 : nthOE (sw A B ω) A.length K = K (woO A.length ω) := swM_0
theorem w_Y0 : nthOE (sw A B ω ++ Y) A.length K = K (woO A.length ω) := swY_0
theorem w_B0 : nthOE (sw A B ω ++ Y) (nSW A B) K = nthOE Y 0 K := swB_0
theorem w_Bk : nthOE (sw A B ω ++ Y) (nSW A B + k) K = nthOE Y k K := swB_k
theorem w_Bs0 : (sw A B ω ++ Y).set (nSW A B) o = sw A B ω ++ Y.set 0 o := zzl
theorem w_Bsk : (sw A B ω ++ Y).set (nSW A B + k) o = sw A B ω ++ Y.set k o := zxi
theorem zfn : (sw A B ω).take (nSW A B) = sw A B ω := zrH
theorem z78 : (sw A B ω ++ Y).take (nSW A B) = sw A B ω := zto
theorem zaz : (sw A B ω ++ Y).take (nSW A B + k) = sw A B ω ++ Y.take k := zsI
theorem z5M {R : Type} {a : Nat} {K : List AV → Option R} : zh8 (woO a ω) K = K [OW (a + 1) ω.T.length,nA ω.n,SL (ω.rog.map nA),ω.X] := by unfold woO;exact u_cl1
end
attribute [local go_sem] Nat.zero_add Nat.add_zero Nat.mul_one Int.toNat_natCast Int.natCast_zero Int.cast_ofNat_Int or_false false_or or_true true_or Nat.sub_zero Int.natCast_nonneg Int.toNat_zero Bool.true_and Bool.and_true Bool.false_and Bool.and_false Bool.true_or Bool.or_true Bool.false_or Bool.or_false Bool.not_true Bool.not_false Bool.not_not true_and and_true false_and and_false not_true_eq_false not_false_eq_true eq_self decide_true decide_false ne_eq implies_true forall_const true_implies false_implies Bool.true_eq_false Bool.false_eq_true List.map_cons List.map_nil List.all_cons List.all_nil List.length_cons List.length_nil List.length_map List.length_append List.nil_append List.cons_append List.set_cons_zero List.set_cons_succ List.set_nil List.drop_zero List.drop_succ_cons List.drop_nil List.take_zero List.take_succ_cons List.take_nil Option.map_some Option.map_none Option.isSome_some List.all_append List.all_map Function.comp_def decide_eq_true_eq Bool.and_eq_true beq_self_eq_true or_self and_self ite_true ite_false Nat.le_refl Bool.not_eq_true decide_not Bool.not_eq_true' decide_eq_false_iff_not Bool.not_eq_false Bool.or_eq_true if_true if_false ite_self u_roF u_cvF u_cvC u_ceT u_ceK z2m sm_it z6A z37 z5m z6p z3d sm_ro z3i sm_sl z6a z69 sm_fr z1F z13 sm_kd z28 z12 sm_vw z1u z0P sm_sq z1R z0S sm_tm z1q z0L z2R z2b z3k z63 z64 z29 z3g z1p z1y z2F z39 ce_it z6J z31 z4Z z6x z3A ce_ro z3t ce_sl z6d z6g ce_sq z1X z14 ce_vw z1C z0H ce_tm z1U z0W z33 z0v z0n ce_vs z1P z0X z36 z1t z3r z6F z6H z1T z2X z1z z2c z2M z2V cg_it z67 z3s z61 z6n z2U cg_ro z3E cg_sl z6b z6u cg_fr z1J z0N cg_vw z1Q z11 cg_st z1M z0G cg_rt z1H z17 cg_pf z1Z z0E cg_cs z1N z0I z32 z1I z3b z6y z6c z1V z3v z23 z1L z35 z3p ms_it z6o z3n z6C z6h z3h ms_ro z3e ms_sl z6E z6r ms_kd z1S z0R ms_fr z1v z0O ms_vw z25 z0U ms_sq z1s z0Z ms_tm z1G z0F z3c z0u z0o ms_vs z1E z0Y z68 z0Q z0x z3C z1W z3x z65 z6K z20 z3D z24 z27 z3q z2Y co_it z6M z2W z6D z6m z3m co_ro z3o co_sl z6w z66 co_sq z26 z0V co_tm z1B z0K z3z z0y z0p co_nl z1w z0M z3y z1o z3l z6N z6v z1K z3j z1Y z1O z2N z2Z sd_it z6e z3B z6z z6G z3a sd_ro z2T sd_sl z6I z6i sd_wh z21 z15 sd_fr z1x z0T sd_kd z1D z18 sd_vw z1A z0J sd_sq z22 z16 sd_tm z1r z10 z30 z38 z6f z5O u_bz u_bi1 u_bi2 u_bi3 u_bi4 u_bi5 u_bi6 u_bi7 ltO_o ltO_r u_eqE zbl Nat.le_add_right List.append_assoc w_0 w_Y0 w_B0 w_Bk w_Bs0 w_Bsk zfn z78 zaz zb2 z5M
attribute [local go_sem_proc] Nat.reduceAdd Nat.reduceSub Nat.reduceMul Nat.reduceLeDiff Nat.reduceLT Int.reduceEq Int.reduceNe Int.reduceLT Int.reduceLE Int.reduceAdd Int.reduceSub Int.reduceMul Int.reduceNeg Int.reduceToNat reduceCtorEq Nat.reduceEqDiff Nat.reduceBEq Nat.reduceGT
attribute [local go_sem_proc ↓] reduceIte
theorem wof_s (m : Nat) (A B : List AObj) (ω : Wg) (s : List UInt8) (hG : GW A B) (hω : WgOk ω) (hm : ω.T.length < m) :
  z40 m (OP A.length 0) (sA s) (sw A B ω) = some (nA (ofN ω.T s),sw A B { ω with T := oqT ω.T s }) := by
 have hl := hω.tl
 have hof := zwO m (A ++ [woO A.length ω]) B ω.T s (fun n hn=>by
  have hn' : nSW A B ≤ n := by simp at hn;unfold nSW;omega
  obtain ⟨h1,h2⟩ := hG n hn'
  refine ⟨?_,h2⟩
  rw [List.all_append,h1]
  have := zqu (n := n) (a := A.length) hω (by unfold nSW at hn';omega)
  simp [this]) hm hl
 have e1 : ∀ T,A ++ [woO A.length ω] ++ trO T :: B = swM A B (woO A.length ω) (trO T) := fun T=>by simp [swM]
 have e2 : (A ++ [woO A.length ω]).length = A.length + 1 := by simp
 rw [e1,e1,e2] at hof
 have hω2 : WgOk { ω with T := oqT ω.T s } := ⟨by
  show (oqT ω.T s).length ≤ 65536
  unfold oqT
  split
  ·exact hl
  ·split
   ·exact hl
   ·simp;omega,hω.ll,hω.rl,hω.lx⟩
 have hlt := sw_lt hG hω2 (Nat.le_refl _)
 have hput : ∀ (K : AObj → RO),putE (woO A.length ω) 1 0 (OW (A.length + 1) (oqT ω.T s).length) K = K (woO A.length { ω with T := oqT ω.T s }) := fun K=>by
  unfold woO
  rw [u_pt1]
  rfl
 rw [zdi]
 unfold sw at *
 simp (config := {maxSteps := 4000000,implicitDefEqProofs := false}) (disch := omega) only [go_sem,swM_0,hof,hput,swS_0,ziN,zrH,hlt]
end Go.Proofs.Ytaaogcnjfkgnoaa

namespace Go.Proofs.Ytaaogcnjfkgnoaa
open Go.RowKit
attribute [local go_sem] Nat.zero_add Nat.add_zero Nat.mul_one Int.toNat_natCast Int.natCast_zero Int.cast_ofNat_Int or_false false_or or_true true_or Nat.sub_zero Int.natCast_nonneg Int.toNat_zero Bool.true_and Bool.and_true Bool.false_and Bool.and_false Bool.true_or Bool.or_true Bool.false_or Bool.or_false Bool.not_true Bool.not_false Bool.not_not true_and and_true false_and and_false not_true_eq_false not_false_eq_true eq_self decide_true decide_false ne_eq implies_true forall_const true_implies false_implies Bool.true_eq_false Bool.false_eq_true List.map_cons List.map_nil List.all_cons List.all_nil List.length_cons List.length_nil List.length_map List.length_append List.nil_append List.cons_append List.set_cons_zero List.set_cons_succ List.set_nil List.drop_zero List.drop_succ_cons List.drop_nil List.take_zero List.take_succ_cons List.take_nil Option.map_some Option.map_none Option.isSome_some List.all_append List.all_map Function.comp_def decide_eq_true_eq Bool.and_eq_true beq_self_eq_true or_self and_self ite_true ite_false Nat.le_refl Bool.not_eq_true decide_not Bool.not_eq_true' decide_eq_false_iff_not Bool.not_eq_false Bool.or_eq_true if_true if_false ite_self u_roF u_cvF u_cvC u_ceT u_ceK z2m sm_it z6A z37 z5m z6p z3d sm_ro z3i sm_sl z6a z69 sm_fr z1F z13 sm_kd z28 z12 sm_vw z1u z0P sm_sq z1R z0S sm_tm z1q z0L z2R z2b z3k z63 z64 z29 z3g z1p z1y z2F z39 ce_it z6J z31 z4Z z6x z3A ce_ro z3t ce_sl z6d z6g ce_sq z1X z14 ce_vw z1C z0H ce_tm z1U z0W z33 z0v z0n ce_vs z1P z0X z36 z1t z3r z6F z6H z1T z2X z1z z2c z2M z2V cg_it z67 z3s z61 z6n z2U cg_ro z3E cg_sl z6b z6u cg_fr z1J z0N cg_vw z1Q z11 cg_st z1M z0G cg_rt z1H z17 cg_pf z1Z z0E cg_cs z1N z0I z32 z1I z3b z6y z6c z1V z3v z23 z1L z35 z3p ms_it z6o z3n z6C z6h z3h ms_ro z3e ms_sl z6E z6r ms_kd z1S z0R ms_fr z1v z0O ms_vw z25 z0U ms_sq z1s z0Z ms_tm z1G z0F z3c z0u z0o ms_vs z1E z0Y z68 z0Q z0x z3C z1W z3x z65 z6K z20 z3D z24 z27 z3q z2Y co_it z6M z2W z6D z6m z3m co_ro z3o co_sl z6w z66 co_sq z26 z0V co_tm z1B z0K z3z z0y z0p co_nl z1w z0M z3y z1o z3l z6N z6v z1K z3j z1Y z1O z2N z2Z sd_it z6e z3B z6z z6G z3a sd_ro z2T sd_sl z6I z6i sd_wh z21 z15 sd_fr z1x z0T sd_kd z1D z18 sd_vw z1A z0J sd_sq z22 z16 sd_tm z1r z10 z30 z38 z6f z5O u_bz u_bi1 u_bi2 u_bi3 u_bi4 u_bi5 u_bi6 u_bi7 ltO_o ltO_r u_eqE zbl Nat.le_add_right List.append_assoc w_0 w_Y0 w_B0 w_Bk w_Bs0 w_Bsk zfn z78 zaz zb2 z5M
attribute [local go_sem_proc] Nat.reduceAdd Nat.reduceSub Nat.reduceMul Nat.reduceLeDiff Nat.reduceLT Int.reduceEq Int.reduceNe Int.reduceLT Int.reduceLE Int.reduceAdd Int.reduceSub Int.reduceMul Int.reduceNeg Int.reduceToNat reduceCtorEq Nat.reduceEqDiff Nat.reduceBEq Nat.reduceGT
attribute [local go_sem_proc ↓] reduceIte
def voB (w : Sm) (l L : List Sm) (p : Int) : Bool := decide (({ w with fr := p } : Sm) ∈ l) && decide (({ w with fr := p } : Sm) ∈ L)
def manyN (w : Sm) (l L : List Sm) (but : Int) (k : Nat) : Nat := ((List.range k).filter fun (p : Nat)=>decide ((p : Int) ≠ but) && voB w l L (p : Int)).length
theorem zoV {w : Sm} {l L : List Sm} {but : Int} {k : Nat} : manyN w l L but (k + 1) = if (decide ((k : Int) ≠ but) && voB w l L k) = true then manyN w l L but k + 1 else manyN w l L but k := by
 unfold manyN
 rw [List.range_succ,List.filter_append,List.length_append]
 by_cases h : (decide ((k : Int) ≠ but) && voB w l L k) = true
 ·rw [if_pos h]
  simp only [List.filter_cons,h,List.filter_nil,↓reduceIte,List.length_singleton]
 ·rw [if_neg h]
  simp only [List.filter_cons,h,List.filter_nil]
  simp
theorem ztQ {w : Sm} {l L : List Sm} {but : Int} {k : Nat} : manyN w l L but k ≤ k := by
 unfold manyN
 exact Nat.le_trans (List.length_filter_le ..) (by simp)
theorem zrM (m : Nat) (A B : List AObj) (ω : Wg) (l : List Sm) (w : Sm) (n but : Int) (hG : GW A B) (hω : WgOk ω) (hm : 100 < m) (hml : l.length < m) (hl2 : l.length ≤ 1000000) (hmL : ω.L.length < m) (hn0 : 0 ≤ n) (hn : n ≤ 64) :
  z2Q m (OP A.length 0) (SL (l.map smE)) (smE w) (nA n) (nA but) (sw A B ω) = some (nA (manyN w l ω.L but n.toNat),sw A B ω) := by
 have hL := hω.ll
 have hlt := sw_lt hG hω (Nat.le_refl _)
 have hlt1 := sw_lt hG hω (n := nSW A B + 1) (by omega)
 have hA1 : A.length < nSW A B + 1 := by unfold nSW;omega
 have hB1 : nSW A B < nSW A B + 1 := Nat.lt_succ_self _
 rw [zbE,sm_it]
 simp (config := {maxSteps := 4000000,implicitDefEqProofs := false}) (disch := omega) only [go_sem,hA1]
 refine z4a (m := m) (ι := {k : Nat // k ≤ n.toNat}) (fun k=>⟨sw A B ω ++ [⟨1,z01,0,smC w⟩],[(0,OP A.length 0),(1,SL (l.map smE)),(3,nA n),(4,nA but),(7,OP (nSW A B) 0),(11,nA (manyN w l ω.L but k.1)),(12,nA k.1)]⟩) (fun k=>n.toNat - k.1) (fun _=>some (nA (manyN w l ω.L but n.toNat),sw A B ω)) ?_ ⟨0,Nat.zero_le _⟩ (by dsimp only;omega)
 rintro kx hkx ⟨k,hk⟩ kc hkc
 dsimp only at hkc ⊢
 rw [zab]
 by_cases h : k < n.toNat
 ·have h' : (k : Int) < n := by omega
  have step := hkc ⟨k + 1,by omega⟩ (by dsimp only;omega)
  dsimp only at step
  rw [zoV] at step
  have hle := ztQ (w := w) (l := l) (L := ω.L) (but := but) (k := k)
  have hw1 : IntKind.i64.wrap ((k : Int) + 1) = (k : Int) + 1 := w_i64 (by omega) (by omega)
  have hw2 : IntKind.i64.wrap ((manyN w l ω.L but k : Int) + 1) = (manyN w l ω.L but k : Int) + 1 := w_i64 (by omega) (by omega)
  have hv := zoA m ω.n ω.rog ω.L l w k hmL (by omega) hml hl2
  rw [show (decide (({ w with fr := (k : Int) } : Sm) ∈ l) && decide (({ w with fr := (k : Int) } : Sm) ∈ ω.L)) = voB w l ω.L k from rfl] at hv
  unfold rrA rrC at hv
  rw [sm_it] at hv
  have hX := fun H=>hω.ro H
  have hX2 := fun n=>(hω.lt n).2.1
  have hX3 := (hω.lt 0).2.2
  have hsl : ∀ n,(l.map smE).all (ltA n) = true := fun n=>by rw [List.all_map];exact z2F
  generalize manyN w l ω.L but k = c at *
  by_cases h1 : (k : Int) = but
  ·subst h1
   have e1 : decide ((k : Int) ≠ (k : Int)) = false := by simp
   rw [e1,Bool.false_and,if_neg (by decide)] at step
   simp (config := {maxSteps := 4000000,implicitDefEqProofs := false}) (disch := omega) only [go_sem,h,h',hw1,hlt1,hA1,hB1,z45,z43]
   exact step
  ·have e1 : decide ((k : Int) ≠ but) = true := by simp [h1]
   rw [e1,Bool.true_and] at step
   cases h2 : voB w l ω.L k with
   |true =>
    rw [h2] at hv step
    rw [if_pos rfl] at step
    simp (config := {maxSteps := 4000000,implicitDefEqProofs := false}) (disch := omega) only [go_sem,h,h',h1,hv,hX,hX2,hw1,hw2,hlt1,hA1,hB1,z45,z43]
    exact step
   |false =>
    rw [h2] at hv step
    rw [if_neg (by decide)] at step
    simp (config := {maxSteps := 4000000,implicitDefEqProofs := false}) (disch := omega) only [go_sem,h,h',h1,hv,hX,hX2,hw1,hw2,hlt1,hA1,hB1,z45,z43]
    exact step
 ·obtain rfl : k = n.toNat := by omega
  have h' : ¬ ((n.toNat : Nat) : Int) < n := by omega
  simp (config := {maxSteps := 4000000,implicitDefEqProofs := false}) (disch := omega) only [go_sem,h',hkx,hlt,zag]
end Go.Proofs.Ytaaogcnjfkgnoaa

namespace Go.Proofs.Ytaaogcnjfkgnoaa
open Go.RowKit
theorem zpA (m s : Nat) (n : Int) (h : s < 2 ^ 64) : za3 m (qA s) (nA n) = some (qA (s &&& (18446744073709551615 - qb n)),[]) := by
 have hb := bit_s m n
 have ha := u64_andNot_nat s (qb n) h (qb_lt n)
 rw [zhP]
 simp (config := {maxSteps := 4000000,implicitDefEqProofs := false}) only [go_sem,↓reduceIte,Nat.reduceAdd,Nat.reduceSub,Nat.reduceMul,Nat.reduceLeDiff,Nat.reduceLT,Int.reduceEq,Int.reduceNe,Int.reduceLT,Int.reduceLE,Int.reduceAdd,Int.reduceSub,Int.reduceMul,Int.reduceNeg,Nat.zero_add,Nat.add_zero,Nat.mul_one,Int.toNat_natCast,Int.natCast_zero,Int.cast_ofNat_Int,or_false,false_or,or_true,true_or,Int.reduceToNat,Nat.sub_zero,Int.natCast_nonneg,Int.toNat_zero,Bool.true_and,Bool.and_true,Bool.false_and,Bool.and_false,Bool.true_or,Bool.or_true,Bool.false_or,Bool.or_false,Bool.not_true,Bool.not_false,Bool.not_not,true_and,and_true,false_and,and_false,not_true_eq_false,not_false_eq_true,eq_self,decide_true,decide_false,ne_eq,implies_true,forall_const,true_implies,false_implies,Bool.true_eq_false,Bool.false_eq_true,reduceCtorEq,List.map_cons,List.map_nil,List.all_cons,List.all_nil,List.length_cons,List.length_nil,List.length_map,List.length_append,List.nil_append,List.cons_append,List.set_cons_zero,List.set_cons_succ,List.set_nil,List.drop_zero,List.drop_succ_cons,List.drop_nil,List.take_zero,List.take_succ_cons,List.take_nil,Option.map_some,Option.map_none,Option.isSome_some,Nat.reduceEqDiff,Nat.reduceBEq,Nat.reduceGT,List.all_append,List.all_map,Function.comp_def,decide_eq_true_eq,Bool.and_eq_true,beq_self_eq_true,or_self,and_self,ite_true,ite_false,Nat.le_refl,Bool.not_eq_true,decide_not,Bool.not_eq_true',decide_eq_false_iff_not,Bool.not_eq_false,Bool.or_eq_true,if_true,if_false,ite_self,u_roF,u_cvF,u_cvC,u_ceT,u_ceK,z2m,hb,ha]
theorem zn6 (m : Nat) (v n : Int) (hv : -9223372036854775808 ≤ v ∧ v < 9223372036854775808) (hn : n < 9223372036854775808) : z7W m (nA v) (nA n) = some (nA (if n < 1 then 0 else v % n),[]) := by
 rw [zhY]
 by_cases h1 : n < 1
 ·simp (config := {maxSteps := 4000000,implicitDefEqProofs := false}) only [go_sem,↓reduceIte,Nat.reduceAdd,Nat.reduceSub,Nat.reduceMul,Nat.reduceLeDiff,Nat.reduceLT,Int.reduceEq,Int.reduceNe,Int.reduceLT,Int.reduceLE,Int.reduceAdd,Int.reduceSub,Int.reduceMul,Int.reduceNeg,Nat.zero_add,Nat.add_zero,Nat.mul_one,Int.toNat_natCast,Int.natCast_zero,Int.cast_ofNat_Int,or_false,false_or,or_true,true_or,Int.reduceToNat,Nat.sub_zero,Int.natCast_nonneg,Int.toNat_zero,Bool.true_and,Bool.and_true,Bool.false_and,Bool.and_false,Bool.true_or,Bool.or_true,Bool.false_or,Bool.or_false,Bool.not_true,Bool.not_false,Bool.not_not,true_and,and_true,false_and,and_false,not_true_eq_false,not_false_eq_true,eq_self,decide_true,decide_false,ne_eq,implies_true,forall_const,true_implies,false_implies,Bool.true_eq_false,Bool.false_eq_true,reduceCtorEq,List.map_cons,List.map_nil,List.all_cons,List.all_nil,List.length_cons,List.length_nil,List.length_map,List.length_append,List.nil_append,List.cons_append,List.set_cons_zero,List.set_cons_succ,List.set_nil,List.drop_zero,List.drop_succ_cons,List.drop_nil,List.take_zero,List.take_succ_cons,List.take_nil,Option.map_some,Option.map_none,Option.isSome_some,Nat.reduceEqDiff,Nat.reduceBEq,Nat.reduceGT,List.all_append,List.all_map,Function.comp_def,decide_eq_true_eq,Bool.and_eq_true,beq_self_eq_true,or_self,and_self,ite_true,ite_false,Nat.le_refl,Bool.not_eq_true,decide_not,Bool.not_eq_true',decide_eq_false_iff_not,Bool.not_eq_false,Bool.or_eq_true,if_true,if_false,ite_self,u_roF,u_cvF,u_cvC,u_ceT,u_ceK,z2m,h1]
 ·have h0 : ¬ n = 0 := by omega
  have hm : v.tmod n = if v.tmod n < 0 then v % n - n else v % n := by
   have e1 := Int.emod_nonneg v h0
   have e2 := Int.emod_lt_of_pos v (show 0 < n by omega)
   by_cases hp : 0 ≤ v
   ·rw [Int.tmod_eq_emod_of_nonneg hp,if_neg (by omega)]
   ·have e3 := Int.tmod_eq_emod (a := v) (b := n)
    have e4 : v.tmod n = if n ∣ v then v % n else v % n - n := by
     rw [e3]
     by_cases hd : n ∣ v
     ·rw [if_pos (.inr hd),if_pos hd];omega
     ·rw [if_neg (by simp [hd,hp]),if_neg hd]
      have : (n.natAbs : Int) = n := by omega
      omega
    by_cases hd : n ∣ v
    ·have : v % n = 0 := Int.emod_eq_zero_of_dvd hd
     rw [if_pos hd] at e4
     rw [e4,if_neg (by omega)]
    ·rw [if_neg hd] at e4
     rw [e4,if_pos (by omega)]
  by_cases h2 : v.tmod n < 0
  ·rw [if_pos h2] at hm
   have e : IntKind.i64.wrap (v.tmod n + n) = v % n := by
    rw [hm] at h2 ⊢
    have e1 := Int.emod_nonneg v h0
    have e2 := Int.emod_lt_of_pos v (show 0 < n by omega)
    rw [show v % n - n + n = v % n by omega]
    exact w_i64 (by omega) (by omega)
   simp (config := {maxSteps := 4000000,implicitDefEqProofs := false}) only [go_sem,↓reduceIte,Nat.reduceAdd,Nat.reduceSub,Nat.reduceMul,Nat.reduceLeDiff,Nat.reduceLT,Int.reduceEq,Int.reduceNe,Int.reduceLT,Int.reduceLE,Int.reduceAdd,Int.reduceSub,Int.reduceMul,Int.reduceNeg,Nat.zero_add,Nat.add_zero,Nat.mul_one,Int.toNat_natCast,Int.natCast_zero,Int.cast_ofNat_Int,or_false,false_or,or_true,true_or,Int.reduceToNat,Nat.sub_zero,Int.natCast_nonneg,Int.toNat_zero,Bool.true_and,Bool.and_true,Bool.false_and,Bool.and_false,Bool.true_or,Bool.or_true,Bool.false_or,Bool.or_false,Bool.not_true,Bool.not_false,Bool.not_not,true_and,and_true,false_and,and_false,not_true_eq_false,not_false_eq_true,eq_self,decide_true,decide_false,ne_eq,implies_true,forall_const,true_implies,false_implies,Bool.true_eq_false,Bool.false_eq_true,reduceCtorEq,List.map_cons,List.map_nil,List.all_cons,List.all_nil,List.length_cons,List.length_nil,List.length_map,List.length_append,List.nil_append,List.cons_append,List.set_cons_zero,List.set_cons_succ,List.set_nil,List.drop_zero,List.drop_succ_cons,List.drop_nil,List.take_zero,List.take_succ_cons,List.take_nil,Option.map_some,Option.map_none,Option.isSome_some,Nat.reduceEqDiff,Nat.reduceBEq,Nat.reduceGT,List.all_append,List.all_map,Function.comp_def,decide_eq_true_eq,Bool.and_eq_true,beq_self_eq_true,or_self,and_self,ite_true,ite_false,Nat.le_refl,Bool.not_eq_true,decide_not,Bool.not_eq_true',decide_eq_false_iff_not,Bool.not_eq_false,Bool.or_eq_true,if_true,if_false,ite_self,u_roF,u_cvF,u_cvC,u_ceT,u_ceK,z2m,h1,h0,h2,e]
  ·rw [if_neg h2] at hm
   rw [if_neg h1]
   simp (config := {maxSteps := 4000000,implicitDefEqProofs := false}) only [go_sem,↓reduceIte,Nat.reduceAdd,Nat.reduceSub,Nat.reduceMul,Nat.reduceLeDiff,Nat.reduceLT,Int.reduceEq,Int.reduceNe,Int.reduceLT,Int.reduceLE,Int.reduceAdd,Int.reduceSub,Int.reduceMul,Int.reduceNeg,Nat.zero_add,Nat.add_zero,Nat.mul_one,Int.toNat_natCast,Int.natCast_zero,Int.cast_ofNat_Int,or_false,false_or,or_true,true_or,Int.reduceToNat,Nat.sub_zero,Int.natCast_nonneg,Int.toNat_zero,Bool.true_and,Bool.and_true,Bool.false_and,Bool.and_false,Bool.true_or,Bool.or_true,Bool.false_or,Bool.or_false,Bool.not_true,Bool.not_false,Bool.not_not,true_and,and_true,false_and,and_false,not_true_eq_false,not_false_eq_true,eq_self,decide_true,decide_false,ne_eq,implies_true,forall_const,true_implies,false_implies,Bool.true_eq_false,Bool.false_eq_true,reduceCtorEq,List.map_cons,List.map_nil,List.all_cons,List.all_nil,List.length_cons,List.length_nil,List.length_map,List.length_append,List.nil_append,List.cons_append,List.set_cons_zero,List.set_cons_succ,List.set_nil,List.drop_zero,List.drop_succ_cons,List.drop_nil,List.take_zero,List.take_succ_cons,List.take_nil,Option.map_some,Option.map_none,Option.isSome_some,Nat.reduceEqDiff,Nat.reduceBEq,Nat.reduceGT,List.all_append,List.all_map,Function.comp_def,decide_eq_true_eq,Bool.and_eq_true,beq_self_eq_true,or_self,and_self,ite_true,ite_false,Nat.le_refl,Bool.not_eq_true,decide_not,Bool.not_eq_true',decide_eq_false_iff_not,Bool.not_eq_false,Bool.or_eq_true,if_true,if_false,ite_self,u_roF,u_cvF,u_cvC,u_ceT,u_ceK,z2m,h1,h0,h2]
   rw [hm]
theorem of_s (m : Nat) (l : List Int) (hl : l.length < 34359738369) (hm : l.length < m) : zi4 m (SL (l.map nA)) = some (qA (l.foldl (fun s i=>s ||| qb i) 0),[]) := by
 rw [zmr]
 simp (config := {maxSteps := 4000000,implicitDefEqProofs := false}) only [go_sem,↓reduceIte,Nat.reduceAdd,Nat.reduceSub,Nat.reduceMul,Nat.reduceLeDiff,Nat.reduceLT,Int.reduceEq,Int.reduceNe,Int.reduceLT,Int.reduceLE,Int.reduceAdd,Int.reduceSub,Int.reduceMul,Int.reduceNeg,Nat.zero_add,Nat.add_zero,Nat.mul_one,Int.toNat_natCast,Int.natCast_zero,Int.cast_ofNat_Int,or_false,false_or,or_true,true_or,Int.reduceToNat,Nat.sub_zero,Int.natCast_nonneg,Int.toNat_zero,Bool.true_and,Bool.and_true,Bool.false_and,Bool.and_false,Bool.true_or,Bool.or_true,Bool.false_or,Bool.or_false,Bool.not_true,Bool.not_false,Bool.not_not,true_and,and_true,false_and,and_false,not_true_eq_false,not_false_eq_true,eq_self,decide_true,decide_false,ne_eq,implies_true,forall_const,true_implies,false_implies,Bool.true_eq_false,Bool.false_eq_true,reduceCtorEq,List.map_cons,List.map_nil,List.all_cons,List.all_nil,List.length_cons,List.length_nil,List.length_map,List.length_append,List.nil_append,List.cons_append,List.set_cons_zero,List.set_cons_succ,List.set_nil,List.drop_zero,List.drop_succ_cons,List.drop_nil,List.take_zero,List.take_succ_cons,List.take_nil,Option.map_some,Option.map_none,Option.isSome_some,Nat.reduceEqDiff,Nat.reduceBEq,Nat.reduceGT,List.all_append,List.all_map,Function.comp_def,decide_eq_true_eq,Bool.and_eq_true,beq_self_eq_true,or_self,and_self,ite_true,ite_false,Nat.le_refl,Bool.not_eq_true,decide_not,Bool.not_eq_true',decide_eq_false_iff_not,Bool.not_eq_false,Bool.or_eq_true,if_true,if_false,ite_self,u_roF,u_cvF,u_cvC,u_ceT,u_ceK,z2m]
 have hlt : ∀ k : List Int,k.foldl (fun s i=>s ||| qb i) 0 < 2 ^ 64 := by
  have : ∀ (k : List Int) (s : Nat),s < 2 ^ 64 → k.foldl (fun s i=>s ||| qb i) s < 2 ^ 64 := by
   intro k
   induction k with
   |nil=>intro s h;exact h
   |cons a k ih=>intro s h;exact ih _ (Nat.or_lt_two_pow h (qb_lt a))
  exact fun k=>this k 0 (by decide)
 refine zmm (ι := {k : Nat // k ≤ l.length}) (fun k=>⟨[],[(3,qA ((l.take k.1).foldl (fun s i=>s ||| qb i) 0)),(6,SL (l.map nA)),(7,nA l.length),(8,nA k.1)]⟩) (fun k=>l.length - k.1) (fun _=>some (qA (l.foldl (fun s i=>s ||| qb i) 0),[])) ?_ ⟨0,Nat.zero_le _⟩ (by dsimp only;omega)
 rintro ⟨k,hk⟩ kc hkc
 dsimp only at hkc ⊢
 rw [zjz]
 by_cases hlt2 : k < l.length
 ·have hlt' : (k : Int) < (l.length : Int) := by omega
  have hw := zvl m ((l.take k).foldl (fun s i=>s ||| qb i) 0) l[k] (hlt _)
  have hs := hkc ⟨k + 1,by omega⟩ (by dsimp only;omega)
  dsimp only at hs
  rw [List.take_succ_eq_append_getElem hlt2,List.foldl_append] at hs
  simp (config := {maxSteps := 4000000,implicitDefEqProofs := false}) (disch := omega) only [go_sem,↓reduceIte,Nat.reduceAdd,Nat.reduceSub,Nat.reduceMul,Nat.reduceLeDiff,Nat.reduceLT,Int.reduceEq,Int.reduceNe,Int.reduceLT,Int.reduceLE,Int.reduceAdd,Int.reduceSub,Int.reduceMul,Int.reduceNeg,Nat.zero_add,Nat.add_zero,Nat.mul_one,Int.toNat_natCast,Int.natCast_zero,Int.cast_ofNat_Int,or_false,false_or,or_true,true_or,Int.reduceToNat,Nat.sub_zero,Int.natCast_nonneg,Int.toNat_zero,Bool.true_and,Bool.and_true,Bool.false_and,Bool.and_false,Bool.true_or,Bool.or_true,Bool.false_or,Bool.or_false,Bool.not_true,Bool.not_false,Bool.not_not,true_and,and_true,false_and,and_false,not_true_eq_false,not_false_eq_true,eq_self,decide_true,decide_false,ne_eq,implies_true,forall_const,true_implies,false_implies,Bool.true_eq_false,Bool.false_eq_true,reduceCtorEq,List.map_cons,List.map_nil,List.all_cons,List.all_nil,List.length_cons,List.length_nil,List.length_map,List.length_append,List.nil_append,List.cons_append,List.set_cons_zero,List.set_cons_succ,List.set_nil,List.drop_zero,List.drop_succ_cons,List.drop_nil,List.take_zero,List.take_succ_cons,List.take_nil,Option.map_some,Option.map_none,Option.isSome_some,Nat.reduceEqDiff,Nat.reduceBEq,Nat.reduceGT,List.all_append,List.all_map,Function.comp_def,decide_eq_true_eq,Bool.and_eq_true,beq_self_eq_true,or_self,and_self,ite_true,ite_false,Nat.le_refl,Bool.not_eq_true,decide_not,Bool.not_eq_true',decide_eq_false_iff_not,Bool.not_eq_false,Bool.or_eq_true,if_true,if_false,ite_self,u_roF,u_cvF,u_cvC,u_ceT,u_ceK,z2m,hlt',z5O,hw,w_i64]
  exact hs
 ·have hlt' : ¬ (k : Int) < (l.length : Int) := by omega
  simp (config := {maxSteps := 4000000,implicitDefEqProofs := false}) only [go_sem,↓reduceIte,Nat.reduceAdd,Nat.reduceSub,Nat.reduceMul,Nat.reduceLeDiff,Nat.reduceLT,Int.reduceEq,Int.reduceNe,Int.reduceLT,Int.reduceLE,Int.reduceAdd,Int.reduceSub,Int.reduceMul,Int.reduceNeg,Nat.zero_add,Nat.add_zero,Nat.mul_one,Int.toNat_natCast,Int.natCast_zero,Int.cast_ofNat_Int,or_false,false_or,or_true,true_or,Int.reduceToNat,Nat.sub_zero,Int.natCast_nonneg,Int.toNat_zero,Bool.true_and,Bool.and_true,Bool.false_and,Bool.and_false,Bool.true_or,Bool.or_true,Bool.false_or,Bool.or_false,Bool.not_true,Bool.not_false,Bool.not_not,true_and,and_true,false_and,and_false,not_true_eq_false,not_false_eq_true,eq_self,decide_true,decide_false,ne_eq,implies_true,forall_const,true_implies,false_implies,Bool.true_eq_false,Bool.false_eq_true,reduceCtorEq,List.map_cons,List.map_nil,List.all_cons,List.all_nil,List.length_cons,List.length_nil,List.length_map,List.length_append,List.nil_append,List.cons_append,List.set_cons_zero,List.set_cons_succ,List.set_nil,List.drop_zero,List.drop_succ_cons,List.drop_nil,List.take_zero,List.take_succ_cons,List.take_nil,Option.map_some,Option.map_none,Option.isSome_some,Nat.reduceEqDiff,Nat.reduceBEq,Nat.reduceGT,List.all_append,List.all_map,Function.comp_def,decide_eq_true_eq,Bool.and_eq_true,beq_self_eq_true,or_self,and_self,ite_true,ite_false,Nat.le_refl,Bool.not_eq_true,decide_not,Bool.not_eq_true',decide_eq_false_iff_not,Bool.not_eq_false,Bool.or_eq_true,if_true,if_false,ite_self,u_roF,u_cvF,u_cvC,u_ceT,u_ceK,z2m,hlt']
  rw [zjy,List.take_of_length_le (by omega)]
  simp (config := {maxSteps := 4000000,implicitDefEqProofs := false}) only [go_sem,↓reduceIte,Nat.reduceAdd,Nat.reduceSub,Nat.reduceMul,Nat.reduceLeDiff,Nat.reduceLT,Int.reduceEq,Int.reduceNe,Int.reduceLT,Int.reduceLE,Int.reduceAdd,Int.reduceSub,Int.reduceMul,Int.reduceNeg,Nat.zero_add,Nat.add_zero,Nat.mul_one,Int.toNat_natCast,Int.natCast_zero,Int.cast_ofNat_Int,or_false,false_or,or_true,true_or,Int.reduceToNat,Nat.sub_zero,Int.natCast_nonneg,Int.toNat_zero,Bool.true_and,Bool.and_true,Bool.false_and,Bool.and_false,Bool.true_or,Bool.or_true,Bool.false_or,Bool.or_false,Bool.not_true,Bool.not_false,Bool.not_not,true_and,and_true,false_and,and_false,not_true_eq_false,not_false_eq_true,eq_self,decide_true,decide_false,ne_eq,implies_true,forall_const,true_implies,false_implies,Bool.true_eq_false,Bool.false_eq_true,reduceCtorEq,List.map_cons,List.map_nil,List.all_cons,List.all_nil,List.length_cons,List.length_nil,List.length_map,List.length_append,List.nil_append,List.cons_append,List.set_cons_zero,List.set_cons_succ,List.set_nil,List.drop_zero,List.drop_succ_cons,List.drop_nil,List.take_zero,List.take_succ_cons,List.take_nil,Option.map_some,Option.map_none,Option.isSome_some,Nat.reduceEqDiff,Nat.reduceBEq,Nat.reduceGT,List.all_append,List.all_map,Function.comp_def,decide_eq_true_eq,Bool.and_eq_true,beq_self_eq_true,or_self,and_self,ite_true,ite_false,Nat.le_refl,Bool.not_eq_true,decide_not,Bool.not_eq_true',decide_eq_false_iff_not,Bool.not_eq_false,Bool.or_eq_true,if_true,if_false,ite_self,u_roF,u_cvF,u_cvC,u_ceT,u_ceK,z2m]
theorem znR (m : Nat) (v n : Int) (hv : -9223372036854775808 ≤ v ∧ v < 9223372036854775808) (hn : n < 9223372036854775808) : z5t m (nA v) (nA n) = some (nA (if n < 1 then 0 else v % n),[]) := by
 rw [ze2]
 by_cases h1 : n < 1
 ·simp (config := {maxSteps := 4000000,implicitDefEqProofs := false}) only [go_sem,↓reduceIte,Nat.reduceAdd,Nat.reduceSub,Nat.reduceMul,Nat.reduceLeDiff,Nat.reduceLT,Int.reduceEq,Int.reduceNe,Int.reduceLT,Int.reduceLE,Int.reduceAdd,Int.reduceSub,Int.reduceMul,Int.reduceNeg,Nat.zero_add,Nat.add_zero,Nat.mul_one,Int.toNat_natCast,Int.natCast_zero,Int.cast_ofNat_Int,or_false,false_or,or_true,true_or,Int.reduceToNat,Nat.sub_zero,Int.natCast_nonneg,Int.toNat_zero,Bool.true_and,Bool.and_true,Bool.false_and,Bool.and_false,Bool.true_or,Bool.or_true,Bool.false_or,Bool.or_false,Bool.not_true,Bool.not_false,Bool.not_not,true_and,and_true,false_and,and_false,not_true_eq_false,not_false_eq_true,eq_self,decide_true,decide_false,ne_eq,implies_true,forall_const,true_implies,false_implies,Bool.true_eq_false,Bool.false_eq_true,reduceCtorEq,List.map_cons,List.map_nil,List.all_cons,List.all_nil,List.length_cons,List.length_nil,List.length_map,List.length_append,List.nil_append,List.cons_append,List.set_cons_zero,List.set_cons_succ,List.set_nil,List.drop_zero,List.drop_succ_cons,List.drop_nil,List.take_zero,List.take_succ_cons,List.take_nil,Option.map_some,Option.map_none,Option.isSome_some,Nat.reduceEqDiff,Nat.reduceBEq,Nat.reduceGT,List.all_append,List.all_map,Function.comp_def,decide_eq_true_eq,Bool.and_eq_true,beq_self_eq_true,or_self,and_self,ite_true,ite_false,Nat.le_refl,Bool.not_eq_true,decide_not,Bool.not_eq_true',decide_eq_false_iff_not,Bool.not_eq_false,Bool.or_eq_true,if_true,if_false,ite_self,u_roF,u_cvF,u_cvC,u_ceT,u_ceK,z2m,h1]
 ·have h0 : ¬ n = 0 := by omega
  have hm : v.tmod n = if v.tmod n < 0 then v % n - n else v % n := by
   have e1 := Int.emod_nonneg v h0
   have e2 := Int.emod_lt_of_pos v (show 0 < n by omega)
   by_cases hp : 0 ≤ v
   ·rw [Int.tmod_eq_emod_of_nonneg hp,if_neg (by omega)]
   ·have e3 := Int.tmod_eq_emod (a := v) (b := n)
    have e4 : v.tmod n = if n ∣ v then v % n else v % n - n := by
     rw [e3]
     by_cases hd : n ∣ v
     ·rw [if_pos (.inr hd),if_pos hd];omega
     ·rw [if_neg (by simp [hd,hp]),if_neg hd]
      have : (n.natAbs : Int) = n := by omega
      omega
    by_cases hd : n ∣ v
    ·have : v % n = 0 := Int.emod_eq_zero_of_dvd hd
     rw [if_pos hd] at e4
     rw [e4,if_neg (by omega)]
    ·rw [if_neg hd] at e4
     rw [e4,if_pos (by omega)]
  by_cases h2 : v.tmod n < 0
  ·rw [if_pos h2] at hm
   have e : IntKind.i64.wrap (v.tmod n + n) = v % n := by
    rw [hm] at h2 ⊢
    have e1 := Int.emod_nonneg v h0
    have e2 := Int.emod_lt_of_pos v (show 0 < n by omega)
    rw [show v % n - n + n = v % n by omega]
    exact w_i64 (by omega) (by omega)
   simp (config := {maxSteps := 4000000,implicitDefEqProofs := false}) only [go_sem,↓reduceIte,Nat.reduceAdd,Nat.reduceSub,Nat.reduceMul,Nat.reduceLeDiff,Nat.reduceLT,Int.reduceEq,Int.reduceNe,Int.reduceLT,Int.reduceLE,Int.reduceAdd,Int.reduceSub,Int.reduceMul,Int.reduceNeg,Nat.zero_add,Nat.add_zero,Nat.mul_one,Int.toNat_natCast,Int.natCast_zero,Int.cast_ofNat_Int,or_false,false_or,or_true,true_or,Int.reduceToNat,Nat.sub_zero,Int.natCast_nonneg,Int.toNat_zero,Bool.true_and,Bool.and_true,Bool.false_and,Bool.and_false,Bool.true_or,Bool.or_true,Bool.false_or,Bool.or_false,Bool.not_true,Bool.not_false,Bool.not_not,true_and,and_true,false_and,and_false,not_true_eq_false,not_false_eq_true,eq_self,decide_true,decide_false,ne_eq,implies_true,forall_const,true_implies,false_implies,Bool.true_eq_false,Bool.false_eq_true,reduceCtorEq,List.map_cons,List.map_nil,List.all_cons,List.all_nil,List.length_cons,List.length_nil,List.length_map,List.length_append,List.nil_append,List.cons_append,List.set_cons_zero,List.set_cons_succ,List.set_nil,List.drop_zero,List.drop_succ_cons,List.drop_nil,List.take_zero,List.take_succ_cons,List.take_nil,Option.map_some,Option.map_none,Option.isSome_some,Nat.reduceEqDiff,Nat.reduceBEq,Nat.reduceGT,List.all_append,List.all_map,Function.comp_def,decide_eq_true_eq,Bool.and_eq_true,beq_self_eq_true,or_self,and_self,ite_true,ite_false,Nat.le_refl,Bool.not_eq_true,decide_not,Bool.not_eq_true',decide_eq_false_iff_not,Bool.not_eq_false,Bool.or_eq_true,if_true,if_false,ite_self,u_roF,u_cvF,u_cvC,u_ceT,u_ceK,z2m,h1,h0,h2,e]
  ·rw [if_neg h2] at hm
   rw [if_neg h1]
   simp (config := {maxSteps := 4000000,implicitDefEqProofs := false}) only [go_sem,↓reduceIte,Nat.reduceAdd,Nat.reduceSub,Nat.reduceMul,Nat.reduceLeDiff,Nat.reduceLT,Int.reduceEq,Int.reduceNe,Int.reduceLT,Int.reduceLE,Int.reduceAdd,Int.reduceSub,Int.reduceMul,Int.reduceNeg,Nat.zero_add,Nat.add_zero,Nat.mul_one,Int.toNat_natCast,Int.natCast_zero,Int.cast_ofNat_Int,or_false,false_or,or_true,true_or,Int.reduceToNat,Nat.sub_zero,Int.natCast_nonneg,Int.toNat_zero,Bool.true_and,Bool.and_true,Bool.false_and,Bool.and_false,Bool.true_or,Bool.or_true,Bool.false_or,Bool.or_false,Bool.not_true,Bool.not_false,Bool.not_not,true_and,and_true,false_and,and_false,not_true_eq_false,not_false_eq_true,eq_self,decide_true,decide_false,ne_eq,implies_true,forall_const,true_implies,false_implies,Bool.true_eq_false,Bool.false_eq_true,reduceCtorEq,List.map_cons,List.map_nil,List.all_cons,List.all_nil,List.length_cons,List.length_nil,List.length_map,List.length_append,List.nil_append,List.cons_append,List.set_cons_zero,List.set_cons_succ,List.set_nil,List.drop_zero,List.drop_succ_cons,List.drop_nil,List.take_zero,List.take_succ_cons,List.take_nil,Option.map_some,Option.map_none,Option.isSome_some,Nat.reduceEqDiff,Nat.reduceBEq,Nat.reduceGT,List.all_append,List.all_map,Function.comp_def,decide_eq_true_eq,Bool.and_eq_true,beq_self_eq_true,or_self,and_self,ite_true,ite_false,Nat.le_refl,Bool.not_eq_true,decide_not,Bool.not_eq_true',decide_eq_false_iff_not,Bool.not_eq_false,Bool.or_eq_true,if_true,if_false,ite_self,u_roF,u_cvF,u_cvC,u_ceT,u_ceK,z2m,h1,h0,h2]
   rw [hm]
end Go.Proofs.Ytaaogcnjfkgnoaa

